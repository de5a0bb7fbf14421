/- Words of the walk, the functions' walks and plain laws, joined; no conditions beyond those that the theorems name. -/
import Derived.Test.YtdmhbcgmimfjcaaX82
namespace Go.Proofs.Ytdmhbcgmimfjcaa
open Go Go.Proofs.Ytdmhbcgmimfjcaa.RW
set_option linter.unusedVariables false
set_option maxRecDepth 100000
set_option maxHeartbeats 8000000

/-! ### assign_solution_augments0: function 37, (*armillary/assign.solution).augment -/
noncomputable def K37s0_0 : Code := cBody Try.f37
noncomputable def K37s0_4 : Code := cL (cR K37s0_0)
noncomputable def O37s0_53 : List Oper := cOps (cR (cL (cL (cR (cR (cL (cL (cR (cL (cR (cR (cR (cR (cL (cR K37s0_0)))))))))))))))
noncomputable def O37s0_99 : List Oper := cOps (cL (cL (cR (cR (cL (cL (cR (cR (cL (cL (cR (cL (cR (cL (cL (cL (cL (cR (cR (cR (cR (cR (cR (cR (cR (cL (cR K37s0_0)))))))))))))))))))))))))))
noncomputable def O37s0_109 : List Oper := cOps (cL (cR (cR (cR (cL (cL (cR (cR (cL (cL (cR (cL (cR (cL (cL (cL (cL (cR (cR (cR (cR (cR (cR (cR (cR (cL (cR K37s0_0)))))))))))))))))))))))))))
noncomputable def O37s0_161 : List Oper := cOps (cR (cR (cL (cR (cL (cR (cL (cL (cR (cR (cR (cR (cR (cR (cR (cR (cR (cR (cL (cR K37s0_0))))))))))))))))))))
def assign_solution_augments0.k1 (x5 : List Int) (x6 : List Int) (x12 : List Int) : Option (S58) := (some (⟨x12, x5, x6⟩ : S58))
def assign_solution_augments0.l1 (a2 : Int) (x8 : List Int) : Nat → (List Int) → Int → Option (List Int)
 | 0, _, _ => none
 | k + 1, x13, x14 => (if x14 ≠ (-1) then (if 0 ≤ x14 then (if x14 < (12 : Int) then ((if (x8.getD ((x14).toNat) 0) = (-1) then (if 0 ≤ x14 then (if x14 < (12 : Int) then (some (x13.set ((x14).toNat) a2)) else none) else none) else (if 0 ≤ (x8.getD ((x14).toNat) 0) then (if (x8.getD ((x14).toNat) 0) < (12 : Int) then (if 0 ≤ x14 then (if x14 < (12 : Int) then (some (x13.set ((x14).toNat) (x13.getD (((x8.getD ((x14).toNat) 0)).toNat) 0))) else none) else none) else none) else none)).bind (fun x15 => (assign_solution_augments0.l1 a2 x8 k x15 (x8.getD ((x14).toNat) 0)))) else none) else none) else (some x13))
def assign_solution_augments0.k3 (k : Nat) (a2 : Int) : List Int × List Int × List Int × List Int × List Int × List Bool × List Int × Int → Option (S58)
 | (x4, x5, x6, x7, x8, x9, x10, x11) => ((assign_solution_augments0.l1 a2 x8 k x4 x11).bind (assign_solution_augments0.k1 x5 x6))
def assign_solution_augments0.k6 (x35 : List Int) (x36 : List Int) (x38 : Int) : Option (List Int × List Int × Int) := (some (x35, x36, x38))
def assign_solution_augments0.k7 (x30 : Int) (x31 : Int) (x35 : List Int) (x36 : List Int) (x37 : Bool) : Option (List Int × List Int × Int) := ((if x37 = true then (some x31) else (some x30)).bind (assign_solution_augments0.k6 x35 x36))
def assign_solution_augments0.k8 (x30 : Int) (x31 : Int) : List Int × List Int → Option (List Int × List Int × Int)
 | (x35, x36) => ((if x30 = (-1) then (some true) else (if 0 ≤ x31 then (if x31 < (12 : Int) then (if 0 ≤ x30 then (if x30 < (12 : Int) then (some (decide ((x35.getD ((x31).toNat) 0) < (x35.getD ((x30).toNat) 0)))) else none) else none) else none) else none)).bind (assign_solution_augments0.k7 x30 x31 x35 x36))
def assign_solution_augments0.l3 (b1 : List Int) (x17 : List Int) (x18 : List Int) (x21 : List Bool) (x23 : Int) (x24 : Int) : Nat → (List Int) → (List Int) → Int → Int → Option (List Int × List Int × Int)
 | 0, _, _, _, _ => none
 | k + 1, x28, x29, x30, x31 => (if x31 < 12 then ((if 0 ≤ x31 then (if x31 < (12 : Int) then (if (x21.getD ((x31).toNat) false) = true then (some (x28, x29, x30)) else (if 0 ≤ x24 then (if x24 < (12 : Int) then (if 0 ≤ x31 then (if x31 < (12 : Int) then (if 0 ≤ x24 then (if x24 < (12 : Int) then (if 0 ≤ x31 then (if x31 < (12 : Int) then (if 0 ≤ x31 then (if x31 < (12 : Int) then ((if (W .i64 ((W .i64 ((x17.getD ((x24).toNat) 0) + (x18.getD ((x31).toNat) 0))) - (b1.getD ((x24).toNat * 12 + (x31).toNat) 0))) < (x28.getD ((x31).toNat) 0) then (if 0 ≤ x31 then (if x31 < (12 : Int) then (if 0 ≤ x31 then (if x31 < (12 : Int) then (some ((x28.set ((x31).toNat) (W .i64 ((W .i64 ((x17.getD ((x24).toNat) 0) + (x18.getD ((x31).toNat) 0))) - (b1.getD ((x24).toNat * 12 + (x31).toNat) 0)))), (x29.set ((x31).toNat) x23))) else none) else none) else none) else none) else (some (x28, x29))).bind (assign_solution_augments0.k8 x30 x31)) else none) else none) else none) else none) else none) else none) else none) else none) else none) else none)) else none) else none).bind (fun (x32, x33, x34) => (assign_solution_augments0.l3 b1 x17 x18 x21 x23 x24 k x32 x33 x34 (W .i64 (x31 + 1))))) else (some (x28, x29, x30)))
def assign_solution_augments0.l2 (b1 : List Int) : Nat → (List Int) → (List Int) → (List Int) → (List Int) → (List Int) → (List Bool) → (List Int) → Int → Int → Option (List Int × List Int × List Int × List Int × List Int × List Bool × List Int × Int)
 | 0, _, _, _, _, _, _, _, _, _ => none
 | k + 1, x16, x17, x18, x19, x20, x21, x22, x23, x24 => ((assign_solution_augments0.l3 b1 x17 x18 x21 x23 x24 k x19 x20 (-1) 0).bind (fun (x25, x26, x27) => (if 0 ≤ x27 then (if x27 < (12 : Int) then ((assign_solution_augment_1s0.f k (x25.getD ((x27).toNat) 0) x22 (⟨x16, x17, x18⟩ : S58) x21 x25).bind fun t1 => (if 0 ≤ x27 then (if x27 < (12 : Int) then (if 0 ≤ x27 then (if x27 < (12 : Int) then (if (t1.1.f0.getD ((x27).toNat) 0) = (-1) then (some (t1.1.f0, t1.1.f1, t1.1.f2, t1.2, x26, (x21.set ((x27).toNat) true), x22, x27)) else (if 0 ≤ x27 then (if x27 < (12 : Int) then (if (x22.length + [(t1.1.f0.getD ((x27).toNat) 0)].length) * 8 ≤ 140737488355328 then (assign_solution_augments0.l2 b1 k t1.1.f0 t1.1.f1 t1.1.f2 t1.2 x26 (x21.set ((x27).toNat) true) (x22 ++ [(t1.1.f0.getD ((x27).toNat) 0)]) x27 (t1.1.f0.getD ((x27).toNat) 0)) else none) else none) else none)) else none) else none) else none) else none)) else none) else none)))
def assign_solution_augments0.k9 (k : Nat) (a2 : Int) (b0 : S58) (b1 : List Int) (x1 : List Int) (x2 : List Int) (x3 : List Int) : Option (S58) := ((assign_solution_augments0.l2 b1 k b0.f0 x3 b0.f2 x1 x2 (List.replicate 12 false) [a2] (-1) a2).bind (assign_solution_augments0.k3 k a2))
def assign_solution_augments0.l4 (a2 : Int) (b0 : S58) (b1 : List Int) : Nat → (List Int) → Int → Option (List Int)
 | 0, _, _ => none
 | k + 1, x39, x40 => (if x40 < 12 then (if 0 ≤ a2 then (if a2 < (12 : Int) then (if 0 ≤ a2 then (if a2 < (12 : Int) then (if 0 ≤ x40 then (if x40 < (12 : Int) then (if 0 ≤ x40 then (if x40 < (12 : Int) then (if 0 ≤ a2 then (if a2 < (12 : Int) then (assign_solution_augments0.l4 a2 b0 b1 k (x39.set ((a2).toNat) (iMax (x39.getD ((a2).toNat) 0) (W .i64 ((b1.getD ((a2).toNat * 12 + (x40).toNat) 0) - (b0.f2.getD ((x40).toNat) 0))))) (W .i64 (x40 + 1))) else none) else none) else none) else none) else none) else none) else none) else none) else none) else none) else (some x39))
def assign_solution_augments0.k10 (k : Nat) (a2 : Int) (b0 : S58) (b1 : List Int) : List Int × List Int → Option (S58)
 | (x1, x2) => ((assign_solution_augments0.l4 a2 b0 b1 k b0.f1 0).bind (assign_solution_augments0.k9 k a2 b0 b1 x1 x2))
def assign_solution_augments0.l5 : Nat → (List Int) → (List Int) → Int → Option (List Int × List Int)
 | 0, _, _, _ => none
 | k + 1, x41, x42, x43 => (if x43 < 12 then (if 0 ≤ x43 then (if x43 < (12 : Int) then (if 0 ≤ x43 then (if x43 < (12 : Int) then (assign_solution_augments0.l5 k (x41.set ((x43).toNat) 1152921504606846976) (x42.set ((x43).toNat) (-1)) (W .i64 (x43 + 1))) else none) else none) else none) else none) else (some (x41, x42)))
def assign_solution_augments0.f (k : Nat) (a2 : Int) (b0 : S58) (b1 : List Int) : Option (S58) := ((assign_solution_augments0.l5 k (List.replicate 12 0) (List.replicate 12 0) 0).bind (assign_solution_augments0.k10 k a2 b0 b1))
def assign_solution_augments0.Post (S : Nat → Prop) (gb0 : Nat) (gb1 : Nat) (a2 : Int) (b0 : S58) (b1 : List Int) (I : Imm) (w : World) (r : S58) (v : Value) (w' : World) : Prop :=
 ∃ (J : Imm), v = .tuple #[] ∧ Sat ⟨w, S, I⟩ J w'.heap.size [⟨gb0, ((arrV (Value.int .i64) 0 12 r.f0) ++ ((arrV (Value.int .i64) 0 12 r.f1) ++ (arrV (Value.int .i64) 0 12 r.f2))), 58⟩, ⟨gb1, arrV (Value.int .i64) 0 144 b1, 54⟩] [] w' ∧ 12 ≤ r.f0.length ∧ 12 ≤ r.f1.length ∧ 12 ≤ r.f2.length
noncomputable def a37s0_161n : List Nat := [0, 0, 0, 0, 4, 20, 60, 124, 1, 257, 1023, 2047]
theorem a37s0_161 : ancs O37s0_161 [] = a37s0_161n := by kernel_rfl
theorem a37s0_161o : drawOk O37s0_161 a37s0_161n 10 = true := by kernel_rfl
noncomputable def u37d1l  : List Ld :=
 []
noncomputable def u37d1g (gb0 : Nat) (x8 : List Int) (x14 : Int) : List (Nat × ((Nat → Wt) → Value)) := [(6, fun u => pt gb0 (0 + ((x8.getD ((x14).toNat) 0)).toNat * 1))]
noncomputable def u37d1q (nx0 : Nat) (gb0 : Nat) (gb1 : Nat) (a2 : Int) (b1 : List Int) (nx2 : Nat) (x5 : List Int) (x6 : List Int) (x7 : List Int) (x8 : List Int) (x9 : List Bool) (x10 : List Int) (A1 : Option Addr) (c1 : Nat) (x13 : List Int) (x14 : Int) (u : Nat → Wt) : Option (List Value × List (Nat × Value) × List (Nat × Nat)) := qSim Try.prog [(⟨gb0, 0 + ((x8.getD ((x14).toNat) 0)).toNat * 1, none⟩, i6 (x13.getD (((x8.getD ((x14).toNat) 0)).toNat) 0))] [⟨gb0, ((arrV (Value.int .i64) 0 12 x13) ++ ((arrV (Value.int .i64) 0 12 x5) ++ (arrV (Value.int .i64) 0 12 x6))), 58⟩, ⟨gb1, arrV (Value.int .i64) 0 144 b1, 54⟩, ⟨nx0, [pt gb0 0], 64⟩, ⟨nx0 + 1, arrV (Value.int .i64) 0 12 x7, 52⟩, ⟨nx0 + 2, arrV (Value.int .i64) 0 12 x8, 56⟩, ⟨nx0 + 3, arrV Value.bool false 12 x9, 70⟩, ⟨nx2 + 1, [.slice A1 x10.length c1], 23⟩] O37s0_161 ⟨164, []⟩ (Ld.vl u37d1l) (u37d1g gb0 x8 x14) u [.l 2, .no, .l 2, .no, .no, .no, .no, .r 0, .no, .no] 0 (O37s0_161.take 10) [(145, .bool ((x8.getD ((x14).toNat) 0) == (-1))), (19, i6 (x8.getD ((x14).toNat) 0)), (2, i6 a2), (3, pt nx0 0), (7, pt (nx0 + 2) 0), (18, i6 x14)]
noncomputable def u37d1s (gb0 : Nat) (x8 : List Int) (x13 : List Int) (x14 : Int) (u : Nat → Wt) : List Value := [pt gb0 0, i6 x14, pt gb0 0, i6 (x8.getD ((x14).toNat) 0), pt gb0 0, pt gb0 0, pt gb0 (0 + ((x8.getD ((x14).toNat) 0)).toNat * 1), i6 (x13.getD (((x8.getD ((x14).toNat) 0)).toNat) 0), pt gb0 0, pt gb0 0]
noncomputable def u37d1f (nx0 : Nat) (gb0 : Nat) (a2 : Int) (x8 : List Int) (x13 : List Int) (x14 : Int) (i : Nat) (u : Nat → Wt) : List (Nat × Value) := foldPut ⟨164, []⟩ [(145, .bool ((x8.getD ((x14).toNat) 0) == (-1))), (19, i6 (x8.getD ((x14).toNat) 0)), (2, i6 a2), (3, pt nx0 0), (7, pt (nx0 + 2) 0), (18, i6 x14)] (O37s0_161.take i) (((u37d1s gb0 x8 x13 x14) u).take i)
theorem u37d1v (nx0 : Nat) (gb0 : Nat) (gb1 : Nat) (a2 : Int) (b1 : List Int) (nx2 : Nat) (x5 : List Int) (x6 : List Int) (x7 : List Int) (x8 : List Int) (x9 : List Bool) (x10 : List Int) (A1 : Option Addr) (c1 : Nat) (x13 : List Int) (x14 : Int) (u : Nat → Wt) : (u37d1q nx0 gb0 gb1 a2 b1 nx2 x5 x6 x7 x8 x9 x10 A1 c1 x13 x14 u).map (fun x => (x.1, x.2.1)) = some ((u37d1s gb0 x8 x13 x14) u, (u37d1f nx0 gb0 a2 x8 x13 x14 10) u) := by kernel_rfl
theorem u37d1e (nx0 : Nat) (gb0 : Nat) (gb1 : Nat) (a2 : Int) (b1 : List Int) (nx2 : Nat) (x5 : List Int) (x6 : List Int) (x7 : List Int) (x8 : List Int) (x9 : List Bool) (x10 : List Int) (A1 : Option Addr) (c1 : Nat) (x13 : List Int) (x14 : Int) (u : Nat → Wt) : (u37d1q nx0 gb0 gb1 a2 b1 nx2 x5 x6 x7 x8 x9 x10 A1 c1 x13 x14 u).map (fun x => x.2.2.map (·.1)) = (u37d1q nx0 gb0 gb1 a2 b1 nx2 x5 x6 x7 x8 x9 x10 A1 c1 x13 x14 u).map (fun x => x.2.2.map (·.2)) := by kernel_rfl
noncomputable def a37s0_99n : List Nat := [0, 0, 1, 5, 15, 31, 0, 0, 64, 320, 960, 1984, 4095, 0, 0, 0, 8192, 90112, 253952, 516096, 1048575, 2097151]
theorem a37s0_99 : ancs O37s0_99 [] = a37s0_99n := by kernel_rfl
theorem a37s0_99o : drawOk O37s0_99 a37s0_99n 20 = true := by kernel_rfl
noncomputable def u37d2l  : List Ld :=
 []
noncomputable def u37d2g (gb0 : Nat) (gb1 : Nat) (x24 : Int) (x31 : Int) : List (Nat × ((Nat → Wt) → Value)) := [(4, fun u => pt gb0 (12 + (x24).toNat * 1)), (10, fun u => pt gb0 (24 + (x31).toNat * 1)), (17, fun u => pt gb1 (0 + (x24).toNat * 12)), (18, fun u => pt gb1 (0 + (x24).toNat * 12 + (x31).toNat * 1))]
noncomputable def u37d2q (nx0 : Nat) (gb0 : Nat) (gb1 : Nat) (a2 : Int) (b1 : List Int) (nx2 : Nat) (x16 : List Int) (x17 : List Int) (x18 : List Int) (x21 : List Bool) (x22 : List Int) (A2 : Option Addr) (c2 : Nat) (x23 : Int) (x24 : Int) (x28 : List Int) (x29 : List Int) (x30 : Int) (x31 : Int) (u : Nat → Wt) : Option (List Value × List (Nat × Value) × List (Nat × Nat)) := qSim Try.prog [(⟨gb0, 12 + (x24).toNat * 1, none⟩, i6 (x17.getD ((x24).toNat) 0)), (⟨gb0, 24 + (x31).toNat * 1, none⟩, i6 (x18.getD ((x31).toNat) 0)), (⟨gb1, 0 + (x24).toNat * 12 + (x31).toNat * 1, none⟩, i6 (b1.getD ((x24).toNat * 12 + (x31).toNat) 0))] [⟨gb0, ((arrV (Value.int .i64) 0 12 x16) ++ ((arrV (Value.int .i64) 0 12 x17) ++ (arrV (Value.int .i64) 0 12 x18))), 58⟩, ⟨gb1, arrV (Value.int .i64) 0 144 b1, 54⟩, ⟨nx0, [pt gb0 0], 64⟩, ⟨nx0 + 1, arrV (Value.int .i64) 0 12 x28, 52⟩, ⟨nx0 + 2, arrV (Value.int .i64) 0 12 x29, 56⟩, ⟨nx0 + 3, arrV Value.bool false 12 x21, 70⟩, ⟨nx2 + 1, [.slice A2 x22.length c2], 23⟩] O37s0_99 ⟨164, []⟩ (Ld.vl u37d2l) (u37d2g gb0 gb1 x24 x31) u [.l 2, .no, .no, .no, .no, .r 0, .l 2, .no, .no, .no, .no, .r 1, .no, .no, .no, .no, .no, .no, .no, .r 2] 0 (O37s0_99.take 20) [(66, .bool (x21.getD ((x31).toNat) false)), (15, i6 x31), (1, pt gb1 0), (2, i6 a2), (3, pt nx0 0), (6, pt (nx0 + 1) 0), (7, pt (nx0 + 2) 0), (8, pt (nx0 + 3) 0), (11, pt (nx2 + 1) 0), (12, i6 x23), (13, i6 x24), (14, i6 x30), (61, i6 x31)]
noncomputable def u37d2s (gb0 : Nat) (gb1 : Nat) (b1 : List Int) (x17 : List Int) (x18 : List Int) (x24 : Int) (x31 : Int) (u : Nat → Wt) : List Value := [pt gb0 0, i6 x24, pt gb0 0, pt gb0 12, pt gb0 (12 + (x24).toNat * 1), i6 (x17.getD ((x24).toNat) 0), pt gb0 0, i6 x31, pt gb0 0, pt gb0 24, pt gb0 (24 + (x31).toNat * 1), i6 (x18.getD ((x31).toNat) 0), i6 (W .i64 ((x17.getD ((x24).toNat) 0) + (x18.getD ((x31).toNat) 0))), pt gb1 0, i6 x24, i6 x31, pt gb1 0, pt gb1 (0 + (x24).toNat * 12), pt gb1 (0 + (x24).toNat * 12 + (x31).toNat * 1), i6 (b1.getD ((x24).toNat * 12 + (x31).toNat) 0)]
noncomputable def u37d2f (nx0 : Nat) (gb0 : Nat) (gb1 : Nat) (a2 : Int) (b1 : List Int) (nx2 : Nat) (x17 : List Int) (x18 : List Int) (x21 : List Bool) (x23 : Int) (x24 : Int) (x30 : Int) (x31 : Int) (i : Nat) (u : Nat → Wt) : List (Nat × Value) := foldPut ⟨164, []⟩ [(66, .bool (x21.getD ((x31).toNat) false)), (15, i6 x31), (1, pt gb1 0), (2, i6 a2), (3, pt nx0 0), (6, pt (nx0 + 1) 0), (7, pt (nx0 + 2) 0), (8, pt (nx0 + 3) 0), (11, pt (nx2 + 1) 0), (12, i6 x23), (13, i6 x24), (14, i6 x30), (61, i6 x31)] (O37s0_99.take i) (((u37d2s gb0 gb1 b1 x17 x18 x24 x31) u).take i)
theorem u37d2v (nx0 : Nat) (gb0 : Nat) (gb1 : Nat) (a2 : Int) (b1 : List Int) (nx2 : Nat) (x16 : List Int) (x17 : List Int) (x18 : List Int) (x21 : List Bool) (x22 : List Int) (A2 : Option Addr) (c2 : Nat) (x23 : Int) (x24 : Int) (x28 : List Int) (x29 : List Int) (x30 : Int) (x31 : Int) (u : Nat → Wt) : (u37d2q nx0 gb0 gb1 a2 b1 nx2 x16 x17 x18 x21 x22 A2 c2 x23 x24 x28 x29 x30 x31 u).map (fun x => (x.1, x.2.1)) = some ((u37d2s gb0 gb1 b1 x17 x18 x24 x31) u, (u37d2f nx0 gb0 gb1 a2 b1 nx2 x17 x18 x21 x23 x24 x30 x31 20) u) := by kernel_rfl
theorem u37d2e (nx0 : Nat) (gb0 : Nat) (gb1 : Nat) (a2 : Int) (b1 : List Int) (nx2 : Nat) (x16 : List Int) (x17 : List Int) (x18 : List Int) (x21 : List Bool) (x22 : List Int) (A2 : Option Addr) (c2 : Nat) (x23 : Int) (x24 : Int) (x28 : List Int) (x29 : List Int) (x30 : Int) (x31 : Int) (u : Nat → Wt) : (u37d2q nx0 gb0 gb1 a2 b1 nx2 x16 x17 x18 x21 x22 A2 c2 x23 x24 x28 x29 x30 x31 u).map (fun x => x.2.2.map (·.1)) = (u37d2q nx0 gb0 gb1 a2 b1 nx2 x16 x17 x18 x21 x22 A2 c2 x23 x24 x28 x29 x30 x31 u).map (fun x => x.2.2.map (·.2)) := by kernel_rfl
noncomputable def a37s0_109n : List Nat := [0, 1, 3, 7, 15, 31, 7, 71, 199, 511, 1023]
theorem a37s0_109 : ancs O37s0_109 [] = a37s0_109n := by kernel_rfl
theorem a37s0_109o : drawOk O37s0_109 a37s0_109n 9 = true := by kernel_rfl
noncomputable def u37d3l  : List Ld :=
 []
noncomputable def u37d3g  : List (Nat × ((Nat → Wt) → Value)) := [(2, fun u => .bool true)]
noncomputable def u37d3q (nx0 : Nat) (gb0 : Nat) (gb1 : Nat) (a2 : Int) (b1 : List Int) (nx2 : Nat) (x16 : List Int) (x17 : List Int) (x18 : List Int) (x21 : List Bool) (x22 : List Int) (A2 : Option Addr) (c2 : Nat) (x23 : Int) (x24 : Int) (x30 : Int) (x31 : Int) (x35 : List Int) (x36 : List Int) (u : Nat → Wt) : Option (List Value × List (Nat × Value) × List (Nat × Nat)) := qSim Try.prog [] [⟨gb0, ((arrV (Value.int .i64) 0 12 x16) ++ ((arrV (Value.int .i64) 0 12 x17) ++ (arrV (Value.int .i64) 0 12 x18))), 58⟩, ⟨gb1, arrV (Value.int .i64) 0 144 b1, 54⟩, ⟨nx0, [pt gb0 0], 64⟩, ⟨nx0 + 1, arrV (Value.int .i64) 0 12 x35, 52⟩, ⟨nx0 + 2, arrV (Value.int .i64) 0 12 x36, 56⟩, ⟨nx0 + 3, arrV Value.bool false 12 x21, 70⟩, ⟨nx2 + 1, [.slice A2 x22.length c2], 23⟩] O37s0_109 ⟨164, []⟩ (Ld.vl u37d3l) u37d3g u [.no, .no, .no, .no, .no, .no, .no, .no, .no] 0 (O37s0_109.take 9) [(1, pt gb1 0), (2, i6 a2), (3, pt nx0 0), (6, pt (nx0 + 1) 0), (7, pt (nx0 + 2) 0), (8, pt (nx0 + 3) 0), (11, pt (nx2 + 1) 0), (12, i6 x23), (13, i6 x24), (14, i6 x30), (15, i6 x31), (61, i6 x31)]
noncomputable def u37d3s (x30 : Int) (u : Nat → Wt) : List Value := [i6 x30, .bool (x30 == (-1)), .bool true, undef, undef, undef, undef, undef, undef]
noncomputable def u37d3f (nx0 : Nat) (gb1 : Nat) (a2 : Int) (nx2 : Nat) (x23 : Int) (x24 : Int) (x30 : Int) (x31 : Int) (i : Nat) (u : Nat → Wt) : List (Nat × Value) := foldPut ⟨164, []⟩ [(1, pt gb1 0), (2, i6 a2), (3, pt nx0 0), (6, pt (nx0 + 1) 0), (7, pt (nx0 + 2) 0), (8, pt (nx0 + 3) 0), (11, pt (nx2 + 1) 0), (12, i6 x23), (13, i6 x24), (14, i6 x30), (15, i6 x31), (61, i6 x31)] (O37s0_109.take i) (((u37d3s x30) u).take i)
theorem u37d3v (nx0 : Nat) (gb0 : Nat) (gb1 : Nat) (a2 : Int) (b1 : List Int) (nx2 : Nat) (x16 : List Int) (x17 : List Int) (x18 : List Int) (x21 : List Bool) (x22 : List Int) (A2 : Option Addr) (c2 : Nat) (x23 : Int) (x24 : Int) (x30 : Int) (x31 : Int) (x35 : List Int) (x36 : List Int) (u : Nat → Wt) : (u37d3q nx0 gb0 gb1 a2 b1 nx2 x16 x17 x18 x21 x22 A2 c2 x23 x24 x30 x31 x35 x36 u).map (fun x => (x.1, x.2.1)) = some ((u37d3s x30) u, (u37d3f nx0 gb1 a2 nx2 x23 x24 x30 x31 9) u) := by kernel_rfl
theorem u37d3e (nx0 : Nat) (gb0 : Nat) (gb1 : Nat) (a2 : Int) (b1 : List Int) (nx2 : Nat) (x16 : List Int) (x17 : List Int) (x18 : List Int) (x21 : List Bool) (x22 : List Int) (A2 : Option Addr) (c2 : Nat) (x23 : Int) (x24 : Int) (x30 : Int) (x31 : Int) (x35 : List Int) (x36 : List Int) (u : Nat → Wt) : (u37d3q nx0 gb0 gb1 a2 b1 nx2 x16 x17 x18 x21 x22 A2 c2 x23 x24 x30 x31 x35 x36 u).map (fun x => x.2.2.map (·.1)) = (u37d3q nx0 gb0 gb1 a2 b1 nx2 x16 x17 x18 x21 x22 A2 c2 x23 x24 x30 x31 x35 x36 u).map (fun x => x.2.2.map (·.2)) := by kernel_rfl
noncomputable def u37d4l  : List Ld :=
 []
noncomputable def u37d4g (nx0 : Nat) (x30 : Int) (x31 : Int) : List (Nat × ((Nat → Wt) → Value)) := [(2, fun u => .bool false), (4, fun u => pt (nx0 + 1) (0 + (x31).toNat * 1)), (7, fun u => pt (nx0 + 1) (0 + (x30).toNat * 1))]
noncomputable def u37d4q (nx0 : Nat) (gb0 : Nat) (gb1 : Nat) (a2 : Int) (b1 : List Int) (nx2 : Nat) (x16 : List Int) (x17 : List Int) (x18 : List Int) (x21 : List Bool) (x22 : List Int) (A2 : Option Addr) (c2 : Nat) (x23 : Int) (x24 : Int) (x30 : Int) (x31 : Int) (x35 : List Int) (x36 : List Int) (u : Nat → Wt) : Option (List Value × List (Nat × Value) × List (Nat × Nat)) := qSim Try.prog [(⟨nx0 + 1, 0 + (x31).toNat * 1, none⟩, i6 (x35.getD ((x31).toNat) 0)), (⟨nx0 + 1, 0 + (x30).toNat * 1, none⟩, i6 (x35.getD ((x30).toNat) 0))] [⟨gb0, ((arrV (Value.int .i64) 0 12 x16) ++ ((arrV (Value.int .i64) 0 12 x17) ++ (arrV (Value.int .i64) 0 12 x18))), 58⟩, ⟨gb1, arrV (Value.int .i64) 0 144 b1, 54⟩, ⟨nx0, [pt gb0 0], 64⟩, ⟨nx0 + 1, arrV (Value.int .i64) 0 12 x35, 52⟩, ⟨nx0 + 2, arrV (Value.int .i64) 0 12 x36, 56⟩, ⟨nx0 + 3, arrV Value.bool false 12 x21, 70⟩, ⟨nx2 + 1, [.slice A2 x22.length c2], 23⟩] O37s0_109 ⟨164, []⟩ (Ld.vl u37d4l) (u37d4g nx0 x30 x31) u [.no, .no, .no, .no, .no, .r 0, .no, .no, .r 1] 0 (O37s0_109.take 9) [(1, pt gb1 0), (2, i6 a2), (3, pt nx0 0), (6, pt (nx0 + 1) 0), (7, pt (nx0 + 2) 0), (8, pt (nx0 + 3) 0), (11, pt (nx2 + 1) 0), (12, i6 x23), (13, i6 x24), (14, i6 x30), (15, i6 x31), (61, i6 x31)]
noncomputable def u37d4s (nx0 : Nat) (x30 : Int) (x31 : Int) (x35 : List Int) (u : Nat → Wt) : List Value := [i6 x30, .bool (x30 == (-1)), .bool false, i6 x31, pt (nx0 + 1) (0 + (x31).toNat * 1), i6 (x35.getD ((x31).toNat) 0), i6 x30, pt (nx0 + 1) (0 + (x30).toNat * 1), i6 (x35.getD ((x30).toNat) 0)]
noncomputable def u37d4f (nx0 : Nat) (gb1 : Nat) (a2 : Int) (nx2 : Nat) (x23 : Int) (x24 : Int) (x30 : Int) (x31 : Int) (x35 : List Int) (i : Nat) (u : Nat → Wt) : List (Nat × Value) := foldPut ⟨164, []⟩ [(1, pt gb1 0), (2, i6 a2), (3, pt nx0 0), (6, pt (nx0 + 1) 0), (7, pt (nx0 + 2) 0), (8, pt (nx0 + 3) 0), (11, pt (nx2 + 1) 0), (12, i6 x23), (13, i6 x24), (14, i6 x30), (15, i6 x31), (61, i6 x31)] (O37s0_109.take i) (((u37d4s nx0 x30 x31 x35) u).take i)
theorem u37d4v (nx0 : Nat) (gb0 : Nat) (gb1 : Nat) (a2 : Int) (b1 : List Int) (nx2 : Nat) (x16 : List Int) (x17 : List Int) (x18 : List Int) (x21 : List Bool) (x22 : List Int) (A2 : Option Addr) (c2 : Nat) (x23 : Int) (x24 : Int) (x30 : Int) (x31 : Int) (x35 : List Int) (x36 : List Int) (u : Nat → Wt) : (u37d4q nx0 gb0 gb1 a2 b1 nx2 x16 x17 x18 x21 x22 A2 c2 x23 x24 x30 x31 x35 x36 u).map (fun x => (x.1, x.2.1)) = some ((u37d4s nx0 x30 x31 x35) u, (u37d4f nx0 gb1 a2 nx2 x23 x24 x30 x31 x35 9) u) := by kernel_rfl
theorem u37d4e (nx0 : Nat) (gb0 : Nat) (gb1 : Nat) (a2 : Int) (b1 : List Int) (nx2 : Nat) (x16 : List Int) (x17 : List Int) (x18 : List Int) (x21 : List Bool) (x22 : List Int) (A2 : Option Addr) (c2 : Nat) (x23 : Int) (x24 : Int) (x30 : Int) (x31 : Int) (x35 : List Int) (x36 : List Int) (u : Nat → Wt) : (u37d4q nx0 gb0 gb1 a2 b1 nx2 x16 x17 x18 x21 x22 A2 c2 x23 x24 x30 x31 x35 x36 u).map (fun x => x.2.2.map (·.1)) = (u37d4q nx0 gb0 gb1 a2 b1 nx2 x16 x17 x18 x21 x22 A2 c2 x23 x24 x30 x31 x35 x36 u).map (fun x => x.2.2.map (·.2)) := by kernel_rfl
noncomputable def a37s0_53n : List Nat := [0, 0, 0, 0, 4, 20, 60, 124, 0, 0, 0, 256, 2816, 7936, 16128, 0, 0, 32768, 163840, 491520, 1015808, 2096896, 4194300, 1, 8388609, 33554431, 67108863]
theorem a37s0_53 : ancs O37s0_53 [] = a37s0_53n := by kernel_rfl
theorem a37s0_53o : drawOk O37s0_53 a37s0_53n 25 = true := by kernel_rfl
noncomputable def u37d5l  : List Ld :=
 []
noncomputable def u37d5g (gb0 : Nat) (gb1 : Nat) (a2 : Int) (x40 : Int) : List (Nat × ((Nat → Wt) → Value)) := [(6, fun u => pt gb0 (12 + (a2).toNat * 1)), (12, fun u => pt gb1 (0 + (a2).toNat * 12)), (13, fun u => pt gb1 (0 + (a2).toNat * 12 + (x40).toNat * 1)), (19, fun u => pt gb0 (24 + (x40).toNat * 1))]
noncomputable def u37d5q (nx0 : Nat) (gb0 : Nat) (gb1 : Nat) (a2 : Int) (b0 : S58) (b1 : List Int) (x1 : List Int) (x2 : List Int) (x39 : List Int) (x40 : Int) (u : Nat → Wt) : Option (List Value × List (Nat × Value) × List (Nat × Nat)) := qSim Try.prog [(⟨gb0, 12 + (a2).toNat * 1, none⟩, i6 (x39.getD ((a2).toNat) 0)), (⟨gb1, 0 + (a2).toNat * 12 + (x40).toNat * 1, none⟩, i6 (b1.getD ((a2).toNat * 12 + (x40).toNat) 0)), (⟨gb0, 24 + (x40).toNat * 1, none⟩, i6 (b0.f2.getD ((x40).toNat) 0))] [⟨gb0, ((arrV (Value.int .i64) 0 12 b0.f0) ++ ((arrV (Value.int .i64) 0 12 x39) ++ (arrV (Value.int .i64) 0 12 b0.f2))), 58⟩, ⟨gb1, arrV (Value.int .i64) 0 144 b1, 54⟩, ⟨nx0, [pt gb0 0], 64⟩, ⟨nx0 + 1, arrV (Value.int .i64) 0 12 x1, 52⟩, ⟨nx0 + 2, arrV (Value.int .i64) 0 12 x2, 56⟩, ⟨nx0 + 3, arrV Value.bool false 12 (List.replicate 12 false), 70⟩] O37s0_53 ⟨164, []⟩ (Ld.vl u37d5l) (u37d5g gb0 gb1 a2 x40) u [.l 2, .no, .l 2, .no, .no, .no, .no, .r 0, .no, .no, .no, .no, .no, .no, .r 1, .l 2, .no, .no, .no, .no, .r 2, .no, .no, .no, .no] 0 (O37s0_53.take 25) [(10, i6 x40), (1, pt gb1 0), (2, i6 a2), (3, pt nx0 0), (6, pt (nx0 + 1) 0), (7, pt (nx0 + 2) 0), (8, pt (nx0 + 3) 0), (28, i6 x40)]
noncomputable def u37d5s (gb0 : Nat) (gb1 : Nat) (a2 : Int) (b0 : S58) (b1 : List Int) (x39 : List Int) (x40 : Int) (u : Nat → Wt) : List Value := [pt gb0 0, i6 a2, pt gb0 0, i6 a2, pt gb0 0, pt gb0 12, pt gb0 (12 + (a2).toNat * 1), i6 (x39.getD ((a2).toNat) 0), pt gb1 0, i6 a2, i6 x40, pt gb1 0, pt gb1 (0 + (a2).toNat * 12), pt gb1 (0 + (a2).toNat * 12 + (x40).toNat * 1), i6 (b1.getD ((a2).toNat * 12 + (x40).toNat) 0), pt gb0 0, i6 x40, pt gb0 0, pt gb0 24, pt gb0 (24 + (x40).toNat * 1), i6 (b0.f2.getD ((x40).toNat) 0), i6 (W .i64 ((b1.getD ((a2).toNat * 12 + (x40).toNat) 0) - (b0.f2.getD ((x40).toNat) 0))), i6 (iMax (x39.getD ((a2).toNat) 0) (W .i64 ((b1.getD ((a2).toNat * 12 + (x40).toNat) 0) - (b0.f2.getD ((x40).toNat) 0)))), pt gb0 0, pt gb0 12]
noncomputable def u37d5f (nx0 : Nat) (gb0 : Nat) (gb1 : Nat) (a2 : Int) (b0 : S58) (b1 : List Int) (x39 : List Int) (x40 : Int) (i : Nat) (u : Nat → Wt) : List (Nat × Value) := foldPut ⟨164, []⟩ [(10, i6 x40), (1, pt gb1 0), (2, i6 a2), (3, pt nx0 0), (6, pt (nx0 + 1) 0), (7, pt (nx0 + 2) 0), (8, pt (nx0 + 3) 0), (28, i6 x40)] (O37s0_53.take i) (((u37d5s gb0 gb1 a2 b0 b1 x39 x40) u).take i)
theorem u37d5v (nx0 : Nat) (gb0 : Nat) (gb1 : Nat) (a2 : Int) (b0 : S58) (b1 : List Int) (x1 : List Int) (x2 : List Int) (x39 : List Int) (x40 : Int) (u : Nat → Wt) : (u37d5q nx0 gb0 gb1 a2 b0 b1 x1 x2 x39 x40 u).map (fun x => (x.1, x.2.1)) = some ((u37d5s gb0 gb1 a2 b0 b1 x39 x40) u, (u37d5f nx0 gb0 gb1 a2 b0 b1 x39 x40 25) u) := by kernel_rfl
theorem u37d5e (nx0 : Nat) (gb0 : Nat) (gb1 : Nat) (a2 : Int) (b0 : S58) (b1 : List Int) (x1 : List Int) (x2 : List Int) (x39 : List Int) (x40 : Int) (u : Nat → Wt) : (u37d5q nx0 gb0 gb1 a2 b0 b1 x1 x2 x39 x40 u).map (fun x => x.2.2.map (·.1)) = (u37d5q nx0 gb0 gb1 a2 b0 b1 x1 x2 x39 x40 u).map (fun x => x.2.2.map (·.2)) := by kernel_rfl
theorem assign_solution_augments0.calls (k : Nat) (I0 : Imm) (gb0 : Nat) (gb1 : Nat) (a2 : Int) (b0 : S58) (b1 : List Int) (w : World) (hs : Sat ⟨w, SM [⟨gb0, ((arrV (Value.int .i64) 0 12 b0.f0) ++ ((arrV (Value.int .i64) 0 12 b0.f1) ++ (arrV (Value.int .i64) 0 12 b0.f2))), 58⟩, ⟨gb1, arrV (Value.int .i64) 0 144 b1, 54⟩] [], I0⟩ I0 w.heap.size [⟨gb0, ((arrV (Value.int .i64) 0 12 b0.f0) ++ ((arrV (Value.int .i64) 0 12 b0.f1) ++ (arrV (Value.int .i64) 0 12 b0.f2))), 58⟩, ⟨gb1, arrV (Value.int .i64) 0 144 b1, 54⟩] [] w) (hzb0_0 : 12 ≤ b0.f0.length) (hzb0_1 : 12 ≤ b0.f1.length) (hzb0_2 : 12 ≤ b0.f2.length) (hzb1 : 144 ≤ b1.length) (r : S58) (h : assign_solution_augments0.f k a2 b0 b1 = some r) :
  Calls Try.prog 37 [pt gb0 0, pt gb1 0, i6 a2].toArray w fun e w' => ∃ v, e = .returned v ∧ assign_solution_augments0.Post (SM [⟨gb0, ((arrV (Value.int .i64) 0 12 b0.f0) ++ ((arrV (Value.int .i64) 0 12 b0.f1) ++ (arrV (Value.int .i64) 0 12 b0.f2))), 58⟩, ⟨gb1, arrV (Value.int .i64) 0 144 b1, 54⟩] []) gb0 gb1 a2 b0 b1 I0 w r v w' := by
 have H : ((assign_solution_augments0.l5 k (List.replicate 12 0) (List.replicate 12 0) 0).bind (assign_solution_augments0.k10 k a2 b0 b1)) = some r := h
 clear h
 refine calls_bodyL Try.func37 (by kernel_rfl) 164 (by kernel_rfl) (by kernel_rfl) ⟨w, SM [⟨gb0, ((arrV (Value.int .i64) 0 12 b0.f0) ++ ((arrV (Value.int .i64) 0 12 b0.f1) ++ (arrV (Value.int .i64) 0 12 b0.f2))), 58⟩, ⟨gb1, arrV (Value.int .i64) 0 144 b1, 54⟩] [], I0⟩ I0 [⟨gb0, ((arrV (Value.int .i64) 0 12 b0.f0) ++ ((arrV (Value.int .i64) 0 12 b0.f1) ++ (arrV (Value.int .i64) 0 12 b0.f2))), 58⟩, ⟨gb1, arrV (Value.int .i64) 0 144 b1, 54⟩] [] [(0, pt gb0 0), (1, pt gb1 0), (2, i6 a2)] (by kernel_rfl) hs ?_
 generalize w.heap.size = nx0
 show OK _ K37s0_0 _ _ _ _ _ _ _ _
 refine OK.sr ?_
 refine RL.spt 1 [(3, pt nx0 0), (1, pt gb1 0), (2, i6 a2)] (nx0 + 1) [⟨gb0, ((arrV (Value.int .i64) 0 12 b0.f0) ++ ((arrV (Value.int .i64) 0 12 b0.f1) ++ (arrV (Value.int .i64) 0 12 b0.f2))), 58⟩, ⟨gb1, arrV (Value.int .i64) 0 144 b1, 54⟩, ⟨nx0, [pt gb0 0], 64⟩] ?_
 refine OK.scope K37s0_4 (by kernel_rfl) ?_
 refine OK.sr ?_
 refine RL.spt 1 [(6, pt (nx0 + 1) 0), (3, pt nx0 0), (1, pt gb1 0), (2, i6 a2)] (nx0 + 2) [⟨gb0, ((arrV (Value.int .i64) 0 12 b0.f0) ++ ((arrV (Value.int .i64) 0 12 b0.f1) ++ (arrV (Value.int .i64) 0 12 b0.f2))), 58⟩, ⟨gb1, arrV (Value.int .i64) 0 144 b1, 54⟩, ⟨nx0, [pt gb0 0], 64⟩, ⟨nx0 + 1, arrV (Value.int .i64) 0 12 (List.replicate 12 0), 52⟩] ?_
 refine OK.sr ?_
 refine RL.spt 1 [(7, pt (nx0 + 2) 0), (6, pt (nx0 + 1) 0), (3, pt nx0 0), (1, pt gb1 0), (2, i6 a2)] (nx0 + 3) [⟨gb0, ((arrV (Value.int .i64) 0 12 b0.f0) ++ ((arrV (Value.int .i64) 0 12 b0.f1) ++ (arrV (Value.int .i64) 0 12 b0.f2))), 58⟩, ⟨gb1, arrV (Value.int .i64) 0 144 b1, 54⟩, ⟨nx0, [pt gb0 0], 64⟩, ⟨nx0 + 1, arrV (Value.int .i64) 0 12 (List.replicate 12 0), 52⟩, ⟨nx0 + 2, arrV (Value.int .i64) 0 12 (List.replicate 12 0), 56⟩] ?_
 refine OK.sr ?_
 refine RL.spt 1 [(8, pt (nx0 + 3) 0), (7, pt (nx0 + 2) 0), (6, pt (nx0 + 1) 0), (3, pt nx0 0), (1, pt gb1 0), (2, i6 a2)] (nx0 + 4) [⟨gb0, ((arrV (Value.int .i64) 0 12 b0.f0) ++ ((arrV (Value.int .i64) 0 12 b0.f1) ++ (arrV (Value.int .i64) 0 12 b0.f2))), 58⟩, ⟨gb1, arrV (Value.int .i64) 0 144 b1, 54⟩, ⟨nx0, [pt gb0 0], 64⟩, ⟨nx0 + 1, arrV (Value.int .i64) 0 12 (List.replicate 12 0), 52⟩, ⟨nx0 + 2, arrV (Value.int .i64) 0 12 (List.replicate 12 0), 56⟩, ⟨nx0 + 3, arrV Value.bool false 12 (List.replicate 12 false), 70⟩] ?_
 refine OK.sq ?_
 refine OK.sr ?_
 refine RL.st 1 [(20, i6 0), (8, pt (nx0 + 3) 0), (7, pt (nx0 + 2) 0), (6, pt (nx0 + 1) 0), (3, pt nx0 0), (1, pt gb1 0), (2, i6 a2)] ?_
 refine OK.join (fun K' I' _ L' X' => ∃ (x1 : List Int) (x2 : List Int), K' = [(1, pt gb1 0), (2, i6 a2), (3, pt nx0 0), (6, pt (nx0 + 1) 0), (7, pt (nx0 + 2) 0), (8, pt (nx0 + 3) 0)] ∧ L' = [⟨gb0, ((arrV (Value.int .i64) 0 12 b0.f0) ++ ((arrV (Value.int .i64) 0 12 b0.f1) ++ (arrV (Value.int .i64) 0 12 b0.f2))), 58⟩, ⟨gb1, arrV (Value.int .i64) 0 144 b1, 54⟩, ⟨nx0, [pt gb0 0], 64⟩, ⟨nx0 + 1, arrV (Value.int .i64) 0 12 x1, 52⟩, ⟨nx0 + 2, arrV (Value.int .i64) 0 12 x2, 56⟩, ⟨nx0 + 3, arrV Value.bool false 12 (List.replicate 12 false), 70⟩] ∧ X' = [] ∧ Imm.le I0 I' ∧ 12 ≤ x1.length ∧ 12 ≤ x2.length ∧ assign_solution_augments0.k10 k a2 b0 b1 (x1, x2) = some r) ?_ ?_
 ·rintro _ I1 nx1 _ _ ⟨x1, x2, rfl, rfl, rfl, hi1, hz1, hz2, H⟩
  rw [assign_solution_augments0.k10] at H
  refine QN.then_ ?_
  refine OK.sq ?_
  refine OK.sr ?_
  refine RL.st 1 [(28, i6 0), (1, pt gb1 0), (2, i6 a2), (3, pt nx0 0), (6, pt (nx0 + 1) 0), (7, pt (nx0 + 2) 0), (8, pt (nx0 + 3) 0)] ?_
  refine OK.join (fun K' I' _ L' X' => ∃ (x3 : List Int), K' = [(1, pt gb1 0), (2, i6 a2), (3, pt nx0 0), (6, pt (nx0 + 1) 0), (7, pt (nx0 + 2) 0), (8, pt (nx0 + 3) 0)] ∧ L' = [⟨gb0, ((arrV (Value.int .i64) 0 12 b0.f0) ++ ((arrV (Value.int .i64) 0 12 x3) ++ (arrV (Value.int .i64) 0 12 b0.f2))), 58⟩, ⟨gb1, arrV (Value.int .i64) 0 144 b1, 54⟩, ⟨nx0, [pt gb0 0], 64⟩, ⟨nx0 + 1, arrV (Value.int .i64) 0 12 x1, 52⟩, ⟨nx0 + 2, arrV (Value.int .i64) 0 12 x2, 56⟩, ⟨nx0 + 3, arrV Value.bool false 12 (List.replicate 12 false), 70⟩] ∧ X' = [] ∧ Imm.le I1 I' ∧ 12 ≤ x3.length ∧ assign_solution_augments0.k9 k a2 b0 b1 x1 x2 x3 = some r) ?_ ?_
  ·rintro _ I2 nx2 _ _ ⟨x3, rfl, rfl, rfl, hi2, hz3, H⟩
   rw [assign_solution_augments0.k9] at H
   refine QN.then_ ?_
   refine OK.sr ?_
   refine RL.simP (K' := [(12, i6 (-1)), (11, pt (nx2 + 1) 0), (1, pt gb1 0), (2, i6 a2), (3, pt nx0 0), (6, pt (nx0 + 1) 0), (7, pt (nx0 + 2) 0), (8, pt (nx0 + 3) 0)]) (nx' := nx2 + 2) (L' := [⟨gb0, ((arrV (Value.int .i64) 0 12 b0.f0) ++ ((arrV (Value.int .i64) 0 12 x3) ++ (arrV (Value.int .i64) 0 12 b0.f2))), 58⟩, ⟨gb1, arrV (Value.int .i64) 0 144 b1, 54⟩, ⟨nx0, [pt gb0 0], 64⟩, ⟨nx0 + 1, arrV (Value.int .i64) 0 12 x1, 52⟩, ⟨nx0 + 2, arrV (Value.int .i64) 0 12 x2, 56⟩, ⟨nx0 + 3, arrV Value.bool false 12 (List.replicate 12 false), 70⟩, ⟨nx2, [i6 a2], 3⟩, ⟨nx2 + 1, [.slice (some ⟨nx2, 0, none⟩) 1 1], 23⟩]) [] (RFacts.nil _ _ _) 5 [.no, .no, .no, .l 7, .no] (by kernel_rfl) (by kernel_rfl) ?_
   refine RL.nt ?_
   refine OK.sr ?_
   refine RL.st 2 [(13, i6 a2), (12, i6 (-1)), (11, pt (nx2 + 1) 0), (1, pt gb1 0), (2, i6 a2), (3, pt nx0 0), (6, pt (nx0 + 1) 0), (7, pt (nx0 + 2) 0), (8, pt (nx0 + 3) 0)] ?_
   refine OK.sq ?_
   refine OK.label 0 (by kernel_rfl) ?_
   refine QN.then_ ?_
   refine OK.sq ?_
   refine OK.join (fun K' I' _ L' X' => ∃ (x4 : List Int) (x5 : List Int) (x6 : List Int) (x7 : List Int) (x8 : List Int) (x9 : List Bool) (x10 : List Int) (x11 : Int) (A1 : Option Addr) (c1 : Nat) (cs1 : List Value), K' = [(2, i6 a2), (3, pt nx0 0), (7, pt (nx0 + 2) 0), (12, i6 x11)] ∧ L' = [⟨gb0, ((arrV (Value.int .i64) 0 12 x4) ++ ((arrV (Value.int .i64) 0 12 x5) ++ (arrV (Value.int .i64) 0 12 x6))), 58⟩, ⟨gb1, arrV (Value.int .i64) 0 144 b1, 54⟩, ⟨nx0, [pt gb0 0], 64⟩, ⟨nx0 + 1, arrV (Value.int .i64) 0 12 x7, 52⟩, ⟨nx0 + 2, arrV (Value.int .i64) 0 12 x8, 56⟩, ⟨nx0 + 3, arrV Value.bool false 12 x9, 70⟩, ⟨nx2 + 1, [.slice A1 x10.length c1], 23⟩] ∧ X' = [orow 3 1 A1 x10.length c1 cs1] ∧ Imm.le I2 I' ∧ 12 ≤ x4.length ∧ 12 ≤ x5.length ∧ 12 ≤ x6.length ∧ 12 ≤ x7.length ∧ 12 ≤ x8.length ∧ 12 ≤ x9.length ∧ Reps (Ty.int .i64) I' x10 cs1 ∧ assign_solution_augments0.k3 k a2 (x4, x5, x6, x7, x8, x9, x10, x11) = some r) ?_ ?_
   ·rintro _ I3 nx3 _ _ ⟨x4, x5, x6, x7, x8, x9, x10, x11, A1, c1, cs1, rfl, rfl, rfl, hi3, hz4, hz5, hz6, hz7, hz8, hz9, hp1, H⟩
    rw [assign_solution_augments0.k3] at H
    refine QN.then_ ?_
    refine OK.sr ?_
    refine RL.st 2 [(18, i6 x11), (2, i6 a2), (3, pt nx0 0), (7, pt (nx0 + 2) 0)] ?_
    refine OK.join (fun K' I' _ L' X' => ∃ (x12 : List Int), K' = [] ∧ L' = [⟨gb0, ((arrV (Value.int .i64) 0 12 x12) ++ ((arrV (Value.int .i64) 0 12 x5) ++ (arrV (Value.int .i64) 0 12 x6))), 58⟩, ⟨gb1, arrV (Value.int .i64) 0 144 b1, 54⟩, ⟨nx0, [pt gb0 0], 64⟩, ⟨nx0 + 1, arrV (Value.int .i64) 0 12 x7, 52⟩, ⟨nx0 + 2, arrV (Value.int .i64) 0 12 x8, 56⟩, ⟨nx0 + 3, arrV Value.bool false 12 x9, 70⟩, ⟨nx2 + 1, [.slice A1 x10.length c1], 23⟩] ∧ X' = [orow 3 1 A1 x10.length c1 cs1] ∧ Imm.le I3 I' ∧ 12 ≤ x12.length ∧ assign_solution_augments0.k1 x5 x6 x12 = some r) ?_ ?_
    ·rintro _ I4 nx4 _ _ ⟨x12, rfl, rfl, rfl, hi4, hz10, H⟩
     rw [assign_solution_augments0.k1] at H
     refine QN.scN ?_
     obtain rfl := Option.some.inj H
     refine QN.body rfl [] (RFacts.nil _ _ _) (.no) (.tuple #[]) (by kernel_rfl) (by kernel_rfl) (by kernel_rfl) ?_ _ (.inl rfl)
     exact fun w' hs' => ⟨_, rfl, I4, rfl, ((hs'.fin.selB [0, 1] (by kernel_rfl)).sel [] (by kernel_rfl)), hz10, hz5, hz6⟩
    ·intro Q_1 hJ4 hQ4
     obtain ⟨y4, H, HK4⟩ := bnd H
     refine OK.bk 8 ?_
     refine OK.sub (K' := [(2, i6 a2), (3, pt nx0 0), (7, pt (nx0 + 2) 0), (18, i6 x11)]) (L' := [⟨gb0, ((arrV (Value.int .i64) 0 12 x4) ++ ((arrV (Value.int .i64) 0 12 x5) ++ (arrV (Value.int .i64) 0 12 x6))), 58⟩, ⟨gb1, arrV (Value.int .i64) 0 144 b1, 54⟩, ⟨nx0, [pt gb0 0], 64⟩, ⟨nx0 + 1, arrV (Value.int .i64) 0 12 x7, 52⟩, ⟨nx0 + 2, arrV (Value.int .i64) 0 12 x8, 56⟩, ⟨nx0 + 3, arrV Value.bool false 12 x9, 70⟩, ⟨nx2 + 1, [.slice A1 x10.length c1], 23⟩]) (by kernel_rfl) (.cons_cons _ (.cons_cons _ (.cons_cons _ (.cons_cons _ (.cons_cons _ (.cons_cons _ (.cons_cons _ .slnil))))))) (.refl _) ?_
     refine OK.lp (fun n_ K' I' _ L' X' => ∃ (x13 : List Int) (x14 : Int), K' = [(2, i6 a2), (3, pt nx0 0), (7, pt (nx0 + 2) 0), (18, i6 x14)] ∧ L' = [⟨gb0, ((arrV (Value.int .i64) 0 12 x13) ++ ((arrV (Value.int .i64) 0 12 x5) ++ (arrV (Value.int .i64) 0 12 x6))), 58⟩, ⟨gb1, arrV (Value.int .i64) 0 144 b1, 54⟩, ⟨nx0, [pt gb0 0], 64⟩, ⟨nx0 + 1, arrV (Value.int .i64) 0 12 x7, 52⟩, ⟨nx0 + 2, arrV (Value.int .i64) 0 12 x8, 56⟩, ⟨nx0 + 3, arrV Value.bool false 12 x9, 70⟩, ⟨nx2 + 1, [.slice A1 x10.length c1], 23⟩] ∧ X' = [orow 3 1 A1 x10.length c1 cs1] ∧ Imm.le I3 I' ∧ 12 ≤ x13.length ∧ assign_solution_augments0.l1 a2 x8 n_ x13 x14 = some y4) k ⟨x4, x11, rfl, rfl, rfl, (Imm.le_refl _), hz4, H⟩ ?_ ?_
     ·rintro _ _ _ _ _ ⟨x13, x14, rfl, rfl, rfl, _, hz11, H⟩
      cases H
     ·rintro kq1 _ I5 nx5 _ _ ⟨x13, x14, rfl, rfl, rfl, hi5, hz11, H⟩ Q_l1 hJ5 hQ5
      rw [assign_solution_augments0.l1] at H
      refine OK.sq ?_
      refine OK.sr ?_
      refine RL.st 2 [(140, .bool (x14 != (-1))), (2, i6 a2), (3, pt nx0 0), (7, pt (nx0 + 2) 0), (18, i6 x14)] ?_
      refine OK.cd (x14 != (-1)) (fun hb => ?_) (fun hb => ?_)
      ·skip
       have hc := (bne_iff_ne.1 hb)
       rw [if_pos hc] at H
       clear hb
       refine OK.skt ?_
       refine OK.bk 9 ?_
       refine OK.sr ?_
       refine RL.s 1 [(141, i6 x14), (2, i6 a2), (3, pt nx0 0), (7, pt (nx0 + 2) 0), (18, i6 x14)] ?_
       obtain ⟨hib0, H⟩ := ifs H
       obtain ⟨hib1, H⟩ := ifs H
       have ha01 := hib0; have ha11 := hib1
       refine RL.idxArr (T := 56) (e := 3) 1 .i64 x14 (nx0 + 2) (0) 12 (some 142) (by kernel_rfl) (by kernel_rfl) (by kernel_rfl) (by kernel_rfl) hib0 hib1 (K' := [(142, pt (nx0 + 2) (0 + (x14).toNat * 1)), (141, i6 x14), (2, i6 a2), (3, pt nx0 0), (7, pt (nx0 + 2) 0), (18, i6 x14)]) (by kernel_rfl) ?_
       refine RL.ldA (g := nx0 + 2) (ty := 56) (cs := arrV (Value.int .i64) 0 12 x8) (Value.int .i64) 0 12 x8 [] [] 0 ((x14).toNat) 4 (by kernel_rfl) (by kernel_rfl) (by kernel_rfl) (by omega) (0 + (x14).toNat * 1) (by omega) (some 143) (by kernel_rfl) (by kernel_rfl) (by kernel_rfl) (K' := [(143, i6 (x8.getD ((x14).toNat) 0)), (142, pt (nx0 + 2) (0 + (x14).toNat * 1)), (141, i6 x14), (2, i6 a2), (3, pt nx0 0), (7, pt (nx0 + 2) 0), (18, i6 x14)]) (by kernel_rfl) ?_
       refine RL.st 1 [(19, i6 (x8.getD ((x14).toNat) 0)), (2, i6 a2), (3, pt nx0 0), (7, pt (nx0 + 2) 0), (18, i6 x14)] ?_
       refine OK.sq ?_
       refine OK.sr ?_
       refine RL.st 2 [(145, .bool ((x8.getD ((x14).toNat) 0) == (-1))), (19, i6 (x8.getD ((x14).toNat) 0)), (2, i6 a2), (3, pt nx0 0), (7, pt (nx0 + 2) 0), (18, i6 x14)] ?_
       refine OK.join (fun K' I' _ L' X' => ∃ (x15 : List Int), K' = [(2, i6 a2), (3, pt nx0 0), (7, pt (nx0 + 2) 0), (19, i6 (x8.getD ((x14).toNat) 0))] ∧ L' = [⟨gb0, ((arrV (Value.int .i64) 0 12 x15) ++ ((arrV (Value.int .i64) 0 12 x5) ++ (arrV (Value.int .i64) 0 12 x6))), 58⟩, ⟨gb1, arrV (Value.int .i64) 0 144 b1, 54⟩, ⟨nx0, [pt gb0 0], 64⟩, ⟨nx0 + 1, arrV (Value.int .i64) 0 12 x7, 52⟩, ⟨nx0 + 2, arrV (Value.int .i64) 0 12 x8, 56⟩, ⟨nx0 + 3, arrV Value.bool false 12 x9, 70⟩, ⟨nx2 + 1, [.slice A1 x10.length c1], 23⟩] ∧ X' = [orow 3 1 A1 x10.length c1 cs1] ∧ Imm.le I5 I' ∧ 12 ≤ x15.length ∧ (assign_solution_augments0.l1 a2 x8 kq1 x15 (x8.getD ((x14).toNat) 0)) = some y4) ?_ ?_
       ·rintro _ I6 nx6 _ _ ⟨x15, rfl, rfl, rfl, hi6, hz12, H⟩
        replace H : (assign_solution_augments0.l1 a2 x8 kq1 x15 (x8.getD ((x14).toNat) 0)) = some y4 := H
        refine QN.then_ ?_
        refine OK.rg ?_
        refine RL.s 2 [(18, i6 (x8.getD ((x14).toNat) 0)), (2, i6 a2), (3, pt nx0 0), (7, pt (nx0 + 2) 0)] ?_
        refine RL.nil (by kernel_rfl) ?_
        refine QN.blkN ?_
        exact QN.sb (hJ5 _ _ _ _ _ ⟨x15, (x8.getD ((x14).toNat) 0), rfl, rfl, rfl, (Imm.le_trans hi5 hi6), hz12, H⟩) (.cons_cons _ (.cons_cons _ (.cons_cons _ (.cons_cons _ (.cons_cons _ (.cons_cons _ (.cons_cons _ .slnil))))))) (.refl _)
       ·intro Q_2 hJ6 hQ6
        obtain ⟨y5, H, HK5⟩ := bnd H
        refine OK.cd ((x8.getD ((x14).toNat) 0) == (-1)) (fun hb => ?_) (fun hb => ?_)
        ·skip
         have hc := (beq_iff_eq.1 hb)
         rw [if_pos hc] at H
         clear hb
         refine OK.rg ?_
         refine RL.simK (K' := [(150, pt gb0 0), (148, i6 a2), (147, i6 x14), (19, i6 (x8.getD ((x14).toNat) 0)), (2, i6 a2), (3, pt nx0 0), (7, pt (nx0 + 2) 0)]) [] (RFacts.nil _ _ _) 5 [.l 2, .no, .no, .no, .no] (by kernel_rfl) (by kernel_rfl) ?_
         obtain ⟨hib0, H⟩ := ifs H
         obtain ⟨hib1, H⟩ := ifs H
         have ha02 := hib0; have ha12 := hib1
         refine RL.idxArr (T := 56) (e := 3) 1 .i64 x14 gb0 (0) 12 (some 151) (by kernel_rfl) (by kernel_rfl) (by kernel_rfl) (by kernel_rfl) hib0 hib1 (K' := [(151, pt gb0 (0 + (x14).toNat * 1)), (150, pt gb0 0), (148, i6 a2), (147, i6 x14), (19, i6 (x8.getD ((x14).toNat) 0)), (2, i6 a2), (3, pt nx0 0), (7, pt (nx0 + 2) 0)]) (by kernel_rfl) ?_
         refine RL.stA (g := gb0) (ty := 58) (cs := ((arrV (Value.int .i64) 0 12 x13) ++ ((arrV (Value.int .i64) 0 12 x5) ++ (arrV (Value.int .i64) 0 12 x6)))) (Value.int .i64) 0 12 x13 a2 [] ((arrV (Value.int .i64) 0 12 x5) ++ (arrV (Value.int .i64) 0 12 x6)) 0 ((x14).toNat) 0 (by kernel_rfl) (by kernel_rfl) (by kernel_rfl) (by omega) hz11 (0 + (x14).toNat * 1) (by omega) 3 (by kernel_rfl) (by kernel_rfl) (by kernel_rfl) (by rfl) (fun _ h => by cases h) (fun _ h => by cases h) (cs' := ((arrV (Value.int .i64) 0 12 (x13.set ((x14).toNat) a2)) ++ ((arrV (Value.int .i64) 0 12 x5) ++ (arrV (Value.int .i64) 0 12 x6)))) (by kernel_rfl) ?_
         refine RL.nil (by kernel_rfl) ?_
         refine QN.sub (K' := [(19, i6 (x8.getD ((x14).toNat) 0)), (2, i6 a2), (3, pt nx0 0), (7, pt (nx0 + 2) 0)]) (L' := [⟨gb0, ((arrV (Value.int .i64) 0 12 (x13.set ((x14).toNat) a2)) ++ ((arrV (Value.int .i64) 0 12 x5) ++ (arrV (Value.int .i64) 0 12 x6))), 58⟩, ⟨gb1, arrV (Value.int .i64) 0 144 b1, 54⟩, ⟨nx0, [pt gb0 0], 64⟩, ⟨nx0 + 1, arrV (Value.int .i64) 0 12 x7, 52⟩, ⟨nx0 + 2, arrV (Value.int .i64) 0 12 x8, 56⟩, ⟨nx0 + 3, arrV Value.bool false 12 x9, 70⟩, ⟨nx2 + 1, [.slice A1 x10.length c1], 23⟩]) (by kernel_rfl) (.cons_cons _ (.cons_cons _ (.cons_cons _ (.cons_cons _ (.cons_cons _ (.cons_cons _ (.cons_cons _ .slnil))))))) (.refl _) ?_
         obtain rfl := Option.some.inj H
         exact QN.sb (hJ6 _ _ _ _ _ ⟨(x13.set ((x14).toNat) a2), rfl, rfl, rfl, (Imm.le_refl _), (le_set hz11), HK5⟩) (.cons_cons _ (.cons_cons _ (.cons_cons _ (.cons_cons _ (.cons_cons _ (.cons_cons _ (.cons_cons _ .slnil))))))) (.refl _)
        ·skip
         have hc := (beq_eq_false_iff_ne.1 hb)
         rw [if_neg hc] at H
         clear hb
         obtain ⟨hi0_1, H⟩ := ifs H
         obtain ⟨hi1_1, H⟩ := ifs H
         refine OK.drawnC 38 10 O37s0_161 a37s0_161n (by kernel_rfl) (by kernel_rfl) u37d1l (u37d1g gb0 x8 x14) [(⟨gb0, 0 + ((x8.getD ((x14).toNat) 0)).toNat * 1, none⟩, i6 (x13.getD (((x8.getD ((x14).toNat) 0)).toNat) 0))] (RI.arr (g := gb0) (ty := 58) (cs := ((arrV (Value.int .i64) 0 12 x13) ++ ((arrV (Value.int .i64) 0 12 x5) ++ (arrV (Value.int .i64) 0 12 x6)))) (Value.int .i64) 0 12 x13 [] ((arrV (Value.int .i64) 0 12 x5) ++ (arrV (Value.int .i64) 0 12 x6)) 0 (((x8.getD ((x14).toNat) 0)).toNat) 0 (by kernel_rfl) (by kernel_rfl) (by kernel_rfl) (by omega) (0 + ((x8.getD ((x14).toNat) 0)).toNat * 1) (by omega) (RI.nil _)) [.l 2, .no, .l 2, .no, .no, .no, .no, .r 0, .no, .no] a37s0_161 a37s0_161o (by kernel_rfl) (by kernel_rfl) (u37d1s gb0 x8 x13 x14) (u37d1f nx0 gb0 a2 x8 x13 x14 10) (u37d1v nx0 gb0 gb1 a2 b1 nx2 x5 x6 x7 x8 x9 x10 A1 c1 x13 x14) (u37d1e nx0 gb0 gb1 a2 b1 nx2 x5 x6 x7 x8 x9 x10 A1 c1 x13 x14) [] framesOk.nil ?_ [u37d1f nx0 gb0 a2 x8 x13 x14 6] (framesOk.cons (fun u => rfl) framesOk.nil) ?_ ?_
         ·refine LoudsG.nil
         ·refine Givens.cons (fun u w =>  ?_) (fun _ _ _ => rfl) (Givens.nil)
          ·exact giv_idxArr (T := 56) (e := 3) 1 .i64 (x8.getD ((x14).toNat) 0) gb0 (0) 12 (by kernel_rfl) (by kernel_rfl) (by kernel_rfl) hi0_1 hi1_1 w
         intro u I7 nx7 hi7 hF
         clear hF
         refine RL.norm (K' := [(161, pt gb0 0), (160, pt gb0 0), (159, i6 (x13.getD (((x8.getD ((x14).toNat) 0)).toNat) 0)), (158, pt gb0 (0 + ((x8.getD ((x14).toNat) 0)).toNat * 1)), (157, pt gb0 0), (156, pt gb0 0), (155, i6 (x8.getD ((x14).toNat) 0)), (154, pt gb0 0), (153, i6 x14), (152, pt gb0 0), (145, .bool ((x8.getD ((x14).toNat) 0) == (-1))), (19, i6 (x8.getD ((x14).toNat) 0)), (2, i6 a2), (3, pt nx0 0), (7, pt (nx0 + 2) 0), (18, i6 x14)]) (X' := [orow 3 1 A1 x10.length c1 cs1]) (by kernel_rfl) rfl rfl rfl ?_
         obtain ⟨hib0, H⟩ := ifs H
         obtain ⟨hib1, H⟩ := ifs H
         have ha03 := hib0; have ha13 := hib1
         refine RL.idxArr (T := 56) (e := 3) 1 .i64 x14 gb0 (0) 12 (some 162) (by kernel_rfl) (by kernel_rfl) (by kernel_rfl) (by kernel_rfl) hib0 hib1 (K' := [(162, pt gb0 (0 + (x14).toNat * 1)), (161, pt gb0 0), (160, pt gb0 0), (159, i6 (x13.getD (((x8.getD ((x14).toNat) 0)).toNat) 0)), (158, pt gb0 (0 + ((x8.getD ((x14).toNat) 0)).toNat * 1)), (157, pt gb0 0), (156, pt gb0 0), (155, i6 (x8.getD ((x14).toNat) 0)), (154, pt gb0 0), (153, i6 x14), (152, pt gb0 0), (145, .bool ((x8.getD ((x14).toNat) 0) == (-1))), (19, i6 (x8.getD ((x14).toNat) 0)), (2, i6 a2), (3, pt nx0 0), (7, pt (nx0 + 2) 0), (18, i6 x14)]) (by kernel_rfl) ?_
         refine RL.stA (g := gb0) (ty := 58) (cs := ((arrV (Value.int .i64) 0 12 x13) ++ ((arrV (Value.int .i64) 0 12 x5) ++ (arrV (Value.int .i64) 0 12 x6)))) (Value.int .i64) 0 12 x13 (x13.getD (((x8.getD ((x14).toNat) 0)).toNat) 0) [] ((arrV (Value.int .i64) 0 12 x5) ++ (arrV (Value.int .i64) 0 12 x6)) 0 ((x14).toNat) 0 (by kernel_rfl) (by kernel_rfl) (by kernel_rfl) (by omega) hz11 (0 + (x14).toNat * 1) (by omega) 3 (by kernel_rfl) (by kernel_rfl) (by kernel_rfl) (by rfl) (fun _ h => by cases h) (fun _ h => by cases h) (cs' := ((arrV (Value.int .i64) 0 12 (x13.set ((x14).toNat) (x13.getD (((x8.getD ((x14).toNat) 0)).toNat) 0))) ++ ((arrV (Value.int .i64) 0 12 x5) ++ (arrV (Value.int .i64) 0 12 x6)))) (by kernel_rfl) ?_
         refine RL.nil (by kernel_rfl) ?_
         refine QN.sub (K' := [(19, i6 (x8.getD ((x14).toNat) 0)), (2, i6 a2), (3, pt nx0 0), (7, pt (nx0 + 2) 0)]) (L' := [⟨gb0, ((arrV (Value.int .i64) 0 12 (x13.set ((x14).toNat) (x13.getD (((x8.getD ((x14).toNat) 0)).toNat) 0))) ++ ((arrV (Value.int .i64) 0 12 x5) ++ (arrV (Value.int .i64) 0 12 x6))), 58⟩, ⟨gb1, arrV (Value.int .i64) 0 144 b1, 54⟩, ⟨nx0, [pt gb0 0], 64⟩, ⟨nx0 + 1, arrV (Value.int .i64) 0 12 x7, 52⟩, ⟨nx0 + 2, arrV (Value.int .i64) 0 12 x8, 56⟩, ⟨nx0 + 3, arrV Value.bool false 12 x9, 70⟩, ⟨nx2 + 1, [.slice A1 x10.length c1], 23⟩]) (by kernel_rfl) (.cons_cons _ (.cons_cons _ (.cons_cons _ (.cons_cons _ (.cons_cons _ (.cons_cons _ (.cons_cons _ .slnil))))))) (.refl _) ?_
         obtain rfl := Option.some.inj H
         exact QN.sb (hJ6 _ _ _ _ _ ⟨(x13.set ((x14).toNat) (x13.getD (((x8.getD ((x14).toNat) 0)).toNat) 0)), rfl, rfl, rfl, hi7, (le_set hz11), HK5⟩) (.cons_cons _ (.cons_cons _ (.cons_cons _ (.cons_cons _ (.cons_cons _ (.cons_cons _ (.cons_cons _ .slnil))))))) (.refl _)
      ·skip
       have hc := (not_not_intro (bne_eq_false_iff_eq.1 hb))
       rw [if_neg hc] at H
       clear hb
       refine OK.ex 8 ?_
       refine QN.thenE ?_
       refine QN.outE hQ5 ?_
       refine QN.blkE ?_
       obtain rfl := Option.some.inj H
       exact QN.sb (hJ4 _ _ _ _ _ ⟨x13, rfl, rfl, rfl, hi5, hz11, HK4⟩) (.cons_cons _ (.cons_cons _ (.cons_cons _ (.cons_cons _ (.cons_cons _ (.cons_cons _ (.cons_cons _ .slnil))))))) (.refl _)
   ·intro Q_3 hJ3 hQ3
    obtain ⟨y3, H, HK3⟩ := bnd H
    refine OK.bk 4 ?_
    refine OK.toRow (b := ⟨nx2, [i6 a2], 3⟩) 6 1 1 (by kernel_rfl) (by kernel_rfl) (by decide) ?_
    have hp4 : Reps (Ty.int .i64) I2 [a2] [i6 a2] := ⟨_, _, rfl, rfl, rfl⟩
    refine OK.norm (L' := [⟨gb0, ((arrV (Value.int .i64) 0 12 b0.f0) ++ ((arrV (Value.int .i64) 0 12 x3) ++ (arrV (Value.int .i64) 0 12 b0.f2))), 58⟩, ⟨gb1, arrV (Value.int .i64) 0 144 b1, 54⟩, ⟨nx0, [pt gb0 0], 64⟩, ⟨nx0 + 1, arrV (Value.int .i64) 0 12 x1, 52⟩, ⟨nx0 + 2, arrV (Value.int .i64) 0 12 x2, 56⟩, ⟨nx0 + 3, arrV Value.bool false 12 (List.replicate 12 false), 70⟩, ⟨nx2 + 1, [.slice (some ⟨nx2, 0, none⟩) 1 1], 23⟩]) (X' := [orow 3 1 (some ⟨nx2, 0, none⟩) ([a2].length) 1 [i6 a2]]) rfl rfl (by kernel_rfl) (by kernel_rfl) ?_
    refine OK.sub (K' := [(1, pt gb1 0), (2, i6 a2), (3, pt nx0 0), (6, pt (nx0 + 1) 0), (7, pt (nx0 + 2) 0), (8, pt (nx0 + 3) 0), (11, pt (nx2 + 1) 0), (12, i6 (-1)), (13, i6 a2)]) (L' := [⟨gb0, ((arrV (Value.int .i64) 0 12 b0.f0) ++ ((arrV (Value.int .i64) 0 12 x3) ++ (arrV (Value.int .i64) 0 12 b0.f2))), 58⟩, ⟨gb1, arrV (Value.int .i64) 0 144 b1, 54⟩, ⟨nx0, [pt gb0 0], 64⟩, ⟨nx0 + 1, arrV (Value.int .i64) 0 12 x1, 52⟩, ⟨nx0 + 2, arrV (Value.int .i64) 0 12 x2, 56⟩, ⟨nx0 + 3, arrV Value.bool false 12 (List.replicate 12 false), 70⟩, ⟨nx2 + 1, [.slice (some ⟨nx2, 0, none⟩) 1 1], 23⟩]) (by kernel_rfl) (.cons_cons _ (.cons_cons _ (.cons_cons _ (.cons_cons _ (.cons_cons _ (.cons_cons _ (.cons_cons _ .slnil))))))) (.refl _) ?_
    refine OK.lp (fun n_ K' I' _ L' X' => ∃ (x16 : List Int) (x17 : List Int) (x18 : List Int) (x19 : List Int) (x20 : List Int) (x21 : List Bool) (x22 : List Int) (x23 : Int) (x24 : Int) (A2 : Option Addr) (c2 : Nat) (cs2 : List Value), K' = [(1, pt gb1 0), (2, i6 a2), (3, pt nx0 0), (6, pt (nx0 + 1) 0), (7, pt (nx0 + 2) 0), (8, pt (nx0 + 3) 0), (11, pt (nx2 + 1) 0), (12, i6 x23), (13, i6 x24)] ∧ L' = [⟨gb0, ((arrV (Value.int .i64) 0 12 x16) ++ ((arrV (Value.int .i64) 0 12 x17) ++ (arrV (Value.int .i64) 0 12 x18))), 58⟩, ⟨gb1, arrV (Value.int .i64) 0 144 b1, 54⟩, ⟨nx0, [pt gb0 0], 64⟩, ⟨nx0 + 1, arrV (Value.int .i64) 0 12 x19, 52⟩, ⟨nx0 + 2, arrV (Value.int .i64) 0 12 x20, 56⟩, ⟨nx0 + 3, arrV Value.bool false 12 x21, 70⟩, ⟨nx2 + 1, [.slice A2 x22.length c2], 23⟩] ∧ X' = [orow 3 1 A2 x22.length c2 cs2] ∧ Imm.le I2 I' ∧ 12 ≤ x16.length ∧ 12 ≤ x17.length ∧ 12 ≤ x18.length ∧ 12 ≤ x19.length ∧ 12 ≤ x20.length ∧ 12 ≤ x21.length ∧ Reps (Ty.int .i64) I' x22 cs2 ∧ assign_solution_augments0.l2 b1 n_ x16 x17 x18 x19 x20 x21 x22 x23 x24 = some y3) k ⟨b0.f0, x3, b0.f2, x1, x2, (List.replicate 12 false), [a2], (-1), a2, (some ⟨nx2, 0, none⟩), 1, [i6 a2], rfl, rfl, rfl, (Imm.le_refl _), hzb0_0, hz3, hzb0_2, hz1, hz2, (Nat.le_of_eq List.length_replicate.symm), hp4, H⟩ ?_ ?_
    ·rintro _ _ _ _ _ ⟨x16, x17, x18, x19, x20, x21, x22, x23, x24, A2, c2, cs2, rfl, rfl, rfl, _, hz13, hz14, hz15, hz16, hz17, hz18, hp2, H⟩
     cases H
    ·rintro kq2 _ I8 nx8 _ _ ⟨x16, x17, x18, x19, x20, x21, x22, x23, x24, A2, c2, cs2, rfl, rfl, rfl, hi8, hz13, hz14, hz15, hz16, hz17, hz18, hp2, H⟩ Q_l2 hJ7 hQ7
     rw [assign_solution_augments0.l2] at H
     refine OK.bk 5 ?_
     refine OK.sr ?_
     refine RL.st 1 [(14, i6 (-1)), (1, pt gb1 0), (2, i6 a2), (3, pt nx0 0), (6, pt (nx0 + 1) 0), (7, pt (nx0 + 2) 0), (8, pt (nx0 + 3) 0), (11, pt (nx2 + 1) 0), (12, i6 x23), (13, i6 x24)] ?_
     refine OK.sq ?_
     refine OK.sr ?_
     refine RL.st 1 [(61, i6 0), (14, i6 (-1)), (1, pt gb1 0), (2, i6 a2), (3, pt nx0 0), (6, pt (nx0 + 1) 0), (7, pt (nx0 + 2) 0), (8, pt (nx0 + 3) 0), (11, pt (nx2 + 1) 0), (12, i6 x23), (13, i6 x24)] ?_
     refine OK.join (fun K' I' _ L' X' => ∃ (x25 : List Int) (x26 : List Int) (x27 : Int), K' = [(1, pt gb1 0), (2, i6 a2), (3, pt nx0 0), (6, pt (nx0 + 1) 0), (7, pt (nx0 + 2) 0), (8, pt (nx0 + 3) 0), (11, pt (nx2 + 1) 0), (14, i6 x27)] ∧ L' = [⟨gb0, ((arrV (Value.int .i64) 0 12 x16) ++ ((arrV (Value.int .i64) 0 12 x17) ++ (arrV (Value.int .i64) 0 12 x18))), 58⟩, ⟨gb1, arrV (Value.int .i64) 0 144 b1, 54⟩, ⟨nx0, [pt gb0 0], 64⟩, ⟨nx0 + 1, arrV (Value.int .i64) 0 12 x25, 52⟩, ⟨nx0 + 2, arrV (Value.int .i64) 0 12 x26, 56⟩, ⟨nx0 + 3, arrV Value.bool false 12 x21, 70⟩, ⟨nx2 + 1, [.slice A2 x22.length c2], 23⟩] ∧ X' = [orow 3 1 A2 x22.length c2 cs2] ∧ Imm.le I8 I' ∧ 12 ≤ x25.length ∧ 12 ≤ x26.length ∧ (if 0 ≤ x27 then (if x27 < (12 : Int) then ((assign_solution_augment_1s0.f kq2 (x25.getD ((x27).toNat) 0) x22 (⟨x16, x17, x18⟩ : S58) x21 x25).bind fun t1 => (if 0 ≤ x27 then (if x27 < (12 : Int) then (if 0 ≤ x27 then (if x27 < (12 : Int) then (if (t1.1.f0.getD ((x27).toNat) 0) = (-1) then (some (t1.1.f0, t1.1.f1, t1.1.f2, t1.2, x26, (x21.set ((x27).toNat) true), x22, x27)) else (if 0 ≤ x27 then (if x27 < (12 : Int) then (if (x22.length + [(t1.1.f0.getD ((x27).toNat) 0)].length) * 8 ≤ 140737488355328 then (assign_solution_augments0.l2 b1 kq2 t1.1.f0 t1.1.f1 t1.1.f2 t1.2 x26 (x21.set ((x27).toNat) true) (x22 ++ [(t1.1.f0.getD ((x27).toNat) 0)]) x27 (t1.1.f0.getD ((x27).toNat) 0)) else none) else none) else none)) else none) else none) else none) else none)) else none) else none) = some y3) ?_ ?_
     ·rintro _ I9 nx9 _ _ ⟨x25, x26, x27, rfl, rfl, rfl, hi9, hz19, hz20, H⟩
      replace H : (if 0 ≤ x27 then (if x27 < (12 : Int) then ((assign_solution_augment_1s0.f kq2 (x25.getD ((x27).toNat) 0) x22 (⟨x16, x17, x18⟩ : S58) x21 x25).bind fun t1 => (if 0 ≤ x27 then (if x27 < (12 : Int) then (if 0 ≤ x27 then (if x27 < (12 : Int) then (if (t1.1.f0.getD ((x27).toNat) 0) = (-1) then (some (t1.1.f0, t1.1.f1, t1.1.f2, t1.2, x26, (x21.set ((x27).toNat) true), x22, x27)) else (if 0 ≤ x27 then (if x27 < (12 : Int) then (if (x22.length + [(t1.1.f0.getD ((x27).toNat) 0)].length) * 8 ≤ 140737488355328 then (assign_solution_augments0.l2 b1 kq2 t1.1.f0 t1.1.f1 t1.1.f2 t1.2 x26 (x21.set ((x27).toNat) true) (x22 ++ [(t1.1.f0.getD ((x27).toNat) 0)]) x27 (t1.1.f0.getD ((x27).toNat) 0)) else none) else none) else none)) else none) else none) else none) else none)) else none) else none) = some y3 := H
      refine QN.then_ ?_
      refine OK.sr ?_
      refine RL.st 2 [(17, .func (.func 40) #[] #[pt (nx2 + 1) 0, pt nx0 0, pt (nx0 + 3) 0, pt (nx0 + 1) 0]), (1, pt gb1 0), (2, i6 a2), (3, pt nx0 0), (6, pt (nx0 + 1) 0), (7, pt (nx0 + 2) 0), (8, pt (nx0 + 3) 0), (11, pt (nx2 + 1) 0), (14, i6 x27)] ?_
      refine OK.sr ?_
      refine RL.s 2 [(114, i6 x27), (113, .func (.func 40) #[] #[pt (nx2 + 1) 0, pt nx0 0, pt (nx0 + 3) 0, pt (nx0 + 1) 0]), (1, pt gb1 0), (2, i6 a2), (3, pt nx0 0), (6, pt (nx0 + 1) 0), (7, pt (nx0 + 2) 0), (8, pt (nx0 + 3) 0), (11, pt (nx2 + 1) 0), (14, i6 x27)] ?_
      obtain ⟨hib0, H⟩ := ifs H
      obtain ⟨hib1, H⟩ := ifs H
      have ha04 := hib0; have ha14 := hib1
      refine RL.idxArr (T := 52) (e := 2) 1 .i64 x27 (nx0 + 1) (0) 12 (some 115) (by kernel_rfl) (by kernel_rfl) (by kernel_rfl) (by kernel_rfl) hib0 hib1 (K' := [(115, pt (nx0 + 1) (0 + (x27).toNat * 1)), (114, i6 x27), (113, .func (.func 40) #[] #[pt (nx2 + 1) 0, pt nx0 0, pt (nx0 + 3) 0, pt (nx0 + 1) 0]), (1, pt gb1 0), (2, i6 a2), (3, pt nx0 0), (6, pt (nx0 + 1) 0), (7, pt (nx0 + 2) 0), (8, pt (nx0 + 3) 0), (11, pt (nx2 + 1) 0), (14, i6 x27)]) (by kernel_rfl) ?_
      refine RL.ldA (g := nx0 + 1) (ty := 52) (cs := arrV (Value.int .i64) 0 12 x25) (Value.int .i64) 0 12 x25 [] [] 0 ((x27).toNat) 3 (by kernel_rfl) (by kernel_rfl) (by kernel_rfl) (by omega) (0 + (x27).toNat * 1) (by omega) (some 116) (by kernel_rfl) (by kernel_rfl) (by kernel_rfl) (K' := [(116, i6 (x25.getD ((x27).toNat) 0)), (115, pt (nx0 + 1) (0 + (x27).toNat * 1)), (114, i6 x27), (113, .func (.func 40) #[] #[pt (nx2 + 1) 0, pt nx0 0, pt (nx0 + 3) 0, pt (nx0 + 1) 0]), (1, pt gb1 0), (2, i6 a2), (3, pt nx0 0), (6, pt (nx0 + 1) 0), (7, pt (nx0 + 2) 0), (8, pt (nx0 + 3) 0), (11, pt (nx2 + 1) 0), (14, i6 x27)]) (by kernel_rfl) ?_
      refine RL.arrange (L' := [⟨nx2 + 1, [.slice A2 x22.length c2], 23⟩, ⟨nx0, [pt gb0 0], 64⟩, ⟨gb0, ((arrV (Value.int .i64) 0 12 x16) ++ ((arrV (Value.int .i64) 0 12 x17) ++ (arrV (Value.int .i64) 0 12 x18))), 58⟩, ⟨nx0 + 3, arrV Value.bool false 12 x21, 70⟩, ⟨nx0 + 1, arrV (Value.int .i64) 0 12 x25, 52⟩, ⟨gb1, arrV (Value.int .i64) 0 144 b1, 54⟩, ⟨nx0 + 2, arrV (Value.int .i64) 0 12 x26, 56⟩]) (X' := [orow 3 1 A2 x22.length c2 cs2]) [6, 2, 0, 5, 3, 1, 4] [0] (by kernel_rfl) (by kernel_rfl) (by kernel_rfl) (by kernel_rfl) ?_
      obtain ⟨t1, hA1, H⟩ := bnd H
      refine RL.callM (L1 := [⟨nx2 + 1, [.slice A2 x22.length c2], 23⟩, ⟨nx0, [pt gb0 0], 64⟩, ⟨gb0, ((arrV (Value.int .i64) 0 12 x16) ++ ((arrV (Value.int .i64) 0 12 x17) ++ (arrV (Value.int .i64) 0 12 x18))), 58⟩, ⟨nx0 + 3, arrV Value.bool false 12 x21, 70⟩, ⟨nx0 + 1, arrV (Value.int .i64) 0 12 x25, 52⟩]) (L2 := [⟨gb1, arrV (Value.int .i64) 0 144 b1, 54⟩, ⟨nx0 + 2, arrV (Value.int .i64) 0 12 x26, 56⟩]) (X1 := [orow 3 1 A2 x22.length c2 cs2]) (X2 := []) rfl rfl 40 [i6 (x25.getD ((x27).toNat) 0), pt (nx2 + 1) 0, pt nx0 0, pt (nx0 + 3) 0, pt (nx0 + 1) 0] (some 117) (fun w => assign_solution_augment_1s0.Post (SM [⟨nx2 + 1, [.slice A2 x22.length c2], 23⟩, ⟨nx0, [pt gb0 0], 64⟩, ⟨gb0, ((arrV (Value.int .i64) 0 12 x16) ++ ((arrV (Value.int .i64) 0 12 x17) ++ (arrV (Value.int .i64) 0 12 x18))), 58⟩, ⟨nx0 + 3, arrV Value.bool false 12 x21, 70⟩, ⟨nx0 + 1, arrV (Value.int .i64) 0 12 x25, 52⟩] [orow 3 1 A2 x22.length c2 cs2]) (nx2 + 1) nx0 gb0 (nx0 + 3) (nx0 + 1) (x25.getD ((x27).toNat) 0) x22 A2 c2 cs2 (⟨x16, x17, x18⟩ : S58) x21 x25 I9 w t1) (by kernel_rfl) (by kernel_rfl) (fun w hs => assign_solution_augment_1s0.calls kq2 I9 (nx2 + 1) nx0 gb0 (nx0 + 3) (nx0 + 1) (x25.getD ((x27).toNat) 0) x22 A2 c2 cs2 (⟨x16, x17, x18⟩ : S58) x21 x25 w hs (Reps.ext hi9 hp2) hz13 hz14 hz15 hz18 hz19 t1 hA1) ?_
      rintro w v w' hs ⟨I10, rfl, hg, hz21, hz22, hz23, hz24⟩
      have hi10 : Imm.le I9 I10 := hg.le
      refine RL.resume (L' := [⟨nx2 + 1, [.slice A2 x22.length c2], 23⟩, ⟨nx0, [pt gb0 0], 64⟩, ⟨gb0, ((arrV (Value.int .i64) 0 12 t1.1.f0) ++ ((arrV (Value.int .i64) 0 12 t1.1.f1) ++ (arrV (Value.int .i64) 0 12 t1.1.f2))), 58⟩, ⟨nx0 + 3, arrV Value.bool false 12 x21, 70⟩, ⟨nx0 + 1, arrV (Value.int .i64) 0 12 t1.2, 52⟩, ⟨gb1, arrV (Value.int .i64) 0 144 b1, 54⟩, ⟨nx0 + 2, arrV (Value.int .i64) 0 12 x26, 56⟩]) (X' := [orow 3 1 A2 x22.length c2 cs2]) rfl (hs.outof hg) ?_
      clear hs hg
      generalize w'.heap.size = nx10
      clear w w'
      refine RL.nil (by kernel_rfl) ?_
      refine QN.sub (K' := [(1, pt gb1 0), (2, i6 a2), (3, pt nx0 0), (6, pt (nx0 + 1) 0), (7, pt (nx0 + 2) 0), (8, pt (nx0 + 3) 0), (11, pt (nx2 + 1) 0), (14, i6 x27)]) (L' := [⟨nx2 + 1, [.slice A2 x22.length c2], 23⟩, ⟨nx0, [pt gb0 0], 64⟩, ⟨gb0, ((arrV (Value.int .i64) 0 12 t1.1.f0) ++ ((arrV (Value.int .i64) 0 12 t1.1.f1) ++ (arrV (Value.int .i64) 0 12 t1.1.f2))), 58⟩, ⟨nx0 + 3, arrV Value.bool false 12 x21, 70⟩, ⟨nx0 + 1, arrV (Value.int .i64) 0 12 t1.2, 52⟩, ⟨gb1, arrV (Value.int .i64) 0 144 b1, 54⟩, ⟨nx0 + 2, arrV (Value.int .i64) 0 12 x26, 56⟩]) (by kernel_rfl) (.cons_cons _ (.cons_cons _ (.cons_cons _ (.cons_cons _ (.cons_cons _ (.cons_cons _ (.cons_cons _ .slnil))))))) (.refl _) ?_
      refine QN.then_ ?_
      refine OK.sr ?_
      refine RL.s 2 [(119, i6 x27), (118, i6 x27), (1, pt gb1 0), (2, i6 a2), (3, pt nx0 0), (6, pt (nx0 + 1) 0), (7, pt (nx0 + 2) 0), (8, pt (nx0 + 3) 0), (11, pt (nx2 + 1) 0), (14, i6 x27)] ?_
      obtain ⟨hib0, H⟩ := ifs H
      obtain ⟨hib1, H⟩ := ifs H
      have ha05 := hib0; have ha15 := hib1
      refine RL.idxArr (T := 70) (e := 4) 1 .i64 x27 (nx0 + 3) (0) 12 (some 120) (by kernel_rfl) (by kernel_rfl) (by kernel_rfl) (by kernel_rfl) hib0 hib1 (K' := [(120, pt (nx0 + 3) (0 + (x27).toNat * 1)), (119, i6 x27), (118, i6 x27), (1, pt gb1 0), (2, i6 a2), (3, pt nx0 0), (6, pt (nx0 + 1) 0), (7, pt (nx0 + 2) 0), (8, pt (nx0 + 3) 0), (11, pt (nx2 + 1) 0), (14, i6 x27)]) (by kernel_rfl) ?_
      refine RL.stA (g := nx0 + 3) (ty := 70) (cs := arrV Value.bool false 12 x21) Value.bool false 12 x21 true [] [] 0 ((x27).toNat) 3 (by kernel_rfl) (by kernel_rfl) (by kernel_rfl) (by omega) hz18 (0 + (x27).toNat * 1) (by omega) 4 (by kernel_rfl) (by kernel_rfl) (by kernel_rfl) (by rfl) (fun _ h => by cases h) (fun _ h => by cases h) (cs' := arrV Value.bool false 12 (x21.set ((x27).toNat) true)) (by kernel_rfl) ?_
      refine RL.st 1 [(12, i6 x27), (1, pt gb1 0), (2, i6 a2), (3, pt nx0 0), (6, pt (nx0 + 1) 0), (7, pt (nx0 + 2) 0), (8, pt (nx0 + 3) 0), (11, pt (nx2 + 1) 0), (14, i6 x27)] ?_
      refine OK.sq ?_
      refine OK.sr ?_
      refine RL.simK (K' := [(124, pt gb0 0), (122, i6 x27), (12, i6 x27), (1, pt gb1 0), (2, i6 a2), (3, pt nx0 0), (6, pt (nx0 + 1) 0), (7, pt (nx0 + 2) 0), (8, pt (nx0 + 3) 0), (11, pt (nx2 + 1) 0), (14, i6 x27)]) [] (RFacts.nil _ _ _) 4 [.l 1, .no, .no, .no] (by kernel_rfl) (by kernel_rfl) ?_
      obtain ⟨hib0, H⟩ := ifs H
      obtain ⟨hib1, H⟩ := ifs H
      have ha06 := hib0; have ha16 := hib1
      refine RL.idxArr (T := 56) (e := 3) 1 .i64 x27 gb0 (0) 12 (some 125) (by kernel_rfl) (by kernel_rfl) (by kernel_rfl) (by kernel_rfl) hib0 hib1 (K' := [(125, pt gb0 (0 + (x27).toNat * 1)), (124, pt gb0 0), (122, i6 x27), (12, i6 x27), (1, pt gb1 0), (2, i6 a2), (3, pt nx0 0), (6, pt (nx0 + 1) 0), (7, pt (nx0 + 2) 0), (8, pt (nx0 + 3) 0), (11, pt (nx2 + 1) 0), (14, i6 x27)]) (by kernel_rfl) ?_
      refine RL.ldA (g := gb0) (ty := 58) (cs := ((arrV (Value.int .i64) 0 12 t1.1.f0) ++ ((arrV (Value.int .i64) 0 12 t1.1.f1) ++ (arrV (Value.int .i64) 0 12 t1.1.f2)))) (Value.int .i64) 0 12 t1.1.f0 [] ((arrV (Value.int .i64) 0 12 t1.1.f1) ++ (arrV (Value.int .i64) 0 12 t1.1.f2)) 0 ((x27).toNat) 2 (by kernel_rfl) (by kernel_rfl) (by kernel_rfl) (by omega) (0 + (x27).toNat * 1) (by omega) (some 126) (by kernel_rfl) (by kernel_rfl) (by kernel_rfl) (K' := [(126, i6 (t1.1.f0.getD ((x27).toNat) 0)), (125, pt gb0 (0 + (x27).toNat * 1)), (124, pt gb0 0), (122, i6 x27), (12, i6 x27), (1, pt gb1 0), (2, i6 a2), (3, pt nx0 0), (6, pt (nx0 + 1) 0), (7, pt (nx0 + 2) 0), (8, pt (nx0 + 3) 0), (11, pt (nx2 + 1) 0), (14, i6 x27)]) (by kernel_rfl) ?_
      refine RL.st 1 [(127, .bool ((t1.1.f0.getD ((x27).toNat) 0) == (-1))), (12, i6 x27), (1, pt gb1 0), (2, i6 a2), (3, pt nx0 0), (6, pt (nx0 + 1) 0), (7, pt (nx0 + 2) 0), (8, pt (nx0 + 3) 0), (11, pt (nx2 + 1) 0), (14, i6 x27)] ?_
      refine OK.cd ((t1.1.f0.getD ((x27).toNat) 0) == (-1)) (fun hb => ?_) (fun hb => ?_)
      ·skip
       have hc := (beq_iff_eq.1 hb)
       rw [if_pos hc] at H
       clear hb
       refine OK.ex 4 ?_
       refine QN.thenE ?_
       refine QN.blkX (by decide) ?_
       refine QN.outE hQ7 ?_
       refine QN.blkE ?_
       obtain rfl := Option.some.inj H
       refine QN.arrange (L' := [⟨gb0, ((arrV (Value.int .i64) 0 12 t1.1.f0) ++ ((arrV (Value.int .i64) 0 12 t1.1.f1) ++ (arrV (Value.int .i64) 0 12 t1.1.f2))), 58⟩, ⟨gb1, arrV (Value.int .i64) 0 144 b1, 54⟩, ⟨nx0, [pt gb0 0], 64⟩, ⟨nx0 + 1, arrV (Value.int .i64) 0 12 t1.2, 52⟩, ⟨nx0 + 2, arrV (Value.int .i64) 0 12 x26, 56⟩, ⟨nx0 + 3, arrV Value.bool false 12 (x21.set ((x27).toNat) true), 70⟩, ⟨nx2 + 1, [.slice A2 x22.length c2], 23⟩]) (X' := [orow 3 1 A2 x22.length c2 cs2]) [2, 5, 1, 4, 6, 3, 0] [0] (by kernel_rfl) (by kernel_rfl) (by kernel_rfl) (by kernel_rfl) ?_
       exact QN.sb (hJ3 _ _ _ _ _ ⟨t1.1.f0, t1.1.f1, t1.1.f2, t1.2, x26, (x21.set ((x27).toNat) true), x22, x27, A2, c2, cs2, rfl, rfl, rfl, (Imm.le_trans (Imm.le_trans hi8 hi9) hi10), hz21, hz22, hz23, hz24, hz20, (le_set hz18), (Reps.ext (Imm.le_trans hi9 hi10) hp2), HK3⟩) (.cons_cons _ (.cons_cons _ (.cons_cons _ (.cons_cons _ (.cons_cons _ (.cons_cons _ (.cons_cons _ .slnil))))))) (.refl _)
      ·skip
       have hc := (beq_eq_false_iff_ne.1 hb)
       rw [if_neg hc] at H
       clear hb
       refine OK.skt ?_
       refine OK.sr ?_
       refine RL.simK (K' := [(131, pt gb0 0), (129, i6 x27), (12, i6 x27), (1, pt gb1 0), (2, i6 a2), (3, pt nx0 0), (6, pt (nx0 + 1) 0), (7, pt (nx0 + 2) 0), (8, pt (nx0 + 3) 0), (11, pt (nx2 + 1) 0)]) [] (RFacts.nil _ _ _) 4 [.l 1, .no, .no, .no] (by kernel_rfl) (by kernel_rfl) ?_
       obtain ⟨hib0, H⟩ := ifs H
       obtain ⟨hib1, H⟩ := ifs H
       have ha07 := hib0; have ha17 := hib1
       refine RL.idxArr (T := 56) (e := 3) 1 .i64 x27 gb0 (0) 12 (some 132) (by kernel_rfl) (by kernel_rfl) (by kernel_rfl) (by kernel_rfl) hib0 hib1 (K' := [(132, pt gb0 (0 + (x27).toNat * 1)), (131, pt gb0 0), (129, i6 x27), (12, i6 x27), (1, pt gb1 0), (2, i6 a2), (3, pt nx0 0), (6, pt (nx0 + 1) 0), (7, pt (nx0 + 2) 0), (8, pt (nx0 + 3) 0), (11, pt (nx2 + 1) 0)]) (by kernel_rfl) ?_
       refine RL.ldA (g := gb0) (ty := 58) (cs := ((arrV (Value.int .i64) 0 12 t1.1.f0) ++ ((arrV (Value.int .i64) 0 12 t1.1.f1) ++ (arrV (Value.int .i64) 0 12 t1.1.f2)))) (Value.int .i64) 0 12 t1.1.f0 [] ((arrV (Value.int .i64) 0 12 t1.1.f1) ++ (arrV (Value.int .i64) 0 12 t1.1.f2)) 0 ((x27).toNat) 2 (by kernel_rfl) (by kernel_rfl) (by kernel_rfl) (by omega) (0 + (x27).toNat * 1) (by omega) (some 133) (by kernel_rfl) (by kernel_rfl) (by kernel_rfl) (K' := [(133, i6 (t1.1.f0.getD ((x27).toNat) 0)), (132, pt gb0 (0 + (x27).toNat * 1)), (131, pt gb0 0), (129, i6 x27), (12, i6 x27), (1, pt gb1 0), (2, i6 a2), (3, pt nx0 0), (6, pt (nx0 + 1) 0), (7, pt (nx0 + 2) 0), (8, pt (nx0 + 3) 0), (11, pt (nx2 + 1) 0)]) (by kernel_rfl) ?_
       refine RL.st 1 [(13, i6 (t1.1.f0.getD ((x27).toNat) 0)), (12, i6 x27), (1, pt gb1 0), (2, i6 a2), (3, pt nx0 0), (6, pt (nx0 + 1) 0), (7, pt (nx0 + 2) 0), (8, pt (nx0 + 3) 0), (11, pt (nx2 + 1) 0)] ?_
       refine OK.rg ?_
       refine RL.simP (K' := [(136, .slice (some ⟨nx10, 0, none⟩) 1 1), (134, .slice A2 x22.length c2), (13, i6 (t1.1.f0.getD ((x27).toNat) 0)), (12, i6 x27), (1, pt gb1 0), (2, i6 a2), (3, pt nx0 0), (6, pt (nx0 + 1) 0), (7, pt (nx0 + 2) 0), (8, pt (nx0 + 3) 0), (11, pt (nx2 + 1) 0)]) (nx' := nx10 + 1) (L' := [⟨nx2 + 1, [.slice A2 x22.length c2], 23⟩, ⟨nx0, [pt gb0 0], 64⟩, ⟨gb0, ((arrV (Value.int .i64) 0 12 t1.1.f0) ++ ((arrV (Value.int .i64) 0 12 t1.1.f1) ++ (arrV (Value.int .i64) 0 12 t1.1.f2))), 58⟩, ⟨nx0 + 3, arrV Value.bool false 12 (x21.set ((x27).toNat) true), 70⟩, ⟨nx0 + 1, arrV (Value.int .i64) 0 12 t1.2, 52⟩, ⟨gb1, arrV (Value.int .i64) 0 144 b1, 54⟩, ⟨nx0 + 2, arrV (Value.int .i64) 0 12 x26, 56⟩, ⟨nx10, [i6 (t1.1.f0.getD ((x27).toNat) 0)], 3⟩]) [] (RFacts.nil _ _ _) 3 [.l 0, .no, .no] (by kernel_rfl) (by kernel_rfl) ?_
       obtain ⟨hz25, H⟩ := ifs H
       refine RL.appendB (T := 23) (e := 3) (S := A2) 1 8 23 c2 7 1 nx10 3 cs2 [i6 (t1.1.f0.getD ((x27).toNat) 0)] (Ty.int .i64) x22 [(t1.1.f0.getD ((x27).toNat) 0)] 0 (some 137) (by kernel_rfl) (by kernel_rfl) (by kernel_rfl) (by kernel_rfl) (by kernel_rfl) (by decide) (by kernel_rfl) (Reps.ext (Imm.le_trans hi9 hi10) hp2) (by kernel_rfl) ⟨_, _, rfl, rfl, rfl⟩ hz25 (by omega) (fun A3 c3 nx11 cs3 hp3 => ?_)
       refine RL.sub (K' := [(137, .slice A3 ((x22 ++ [(t1.1.f0.getD ((x27).toNat) 0)]).length) c3), (136, .slice (some ⟨nx10, 0, none⟩) 1 1), (13, i6 (t1.1.f0.getD ((x27).toNat) 0)), (12, i6 x27), (1, pt gb1 0), (2, i6 a2), (3, pt nx0 0), (6, pt (nx0 + 1) 0), (7, pt (nx0 + 2) 0), (8, pt (nx0 + 3) 0), (11, pt (nx2 + 1) 0)]) (L' := [⟨nx2 + 1, [.slice A2 x22.length c2], 23⟩, ⟨nx0, [pt gb0 0], 64⟩, ⟨gb0, ((arrV (Value.int .i64) 0 12 t1.1.f0) ++ ((arrV (Value.int .i64) 0 12 t1.1.f1) ++ (arrV (Value.int .i64) 0 12 t1.1.f2))), 58⟩, ⟨nx0 + 3, arrV Value.bool false 12 (x21.set ((x27).toNat) true), 70⟩, ⟨nx0 + 1, arrV (Value.int .i64) 0 12 t1.2, 52⟩, ⟨gb1, arrV (Value.int .i64) 0 144 b1, 54⟩, ⟨nx0 + 2, arrV (Value.int .i64) 0 12 x26, 56⟩, ⟨nx10, [i6 (t1.1.f0.getD ((x27).toNat) 0)], 3⟩]) (X' := [orow 3 1 A3 ((x22 ++ [(t1.1.f0.getD ((x27).toNat) 0)]).length) c3 cs3]) (by kernel_rfl) (.refl _) (.refl _) ?_
       refine RL.simP (K' := [(13, i6 (t1.1.f0.getD ((x27).toNat) 0)), (12, i6 x27), (1, pt gb1 0), (2, i6 a2), (3, pt nx0 0), (6, pt (nx0 + 1) 0), (7, pt (nx0 + 2) 0), (8, pt (nx0 + 3) 0), (11, pt (nx2 + 1) 0)]) (nx' := nx11) (L' := [⟨nx2 + 1, [.slice A3 ((x22 ++ [(t1.1.f0.getD ((x27).toNat) 0)]).length) c3], 23⟩, ⟨nx0, [pt gb0 0], 64⟩, ⟨gb0, ((arrV (Value.int .i64) 0 12 t1.1.f0) ++ ((arrV (Value.int .i64) 0 12 t1.1.f1) ++ (arrV (Value.int .i64) 0 12 t1.1.f2))), 58⟩, ⟨nx0 + 3, arrV Value.bool false 12 (x21.set ((x27).toNat) true), 70⟩, ⟨nx0 + 1, arrV (Value.int .i64) 0 12 t1.2, 52⟩, ⟨gb1, arrV (Value.int .i64) 0 144 b1, 54⟩, ⟨nx0 + 2, arrV (Value.int .i64) 0 12 x26, 56⟩, ⟨nx10, [i6 (t1.1.f0.getD ((x27).toNat) 0)], 3⟩]) [] (RFacts.nil _ _ _) 1 [.l 0] (by kernel_rfl) (by kernel_rfl) ?_
       refine RL.nil (by kernel_rfl) ?_
       refine QN.blkN ?_
       refine QN.arrange (L' := [⟨gb0, ((arrV (Value.int .i64) 0 12 t1.1.f0) ++ ((arrV (Value.int .i64) 0 12 t1.1.f1) ++ (arrV (Value.int .i64) 0 12 t1.1.f2))), 58⟩, ⟨gb1, arrV (Value.int .i64) 0 144 b1, 54⟩, ⟨nx0, [pt gb0 0], 64⟩, ⟨nx0 + 1, arrV (Value.int .i64) 0 12 t1.2, 52⟩, ⟨nx0 + 2, arrV (Value.int .i64) 0 12 x26, 56⟩, ⟨nx0 + 3, arrV Value.bool false 12 (x21.set ((x27).toNat) true), 70⟩, ⟨nx2 + 1, [.slice A3 ((x22 ++ [(t1.1.f0.getD ((x27).toNat) 0)]).length) c3], 23⟩]) (X' := [orow 3 1 A3 ((x22 ++ [(t1.1.f0.getD ((x27).toNat) 0)]).length) c3 cs3]) [2, 5, 1, 4, 6, 3, 0] [0] (by kernel_rfl) (by kernel_rfl) (by kernel_rfl) (by kernel_rfl) ?_
       exact QN.sb (hJ7 _ _ _ _ _ ⟨t1.1.f0, t1.1.f1, t1.1.f2, t1.2, x26, (x21.set ((x27).toNat) true), (x22 ++ [(t1.1.f0.getD ((x27).toNat) 0)]), x27, (t1.1.f0.getD ((x27).toNat) 0), A3, c3, cs3, rfl, rfl, rfl, (Imm.le_trans (Imm.le_trans hi8 hi9) hi10), hz21, hz22, hz23, hz24, hz20, (le_set hz18), hp3, H⟩) (.cons_cons _ (.cons_cons _ (.cons_cons _ (.cons_cons _ (.cons_cons _ (.cons_cons _ (.cons_cons _ .slnil))))))) (.refl _)
     ·intro Q_4 hJ8 hQ8
      obtain ⟨y6, H, HK6⟩ := bnd H
      refine OK.bk 6 ?_
      refine OK.sub (K' := [(1, pt gb1 0), (2, i6 a2), (3, pt nx0 0), (6, pt (nx0 + 1) 0), (7, pt (nx0 + 2) 0), (8, pt (nx0 + 3) 0), (11, pt (nx2 + 1) 0), (12, i6 x23), (13, i6 x24), (14, i6 (-1)), (61, i6 0)]) (L' := [⟨gb0, ((arrV (Value.int .i64) 0 12 x16) ++ ((arrV (Value.int .i64) 0 12 x17) ++ (arrV (Value.int .i64) 0 12 x18))), 58⟩, ⟨gb1, arrV (Value.int .i64) 0 144 b1, 54⟩, ⟨nx0, [pt gb0 0], 64⟩, ⟨nx0 + 1, arrV (Value.int .i64) 0 12 x19, 52⟩, ⟨nx0 + 2, arrV (Value.int .i64) 0 12 x20, 56⟩, ⟨nx0 + 3, arrV Value.bool false 12 x21, 70⟩, ⟨nx2 + 1, [.slice A2 x22.length c2], 23⟩]) (by kernel_rfl) (.cons_cons _ (.cons_cons _ (.cons_cons _ (.cons_cons _ (.cons_cons _ (.cons_cons _ (.cons_cons _ .slnil))))))) (.refl _) ?_
      refine OK.lp (fun n_ K' I' _ L' X' => ∃ (x28 : List Int) (x29 : List Int) (x30 : Int) (x31 : Int), K' = [(1, pt gb1 0), (2, i6 a2), (3, pt nx0 0), (6, pt (nx0 + 1) 0), (7, pt (nx0 + 2) 0), (8, pt (nx0 + 3) 0), (11, pt (nx2 + 1) 0), (12, i6 x23), (13, i6 x24), (14, i6 x30), (61, i6 x31)] ∧ L' = [⟨gb0, ((arrV (Value.int .i64) 0 12 x16) ++ ((arrV (Value.int .i64) 0 12 x17) ++ (arrV (Value.int .i64) 0 12 x18))), 58⟩, ⟨gb1, arrV (Value.int .i64) 0 144 b1, 54⟩, ⟨nx0, [pt gb0 0], 64⟩, ⟨nx0 + 1, arrV (Value.int .i64) 0 12 x28, 52⟩, ⟨nx0 + 2, arrV (Value.int .i64) 0 12 x29, 56⟩, ⟨nx0 + 3, arrV Value.bool false 12 x21, 70⟩, ⟨nx2 + 1, [.slice A2 x22.length c2], 23⟩] ∧ X' = [orow 3 1 A2 x22.length c2 cs2] ∧ Imm.le I8 I' ∧ 12 ≤ x28.length ∧ 12 ≤ x29.length ∧ assign_solution_augments0.l3 b1 x17 x18 x21 x23 x24 n_ x28 x29 x30 x31 = some y6) kq2 ⟨x19, x20, (-1), 0, rfl, rfl, rfl, (Imm.le_refl _), hz16, hz17, H⟩ ?_ ?_
      ·rintro _ _ _ _ _ ⟨x28, x29, x30, x31, rfl, rfl, rfl, _, hz26, hz27, H⟩
       cases H
      ·rintro kq3 _ I11 nx12 _ _ ⟨x28, x29, x30, x31, rfl, rfl, rfl, hi11, hz26, hz27, H⟩ Q_l3 hJ9 hQ9
       rw [assign_solution_augments0.l3] at H
       refine OK.sr ?_
       refine RL.st 1 [(62, .bool (decide (x31 < 12))), (1, pt gb1 0), (2, i6 a2), (3, pt nx0 0), (6, pt (nx0 + 1) 0), (7, pt (nx0 + 2) 0), (8, pt (nx0 + 3) 0), (11, pt (nx2 + 1) 0), (12, i6 x23), (13, i6 x24), (14, i6 x30), (61, i6 x31)] ?_
       refine OK.sq ?_
       refine OK.cd (decide (x31 < 12)) (fun hb => ?_) (fun hb => ?_)
       ·skip
        have hc := (of_decide_eq_true hb)
        rw [if_pos hc] at H
        clear hb
        refine OK.skt ?_
        refine OK.sq ?_
        refine OK.join (fun K' I' _ L' X' => ∃ (x32 : List Int) (x33 : List Int) (x34 : Int), K' = [(1, pt gb1 0), (2, i6 a2), (3, pt nx0 0), (6, pt (nx0 + 1) 0), (7, pt (nx0 + 2) 0), (8, pt (nx0 + 3) 0), (11, pt (nx2 + 1) 0), (12, i6 x23), (13, i6 x24), (14, i6 x34), (61, i6 x31)] ∧ L' = [⟨gb0, ((arrV (Value.int .i64) 0 12 x16) ++ ((arrV (Value.int .i64) 0 12 x17) ++ (arrV (Value.int .i64) 0 12 x18))), 58⟩, ⟨gb1, arrV (Value.int .i64) 0 144 b1, 54⟩, ⟨nx0, [pt gb0 0], 64⟩, ⟨nx0 + 1, arrV (Value.int .i64) 0 12 x32, 52⟩, ⟨nx0 + 2, arrV (Value.int .i64) 0 12 x33, 56⟩, ⟨nx0 + 3, arrV Value.bool false 12 x21, 70⟩, ⟨nx2 + 1, [.slice A2 x22.length c2], 23⟩] ∧ X' = [orow 3 1 A2 x22.length c2 cs2] ∧ Imm.le I11 I' ∧ 12 ≤ x32.length ∧ 12 ≤ x33.length ∧ (assign_solution_augments0.l3 b1 x17 x18 x21 x23 x24 kq3 x32 x33 x34 (W .i64 (x31 + 1))) = some y6) ?_ ?_
        ·rintro _ I12 nx13 _ _ ⟨x32, x33, x34, rfl, rfl, rfl, hi12, hz28, hz29, H⟩
         replace H : (assign_solution_augments0.l3 b1 x17 x18 x21 x23 x24 kq3 x32 x33 x34 (W .i64 (x31 + 1))) = some y6 := H
         refine QN.then_ ?_
         refine OK.rg ?_
         refine RL.s 2 [(61, i6 (W .i64 (x31 + 1))), (1, pt gb1 0), (2, i6 a2), (3, pt nx0 0), (6, pt (nx0 + 1) 0), (7, pt (nx0 + 2) 0), (8, pt (nx0 + 3) 0), (11, pt (nx2 + 1) 0), (12, i6 x23), (13, i6 x24), (14, i6 x34)] ?_
         refine RL.nil (by kernel_rfl) ?_
         exact QN.sb (hJ9 _ _ _ _ _ ⟨x32, x33, x34, W .i64 (x31 + 1), rfl, rfl, rfl, (Imm.le_trans hi11 hi12), hz28, hz29, H⟩) (.cons_cons _ (.cons_cons _ (.cons_cons _ (.cons_cons _ (.cons_cons _ (.cons_cons _ (.cons_cons _ .slnil))))))) (.refl _)
        ·intro Q_5 hJ10 hQ10
         obtain ⟨y7, H, HK7⟩ := bnd H
         refine OK.bk 7 ?_
         refine OK.sr ?_
         refine RL.st 2 [(15, i6 x31), (1, pt gb1 0), (2, i6 a2), (3, pt nx0 0), (6, pt (nx0 + 1) 0), (7, pt (nx0 + 2) 0), (8, pt (nx0 + 3) 0), (11, pt (nx2 + 1) 0), (12, i6 x23), (13, i6 x24), (14, i6 x30), (61, i6 x31)] ?_
         refine OK.sq ?_
         refine OK.sr ?_
         refine RL.s 1 [(64, i6 x31), (15, i6 x31), (1, pt gb1 0), (2, i6 a2), (3, pt nx0 0), (6, pt (nx0 + 1) 0), (7, pt (nx0 + 2) 0), (8, pt (nx0 + 3) 0), (11, pt (nx2 + 1) 0), (12, i6 x23), (13, i6 x24), (14, i6 x30), (61, i6 x31)] ?_
         obtain ⟨hib0, H⟩ := ifs H
         obtain ⟨hib1, H⟩ := ifs H
         have ha08 := hib0; have ha18 := hib1
         refine RL.idxArr (T := 70) (e := 4) 1 .i64 x31 (nx0 + 3) (0) 12 (some 65) (by kernel_rfl) (by kernel_rfl) (by kernel_rfl) (by kernel_rfl) hib0 hib1 (K' := [(65, pt (nx0 + 3) (0 + (x31).toNat * 1)), (64, i6 x31), (15, i6 x31), (1, pt gb1 0), (2, i6 a2), (3, pt nx0 0), (6, pt (nx0 + 1) 0), (7, pt (nx0 + 2) 0), (8, pt (nx0 + 3) 0), (11, pt (nx2 + 1) 0), (12, i6 x23), (13, i6 x24), (14, i6 x30), (61, i6 x31)]) (by kernel_rfl) ?_
         refine RL.ldA (g := nx0 + 3) (ty := 70) (cs := arrV Value.bool false 12 x21) Value.bool false 12 x21 [] [] 0 ((x31).toNat) 5 (by kernel_rfl) (by kernel_rfl) (by kernel_rfl) (by omega) (0 + (x31).toNat * 1) (by omega) (some 66) (by kernel_rfl) (by kernel_rfl) (by kernel_rfl) (K' := [(66, .bool (x21.getD ((x31).toNat) false)), (65, pt (nx0 + 3) (0 + (x31).toNat * 1)), (64, i6 x31), (15, i6 x31), (1, pt gb1 0), (2, i6 a2), (3, pt nx0 0), (6, pt (nx0 + 1) 0), (7, pt (nx0 + 2) 0), (8, pt (nx0 + 3) 0), (11, pt (nx2 + 1) 0), (12, i6 x23), (13, i6 x24), (14, i6 x30), (61, i6 x31)]) (by kernel_rfl) ?_
         refine RL.nil (by kernel_rfl) ?_
         refine QN.sub (K' := [(66, .bool (x21.getD ((x31).toNat) false)), (15, i6 x31), (1, pt gb1 0), (2, i6 a2), (3, pt nx0 0), (6, pt (nx0 + 1) 0), (7, pt (nx0 + 2) 0), (8, pt (nx0 + 3) 0), (11, pt (nx2 + 1) 0), (12, i6 x23), (13, i6 x24), (14, i6 x30), (61, i6 x31)]) (L' := [⟨gb0, ((arrV (Value.int .i64) 0 12 x16) ++ ((arrV (Value.int .i64) 0 12 x17) ++ (arrV (Value.int .i64) 0 12 x18))), 58⟩, ⟨gb1, arrV (Value.int .i64) 0 144 b1, 54⟩, ⟨nx0, [pt gb0 0], 64⟩, ⟨nx0 + 1, arrV (Value.int .i64) 0 12 x28, 52⟩, ⟨nx0 + 2, arrV (Value.int .i64) 0 12 x29, 56⟩, ⟨nx0 + 3, arrV Value.bool false 12 x21, 70⟩, ⟨nx2 + 1, [.slice A2 x22.length c2], 23⟩]) (by kernel_rfl) (.cons_cons _ (.cons_cons _ (.cons_cons _ (.cons_cons _ (.cons_cons _ (.cons_cons _ (.cons_cons _ .slnil))))))) (.refl _) ?_
         refine QN.then_ ?_
         refine OK.cd (x21.getD ((x31).toNat) false) (fun hb => ?_) (fun hb => ?_)
         ·skip
          have hc := hb
          rw [if_pos hc] at H
          clear hb
          refine OK.ex 7 ?_
          refine QN.thenE ?_
          refine QN.blkE ?_
          obtain rfl := Option.some.inj H
          exact QN.sb (hJ10 _ _ _ _ _ ⟨x28, x29, x30, rfl, rfl, rfl, (Imm.le_refl _), hz26, hz27, HK7⟩) (.cons_cons _ (.cons_cons _ (.cons_cons _ (.cons_cons _ (.cons_cons _ (.cons_cons _ (.cons_cons _ .slnil))))))) (.refl _)
         ·skip
          have hc := (Bool.eq_false_iff.1 hb)
          rw [if_neg hc] at H
          clear hb
          refine OK.skt ?_
          refine OK.sq ?_
          refine OK.sq ?_
          obtain ⟨hi0_2, H⟩ := ifs H
          obtain ⟨hi1_2, H⟩ := ifs H
          obtain ⟨hi0_3, H⟩ := ifs H
          obtain ⟨hi1_3, H⟩ := ifs H
          obtain ⟨hi0_4, H⟩ := ifs H
          obtain ⟨hi1_4, H⟩ := ifs H
          obtain ⟨hi0_5, H⟩ := ifs H
          obtain ⟨hi1_5, H⟩ := ifs H
          refine OK.drawnC 21 20 O37s0_99 a37s0_99n (by kernel_rfl) (by kernel_rfl) u37d2l (u37d2g gb0 gb1 x24 x31) [(⟨gb0, 12 + (x24).toNat * 1, none⟩, i6 (x17.getD ((x24).toNat) 0)), (⟨gb0, 24 + (x31).toNat * 1, none⟩, i6 (x18.getD ((x31).toNat) 0)), (⟨gb1, 0 + (x24).toNat * 12 + (x31).toNat * 1, none⟩, i6 (b1.getD ((x24).toNat * 12 + (x31).toNat) 0))] (RI.arr (g := gb0) (ty := 58) (cs := ((arrV (Value.int .i64) 0 12 x16) ++ ((arrV (Value.int .i64) 0 12 x17) ++ (arrV (Value.int .i64) 0 12 x18)))) (Value.int .i64) 0 12 x17 (arrV (Value.int .i64) 0 12 x16) (arrV (Value.int .i64) 0 12 x18) 12 ((x24).toNat) 0 (by kernel_rfl) (by kernel_rfl) (by kernel_rfl) (by omega) (12 + (x24).toNat * 1) (by omega) (RI.arr (g := gb0) (ty := 58) (cs := ((arrV (Value.int .i64) 0 12 x16) ++ ((arrV (Value.int .i64) 0 12 x17) ++ (arrV (Value.int .i64) 0 12 x18)))) (Value.int .i64) 0 12 x18 ((arrV (Value.int .i64) 0 12 x16) ++ (arrV (Value.int .i64) 0 12 x17)) [] 24 ((x31).toNat) 0 (by kernel_rfl) (by kernel_rfl) (by kernel_rfl) (by omega) (24 + (x31).toNat * 1) (by omega) (RI.arr (g := gb1) (ty := 54) (cs := arrV (Value.int .i64) 0 144 b1) (Value.int .i64) 0 144 b1 [] [] 0 ((x24).toNat * 12 + (x31).toNat) 1 (by kernel_rfl) (by kernel_rfl) (by kernel_rfl) (by omega) (0 + (x24).toNat * 12 + (x31).toNat * 1) (by omega) (RI.nil _)))) [.l 2, .no, .no, .no, .no, .r 0, .l 2, .no, .no, .no, .no, .r 1, .no, .no, .no, .no, .no, .no, .no, .r 2] a37s0_99 a37s0_99o (by kernel_rfl) (by kernel_rfl) (u37d2s gb0 gb1 b1 x17 x18 x24 x31) (u37d2f nx0 gb0 gb1 a2 b1 nx2 x17 x18 x21 x23 x24 x30 x31 20) (u37d2v nx0 gb0 gb1 a2 b1 nx2 x16 x17 x18 x21 x22 A2 c2 x23 x24 x28 x29 x30 x31) (u37d2e nx0 gb0 gb1 a2 b1 nx2 x16 x17 x18 x21 x22 A2 c2 x23 x24 x28 x29 x30 x31) [] framesOk.nil ?_ [u37d2f nx0 gb0 gb1 a2 b1 nx2 x17 x18 x21 x23 x24 x30 x31 4, u37d2f nx0 gb0 gb1 a2 b1 nx2 x17 x18 x21 x23 x24 x30 x31 10, u37d2f nx0 gb0 gb1 a2 b1 nx2 x17 x18 x21 x23 x24 x30 x31 17, u37d2f nx0 gb0 gb1 a2 b1 nx2 x17 x18 x21 x23 x24 x30 x31 18] (framesOk.cons (fun u => rfl) (framesOk.cons (fun u => rfl) (framesOk.cons (fun u => rfl) (framesOk.cons (fun u => rfl) framesOk.nil)))) ?_ ?_
          ·refine LoudsG.nil
          ·refine Givens.cons (fun u w =>  ?_) (fun _ _ _ => rfl) (Givens.cons (fun u w =>  ?_) (fun _ _ _ => rfl) (Givens.cons (fun u w =>  ?_) (fun _ _ _ => rfl) (Givens.cons (fun u w =>  ?_) (fun _ _ _ => rfl) (Givens.nil))))
           ·exact giv_idxArr (T := 52) (e := 2) 1 .i64 x24 gb0 (12) 12 (by kernel_rfl) (by kernel_rfl) (by kernel_rfl) hi0_2 hi1_2 w
           ·exact giv_idxArr (T := 52) (e := 2) 1 .i64 x31 gb0 (24) 12 (by kernel_rfl) (by kernel_rfl) (by kernel_rfl) hi0_3 hi1_3 w
           ·exact giv_idxArr (T := 54) (e := 52) 12 .i64 x24 gb1 (0) 12 (by kernel_rfl) (by kernel_rfl) (by kernel_rfl) hi0_4 hi1_4 w
           ·exact giv_idxArr (T := 52) (e := 2) 1 .i64 x31 gb1 (0 + (x24).toNat * 12) 12 (by kernel_rfl) (by kernel_rfl) (by kernel_rfl) hi0_5 hi1_5 w
          intro u I13 nx14 hi13 hF
          clear hF
          refine RL.norm (K' := ((86, i6 (b1.getD ((x24).toNat * 12 + (x31).toNat) 0)) :: (85, pt gb1 (0 + (x24).toNat * 12 + (x31).toNat * 1)) :: (84, pt gb1 (0 + (x24).toNat * 12)) :: (83, pt gb1 0) :: (82, i6 x31) :: (81, i6 x24) :: (80, pt gb1 0) :: (79, i6 (W .i64 ((x17.getD ((x24).toNat) 0) + (x18.getD ((x31).toNat) 0)))) :: (78, i6 (x18.getD ((x31).toNat) 0)) :: (77, pt gb0 (24 + (x31).toNat * 1)) :: (76, pt gb0 24) :: (75, pt gb0 0) :: (74, i6 x31) :: (73, pt gb0 0) :: (72, i6 (x17.getD ((x24).toNat) 0)) :: (71, pt gb0 (12 + (x24).toNat * 1)) :: (70, pt gb0 12) :: (69, pt gb0 0) :: (68, i6 x24) :: (67, pt gb0 0) :: (66, .bool (x21.getD ((x31).toNat) false)) :: (15, i6 x31) :: (1, pt gb1 0) :: (2, i6 a2) :: (3, pt nx0 0) :: (6, pt (nx0 + 1) 0) :: (7, pt (nx0 + 2) 0) :: (8, pt (nx0 + 3) 0) :: (11, pt (nx2 + 1) 0) :: (12, i6 x23) :: (13, i6 x24) :: (14, i6 x30) :: (61, i6 x31) :: [])) (X' := [orow 3 1 A2 x22.length c2 cs2]) (by kernel_rfl) rfl rfl rfl ?_
          refine RL.st 2 [(16, i6 (W .i64 ((W .i64 ((x17.getD ((x24).toNat) 0) + (x18.getD ((x31).toNat) 0))) - (b1.getD ((x24).toNat * 12 + (x31).toNat) 0)))), (15, i6 x31), (1, pt gb1 0), (2, i6 a2), (3, pt nx0 0), (6, pt (nx0 + 1) 0), (7, pt (nx0 + 2) 0), (8, pt (nx0 + 3) 0), (11, pt (nx2 + 1) 0), (12, i6 x23), (13, i6 x24), (14, i6 x30), (61, i6 x31)] ?_
          refine OK.sr ?_
          refine RL.s 2 [(89, i6 x31), (88, i6 (W .i64 ((W .i64 ((x17.getD ((x24).toNat) 0) + (x18.getD ((x31).toNat) 0))) - (b1.getD ((x24).toNat * 12 + (x31).toNat) 0)))), (16, i6 (W .i64 ((W .i64 ((x17.getD ((x24).toNat) 0) + (x18.getD ((x31).toNat) 0))) - (b1.getD ((x24).toNat * 12 + (x31).toNat) 0)))), (15, i6 x31), (1, pt gb1 0), (2, i6 a2), (3, pt nx0 0), (6, pt (nx0 + 1) 0), (7, pt (nx0 + 2) 0), (8, pt (nx0 + 3) 0), (11, pt (nx2 + 1) 0), (12, i6 x23), (13, i6 x24), (14, i6 x30), (61, i6 x31)] ?_
          obtain ⟨hib0, H⟩ := ifs H
          obtain ⟨hib1, H⟩ := ifs H
          have ha09 := hib0; have ha19 := hib1
          refine RL.idxArr (T := 52) (e := 2) 1 .i64 x31 (nx0 + 1) (0) 12 (some 90) (by kernel_rfl) (by kernel_rfl) (by kernel_rfl) (by kernel_rfl) hib0 hib1 (K' := [(90, pt (nx0 + 1) (0 + (x31).toNat * 1)), (89, i6 x31), (88, i6 (W .i64 ((W .i64 ((x17.getD ((x24).toNat) 0) + (x18.getD ((x31).toNat) 0))) - (b1.getD ((x24).toNat * 12 + (x31).toNat) 0)))), (16, i6 (W .i64 ((W .i64 ((x17.getD ((x24).toNat) 0) + (x18.getD ((x31).toNat) 0))) - (b1.getD ((x24).toNat * 12 + (x31).toNat) 0)))), (15, i6 x31), (1, pt gb1 0), (2, i6 a2), (3, pt nx0 0), (6, pt (nx0 + 1) 0), (7, pt (nx0 + 2) 0), (8, pt (nx0 + 3) 0), (11, pt (nx2 + 1) 0), (12, i6 x23), (13, i6 x24), (14, i6 x30), (61, i6 x31)]) (by kernel_rfl) ?_
          refine RL.ldA (g := nx0 + 1) (ty := 52) (cs := arrV (Value.int .i64) 0 12 x28) (Value.int .i64) 0 12 x28 [] [] 0 ((x31).toNat) 3 (by kernel_rfl) (by kernel_rfl) (by kernel_rfl) (by omega) (0 + (x31).toNat * 1) (by omega) (some 91) (by kernel_rfl) (by kernel_rfl) (by kernel_rfl) (K' := [(91, i6 (x28.getD ((x31).toNat) 0)), (90, pt (nx0 + 1) (0 + (x31).toNat * 1)), (89, i6 x31), (88, i6 (W .i64 ((W .i64 ((x17.getD ((x24).toNat) 0) + (x18.getD ((x31).toNat) 0))) - (b1.getD ((x24).toNat * 12 + (x31).toNat) 0)))), (16, i6 (W .i64 ((W .i64 ((x17.getD ((x24).toNat) 0) + (x18.getD ((x31).toNat) 0))) - (b1.getD ((x24).toNat * 12 + (x31).toNat) 0)))), (15, i6 x31), (1, pt gb1 0), (2, i6 a2), (3, pt nx0 0), (6, pt (nx0 + 1) 0), (7, pt (nx0 + 2) 0), (8, pt (nx0 + 3) 0), (11, pt (nx2 + 1) 0), (12, i6 x23), (13, i6 x24), (14, i6 x30), (61, i6 x31)]) (by kernel_rfl) ?_
          refine RL.st 1 [(92, .bool (decide ((W .i64 ((W .i64 ((x17.getD ((x24).toNat) 0) + (x18.getD ((x31).toNat) 0))) - (b1.getD ((x24).toNat * 12 + (x31).toNat) 0))) < (x28.getD ((x31).toNat) 0)))), (16, i6 (W .i64 ((W .i64 ((x17.getD ((x24).toNat) 0) + (x18.getD ((x31).toNat) 0))) - (b1.getD ((x24).toNat * 12 + (x31).toNat) 0)))), (15, i6 x31), (1, pt gb1 0), (2, i6 a2), (3, pt nx0 0), (6, pt (nx0 + 1) 0), (7, pt (nx0 + 2) 0), (8, pt (nx0 + 3) 0), (11, pt (nx2 + 1) 0), (12, i6 x23), (13, i6 x24), (14, i6 x30), (61, i6 x31)] ?_
          refine OK.join (fun K' I' _ L' X' => ∃ (x35 : List Int) (x36 : List Int), K' = [(1, pt gb1 0), (2, i6 a2), (3, pt nx0 0), (6, pt (nx0 + 1) 0), (7, pt (nx0 + 2) 0), (8, pt (nx0 + 3) 0), (11, pt (nx2 + 1) 0), (12, i6 x23), (13, i6 x24), (14, i6 x30), (15, i6 x31), (61, i6 x31)] ∧ L' = [⟨gb0, ((arrV (Value.int .i64) 0 12 x16) ++ ((arrV (Value.int .i64) 0 12 x17) ++ (arrV (Value.int .i64) 0 12 x18))), 58⟩, ⟨gb1, arrV (Value.int .i64) 0 144 b1, 54⟩, ⟨nx0, [pt gb0 0], 64⟩, ⟨nx0 + 1, arrV (Value.int .i64) 0 12 x35, 52⟩, ⟨nx0 + 2, arrV (Value.int .i64) 0 12 x36, 56⟩, ⟨nx0 + 3, arrV Value.bool false 12 x21, 70⟩, ⟨nx2 + 1, [.slice A2 x22.length c2], 23⟩] ∧ X' = [orow 3 1 A2 x22.length c2 cs2] ∧ Imm.le I13 I' ∧ 12 ≤ x35.length ∧ 12 ≤ x36.length ∧ assign_solution_augments0.k8 x30 x31 (x35, x36) = some y7) ?_ ?_
          ·rintro _ I14 nx15 _ _ ⟨x35, x36, rfl, rfl, rfl, hi14, hz30, hz31, H⟩
           rw [assign_solution_augments0.k8] at H
           refine QN.then_ ?_
           refine OK.sq ?_
           refine OK.join (fun K' I' _ L' X' => ∃ (x37 : Bool), K' = [(1, pt gb1 0), (2, i6 a2), (3, pt nx0 0), (6, pt (nx0 + 1) 0), (7, pt (nx0 + 2) 0), (8, pt (nx0 + 3) 0), (11, pt (nx2 + 1) 0), (12, i6 x23), (13, i6 x24), (14, i6 x30), (15, i6 x31), (61, i6 x31), (109, .bool x37)] ∧ L' = [⟨gb0, ((arrV (Value.int .i64) 0 12 x16) ++ ((arrV (Value.int .i64) 0 12 x17) ++ (arrV (Value.int .i64) 0 12 x18))), 58⟩, ⟨gb1, arrV (Value.int .i64) 0 144 b1, 54⟩, ⟨nx0, [pt gb0 0], 64⟩, ⟨nx0 + 1, arrV (Value.int .i64) 0 12 x35, 52⟩, ⟨nx0 + 2, arrV (Value.int .i64) 0 12 x36, 56⟩, ⟨nx0 + 3, arrV Value.bool false 12 x21, 70⟩, ⟨nx2 + 1, [.slice A2 x22.length c2], 23⟩] ∧ X' = [orow 3 1 A2 x22.length c2 cs2] ∧ Imm.le I14 I' ∧ assign_solution_augments0.k7 x30 x31 x35 x36 x37 = some y7) ?_ ?_
           ·rintro _ I15 nx16 _ _ ⟨x37, rfl, rfl, rfl, hi15, H⟩
            rw [assign_solution_augments0.k7] at H
            refine QN.then_ ?_
            refine OK.join (fun K' I' _ L' X' => ∃ (x38 : Int), K' = [(1, pt gb1 0), (2, i6 a2), (3, pt nx0 0), (6, pt (nx0 + 1) 0), (7, pt (nx0 + 2) 0), (8, pt (nx0 + 3) 0), (11, pt (nx2 + 1) 0), (12, i6 x23), (13, i6 x24), (14, i6 x38), (61, i6 x31)] ∧ L' = [⟨gb0, ((arrV (Value.int .i64) 0 12 x16) ++ ((arrV (Value.int .i64) 0 12 x17) ++ (arrV (Value.int .i64) 0 12 x18))), 58⟩, ⟨gb1, arrV (Value.int .i64) 0 144 b1, 54⟩, ⟨nx0, [pt gb0 0], 64⟩, ⟨nx0 + 1, arrV (Value.int .i64) 0 12 x35, 52⟩, ⟨nx0 + 2, arrV (Value.int .i64) 0 12 x36, 56⟩, ⟨nx0 + 3, arrV Value.bool false 12 x21, 70⟩, ⟨nx2 + 1, [.slice A2 x22.length c2], 23⟩] ∧ X' = [orow 3 1 A2 x22.length c2 cs2] ∧ Imm.le I15 I' ∧ assign_solution_augments0.k6 x35 x36 x38 = some y7) ?_ ?_
            ·rintro _ I16 nx17 _ _ ⟨x38, rfl, rfl, rfl, hi16, H⟩
             rw [assign_solution_augments0.k6] at H
             refine QN.blkN ?_
             obtain rfl := Option.some.inj H
             exact QN.sb (hJ10 _ _ _ _ _ ⟨x35, x36, x38, rfl, rfl, rfl, (Imm.le_trans (Imm.le_trans (Imm.le_trans hi13 hi14) hi15) hi16), hz30, hz31, HK7⟩) (.cons_cons _ (.cons_cons _ (.cons_cons _ (.cons_cons _ (.cons_cons _ (.cons_cons _ (.cons_cons _ .slnil))))))) (.refl _)
            ·intro Q_6 hJ13 hQ13
             obtain ⟨y10, H, HK10⟩ := bnd H
             refine OK.cd x37 (fun hb => ?_) (fun hb => ?_)
             ·skip
              have hc := hb
              rw [if_pos hc] at H
              clear hb
              refine OK.rg ?_
              refine RL.s 2 [(14, i6 x31), (1, pt gb1 0), (2, i6 a2), (3, pt nx0 0), (6, pt (nx0 + 1) 0), (7, pt (nx0 + 2) 0), (8, pt (nx0 + 3) 0), (11, pt (nx2 + 1) 0), (12, i6 x23), (13, i6 x24), (61, i6 x31)] ?_
              refine RL.nil (by kernel_rfl) ?_
              obtain rfl := Option.some.inj H
              exact QN.sb (hJ13 _ _ _ _ _ ⟨x31, rfl, rfl, rfl, (Imm.le_refl _), HK10⟩) (.cons_cons _ (.cons_cons _ (.cons_cons _ (.cons_cons _ (.cons_cons _ (.cons_cons _ (.cons_cons _ .slnil))))))) (.refl _)
             ·skip
              have hc := (Bool.eq_false_iff.1 hb)
              rw [if_neg hc] at H
              clear hb
              refine OK.sk ?_
              obtain rfl := Option.some.inj H
              exact QN.sb (hJ13 _ _ _ _ _ ⟨x30, rfl, rfl, rfl, (Imm.le_refl _), HK10⟩) (.cons_cons _ (.cons_cons _ (.cons_cons _ (.cons_cons _ (.cons_cons _ (.cons_cons _ (.cons_cons _ .slnil))))))) (.refl _)
           ·intro Q_7 hJ12 hQ12
            obtain ⟨y9, H, HK9⟩ := bnd H
            refine OK.cases (x30 == (-1)) (fun hb1 => ?_) (fun hb1 => ?_)
            ·have hc1 := (beq_iff_eq.1 hb1)
             rw [if_pos hc1] at H
             refine OK.drawnC 24 9 O37s0_109 a37s0_109n (by kernel_rfl) (by kernel_rfl) u37d3l u37d3g [] (RI.nil _) [.no, .no, .no, .no, .no, .no, .no, .no, .no] a37s0_109 a37s0_109o (by kernel_rfl) (by kernel_rfl) (u37d3s x30) (u37d3f nx0 gb1 a2 nx2 x23 x24 x30 x31 9) (u37d3v nx0 gb0 gb1 a2 b1 nx2 x16 x17 x18 x21 x22 A2 c2 x23 x24 x30 x31 x35 x36) (u37d3e nx0 gb0 gb1 a2 b1 nx2 x16 x17 x18 x21 x22 A2 c2 x23 x24 x30 x31 x35 x36) [] framesOk.nil ?_ [u37d3f nx0 gb1 a2 nx2 x23 x24 x30 x31 2] (framesOk.cons (fun u => rfl) framesOk.nil) ?_ ?_
             ·refine LoudsG.nil
             ·refine Givens.cons (fun u w =>  ?_) (fun _ _ _ => rfl) (Givens.nil)
              ·exact giv_run (v := .bool (x30 == (-1))) (by kernel_rfl) (by rw [hb1]; try rfl) w
             intro u I17 nx18 hi17 hF
             clear hF
             refine RL.norm (K' := [(107, undef), (106, undef), (105, undef), (104, undef), (103, undef), (102, undef), (101, .bool true), (100, .bool (x30 == (-1))), (99, i6 x30), (1, pt gb1 0), (2, i6 a2), (3, pt nx0 0), (6, pt (nx0 + 1) 0), (7, pt (nx0 + 2) 0), (8, pt (nx0 + 3) 0), (11, pt (nx2 + 1) 0), (12, i6 x23), (13, i6 x24), (14, i6 x30), (15, i6 x31), (61, i6 x31)]) (X' := [orow 3 1 A2 x22.length c2 cs2]) (by kernel_rfl) rfl rfl rfl ?_
             refine RL.s 2 [(109, .bool true), (1, pt gb1 0), (2, i6 a2), (3, pt nx0 0), (6, pt (nx0 + 1) 0), (7, pt (nx0 + 2) 0), (8, pt (nx0 + 3) 0), (11, pt (nx2 + 1) 0), (12, i6 x23), (13, i6 x24), (14, i6 x30), (15, i6 x31), (61, i6 x31)] ?_
             refine RL.nil (by kernel_rfl) ?_
             obtain rfl := Option.some.inj H
             exact QN.sb (hJ12 _ _ _ _ _ ⟨true, rfl, rfl, rfl, hi17, HK9⟩) (.cons_cons _ (.cons_cons _ (.cons_cons _ (.cons_cons _ (.cons_cons _ (.cons_cons _ (.cons_cons _ .slnil))))))) (.refl _)
            ·have hc1 := (beq_eq_false_iff_ne.1 hb1)
             rw [if_neg hc1] at H
             obtain ⟨hi0_6, H⟩ := ifs H
             obtain ⟨hi1_6, H⟩ := ifs H
             obtain ⟨hi0_7, H⟩ := ifs H
             obtain ⟨hi1_7, H⟩ := ifs H
             refine OK.drawnC 24 9 O37s0_109 a37s0_109n (by kernel_rfl) (by kernel_rfl) u37d4l (u37d4g nx0 x30 x31) [(⟨nx0 + 1, 0 + (x31).toNat * 1, none⟩, i6 (x35.getD ((x31).toNat) 0)), (⟨nx0 + 1, 0 + (x30).toNat * 1, none⟩, i6 (x35.getD ((x30).toNat) 0))] (RI.arr (g := nx0 + 1) (ty := 52) (cs := arrV (Value.int .i64) 0 12 x35) (Value.int .i64) 0 12 x35 [] [] 0 ((x31).toNat) 3 (by kernel_rfl) (by kernel_rfl) (by kernel_rfl) (by omega) (0 + (x31).toNat * 1) (by omega) (RI.arr (g := nx0 + 1) (ty := 52) (cs := arrV (Value.int .i64) 0 12 x35) (Value.int .i64) 0 12 x35 [] [] 0 ((x30).toNat) 3 (by kernel_rfl) (by kernel_rfl) (by kernel_rfl) (by omega) (0 + (x30).toNat * 1) (by omega) (RI.nil _))) [.no, .no, .no, .no, .no, .r 0, .no, .no, .r 1] a37s0_109 a37s0_109o (by kernel_rfl) (by kernel_rfl) (u37d4s nx0 x30 x31 x35) (u37d4f nx0 gb1 a2 nx2 x23 x24 x30 x31 x35 9) (u37d4v nx0 gb0 gb1 a2 b1 nx2 x16 x17 x18 x21 x22 A2 c2 x23 x24 x30 x31 x35 x36) (u37d4e nx0 gb0 gb1 a2 b1 nx2 x16 x17 x18 x21 x22 A2 c2 x23 x24 x30 x31 x35 x36) [] framesOk.nil ?_ [u37d4f nx0 gb1 a2 nx2 x23 x24 x30 x31 x35 2, u37d4f nx0 gb1 a2 nx2 x23 x24 x30 x31 x35 4, u37d4f nx0 gb1 a2 nx2 x23 x24 x30 x31 x35 7] (framesOk.cons (fun u => rfl) (framesOk.cons (fun u => rfl) (framesOk.cons (fun u => rfl) framesOk.nil))) ?_ ?_
             ·refine LoudsG.nil
             ·refine Givens.cons (fun u w =>  ?_) (fun _ _ _ => rfl) (Givens.cons (fun u w =>  ?_) (fun _ _ _ => rfl) (Givens.cons (fun u w =>  ?_) (fun _ _ _ => rfl) (Givens.nil)))
              ·exact giv_run (v := .bool (x30 == (-1))) (by kernel_rfl) (by rw [hb1]; try rfl) w
              ·exact giv_idxArr (T := 52) (e := 2) 1 .i64 x31 (nx0 + 1) (0) 12 (by kernel_rfl) (by kernel_rfl) (by kernel_rfl) hi0_6 hi1_6 w
              ·exact giv_idxArr (T := 52) (e := 2) 1 .i64 x30 (nx0 + 1) (0) 12 (by kernel_rfl) (by kernel_rfl) (by kernel_rfl) hi0_7 hi1_7 w
             intro u I18 nx19 hi18 hF
             clear hF
             refine RL.norm (K' := [(107, i6 (x35.getD ((x30).toNat) 0)), (106, pt (nx0 + 1) (0 + (x30).toNat * 1)), (105, i6 x30), (104, i6 (x35.getD ((x31).toNat) 0)), (103, pt (nx0 + 1) (0 + (x31).toNat * 1)), (102, i6 x31), (101, .bool false), (100, .bool (x30 == (-1))), (99, i6 x30), (1, pt gb1 0), (2, i6 a2), (3, pt nx0 0), (6, pt (nx0 + 1) 0), (7, pt (nx0 + 2) 0), (8, pt (nx0 + 3) 0), (11, pt (nx2 + 1) 0), (12, i6 x23), (13, i6 x24), (14, i6 x30), (15, i6 x31), (61, i6 x31)]) (X' := [orow 3 1 A2 x22.length c2 cs2]) (by kernel_rfl) rfl rfl rfl ?_
             refine RL.s 2 [(109, .bool (decide ((x35.getD ((x31).toNat) 0) < (x35.getD ((x30).toNat) 0)))), (1, pt gb1 0), (2, i6 a2), (3, pt nx0 0), (6, pt (nx0 + 1) 0), (7, pt (nx0 + 2) 0), (8, pt (nx0 + 3) 0), (11, pt (nx2 + 1) 0), (12, i6 x23), (13, i6 x24), (14, i6 x30), (15, i6 x31), (61, i6 x31)] ?_
             refine RL.nil (by kernel_rfl) ?_
             obtain rfl := Option.some.inj H
             exact QN.sb (hJ12 _ _ _ _ _ ⟨(decide ((x35.getD ((x31).toNat) 0) < (x35.getD ((x30).toNat) 0))), rfl, rfl, rfl, hi18, HK9⟩) (.cons_cons _ (.cons_cons _ (.cons_cons _ (.cons_cons _ (.cons_cons _ (.cons_cons _ (.cons_cons _ .slnil))))))) (.refl _)
          ·intro Q_8 hJ11 hQ11
           obtain ⟨y8, H, HK8⟩ := bnd H
           refine OK.cd (decide ((W .i64 ((W .i64 ((x17.getD ((x24).toNat) 0) + (x18.getD ((x31).toNat) 0))) - (b1.getD ((x24).toNat * 12 + (x31).toNat) 0))) < (x28.getD ((x31).toNat) 0))) (fun hb => ?_) (fun hb => ?_)
           ·skip
            have hc := (of_decide_eq_true hb)
            rw [if_pos hc] at H
            clear hb
            refine OK.rg ?_
            refine RL.s 4 [(96, i6 x23), (95, i6 (W .i64 ((W .i64 ((x17.getD ((x24).toNat) 0) + (x18.getD ((x31).toNat) 0))) - (b1.getD ((x24).toNat * 12 + (x31).toNat) 0)))), (94, i6 x31), (93, i6 x31), (15, i6 x31), (1, pt gb1 0), (2, i6 a2), (3, pt nx0 0), (6, pt (nx0 + 1) 0), (7, pt (nx0 + 2) 0), (8, pt (nx0 + 3) 0), (11, pt (nx2 + 1) 0), (12, i6 x23), (13, i6 x24), (14, i6 x30), (61, i6 x31)] ?_
            obtain ⟨hib0, H⟩ := ifs H
            obtain ⟨hib1, H⟩ := ifs H
            have ha010 := hib0; have ha110 := hib1
            refine RL.idxArr (T := 52) (e := 2) 1 .i64 x31 (nx0 + 1) (0) 12 (some 97) (by kernel_rfl) (by kernel_rfl) (by kernel_rfl) (by kernel_rfl) hib0 hib1 (K' := [(97, pt (nx0 + 1) (0 + (x31).toNat * 1)), (96, i6 x23), (95, i6 (W .i64 ((W .i64 ((x17.getD ((x24).toNat) 0) + (x18.getD ((x31).toNat) 0))) - (b1.getD ((x24).toNat * 12 + (x31).toNat) 0)))), (94, i6 x31), (93, i6 x31), (15, i6 x31), (1, pt gb1 0), (2, i6 a2), (3, pt nx0 0), (6, pt (nx0 + 1) 0), (7, pt (nx0 + 2) 0), (8, pt (nx0 + 3) 0), (11, pt (nx2 + 1) 0), (12, i6 x23), (13, i6 x24), (14, i6 x30), (61, i6 x31)]) (by kernel_rfl) ?_
            refine RL.stA (g := nx0 + 1) (ty := 52) (cs := arrV (Value.int .i64) 0 12 x28) (Value.int .i64) 0 12 x28 (W .i64 ((W .i64 ((x17.getD ((x24).toNat) 0) + (x18.getD ((x31).toNat) 0))) - (b1.getD ((x24).toNat * 12 + (x31).toNat) 0))) [] [] 0 ((x31).toNat) 3 (by kernel_rfl) (by kernel_rfl) (by kernel_rfl) (by omega) hz26 (0 + (x31).toNat * 1) (by omega) 2 (by kernel_rfl) (by kernel_rfl) (by kernel_rfl) (by rfl) (fun _ h => by cases h) (fun _ h => by cases h) (cs' := arrV (Value.int .i64) 0 12 (x28.set ((x31).toNat) (W .i64 ((W .i64 ((x17.getD ((x24).toNat) 0) + (x18.getD ((x31).toNat) 0))) - (b1.getD ((x24).toNat * 12 + (x31).toNat) 0))))) (by kernel_rfl) ?_
            obtain ⟨hib0, H⟩ := ifs H
            obtain ⟨hib1, H⟩ := ifs H
            have ha011 := hib0; have ha111 := hib1
            refine RL.idxArr (T := 56) (e := 3) 1 .i64 x31 (nx0 + 2) (0) 12 (some 98) (by kernel_rfl) (by kernel_rfl) (by kernel_rfl) (by kernel_rfl) hib0 hib1 (K' := [(98, pt (nx0 + 2) (0 + (x31).toNat * 1)), (97, pt (nx0 + 1) (0 + (x31).toNat * 1)), (96, i6 x23), (95, i6 (W .i64 ((W .i64 ((x17.getD ((x24).toNat) 0) + (x18.getD ((x31).toNat) 0))) - (b1.getD ((x24).toNat * 12 + (x31).toNat) 0)))), (94, i6 x31), (93, i6 x31), (15, i6 x31), (1, pt gb1 0), (2, i6 a2), (3, pt nx0 0), (6, pt (nx0 + 1) 0), (7, pt (nx0 + 2) 0), (8, pt (nx0 + 3) 0), (11, pt (nx2 + 1) 0), (12, i6 x23), (13, i6 x24), (14, i6 x30), (61, i6 x31)]) (by kernel_rfl) ?_
            refine RL.stA (g := nx0 + 2) (ty := 56) (cs := arrV (Value.int .i64) 0 12 x29) (Value.int .i64) 0 12 x29 x23 [] [] 0 ((x31).toNat) 4 (by kernel_rfl) (by kernel_rfl) (by kernel_rfl) (by omega) hz27 (0 + (x31).toNat * 1) (by omega) 3 (by kernel_rfl) (by kernel_rfl) (by kernel_rfl) (by rfl) (fun _ h => by cases h) (fun _ h => by cases h) (cs' := arrV (Value.int .i64) 0 12 (x29.set ((x31).toNat) x23)) (by kernel_rfl) ?_
            refine RL.nil (by kernel_rfl) ?_
            refine QN.sub (K' := [(15, i6 x31), (1, pt gb1 0), (2, i6 a2), (3, pt nx0 0), (6, pt (nx0 + 1) 0), (7, pt (nx0 + 2) 0), (8, pt (nx0 + 3) 0), (11, pt (nx2 + 1) 0), (12, i6 x23), (13, i6 x24), (14, i6 x30), (61, i6 x31)]) (L' := [⟨gb0, ((arrV (Value.int .i64) 0 12 x16) ++ ((arrV (Value.int .i64) 0 12 x17) ++ (arrV (Value.int .i64) 0 12 x18))), 58⟩, ⟨gb1, arrV (Value.int .i64) 0 144 b1, 54⟩, ⟨nx0, [pt gb0 0], 64⟩, ⟨nx0 + 1, arrV (Value.int .i64) 0 12 (x28.set ((x31).toNat) (W .i64 ((W .i64 ((x17.getD ((x24).toNat) 0) + (x18.getD ((x31).toNat) 0))) - (b1.getD ((x24).toNat * 12 + (x31).toNat) 0)))), 52⟩, ⟨nx0 + 2, arrV (Value.int .i64) 0 12 (x29.set ((x31).toNat) x23), 56⟩, ⟨nx0 + 3, arrV Value.bool false 12 x21, 70⟩, ⟨nx2 + 1, [.slice A2 x22.length c2], 23⟩]) (by kernel_rfl) (.cons_cons _ (.cons_cons _ (.cons_cons _ (.cons_cons _ (.cons_cons _ (.cons_cons _ (.cons_cons _ .slnil))))))) (.refl _) ?_
            obtain rfl := Option.some.inj H
            exact QN.sb (hJ11 _ _ _ _ _ ⟨(x28.set ((x31).toNat) (W .i64 ((W .i64 ((x17.getD ((x24).toNat) 0) + (x18.getD ((x31).toNat) 0))) - (b1.getD ((x24).toNat * 12 + (x31).toNat) 0)))), (x29.set ((x31).toNat) x23), rfl, rfl, rfl, (Imm.le_refl _), (le_set hz26), (le_set hz27), HK8⟩) (.cons_cons _ (.cons_cons _ (.cons_cons _ (.cons_cons _ (.cons_cons _ (.cons_cons _ (.cons_cons _ .slnil))))))) (.refl _)
           ·skip
            have hc := (of_decide_eq_false hb)
            rw [if_neg hc] at H
            clear hb
            refine OK.sk ?_
            obtain rfl := Option.some.inj H
            exact QN.sb (hJ11 _ _ _ _ _ ⟨x28, x29, rfl, rfl, rfl, (Imm.le_refl _), hz26, hz27, HK8⟩) (.cons_cons _ (.cons_cons _ (.cons_cons _ (.cons_cons _ (.cons_cons _ (.cons_cons _ (.cons_cons _ .slnil))))))) (.refl _)
       ·skip
        have hc := (of_decide_eq_false hb)
        rw [if_neg hc] at H
        clear hb
        refine OK.ex 6 ?_
        refine QN.thenE ?_
        refine QN.outE hQ9 ?_
        refine QN.blkE ?_
        obtain rfl := Option.some.inj H
        exact QN.sb (hJ8 _ _ _ _ _ ⟨x28, x29, x30, rfl, rfl, rfl, hi11, hz26, hz27, HK6⟩) (.cons_cons _ (.cons_cons _ (.cons_cons _ (.cons_cons _ (.cons_cons _ (.cons_cons _ (.cons_cons _ .slnil))))))) (.refl _)
  ·intro Q_9 hJ2 hQ2
   obtain ⟨y2, H, HK2⟩ := bnd H
   refine OK.bk 2 ?_
   refine OK.sub (K' := [(1, pt gb1 0), (2, i6 a2), (3, pt nx0 0), (6, pt (nx0 + 1) 0), (7, pt (nx0 + 2) 0), (8, pt (nx0 + 3) 0), (28, i6 0)]) (L' := [⟨gb0, ((arrV (Value.int .i64) 0 12 b0.f0) ++ ((arrV (Value.int .i64) 0 12 b0.f1) ++ (arrV (Value.int .i64) 0 12 b0.f2))), 58⟩, ⟨gb1, arrV (Value.int .i64) 0 144 b1, 54⟩, ⟨nx0, [pt gb0 0], 64⟩, ⟨nx0 + 1, arrV (Value.int .i64) 0 12 x1, 52⟩, ⟨nx0 + 2, arrV (Value.int .i64) 0 12 x2, 56⟩, ⟨nx0 + 3, arrV Value.bool false 12 (List.replicate 12 false), 70⟩]) (by kernel_rfl) (.cons_cons _ (.cons_cons _ (.cons_cons _ (.cons_cons _ (.cons_cons _ (.cons_cons _ .slnil)))))) (.refl _) ?_
   refine OK.lp (fun n_ K' I' _ L' X' => ∃ (x39 : List Int) (x40 : Int), K' = [(1, pt gb1 0), (2, i6 a2), (3, pt nx0 0), (6, pt (nx0 + 1) 0), (7, pt (nx0 + 2) 0), (8, pt (nx0 + 3) 0), (28, i6 x40)] ∧ L' = [⟨gb0, ((arrV (Value.int .i64) 0 12 b0.f0) ++ ((arrV (Value.int .i64) 0 12 x39) ++ (arrV (Value.int .i64) 0 12 b0.f2))), 58⟩, ⟨gb1, arrV (Value.int .i64) 0 144 b1, 54⟩, ⟨nx0, [pt gb0 0], 64⟩, ⟨nx0 + 1, arrV (Value.int .i64) 0 12 x1, 52⟩, ⟨nx0 + 2, arrV (Value.int .i64) 0 12 x2, 56⟩, ⟨nx0 + 3, arrV Value.bool false 12 (List.replicate 12 false), 70⟩] ∧ X' = [] ∧ Imm.le I1 I' ∧ 12 ≤ x39.length ∧ assign_solution_augments0.l4 a2 b0 b1 n_ x39 x40 = some y2) k ⟨b0.f1, 0, rfl, rfl, rfl, (Imm.le_refl _), hzb0_1, H⟩ ?_ ?_
   ·rintro _ _ _ _ _ ⟨x39, x40, rfl, rfl, rfl, _, hz32, H⟩
    cases H
   ·rintro kq4 _ I19 nx20 _ _ ⟨x39, x40, rfl, rfl, rfl, hi19, hz32, H⟩ Q_l4 hJ14 hQ14
    rw [assign_solution_augments0.l4] at H
    refine OK.sr ?_
    refine RL.st 1 [(29, .bool (decide (x40 < 12))), (1, pt gb1 0), (2, i6 a2), (3, pt nx0 0), (6, pt (nx0 + 1) 0), (7, pt (nx0 + 2) 0), (8, pt (nx0 + 3) 0), (28, i6 x40)] ?_
    refine OK.sq ?_
    refine OK.cd (decide (x40 < 12)) (fun hb => ?_) (fun hb => ?_)
    ·skip
     have hc := (of_decide_eq_true hb)
     rw [if_pos hc] at H
     clear hb
     refine OK.skt ?_
     refine OK.sq ?_
     refine OK.bk 3 ?_
     refine OK.sr ?_
     refine RL.st 2 [(10, i6 x40), (1, pt gb1 0), (2, i6 a2), (3, pt nx0 0), (6, pt (nx0 + 1) 0), (7, pt (nx0 + 2) 0), (8, pt (nx0 + 3) 0), (28, i6 x40)] ?_
     obtain ⟨hi0_8, H⟩ := ifs H
     obtain ⟨hi1_8, H⟩ := ifs H
     obtain ⟨hi0_9, H⟩ := ifs H
     obtain ⟨hi1_9, H⟩ := ifs H
     obtain ⟨hi0_10, H⟩ := ifs H
     obtain ⟨hi1_10, H⟩ := ifs H
     obtain ⟨hi0_11, H⟩ := ifs H
     obtain ⟨hi1_11, H⟩ := ifs H
     refine OK.drawnC 12 25 O37s0_53 a37s0_53n (by kernel_rfl) (by kernel_rfl) u37d5l (u37d5g gb0 gb1 a2 x40) [(⟨gb0, 12 + (a2).toNat * 1, none⟩, i6 (x39.getD ((a2).toNat) 0)), (⟨gb1, 0 + (a2).toNat * 12 + (x40).toNat * 1, none⟩, i6 (b1.getD ((a2).toNat * 12 + (x40).toNat) 0)), (⟨gb0, 24 + (x40).toNat * 1, none⟩, i6 (b0.f2.getD ((x40).toNat) 0))] (RI.arr (g := gb0) (ty := 58) (cs := ((arrV (Value.int .i64) 0 12 b0.f0) ++ ((arrV (Value.int .i64) 0 12 x39) ++ (arrV (Value.int .i64) 0 12 b0.f2)))) (Value.int .i64) 0 12 x39 (arrV (Value.int .i64) 0 12 b0.f0) (arrV (Value.int .i64) 0 12 b0.f2) 12 ((a2).toNat) 0 (by kernel_rfl) (by kernel_rfl) (by kernel_rfl) (by omega) (12 + (a2).toNat * 1) (by omega) (RI.arr (g := gb1) (ty := 54) (cs := arrV (Value.int .i64) 0 144 b1) (Value.int .i64) 0 144 b1 [] [] 0 ((a2).toNat * 12 + (x40).toNat) 1 (by kernel_rfl) (by kernel_rfl) (by kernel_rfl) (by omega) (0 + (a2).toNat * 12 + (x40).toNat * 1) (by omega) (RI.arr (g := gb0) (ty := 58) (cs := ((arrV (Value.int .i64) 0 12 b0.f0) ++ ((arrV (Value.int .i64) 0 12 x39) ++ (arrV (Value.int .i64) 0 12 b0.f2)))) (Value.int .i64) 0 12 b0.f2 ((arrV (Value.int .i64) 0 12 b0.f0) ++ (arrV (Value.int .i64) 0 12 x39)) [] 24 ((x40).toNat) 0 (by kernel_rfl) (by kernel_rfl) (by kernel_rfl) (by omega) (24 + (x40).toNat * 1) (by omega) (RI.nil _)))) [.l 2, .no, .l 2, .no, .no, .no, .no, .r 0, .no, .no, .no, .no, .no, .no, .r 1, .l 2, .no, .no, .no, .no, .r 2, .no, .no, .no, .no] a37s0_53 a37s0_53o (by kernel_rfl) (by kernel_rfl) (u37d5s gb0 gb1 a2 b0 b1 x39 x40) (u37d5f nx0 gb0 gb1 a2 b0 b1 x39 x40 25) (u37d5v nx0 gb0 gb1 a2 b0 b1 x1 x2 x39 x40) (u37d5e nx0 gb0 gb1 a2 b0 b1 x1 x2 x39 x40) [] framesOk.nil ?_ [u37d5f nx0 gb0 gb1 a2 b0 b1 x39 x40 6, u37d5f nx0 gb0 gb1 a2 b0 b1 x39 x40 12, u37d5f nx0 gb0 gb1 a2 b0 b1 x39 x40 13, u37d5f nx0 gb0 gb1 a2 b0 b1 x39 x40 19] (framesOk.cons (fun u => rfl) (framesOk.cons (fun u => rfl) (framesOk.cons (fun u => rfl) (framesOk.cons (fun u => rfl) framesOk.nil)))) ?_ ?_
     ·refine LoudsG.nil
     ·refine Givens.cons (fun u w =>  ?_) (fun _ _ _ => rfl) (Givens.cons (fun u w =>  ?_) (fun _ _ _ => rfl) (Givens.cons (fun u w =>  ?_) (fun _ _ _ => rfl) (Givens.cons (fun u w =>  ?_) (fun _ _ _ => rfl) (Givens.nil))))
      ·exact giv_idxArr (T := 52) (e := 2) 1 .i64 a2 gb0 (12) 12 (by kernel_rfl) (by kernel_rfl) (by kernel_rfl) hi0_8 hi1_8 w
      ·exact giv_idxArr (T := 54) (e := 52) 12 .i64 a2 gb1 (0) 12 (by kernel_rfl) (by kernel_rfl) (by kernel_rfl) hi0_9 hi1_9 w
      ·exact giv_idxArr (T := 52) (e := 2) 1 .i64 x40 gb1 (0 + (a2).toNat * 12) 12 (by kernel_rfl) (by kernel_rfl) (by kernel_rfl) hi0_10 hi1_10 w
      ·exact giv_idxArr (T := 52) (e := 2) 1 .i64 x40 gb0 (24) 12 (by kernel_rfl) (by kernel_rfl) (by kernel_rfl) hi0_11 hi1_11 w
     intro u I20 nx21 hi20 hF
     clear hF
     refine RL.norm (K' := ((55, pt gb0 12) :: (54, pt gb0 0) :: (53, i6 (iMax (x39.getD ((a2).toNat) 0) (W .i64 ((b1.getD ((a2).toNat * 12 + (x40).toNat) 0) - (b0.f2.getD ((x40).toNat) 0))))) :: (52, i6 (W .i64 ((b1.getD ((a2).toNat * 12 + (x40).toNat) 0) - (b0.f2.getD ((x40).toNat) 0)))) :: (51, i6 (b0.f2.getD ((x40).toNat) 0)) :: (50, pt gb0 (24 + (x40).toNat * 1)) :: (49, pt gb0 24) :: (48, pt gb0 0) :: (47, i6 x40) :: (46, pt gb0 0) :: (45, i6 (b1.getD ((a2).toNat * 12 + (x40).toNat) 0)) :: (44, pt gb1 (0 + (a2).toNat * 12 + (x40).toNat * 1)) :: (43, pt gb1 (0 + (a2).toNat * 12)) :: (42, pt gb1 0) :: (41, i6 x40) :: (40, i6 a2) :: (39, pt gb1 0) :: (38, i6 (x39.getD ((a2).toNat) 0)) :: (37, pt gb0 (12 + (a2).toNat * 1)) :: (36, pt gb0 12) :: (35, pt gb0 0) :: (34, i6 a2) :: (33, pt gb0 0) :: (32, i6 a2) :: (31, pt gb0 0) :: (10, i6 x40) :: (1, pt gb1 0) :: (2, i6 a2) :: (3, pt nx0 0) :: (6, pt (nx0 + 1) 0) :: (7, pt (nx0 + 2) 0) :: (8, pt (nx0 + 3) 0) :: (28, i6 x40) :: [])) (X' := []) (by kernel_rfl) rfl rfl rfl ?_
     obtain ⟨hib0, H⟩ := ifs H
     obtain ⟨hib1, H⟩ := ifs H
     have ha012 := hib0; have ha112 := hib1
     refine RL.idxArr (T := 52) (e := 2) 1 .i64 a2 gb0 (12) 12 (some 56) (by kernel_rfl) (by kernel_rfl) (by kernel_rfl) (by kernel_rfl) hib0 hib1 (K' := ((56, pt gb0 (12 + (a2).toNat * 1)) :: (55, pt gb0 12) :: (54, pt gb0 0) :: (53, i6 (iMax (x39.getD ((a2).toNat) 0) (W .i64 ((b1.getD ((a2).toNat * 12 + (x40).toNat) 0) - (b0.f2.getD ((x40).toNat) 0))))) :: (52, i6 (W .i64 ((b1.getD ((a2).toNat * 12 + (x40).toNat) 0) - (b0.f2.getD ((x40).toNat) 0)))) :: (51, i6 (b0.f2.getD ((x40).toNat) 0)) :: (50, pt gb0 (24 + (x40).toNat * 1)) :: (49, pt gb0 24) :: (48, pt gb0 0) :: (47, i6 x40) :: (46, pt gb0 0) :: (45, i6 (b1.getD ((a2).toNat * 12 + (x40).toNat) 0)) :: (44, pt gb1 (0 + (a2).toNat * 12 + (x40).toNat * 1)) :: (43, pt gb1 (0 + (a2).toNat * 12)) :: (42, pt gb1 0) :: (41, i6 x40) :: (40, i6 a2) :: (39, pt gb1 0) :: (38, i6 (x39.getD ((a2).toNat) 0)) :: (37, pt gb0 (12 + (a2).toNat * 1)) :: (36, pt gb0 12) :: (35, pt gb0 0) :: (34, i6 a2) :: (33, pt gb0 0) :: (32, i6 a2) :: (31, pt gb0 0) :: (10, i6 x40) :: (1, pt gb1 0) :: (2, i6 a2) :: (3, pt nx0 0) :: (6, pt (nx0 + 1) 0) :: (7, pt (nx0 + 2) 0) :: (8, pt (nx0 + 3) 0) :: (28, i6 x40) :: [])) (by kernel_rfl) ?_
     refine RL.stA (g := gb0) (ty := 58) (cs := ((arrV (Value.int .i64) 0 12 b0.f0) ++ ((arrV (Value.int .i64) 0 12 x39) ++ (arrV (Value.int .i64) 0 12 b0.f2)))) (Value.int .i64) 0 12 x39 (iMax (x39.getD ((a2).toNat) 0) (W .i64 ((b1.getD ((a2).toNat * 12 + (x40).toNat) 0) - (b0.f2.getD ((x40).toNat) 0)))) (arrV (Value.int .i64) 0 12 b0.f0) (arrV (Value.int .i64) 0 12 b0.f2) 12 ((a2).toNat) 0 (by kernel_rfl) (by kernel_rfl) (by kernel_rfl) (by omega) hz32 (12 + (a2).toNat * 1) (by omega) 2 (by kernel_rfl) (by kernel_rfl) (by kernel_rfl) (by rfl) (fun _ h => by cases h) (fun _ h => by cases h) (cs' := ((arrV (Value.int .i64) 0 12 b0.f0) ++ ((arrV (Value.int .i64) 0 12 (x39.set ((a2).toNat) (iMax (x39.getD ((a2).toNat) 0) (W .i64 ((b1.getD ((a2).toNat * 12 + (x40).toNat) 0) - (b0.f2.getD ((x40).toNat) 0)))))) ++ (arrV (Value.int .i64) 0 12 b0.f2)))) (by kernel_rfl) ?_
     refine RL.nil (by kernel_rfl) ?_
     refine QN.sub (K' := [(1, pt gb1 0), (2, i6 a2), (3, pt nx0 0), (6, pt (nx0 + 1) 0), (7, pt (nx0 + 2) 0), (8, pt (nx0 + 3) 0), (28, i6 x40)]) (L' := [⟨gb0, ((arrV (Value.int .i64) 0 12 b0.f0) ++ ((arrV (Value.int .i64) 0 12 (x39.set ((a2).toNat) (iMax (x39.getD ((a2).toNat) 0) (W .i64 ((b1.getD ((a2).toNat * 12 + (x40).toNat) 0) - (b0.f2.getD ((x40).toNat) 0)))))) ++ (arrV (Value.int .i64) 0 12 b0.f2))), 58⟩, ⟨gb1, arrV (Value.int .i64) 0 144 b1, 54⟩, ⟨nx0, [pt gb0 0], 64⟩, ⟨nx0 + 1, arrV (Value.int .i64) 0 12 x1, 52⟩, ⟨nx0 + 2, arrV (Value.int .i64) 0 12 x2, 56⟩, ⟨nx0 + 3, arrV Value.bool false 12 (List.replicate 12 false), 70⟩]) (by kernel_rfl) (.cons_cons _ (.cons_cons _ (.cons_cons _ (.cons_cons _ (.cons_cons _ (.cons_cons _ .slnil)))))) (.refl _) ?_
     refine QN.blkN ?_
     refine QN.then_ ?_
     refine OK.rg ?_
     refine RL.s 2 [(28, i6 (W .i64 (x40 + 1))), (1, pt gb1 0), (2, i6 a2), (3, pt nx0 0), (6, pt (nx0 + 1) 0), (7, pt (nx0 + 2) 0), (8, pt (nx0 + 3) 0)] ?_
     refine RL.nil (by kernel_rfl) ?_
     exact QN.sb (hJ14 _ _ _ _ _ ⟨(x39.set ((a2).toNat) (iMax (x39.getD ((a2).toNat) 0) (W .i64 ((b1.getD ((a2).toNat * 12 + (x40).toNat) 0) - (b0.f2.getD ((x40).toNat) 0))))), W .i64 (x40 + 1), rfl, rfl, rfl, (Imm.le_trans hi19 hi20), (le_set hz32), H⟩) (.cons_cons _ (.cons_cons _ (.cons_cons _ (.cons_cons _ (.cons_cons _ (.cons_cons _ .slnil)))))) (.refl _)
    ·skip
     have hc := (of_decide_eq_false hb)
     rw [if_neg hc] at H
     clear hb
     refine OK.ex 2 ?_
     refine QN.thenE ?_
     refine QN.outE hQ14 ?_
     refine QN.blkE ?_
     obtain rfl := Option.some.inj H
     exact QN.sb (hJ2 _ _ _ _ _ ⟨x39, rfl, rfl, rfl, hi19, hz32, HK2⟩) (.cons_cons _ (.cons_cons _ (.cons_cons _ (.cons_cons _ (.cons_cons _ (.cons_cons _ .slnil)))))) (.refl _)
 ·intro Q_10 hJ1 hQ1
  obtain ⟨y1, H, HK1⟩ := bnd H
  refine OK.bk 0 ?_
  refine OK.sub (K' := [(1, pt gb1 0), (2, i6 a2), (3, pt nx0 0), (6, pt (nx0 + 1) 0), (7, pt (nx0 + 2) 0), (8, pt (nx0 + 3) 0), (20, i6 0)]) (L' := [⟨gb0, ((arrV (Value.int .i64) 0 12 b0.f0) ++ ((arrV (Value.int .i64) 0 12 b0.f1) ++ (arrV (Value.int .i64) 0 12 b0.f2))), 58⟩, ⟨gb1, arrV (Value.int .i64) 0 144 b1, 54⟩, ⟨nx0, [pt gb0 0], 64⟩, ⟨nx0 + 1, arrV (Value.int .i64) 0 12 (List.replicate 12 0), 52⟩, ⟨nx0 + 2, arrV (Value.int .i64) 0 12 (List.replicate 12 0), 56⟩, ⟨nx0 + 3, arrV Value.bool false 12 (List.replicate 12 false), 70⟩]) (by kernel_rfl) (.cons_cons _ (.cons_cons _ (.cons_cons _ (.cons_cons _ (.cons_cons _ (.cons_cons _ .slnil)))))) (.refl _) ?_
  refine OK.lp (fun n_ K' I' _ L' X' => ∃ (x41 : List Int) (x42 : List Int) (x43 : Int), K' = [(1, pt gb1 0), (2, i6 a2), (3, pt nx0 0), (6, pt (nx0 + 1) 0), (7, pt (nx0 + 2) 0), (8, pt (nx0 + 3) 0), (20, i6 x43)] ∧ L' = [⟨gb0, ((arrV (Value.int .i64) 0 12 b0.f0) ++ ((arrV (Value.int .i64) 0 12 b0.f1) ++ (arrV (Value.int .i64) 0 12 b0.f2))), 58⟩, ⟨gb1, arrV (Value.int .i64) 0 144 b1, 54⟩, ⟨nx0, [pt gb0 0], 64⟩, ⟨nx0 + 1, arrV (Value.int .i64) 0 12 x41, 52⟩, ⟨nx0 + 2, arrV (Value.int .i64) 0 12 x42, 56⟩, ⟨nx0 + 3, arrV Value.bool false 12 (List.replicate 12 false), 70⟩] ∧ X' = [] ∧ Imm.le I0 I' ∧ 12 ≤ x41.length ∧ 12 ≤ x42.length ∧ assign_solution_augments0.l5 n_ x41 x42 x43 = some y1) k ⟨(List.replicate 12 0), (List.replicate 12 0), 0, rfl, rfl, rfl, (Imm.le_refl _), (Nat.le_of_eq List.length_replicate.symm), (Nat.le_of_eq List.length_replicate.symm), H⟩ ?_ ?_
  ·rintro _ _ _ _ _ ⟨x41, x42, x43, rfl, rfl, rfl, _, hz33, hz34, H⟩
   cases H
  ·rintro kq5 _ I21 nx22 _ _ ⟨x41, x42, x43, rfl, rfl, rfl, hi21, hz33, hz34, H⟩ Q_l5 hJ15 hQ15
   rw [assign_solution_augments0.l5] at H
   refine OK.sr ?_
   refine RL.st 1 [(21, .bool (decide (x43 < 12))), (1, pt gb1 0), (2, i6 a2), (3, pt nx0 0), (6, pt (nx0 + 1) 0), (7, pt (nx0 + 2) 0), (8, pt (nx0 + 3) 0), (20, i6 x43)] ?_
   refine OK.sq ?_
   refine OK.cd (decide (x43 < 12)) (fun hb => ?_) (fun hb => ?_)
   ·skip
    have hc := (of_decide_eq_true hb)
    rw [if_pos hc] at H
    clear hb
    refine OK.skt ?_
    refine OK.sq ?_
    refine OK.bk 1 ?_
    refine OK.sr ?_
    refine RL.st 2 [(9, i6 x43), (1, pt gb1 0), (2, i6 a2), (3, pt nx0 0), (6, pt (nx0 + 1) 0), (7, pt (nx0 + 2) 0), (8, pt (nx0 + 3) 0), (20, i6 x43)] ?_
    refine OK.rg ?_
    refine RL.s 2 [(24, i6 x43), (23, i6 x43), (1, pt gb1 0), (2, i6 a2), (3, pt nx0 0), (6, pt (nx0 + 1) 0), (7, pt (nx0 + 2) 0), (8, pt (nx0 + 3) 0), (20, i6 x43)] ?_
    obtain ⟨hib0, H⟩ := ifs H
    obtain ⟨hib1, H⟩ := ifs H
    have ha013 := hib0; have ha113 := hib1
    refine RL.idxArr (T := 52) (e := 2) 1 .i64 x43 (nx0 + 1) (0) 12 (some 25) (by kernel_rfl) (by kernel_rfl) (by kernel_rfl) (by kernel_rfl) hib0 hib1 (K' := [(25, pt (nx0 + 1) (0 + (x43).toNat * 1)), (24, i6 x43), (23, i6 x43), (1, pt gb1 0), (2, i6 a2), (3, pt nx0 0), (6, pt (nx0 + 1) 0), (7, pt (nx0 + 2) 0), (8, pt (nx0 + 3) 0), (20, i6 x43)]) (by kernel_rfl) ?_
    refine RL.stA (g := nx0 + 1) (ty := 52) (cs := arrV (Value.int .i64) 0 12 x41) (Value.int .i64) 0 12 x41 1152921504606846976 [] [] 0 ((x43).toNat) 3 (by kernel_rfl) (by kernel_rfl) (by kernel_rfl) (by omega) hz33 (0 + (x43).toNat * 1) (by omega) 2 (by kernel_rfl) (by kernel_rfl) (by kernel_rfl) (by rfl) (fun _ h => by cases h) (fun _ h => by cases h) (cs' := arrV (Value.int .i64) 0 12 (x41.set ((x43).toNat) 1152921504606846976)) (by kernel_rfl) ?_
    obtain ⟨hib0, H⟩ := ifs H
    obtain ⟨hib1, H⟩ := ifs H
    have ha014 := hib0; have ha114 := hib1
    refine RL.idxArr (T := 56) (e := 3) 1 .i64 x43 (nx0 + 2) (0) 12 (some 26) (by kernel_rfl) (by kernel_rfl) (by kernel_rfl) (by kernel_rfl) hib0 hib1 (K' := [(26, pt (nx0 + 2) (0 + (x43).toNat * 1)), (25, pt (nx0 + 1) (0 + (x43).toNat * 1)), (24, i6 x43), (23, i6 x43), (1, pt gb1 0), (2, i6 a2), (3, pt nx0 0), (6, pt (nx0 + 1) 0), (7, pt (nx0 + 2) 0), (8, pt (nx0 + 3) 0), (20, i6 x43)]) (by kernel_rfl) ?_
    refine RL.stA (g := nx0 + 2) (ty := 56) (cs := arrV (Value.int .i64) 0 12 x42) (Value.int .i64) 0 12 x42 (-1) [] [] 0 ((x43).toNat) 4 (by kernel_rfl) (by kernel_rfl) (by kernel_rfl) (by omega) hz34 (0 + (x43).toNat * 1) (by omega) 3 (by kernel_rfl) (by kernel_rfl) (by kernel_rfl) (by rfl) (fun _ h => by cases h) (fun _ h => by cases h) (cs' := arrV (Value.int .i64) 0 12 (x42.set ((x43).toNat) (-1))) (by kernel_rfl) ?_
    refine RL.nil (by kernel_rfl) ?_
    refine QN.sub (K' := [(1, pt gb1 0), (2, i6 a2), (3, pt nx0 0), (6, pt (nx0 + 1) 0), (7, pt (nx0 + 2) 0), (8, pt (nx0 + 3) 0), (20, i6 x43)]) (L' := [⟨gb0, ((arrV (Value.int .i64) 0 12 b0.f0) ++ ((arrV (Value.int .i64) 0 12 b0.f1) ++ (arrV (Value.int .i64) 0 12 b0.f2))), 58⟩, ⟨gb1, arrV (Value.int .i64) 0 144 b1, 54⟩, ⟨nx0, [pt gb0 0], 64⟩, ⟨nx0 + 1, arrV (Value.int .i64) 0 12 (x41.set ((x43).toNat) 1152921504606846976), 52⟩, ⟨nx0 + 2, arrV (Value.int .i64) 0 12 (x42.set ((x43).toNat) (-1)), 56⟩, ⟨nx0 + 3, arrV Value.bool false 12 (List.replicate 12 false), 70⟩]) (by kernel_rfl) (.cons_cons _ (.cons_cons _ (.cons_cons _ (.cons_cons _ (.cons_cons _ (.cons_cons _ .slnil)))))) (.refl _) ?_
    refine QN.blkN ?_
    refine QN.then_ ?_
    refine OK.rg ?_
    refine RL.s 2 [(20, i6 (W .i64 (x43 + 1))), (1, pt gb1 0), (2, i6 a2), (3, pt nx0 0), (6, pt (nx0 + 1) 0), (7, pt (nx0 + 2) 0), (8, pt (nx0 + 3) 0)] ?_
    refine RL.nil (by kernel_rfl) ?_
    exact QN.sb (hJ15 _ _ _ _ _ ⟨(x41.set ((x43).toNat) 1152921504606846976), (x42.set ((x43).toNat) (-1)), W .i64 (x43 + 1), rfl, rfl, rfl, hi21, (le_set hz33), (le_set hz34), H⟩) (.cons_cons _ (.cons_cons _ (.cons_cons _ (.cons_cons _ (.cons_cons _ (.cons_cons _ .slnil)))))) (.refl _)
   ·skip
    have hc := (of_decide_eq_false hb)
    rw [if_neg hc] at H
    clear hb
    refine OK.ex 0 ?_
    refine QN.thenE ?_
    refine QN.outE hQ15 ?_
    refine QN.blkE ?_
    obtain rfl := Option.some.inj H
    exact QN.sb (hJ1 _ _ _ _ _ ⟨x41, x42, rfl, rfl, rfl, hi21, hz33, hz34, HK1⟩) (.cons_cons _ (.cons_cons _ (.cons_cons _ (.cons_cons _ (.cons_cons _ (.cons_cons _ .slnil)))))) (.refl _)

end Go.Proofs.Ytdmhbcgmimfjcaa
namespace Go.Proofs.Ytdmhbcgmimfjcaa
open Go Go.Proofs.Ytdmhbcgmimfjcaa.RW
set_option linter.unusedVariables false
set_option maxRecDepth 100000
set_option maxHeartbeats 8000000

/-! ### assign_hungarians0: function 31, armillary/assign.hungarian -/
noncomputable def K31s0_0 : Code := cBody Try.f31
def assign_hungarians0.k1  : List Int × List Int × List Int → Option (S58)
 | (x2, x3, x4) => (some (⟨x2, x3, x4⟩ : S58))
def assign_hungarians0.l1 (b0 : List Int) : Nat → (List Int) → (List Int) → (List Int) → Int → Option (List Int × List Int × List Int)
 | 0, _, _, _, _ => none
 | k + 1, x5, x6, x7, x8 => (if x8 < 12 then ((assign_solution_augments0.f k x8 (⟨x5, x6, x7⟩ : S58) b0).bind fun t1 => (assign_hungarians0.l1 b0 k t1.f0 t1.f1 t1.f2 (W .i64 (x8 + 1)))) else (some (x5, x6, x7)))
def assign_hungarians0.k2 (k : Nat) (b0 : List Int) (x1 : List Int) : Option (S58) := ((assign_hungarians0.l1 b0 k x1 (List.replicate 12 0) (List.replicate 12 0) 0).bind (assign_hungarians0.k1))
def assign_hungarians0.l2 : Nat → (List Int) → Int → Option (List Int)
 | 0, _, _ => none
 | k + 1, x9, x10 => (if x10 < 12 then (if 0 ≤ x10 then (if x10 < (12 : Int) then (assign_hungarians0.l2 k (x9.set ((x10).toNat) (-1)) (W .i64 (x10 + 1))) else none) else none) else (some x9))
def assign_hungarians0.f (k : Nat) (b0 : List Int) : Option (S58) := ((assign_hungarians0.l2 k (List.replicate 12 0) 0).bind (assign_hungarians0.k2 k b0))
def assign_hungarians0.Post (S : Nat → Prop) (gb0 : Nat) (b0 : List Int) (I : Imm) (w : World) (r : S58) (v : Value) (w' : World) : Prop :=
 ∃ (J : Imm), v = .agg (((arrV (Value.int .i64) 0 12 r.f0) ++ ((arrV (Value.int .i64) 0 12 r.f1) ++ (arrV (Value.int .i64) 0 12 r.f2)))).toArray ∧ Sat ⟨w, S, I⟩ J w'.heap.size [⟨gb0, arrV (Value.int .i64) 0 144 b0, 54⟩] [] w' ∧ 12 ≤ r.f0.length ∧ 12 ≤ r.f1.length ∧ 12 ≤ r.f2.length
theorem assign_hungarians0.calls (k : Nat) (I0 : Imm) (gb0 : Nat) (b0 : List Int) (w : World) (hs : Sat ⟨w, SM [⟨gb0, arrV (Value.int .i64) 0 144 b0, 54⟩] [], I0⟩ I0 w.heap.size [⟨gb0, arrV (Value.int .i64) 0 144 b0, 54⟩] [] w) (hzb0 : 144 ≤ b0.length) (r : S58) (h : assign_hungarians0.f k b0 = some r) :
  Calls Try.prog 31 [pt gb0 0].toArray w fun e w' => ∃ v, e = .returned v ∧ assign_hungarians0.Post (SM [⟨gb0, arrV (Value.int .i64) 0 144 b0, 54⟩] []) gb0 b0 I0 w r v w' := by
 have H : ((assign_hungarians0.l2 k (List.replicate 12 0) 0).bind (assign_hungarians0.k2 k b0)) = some r := h
 clear h
 refine calls_bodyL Try.func31 (by kernel_rfl) 21 (by kernel_rfl) (by kernel_rfl) ⟨w, SM [⟨gb0, arrV (Value.int .i64) 0 144 b0, 54⟩] [], I0⟩ I0 [⟨gb0, arrV (Value.int .i64) 0 144 b0, 54⟩] [] [(0, pt gb0 0)] (by kernel_rfl) hs ?_
 generalize w.heap.size = nx0
 show OK _ K31s0_0 _ _ _ _ _ _ _ _
 refine OK.sr ?_
 refine RL.spt 1 [(2, pt nx0 0), (0, pt gb0 0)] (nx0 + 1) [⟨gb0, arrV (Value.int .i64) 0 144 b0, 54⟩, ⟨nx0, ((arrV (Value.int .i64) 0 12 (List.replicate 12 0)) ++ ((arrV (Value.int .i64) 0 12 (List.replicate 12 0)) ++ (arrV (Value.int .i64) 0 12 (List.replicate 12 0)))), 58⟩] ?_
 refine OK.sr ?_
 refine RL.spt 1 [(3, pt (nx0 + 1) 0), (2, pt nx0 0), (0, pt gb0 0)] (nx0 + 2) [⟨gb0, arrV (Value.int .i64) 0 144 b0, 54⟩, ⟨nx0, ((arrV (Value.int .i64) 0 12 (List.replicate 12 0)) ++ ((arrV (Value.int .i64) 0 12 (List.replicate 12 0)) ++ (arrV (Value.int .i64) 0 12 (List.replicate 12 0)))), 58⟩, ⟨nx0 + 1, ((arrV (Value.int .i64) 0 12 (List.replicate 12 0)) ++ ((arrV (Value.int .i64) 0 12 (List.replicate 12 0)) ++ (arrV (Value.int .i64) 0 12 (List.replicate 12 0)))), 58⟩] ?_
 refine OK.sq ?_
 refine OK.sr ?_
 refine RL.st 1 [(6, i6 0), (3, pt (nx0 + 1) 0), (2, pt nx0 0), (0, pt gb0 0)] ?_
 refine OK.join (fun K' I' _ L' X' => ∃ (x1 : List Int), K' = [(0, pt gb0 0), (2, pt nx0 0), (3, pt (nx0 + 1) 0)] ∧ L' = [⟨gb0, arrV (Value.int .i64) 0 144 b0, 54⟩, ⟨nx0, ((arrV (Value.int .i64) 0 12 (List.replicate 12 0)) ++ ((arrV (Value.int .i64) 0 12 (List.replicate 12 0)) ++ (arrV (Value.int .i64) 0 12 (List.replicate 12 0)))), 58⟩, ⟨nx0 + 1, ((arrV (Value.int .i64) 0 12 x1) ++ ((arrV (Value.int .i64) 0 12 (List.replicate 12 0)) ++ (arrV (Value.int .i64) 0 12 (List.replicate 12 0)))), 58⟩] ∧ X' = [] ∧ Imm.le I0 I' ∧ 12 ≤ x1.length ∧ assign_hungarians0.k2 k b0 x1 = some r) ?_ ?_
 ·rintro _ I1 nx1 _ _ ⟨x1, rfl, rfl, rfl, hi1, hz1, H⟩
  rw [assign_hungarians0.k2] at H
  refine QN.then_ ?_
  refine OK.sq ?_
  refine OK.sr ?_
  refine RL.st 1 [(13, i6 0), (0, pt gb0 0), (2, pt nx0 0), (3, pt (nx0 + 1) 0)] ?_
  refine OK.join (fun K' I' _ L' X' => ∃ (x2 : List Int) (x3 : List Int) (x4 : List Int), K' = [(2, pt nx0 0), (3, pt (nx0 + 1) 0)] ∧ L' = [⟨gb0, arrV (Value.int .i64) 0 144 b0, 54⟩, ⟨nx0, ((arrV (Value.int .i64) 0 12 (List.replicate 12 0)) ++ ((arrV (Value.int .i64) 0 12 (List.replicate 12 0)) ++ (arrV (Value.int .i64) 0 12 (List.replicate 12 0)))), 58⟩, ⟨nx0 + 1, ((arrV (Value.int .i64) 0 12 x2) ++ ((arrV (Value.int .i64) 0 12 x3) ++ (arrV (Value.int .i64) 0 12 x4))), 58⟩] ∧ X' = [] ∧ Imm.le I1 I' ∧ 12 ≤ x2.length ∧ 12 ≤ x3.length ∧ 12 ≤ x4.length ∧ assign_hungarians0.k1 (x2, x3, x4) = some r) ?_ ?_
  ·rintro _ I2 nx2 _ _ ⟨x2, x3, x4, rfl, rfl, rfl, hi2, hz2, hz3, hz4, H⟩
   rw [assign_hungarians0.k1] at H
   refine QN.then_ ?_
   refine OK.sr ?_
   refine RL.simP (K' := [(2, pt nx0 0)]) (nx' := nx2) (L' := [⟨gb0, arrV (Value.int .i64) 0 144 b0, 54⟩, ⟨nx0, ((arrV (Value.int .i64) 0 12 x2) ++ ((arrV (Value.int .i64) 0 12 x3) ++ (arrV (Value.int .i64) 0 12 x4))), 58⟩, ⟨nx0 + 1, ((arrV (Value.int .i64) 0 12 x2) ++ ((arrV (Value.int .i64) 0 12 x3) ++ (arrV (Value.int .i64) 0 12 x4))), 58⟩]) [] (RFacts.nil _ _ _) 2 [.l 2, .l 1] (by kernel_rfl) (by kernel_rfl) ?_
   refine RL.nt ?_
   refine OK.re ?_
   obtain rfl := Option.some.inj H
   refine QN.body rfl [] (RFacts.nil _ _ _) (.l 1) (.agg (((arrV (Value.int .i64) 0 12 x2) ++ ((arrV (Value.int .i64) 0 12 x3) ++ (arrV (Value.int .i64) 0 12 x4)))).toArray) (by kernel_rfl) (by kernel_rfl) (by kernel_rfl) ?_ _ (.inr rfl)
   exact fun w' hs' => ⟨_, rfl, I2, rfl, ((hs'.fin.selB [0] (by kernel_rfl)).sel [] (by kernel_rfl)), hz2, hz3, hz4⟩
  ·intro Q_1 hJ2 hQ2
   obtain ⟨y2, H, HK2⟩ := bnd H
   refine OK.bk 2 ?_
   refine OK.sub (K' := [(0, pt gb0 0), (2, pt nx0 0), (3, pt (nx0 + 1) 0), (13, i6 0)]) (L' := [⟨gb0, arrV (Value.int .i64) 0 144 b0, 54⟩, ⟨nx0, ((arrV (Value.int .i64) 0 12 (List.replicate 12 0)) ++ ((arrV (Value.int .i64) 0 12 (List.replicate 12 0)) ++ (arrV (Value.int .i64) 0 12 (List.replicate 12 0)))), 58⟩, ⟨nx0 + 1, ((arrV (Value.int .i64) 0 12 x1) ++ ((arrV (Value.int .i64) 0 12 (List.replicate 12 0)) ++ (arrV (Value.int .i64) 0 12 (List.replicate 12 0)))), 58⟩]) (by kernel_rfl) (.cons_cons _ (.cons_cons _ (.cons_cons _ .slnil))) (.refl _) ?_
   refine OK.lp (fun n_ K' I' _ L' X' => ∃ (x5 : List Int) (x6 : List Int) (x7 : List Int) (x8 : Int), K' = [(0, pt gb0 0), (2, pt nx0 0), (3, pt (nx0 + 1) 0), (13, i6 x8)] ∧ L' = [⟨gb0, arrV (Value.int .i64) 0 144 b0, 54⟩, ⟨nx0, ((arrV (Value.int .i64) 0 12 (List.replicate 12 0)) ++ ((arrV (Value.int .i64) 0 12 (List.replicate 12 0)) ++ (arrV (Value.int .i64) 0 12 (List.replicate 12 0)))), 58⟩, ⟨nx0 + 1, ((arrV (Value.int .i64) 0 12 x5) ++ ((arrV (Value.int .i64) 0 12 x6) ++ (arrV (Value.int .i64) 0 12 x7))), 58⟩] ∧ X' = [] ∧ Imm.le I1 I' ∧ 12 ≤ x5.length ∧ 12 ≤ x6.length ∧ 12 ≤ x7.length ∧ assign_hungarians0.l1 b0 n_ x5 x6 x7 x8 = some y2) k ⟨x1, (List.replicate 12 0), (List.replicate 12 0), 0, rfl, rfl, rfl, (Imm.le_refl _), hz1, (Nat.le_of_eq List.length_replicate.symm), (Nat.le_of_eq List.length_replicate.symm), H⟩ ?_ ?_
   ·rintro _ _ _ _ _ ⟨x5, x6, x7, x8, rfl, rfl, rfl, _, hz5, hz6, hz7, H⟩
    cases H
   ·rintro kq1 _ I3 nx3 _ _ ⟨x5, x6, x7, x8, rfl, rfl, rfl, hi3, hz5, hz6, hz7, H⟩ Q_l1 hJ3 hQ3
    rw [assign_hungarians0.l1] at H
    refine OK.sr ?_
    refine RL.st 1 [(14, .bool (decide (x8 < 12))), (0, pt gb0 0), (2, pt nx0 0), (3, pt (nx0 + 1) 0), (13, i6 x8)] ?_
    refine OK.sq ?_
    refine OK.cd (decide (x8 < 12)) (fun hb => ?_) (fun hb => ?_)
    ·skip
     have hc := (of_decide_eq_true hb)
     rw [if_pos hc] at H
     clear hb
     refine OK.skt ?_
     refine OK.sq ?_
     refine OK.bk 3 ?_
     refine OK.sr ?_
     refine RL.st 2 [(5, i6 x8), (0, pt gb0 0), (2, pt nx0 0), (3, pt (nx0 + 1) 0), (13, i6 x8)] ?_
     refine OK.rg ?_
     refine RL.s 2 [(17, i6 x8), (16, pt gb0 0), (0, pt gb0 0), (2, pt nx0 0), (3, pt (nx0 + 1) 0), (13, i6 x8)] ?_
     refine RL.arrange (L' := [⟨nx0 + 1, ((arrV (Value.int .i64) 0 12 x5) ++ ((arrV (Value.int .i64) 0 12 x6) ++ (arrV (Value.int .i64) 0 12 x7))), 58⟩, ⟨gb0, arrV (Value.int .i64) 0 144 b0, 54⟩, ⟨nx0, ((arrV (Value.int .i64) 0 12 (List.replicate 12 0)) ++ ((arrV (Value.int .i64) 0 12 (List.replicate 12 0)) ++ (arrV (Value.int .i64) 0 12 (List.replicate 12 0)))), 58⟩]) (X' := []) [2, 0, 1] [] (by kernel_rfl) (by kernel_rfl) (by kernel_rfl) (by kernel_rfl) ?_
     obtain ⟨t1, hA1, H⟩ := bnd H
     refine RL.callM (L1 := [⟨nx0 + 1, ((arrV (Value.int .i64) 0 12 x5) ++ ((arrV (Value.int .i64) 0 12 x6) ++ (arrV (Value.int .i64) 0 12 x7))), 58⟩, ⟨gb0, arrV (Value.int .i64) 0 144 b0, 54⟩]) (L2 := [⟨nx0, ((arrV (Value.int .i64) 0 12 (List.replicate 12 0)) ++ ((arrV (Value.int .i64) 0 12 (List.replicate 12 0)) ++ (arrV (Value.int .i64) 0 12 (List.replicate 12 0)))), 58⟩]) (X1 := []) (X2 := []) rfl rfl 37 [pt (nx0 + 1) 0, pt gb0 0, i6 x8] (some 18) (fun w => assign_solution_augments0.Post (SM [⟨nx0 + 1, ((arrV (Value.int .i64) 0 12 x5) ++ ((arrV (Value.int .i64) 0 12 x6) ++ (arrV (Value.int .i64) 0 12 x7))), 58⟩, ⟨gb0, arrV (Value.int .i64) 0 144 b0, 54⟩] []) (nx0 + 1) gb0 x8 (⟨x5, x6, x7⟩ : S58) b0 I3 w t1) (by kernel_rfl) (by kernel_rfl) (fun w hs => assign_solution_augments0.calls kq1 I3 (nx0 + 1) gb0 x8 (⟨x5, x6, x7⟩ : S58) b0 w hs hz5 hz6 hz7 hzb0 t1 hA1) ?_
     rintro w v w' hs ⟨I4, rfl, hg, hz8, hz9, hz10⟩
     have hi4 : Imm.le I3 I4 := hg.le
     refine RL.resume (L' := [⟨nx0 + 1, ((arrV (Value.int .i64) 0 12 t1.f0) ++ ((arrV (Value.int .i64) 0 12 t1.f1) ++ (arrV (Value.int .i64) 0 12 t1.f2))), 58⟩, ⟨gb0, arrV (Value.int .i64) 0 144 b0, 54⟩, ⟨nx0, ((arrV (Value.int .i64) 0 12 (List.replicate 12 0)) ++ ((arrV (Value.int .i64) 0 12 (List.replicate 12 0)) ++ (arrV (Value.int .i64) 0 12 (List.replicate 12 0)))), 58⟩]) (X' := []) rfl (hs.outof hg) ?_
     clear hs hg
     generalize w'.heap.size = nx4
     clear w w'
     refine RL.nil (by kernel_rfl) ?_
     refine QN.sub (K' := [(0, pt gb0 0), (2, pt nx0 0), (3, pt (nx0 + 1) 0), (13, i6 x8)]) (L' := [⟨nx0 + 1, ((arrV (Value.int .i64) 0 12 t1.f0) ++ ((arrV (Value.int .i64) 0 12 t1.f1) ++ (arrV (Value.int .i64) 0 12 t1.f2))), 58⟩, ⟨gb0, arrV (Value.int .i64) 0 144 b0, 54⟩, ⟨nx0, ((arrV (Value.int .i64) 0 12 (List.replicate 12 0)) ++ ((arrV (Value.int .i64) 0 12 (List.replicate 12 0)) ++ (arrV (Value.int .i64) 0 12 (List.replicate 12 0)))), 58⟩]) (by kernel_rfl) (.cons_cons _ (.cons_cons _ (.cons_cons _ .slnil))) (.refl _) ?_
     refine QN.blkN ?_
     refine QN.then_ ?_
     refine OK.rg ?_
     refine RL.s 2 [(13, i6 (W .i64 (x8 + 1))), (0, pt gb0 0), (2, pt nx0 0), (3, pt (nx0 + 1) 0)] ?_
     refine RL.nil (by kernel_rfl) ?_
     refine QN.arrange (L' := [⟨gb0, arrV (Value.int .i64) 0 144 b0, 54⟩, ⟨nx0, ((arrV (Value.int .i64) 0 12 (List.replicate 12 0)) ++ ((arrV (Value.int .i64) 0 12 (List.replicate 12 0)) ++ (arrV (Value.int .i64) 0 12 (List.replicate 12 0)))), 58⟩, ⟨nx0 + 1, ((arrV (Value.int .i64) 0 12 t1.f0) ++ ((arrV (Value.int .i64) 0 12 t1.f1) ++ (arrV (Value.int .i64) 0 12 t1.f2))), 58⟩]) (X' := []) [1, 2, 0] [] (by kernel_rfl) (by kernel_rfl) (by kernel_rfl) (by kernel_rfl) ?_
     exact QN.sb (hJ3 _ _ _ _ _ ⟨t1.f0, t1.f1, t1.f2, W .i64 (x8 + 1), rfl, rfl, rfl, (Imm.le_trans hi3 hi4), hz8, hz9, hz10, H⟩) (.cons_cons _ (.cons_cons _ (.cons_cons _ .slnil))) (.refl _)
    ·skip
     have hc := (of_decide_eq_false hb)
     rw [if_neg hc] at H
     clear hb
     refine OK.ex 2 ?_
     refine QN.thenE ?_
     refine QN.outE hQ3 ?_
     refine QN.blkE ?_
     obtain rfl := Option.some.inj H
     exact QN.sb (hJ2 _ _ _ _ _ ⟨x5, x6, x7, rfl, rfl, rfl, hi3, hz5, hz6, hz7, HK2⟩) (.cons_cons _ (.cons_cons _ (.cons_cons _ .slnil))) (.refl _)
 ·intro Q_2 hJ1 hQ1
  obtain ⟨y1, H, HK1⟩ := bnd H
  refine OK.bk 0 ?_
  refine OK.sub (K' := [(0, pt gb0 0), (2, pt nx0 0), (3, pt (nx0 + 1) 0), (6, i6 0)]) (L' := [⟨gb0, arrV (Value.int .i64) 0 144 b0, 54⟩, ⟨nx0, ((arrV (Value.int .i64) 0 12 (List.replicate 12 0)) ++ ((arrV (Value.int .i64) 0 12 (List.replicate 12 0)) ++ (arrV (Value.int .i64) 0 12 (List.replicate 12 0)))), 58⟩, ⟨nx0 + 1, ((arrV (Value.int .i64) 0 12 (List.replicate 12 0)) ++ ((arrV (Value.int .i64) 0 12 (List.replicate 12 0)) ++ (arrV (Value.int .i64) 0 12 (List.replicate 12 0)))), 58⟩]) (by kernel_rfl) (.cons_cons _ (.cons_cons _ (.cons_cons _ .slnil))) (.refl _) ?_
  refine OK.lp (fun n_ K' I' _ L' X' => ∃ (x9 : List Int) (x10 : Int), K' = [(0, pt gb0 0), (2, pt nx0 0), (3, pt (nx0 + 1) 0), (6, i6 x10)] ∧ L' = [⟨gb0, arrV (Value.int .i64) 0 144 b0, 54⟩, ⟨nx0, ((arrV (Value.int .i64) 0 12 (List.replicate 12 0)) ++ ((arrV (Value.int .i64) 0 12 (List.replicate 12 0)) ++ (arrV (Value.int .i64) 0 12 (List.replicate 12 0)))), 58⟩, ⟨nx0 + 1, ((arrV (Value.int .i64) 0 12 x9) ++ ((arrV (Value.int .i64) 0 12 (List.replicate 12 0)) ++ (arrV (Value.int .i64) 0 12 (List.replicate 12 0)))), 58⟩] ∧ X' = [] ∧ Imm.le I0 I' ∧ 12 ≤ x9.length ∧ assign_hungarians0.l2 n_ x9 x10 = some y1) k ⟨(List.replicate 12 0), 0, rfl, rfl, rfl, (Imm.le_refl _), (Nat.le_of_eq List.length_replicate.symm), H⟩ ?_ ?_
  ·rintro _ _ _ _ _ ⟨x9, x10, rfl, rfl, rfl, _, hz11, H⟩
   cases H
  ·rintro kq2 _ I5 nx5 _ _ ⟨x9, x10, rfl, rfl, rfl, hi5, hz11, H⟩ Q_l2 hJ4 hQ4
   rw [assign_hungarians0.l2] at H
   refine OK.sr ?_
   refine RL.st 1 [(7, .bool (decide (x10 < 12))), (0, pt gb0 0), (2, pt nx0 0), (3, pt (nx0 + 1) 0), (6, i6 x10)] ?_
   refine OK.sq ?_
   refine OK.cd (decide (x10 < 12)) (fun hb => ?_) (fun hb => ?_)
   ·skip
    have hc := (of_decide_eq_true hb)
    rw [if_pos hc] at H
    clear hb
    refine OK.skt ?_
    refine OK.sq ?_
    refine OK.bk 1 ?_
    refine OK.sr ?_
    refine RL.st 2 [(4, i6 x10), (0, pt gb0 0), (2, pt nx0 0), (3, pt (nx0 + 1) 0), (6, i6 x10)] ?_
    refine OK.rg ?_
    refine RL.s 2 [(10, pt (nx0 + 1) 0), (9, i6 x10), (0, pt gb0 0), (2, pt nx0 0), (3, pt (nx0 + 1) 0), (6, i6 x10)] ?_
    obtain ⟨hib0, H⟩ := ifs H
    obtain ⟨hib1, H⟩ := ifs H
    have ha01 := hib0; have ha11 := hib1
    refine RL.idxArr (T := 56) (e := 3) 1 .i64 x10 (nx0 + 1) (0) 12 (some 11) (by kernel_rfl) (by kernel_rfl) (by kernel_rfl) (by kernel_rfl) hib0 hib1 (K' := [(11, pt (nx0 + 1) (0 + (x10).toNat * 1)), (10, pt (nx0 + 1) 0), (9, i6 x10), (0, pt gb0 0), (2, pt nx0 0), (3, pt (nx0 + 1) 0), (6, i6 x10)]) (by kernel_rfl) ?_
    refine RL.stA (g := nx0 + 1) (ty := 58) (cs := ((arrV (Value.int .i64) 0 12 x9) ++ ((arrV (Value.int .i64) 0 12 (List.replicate 12 0)) ++ (arrV (Value.int .i64) 0 12 (List.replicate 12 0))))) (Value.int .i64) 0 12 x9 (-1) [] ((arrV (Value.int .i64) 0 12 (List.replicate 12 0)) ++ (arrV (Value.int .i64) 0 12 (List.replicate 12 0))) 0 ((x10).toNat) 2 (by kernel_rfl) (by kernel_rfl) (by kernel_rfl) (by omega) hz11 (0 + (x10).toNat * 1) (by omega) 3 (by kernel_rfl) (by kernel_rfl) (by kernel_rfl) (by rfl) (fun _ h => by cases h) (fun _ h => by cases h) (cs' := ((arrV (Value.int .i64) 0 12 (x9.set ((x10).toNat) (-1))) ++ ((arrV (Value.int .i64) 0 12 (List.replicate 12 0)) ++ (arrV (Value.int .i64) 0 12 (List.replicate 12 0))))) (by kernel_rfl) ?_
    refine RL.nil (by kernel_rfl) ?_
    refine QN.sub (K' := [(0, pt gb0 0), (2, pt nx0 0), (3, pt (nx0 + 1) 0), (6, i6 x10)]) (L' := [⟨gb0, arrV (Value.int .i64) 0 144 b0, 54⟩, ⟨nx0, ((arrV (Value.int .i64) 0 12 (List.replicate 12 0)) ++ ((arrV (Value.int .i64) 0 12 (List.replicate 12 0)) ++ (arrV (Value.int .i64) 0 12 (List.replicate 12 0)))), 58⟩, ⟨nx0 + 1, ((arrV (Value.int .i64) 0 12 (x9.set ((x10).toNat) (-1))) ++ ((arrV (Value.int .i64) 0 12 (List.replicate 12 0)) ++ (arrV (Value.int .i64) 0 12 (List.replicate 12 0)))), 58⟩]) (by kernel_rfl) (.cons_cons _ (.cons_cons _ (.cons_cons _ .slnil))) (.refl _) ?_
    refine QN.blkN ?_
    refine QN.then_ ?_
    refine OK.rg ?_
    refine RL.s 2 [(6, i6 (W .i64 (x10 + 1))), (0, pt gb0 0), (2, pt nx0 0), (3, pt (nx0 + 1) 0)] ?_
    refine RL.nil (by kernel_rfl) ?_
    exact QN.sb (hJ4 _ _ _ _ _ ⟨(x9.set ((x10).toNat) (-1)), W .i64 (x10 + 1), rfl, rfl, rfl, hi5, (le_set hz11), H⟩) (.cons_cons _ (.cons_cons _ (.cons_cons _ .slnil))) (.refl _)
   ·skip
    have hc := (of_decide_eq_false hb)
    rw [if_neg hc] at H
    clear hb
    refine OK.ex 0 ?_
    refine QN.thenE ?_
    refine QN.outE hQ4 ?_
    refine QN.blkE ?_
    obtain rfl := Option.some.inj H
    exact QN.sb (hJ1 _ _ _ _ _ ⟨x9, rfl, rfl, rfl, hi5, hz11, HK1⟩) (.cons_cons _ (.cons_cons _ (.cons_cons _ .slnil))) (.refl _)

end Go.Proofs.Ytdmhbcgmimfjcaa
namespace Go.Proofs.Ytdmhbcgmimfjcaa
open Go Go.Proofs.Ytdmhbcgmimfjcaa.RW
set_option linter.unusedVariables false
set_option maxRecDepth 100000
set_option maxHeartbeats 8000000

/-! ### assign_solution_values0: function 32, (*armillary/assign.solution).value -/
noncomputable def K32s0_0 : Code := cBody Try.f32
def assign_solution_values0.k1  (x1 : Int) : Option (Int) := (some x1)
def assign_solution_values0.l1 (b0 : S58) (b1 : List Int) : Nat → Int → Int → Option (Int)
 | 0, _, _ => none
 | k + 1, x2, x3 => (if x3 < 12 then (if 0 ≤ x3 then (if x3 < (12 : Int) then (if 0 ≤ (b0.f0.getD ((x3).toNat) 0) then (if (b0.f0.getD ((x3).toNat) 0) < (12 : Int) then (if 0 ≤ x3 then (if x3 < (12 : Int) then (assign_solution_values0.l1 b0 b1 k (W .i64 (x2 + (b1.getD (((b0.f0.getD ((x3).toNat) 0)).toNat * 12 + (x3).toNat) 0))) (W .i64 (x3 + 1))) else none) else none) else none) else none) else none) else none) else (some x2))
def assign_solution_values0.f (k : Nat) (b0 : S58) (b1 : List Int) : Option (Int) := ((assign_solution_values0.l1 b0 b1 k 0 0).bind (assign_solution_values0.k1))
def assign_solution_values0.Post (S : Nat → Prop) (gb0 : Nat) (gb1 : Nat) (b0 : S58) (b1 : List Int) (I : Imm) (w : World) (r : Int) (v : Value) (w' : World) : Prop :=
 ∃ (J : Imm), v = .int .i64 r ∧ Sat ⟨w, S, I⟩ J w'.heap.size [⟨gb0, ((arrV (Value.int .i64) 0 12 b0.f0) ++ ((arrV (Value.int .i64) 0 12 b0.f1) ++ (arrV (Value.int .i64) 0 12 b0.f2))), 58⟩, ⟨gb1, arrV (Value.int .i64) 0 144 b1, 54⟩] [] w'
theorem assign_solution_values0.calls (k : Nat) (I0 : Imm) (gb0 : Nat) (gb1 : Nat) (b0 : S58) (b1 : List Int) (w : World) (hs : Sat ⟨w, SM [⟨gb0, ((arrV (Value.int .i64) 0 12 b0.f0) ++ ((arrV (Value.int .i64) 0 12 b0.f1) ++ (arrV (Value.int .i64) 0 12 b0.f2))), 58⟩, ⟨gb1, arrV (Value.int .i64) 0 144 b1, 54⟩] [], I0⟩ I0 w.heap.size [⟨gb0, ((arrV (Value.int .i64) 0 12 b0.f0) ++ ((arrV (Value.int .i64) 0 12 b0.f1) ++ (arrV (Value.int .i64) 0 12 b0.f2))), 58⟩, ⟨gb1, arrV (Value.int .i64) 0 144 b1, 54⟩] [] w) (hzb0_0 : 12 ≤ b0.f0.length) (hzb0_1 : 12 ≤ b0.f1.length) (hzb0_2 : 12 ≤ b0.f2.length) (hzb1 : 144 ≤ b1.length) (r : Int) (h : assign_solution_values0.f k b0 b1 = some r) :
  Calls Try.prog 32 [pt gb0 0, pt gb1 0].toArray w fun e w' => ∃ v, e = .returned v ∧ assign_solution_values0.Post (SM [⟨gb0, ((arrV (Value.int .i64) 0 12 b0.f0) ++ ((arrV (Value.int .i64) 0 12 b0.f1) ++ (arrV (Value.int .i64) 0 12 b0.f2))), 58⟩, ⟨gb1, arrV (Value.int .i64) 0 144 b1, 54⟩] []) gb0 gb1 b0 b1 I0 w r v w' := by
 have H : ((assign_solution_values0.l1 b0 b1 k 0 0).bind (assign_solution_values0.k1)) = some r := h
 clear h
 refine calls_bodyL Try.func32 (by kernel_rfl) 27 (by kernel_rfl) (by kernel_rfl) ⟨w, SM [⟨gb0, ((arrV (Value.int .i64) 0 12 b0.f0) ++ ((arrV (Value.int .i64) 0 12 b0.f1) ++ (arrV (Value.int .i64) 0 12 b0.f2))), 58⟩, ⟨gb1, arrV (Value.int .i64) 0 144 b1, 54⟩] [], I0⟩ I0 [⟨gb0, ((arrV (Value.int .i64) 0 12 b0.f0) ++ ((arrV (Value.int .i64) 0 12 b0.f1) ++ (arrV (Value.int .i64) 0 12 b0.f2))), 58⟩, ⟨gb1, arrV (Value.int .i64) 0 144 b1, 54⟩] [] [(0, pt gb0 0), (1, pt gb1 0)] (by kernel_rfl) hs ?_
 generalize w.heap.size = nx0
 show OK _ K32s0_0 _ _ _ _ _ _ _ _
 refine OK.sr ?_
 refine RL.st 1 [(0, pt gb0 0), (1, pt gb1 0)] ?_
 refine OK.sr ?_
 refine RL.st 1 [(5, i6 0), (0, pt gb0 0), (1, pt gb1 0)] ?_
 refine OK.sq ?_
 refine OK.sr ?_
 refine RL.simK (K' := [(12, i6 0), (11, .agg (arrV (Value.int .i64) 0 12 b0.f0).toArray), (5, i6 0), (1, pt gb1 0)]) [] (RFacts.nil _ _ _) 5 [.no, .no, .no, .l 0, .no] (by kernel_rfl) (by kernel_rfl) ?_
 refine RL.nt ?_
 refine OK.join (fun K' I' _ L' X' => ∃ (x1 : Int), K' = [(5, i6 x1)] ∧ L' = [⟨gb0, ((arrV (Value.int .i64) 0 12 b0.f0) ++ ((arrV (Value.int .i64) 0 12 b0.f1) ++ (arrV (Value.int .i64) 0 12 b0.f2))), 58⟩, ⟨gb1, arrV (Value.int .i64) 0 144 b1, 54⟩] ∧ X' = [] ∧ Imm.le I0 I' ∧ assign_solution_values0.k1 x1 = some r) ?_ ?_
 ·rintro _ I1 nx1 _ _ ⟨x1, rfl, rfl, rfl, hi1, H⟩
  rw [assign_solution_values0.k1] at H
  refine QN.then_ ?_
  refine OK.sr ?_
  refine RL.st 2 [(4, i6 x1)] ?_
  refine OK.re ?_
  obtain rfl := Option.some.inj H
  refine QN.body rfl [] (RFacts.nil _ _ _) (.no) (i6 x1) (by kernel_rfl) (by kernel_rfl) (by kernel_rfl) ?_ _ (.inr rfl)
  exact fun w' hs' => ⟨_, rfl, I1, rfl, ((hs'.fin.selB [0, 1] (by kernel_rfl)).sel [] (by kernel_rfl))⟩
 ·intro Q_1 hJ1 hQ1
  obtain ⟨y1, H, HK1⟩ := bnd H
  refine OK.bk 0 ?_
  refine OK.sub (K' := [(1, pt gb1 0), (5, i6 0), (11, .agg (arrV (Value.int .i64) 0 12 b0.f0).toArray), (12, i6 0)]) (L' := [⟨gb0, ((arrV (Value.int .i64) 0 12 b0.f0) ++ ((arrV (Value.int .i64) 0 12 b0.f1) ++ (arrV (Value.int .i64) 0 12 b0.f2))), 58⟩, ⟨gb1, arrV (Value.int .i64) 0 144 b1, 54⟩]) (by kernel_rfl) (.cons_cons _ (.cons_cons _ .slnil)) (.refl _) ?_
  refine OK.lp (fun n_ K' I' _ L' X' => ∃ (x2 : Int) (x3 : Int), K' = [(1, pt gb1 0), (5, i6 x2), (11, .agg (arrV (Value.int .i64) 0 12 b0.f0).toArray), (12, i6 x3)] ∧ L' = [⟨gb0, ((arrV (Value.int .i64) 0 12 b0.f0) ++ ((arrV (Value.int .i64) 0 12 b0.f1) ++ (arrV (Value.int .i64) 0 12 b0.f2))), 58⟩, ⟨gb1, arrV (Value.int .i64) 0 144 b1, 54⟩] ∧ X' = [] ∧ Imm.le I0 I' ∧ assign_solution_values0.l1 b0 b1 n_ x2 x3 = some y1) k ⟨0, 0, rfl, rfl, rfl, (Imm.le_refl _), H⟩ ?_ ?_
  ·rintro _ _ _ _ _ ⟨x2, x3, rfl, rfl, rfl, _, H⟩
   cases H
  ·rintro kq1 _ I2 nx2 _ _ ⟨x2, x3, rfl, rfl, rfl, hi2, H⟩ Q_l1 hJ2 hQ2
   rw [assign_solution_values0.l1] at H
   refine OK.sr ?_
   refine RL.st 1 [(13, .bool (decide (x3 < 12))), (1, pt gb1 0), (5, i6 x2), (11, .agg (arrV (Value.int .i64) 0 12 b0.f0).toArray), (12, i6 x3)] ?_
   refine OK.sq ?_
   refine OK.cd (decide (x3 < 12)) (fun hb => ?_) (fun hb => ?_)
   ·skip
    have hc := (of_decide_eq_true hb)
    rw [if_pos hc] at H
    clear hb
    refine OK.skt ?_
    refine OK.sq ?_
    refine OK.bk 1 ?_
    refine OK.sr ?_
    refine RL.s 1 [(14, i6 x3), (1, pt gb1 0), (5, i6 x2), (11, .agg (arrV (Value.int .i64) 0 12 b0.f0).toArray), (12, i6 x3)] ?_
    obtain ⟨hib0, H⟩ := ifs H
    obtain ⟨hib1, H⟩ := ifs H
    refine RL.idxAgg (T := 56) (e := 3) (cs := (arrV (Value.int .i64) 0 12 b0.f0).toArray) (Value.int .i64) 0 12 12 b0.f0 .i64 x3 (some 15) (by kernel_rfl) (by kernel_rfl) (by kernel_rfl) (by kernel_rfl) rfl (by kernel_rfl) (by kernel_rfl) hib0 hib1 (K' := [(15, i6 (b0.f0.getD ((x3).toNat) 0)), (14, i6 x3), (1, pt gb1 0), (5, i6 x2), (11, .agg (arrV (Value.int .i64) 0 12 b0.f0).toArray), (12, i6 x3)]) (by kernel_rfl) ?_
    refine RL.st 2 [(7, i6 (b0.f0.getD ((x3).toNat) 0)), (6, i6 x3), (1, pt gb1 0), (5, i6 x2), (11, .agg (arrV (Value.int .i64) 0 12 b0.f0).toArray), (12, i6 x3)] ?_
    refine OK.rg ?_
    refine RL.s 5 [(20, pt gb1 0), (19, i6 x3), (18, i6 (b0.f0.getD ((x3).toNat) 0)), (16, i6 x2), (1, pt gb1 0), (5, i6 x2), (11, .agg (arrV (Value.int .i64) 0 12 b0.f0).toArray), (12, i6 x3)] ?_
    obtain ⟨hib0, H⟩ := ifs H
    obtain ⟨hib1, H⟩ := ifs H
    have ha01 := hib0; have ha11 := hib1
    refine RL.idxArr (T := 54) (e := 52) 12 .i64 (b0.f0.getD ((x3).toNat) 0) gb1 (0) 12 (some 21) (by kernel_rfl) (by kernel_rfl) (by kernel_rfl) (by kernel_rfl) hib0 hib1 (K' := [(21, pt gb1 (0 + ((b0.f0.getD ((x3).toNat) 0)).toNat * 12)), (20, pt gb1 0), (19, i6 x3), (18, i6 (b0.f0.getD ((x3).toNat) 0)), (16, i6 x2), (1, pt gb1 0), (5, i6 x2), (11, .agg (arrV (Value.int .i64) 0 12 b0.f0).toArray), (12, i6 x3)]) (by kernel_rfl) ?_
    obtain ⟨hib0, H⟩ := ifs H
    obtain ⟨hib1, H⟩ := ifs H
    have ha02 := hib0; have ha12 := hib1
    refine RL.idxArr (T := 52) (e := 2) 1 .i64 x3 gb1 (0 + ((b0.f0.getD ((x3).toNat) 0)).toNat * 12) 12 (some 22) (by kernel_rfl) (by kernel_rfl) (by kernel_rfl) (by kernel_rfl) hib0 hib1 (K' := [(22, pt gb1 (0 + ((b0.f0.getD ((x3).toNat) 0)).toNat * 12 + (x3).toNat * 1)), (21, pt gb1 (0 + ((b0.f0.getD ((x3).toNat) 0)).toNat * 12)), (20, pt gb1 0), (19, i6 x3), (18, i6 (b0.f0.getD ((x3).toNat) 0)), (16, i6 x2), (1, pt gb1 0), (5, i6 x2), (11, .agg (arrV (Value.int .i64) 0 12 b0.f0).toArray), (12, i6 x3)]) (by kernel_rfl) ?_
    refine RL.ldA (g := gb1) (ty := 54) (cs := arrV (Value.int .i64) 0 144 b1) (Value.int .i64) 0 144 b1 [] [] 0 (((b0.f0.getD ((x3).toNat) 0)).toNat * 12 + (x3).toNat) 1 (by kernel_rfl) (by kernel_rfl) (by kernel_rfl) (by omega) (0 + ((b0.f0.getD ((x3).toNat) 0)).toNat * 12 + (x3).toNat * 1) (by omega) (some 23) (by kernel_rfl) (by kernel_rfl) (by kernel_rfl) (K' := [(23, i6 (b1.getD (((b0.f0.getD ((x3).toNat) 0)).toNat * 12 + (x3).toNat) 0)), (22, pt gb1 (0 + ((b0.f0.getD ((x3).toNat) 0)).toNat * 12 + (x3).toNat * 1)), (21, pt gb1 (0 + ((b0.f0.getD ((x3).toNat) 0)).toNat * 12)), (20, pt gb1 0), (19, i6 x3), (18, i6 (b0.f0.getD ((x3).toNat) 0)), (16, i6 x2), (1, pt gb1 0), (5, i6 x2), (11, .agg (arrV (Value.int .i64) 0 12 b0.f0).toArray), (12, i6 x3)]) (by kernel_rfl) ?_
    refine RL.s 2 [(5, i6 (W .i64 (x2 + (b1.getD (((b0.f0.getD ((x3).toNat) 0)).toNat * 12 + (x3).toNat) 0)))), (1, pt gb1 0), (11, .agg (arrV (Value.int .i64) 0 12 b0.f0).toArray), (12, i6 x3)] ?_
    refine RL.nil (by kernel_rfl) ?_
    refine QN.blkN ?_
    refine QN.then_ ?_
    refine OK.rg ?_
    refine RL.s 2 [(12, i6 (W .i64 (x3 + 1))), (5, i6 (W .i64 (x2 + (b1.getD (((b0.f0.getD ((x3).toNat) 0)).toNat * 12 + (x3).toNat) 0)))), (1, pt gb1 0), (11, .agg (arrV (Value.int .i64) 0 12 b0.f0).toArray)] ?_
    refine RL.nil (by kernel_rfl) ?_
    exact QN.sb (hJ2 _ _ _ _ _ ⟨W .i64 (x2 + (b1.getD (((b0.f0.getD ((x3).toNat) 0)).toNat * 12 + (x3).toNat) 0)), W .i64 (x3 + 1), rfl, rfl, rfl, hi2, H⟩) (.cons_cons _ (.cons_cons _ .slnil)) (.refl _)
   ·skip
    have hc := (of_decide_eq_false hb)
    rw [if_neg hc] at H
    clear hb
    refine OK.ex 0 ?_
    refine QN.thenE ?_
    refine QN.outE hQ2 ?_
    refine QN.blkE ?_
    obtain rfl := Option.some.inj H
    exact QN.sb (hJ1 _ _ _ _ _ ⟨x2, rfl, rfl, rfl, hi2, HK1⟩) (.cons_cons _ (.cons_cons _ .slnil)) (.refl _)

end Go.Proofs.Ytdmhbcgmimfjcaa
namespace Go.Proofs.Ytdmhbcgmimfjcaa.hun
open Go Go.Proofs.Ytdmhbcgmimfjcaa Go.Proofs.Ytdmhbcgmimfjcaa.RW
set_option linter.unusedVariables false
set_option maxRecDepth 100000
/-! ### numbers and lists -/
theorem W64 {x : Int} (h1 : -9223372036854775808 ≤ x) (h2 : x ≤ 9223372036854775807) : W .i64 x = x := by
  show IntKind.i64.wrap x = x
  rw [IntKind.wrap_i64]
  omega
theorem Wn {n : Nat} (h : n < 1000000) : W .i64 ((n : Int) + 1) = ((n + 1 : Nat) : Int) := by
  rw [W64 (by omega) (by omega)]; rfl
abbrev g (l : List Int) (j : Nat) : Int := l.getD j 0
abbrev gb (l : List Bool) (j : Nat) : Bool := l.getD j false
theorem gset {l : List Int} {i : Nat} (h : i < l.length) (x : Int) (j : Nat) : g (l.set i x) j = if j = i then x else g l j := by
  unfold g
  rw [List.getD_eq_getElem?_getD, List.getD_eq_getElem?_getD, List.getElem?_set]
  by_cases e : i = j
  · subst e; simp [h]
  · rw [if_neg e, if_neg (fun h => e h.symm)]
theorem gbset {l : List Bool} {i : Nat} (h : i < l.length) (x : Bool) (j : Nat) : gb (l.set i x) j = if j = i then x else gb l j := by
  unfold gb
  rw [List.getD_eq_getElem?_getD, List.getD_eq_getElem?_getD, List.getElem?_set]
  by_cases e : i = j
  · subst e; simp [h]
  · rw [if_neg e, if_neg (fun h => e h.symm)]
theorem tn (n : Nat) : ((n : Int)).toNat = n := Int.toNat_natCast n

/-! ### the potentials' shift -/
/-- The rows of the tree are lowered. -/
theorem shift_rows (a0 : Int) (tree : List Int) : ∀ (d k n : Nat) (u : List Int), d + n = tree.length → d < k → tree.length ≤ 100 → u.length = 12 → (∀ m, m < tree.length → 0 ≤ g tree m ∧ g tree m < 12) →
    (∀ (r : Nat), r < 12 → g u r ≤ 4000000000000000000) → 0 ≤ a0 → (∀ m m', m < tree.length → m' < tree.length → g tree m = g tree m' → m = m') →
    (∀ m, n ≤ m → m < tree.length → -4000000000000000000 ≤ g u (g tree m).toNat - a0) →
    ∃ u', assign_solution_augment_1s0.l2 a0 tree k u (n : Int) = some u' ∧ u'.length = 12 ∧ ∀ (r : Nat), r < 12 → ((∃ m, n ≤ m ∧ m < tree.length ∧ g tree m = (r : Int)) → g u' r = g u r - a0) ∧ ((¬ ∃ m, n ≤ m ∧ m < tree.length ∧ g tree m = (r : Int)) → g u' r = g u r) := by
  intro d
  induction d with
  | zero =>
    intro k n u hd hk htl hu ht hb ha0 hinj hlow
    obtain ⟨k, rfl⟩ : ∃ m, k = m + 1 := ⟨k - 1, by omega⟩
    refine ⟨u, ?_, hu, fun r hr => ⟨?_, fun _ => rfl⟩⟩
    · simp only [assign_solution_augment_1s0.l2]
      rw [if_neg (by omega)]
    · rintro ⟨m, h1, h2, _⟩
      omega
  | succ d ih =>
    intro k n u hd hk htl hu ht hb ha0 hinj hlow
    obtain ⟨k, rfl⟩ : ∃ m, k = m + 1 := ⟨k - 1, by omega⟩
    have hn' : n < tree.length := by omega
    have h1 := ht n hn'
    obtain ⟨q, hq⟩ : ∃ q : Nat, g tree n = (q : Int) := ⟨(g tree n).toNat, by omega⟩
    have hq12 : q < 12 := by omega
    have hlow' := hlow n (Nat.le_refl _) hn'
    have hq' : tree.getD n 0 = (q : Int) := hq
    rw [hq, tn] at hlow'
    have hbq := hb q hq12
    simp only [assign_solution_augment_1s0.l2]
    simp only [tn, hq']
    rw [if_pos (by omega), if_pos (by omega), if_pos (by omega), if_pos (by omega), if_pos (by omega), if_pos (by omega), if_pos (by omega), Wn (by omega)]
    rw [show W .i64 (u.getD q 0 - a0) = g u q - a0 from W64 (by show _ ≤ g u q - a0; omega) (by show g u q - a0 ≤ _; omega)]
    have key : ∀ (r : Nat), g (u.set q (g u q - a0)) r = if r = q then g u q - a0 else g u r := fun (r : Nat) => gset (by omega) _ r
    obtain ⟨u', e, hl, hr⟩ := ih k (n + 1) (u.set q (g u q - a0)) (by omega) (by omega) htl (by simp [hu]) ht (fun r hr => by
      rw [key r]
      have := hb r hr
      split <;> omega) ha0 hinj (fun m h2 h3 => by
      have h4 := ht m h3
      rw [key]
      split
      · rename_i e1
        have := hinj m n h3 hn' (by rw [hq]; omega)
        omega
      · exact hlow m (by omega) h3)
    refine ⟨u', e, hl, fun r hr' => ?_⟩
    have h5 := hr r hr'
    rw [key r] at h5
    by_cases e1 : r = q
    · subst e1
      rw [if_pos rfl] at h5
      have h6 : ¬ ∃ m, n + 1 ≤ m ∧ m < tree.length ∧ g tree m = (r : Int) := by
        rintro ⟨m, h2, h3, h4⟩
        have := hinj m n h3 hn' (by rw [h4, hq])
        omega
      exact ⟨fun _ => h5.2 h6, fun h => absurd ⟨n, Nat.le_refl _, hn', hq⟩ h⟩
    · rw [if_neg e1] at h5
      refine ⟨fun ⟨m, h2, h3, h4⟩ => h5.1 ⟨m, ?_, h3, h4⟩, fun h => h5.2 (fun ⟨m, h2, h3, h4⟩ => h ⟨m, by omega, h3, h4⟩)⟩
      rcases Nat.lt_or_ge n m with h7 | h7
      · exact h7
      · have : m = n := by omega
        subst this
        rw [hq] at h4
        omega
/-- The done columns are raised, the others' slacks lowered. -/
theorem shift_cols (a0 : Int) (done : List Bool) (h0 : 0 ≤ a0) (h1 : a0 ≤ 2000000000000000000) : ∀ (d k n : Nat) (v sl : List Int), d + n = 12 → d < k → v.length = 12 → sl.length = 12 →
    (∀ (j : Nat), n ≤ j → j < 12 → -2000000000000000000 ≤ g v j ∧ g v j ≤ 2000000000000000000) → (∀ (j : Nat), n ≤ j → j < 12 → -2000000000000000000 ≤ g sl j ∧ g sl j ≤ 2000000000000000000) →
    ∃ v' sl', assign_solution_augment_1s0.l1 a0 done k v sl (n : Int) = some (v', sl') ∧ v'.length = 12 ∧ sl'.length = 12 ∧
      ∀ (j : Nat), j < 12 → (n ≤ j → gb done j = true → g v' j = g v j + a0 ∧ g sl' j = g sl j) ∧ (n ≤ j → gb done j = false → g v' j = g v j ∧ g sl' j = g sl j - a0) ∧ (j < n → g v' j = g v j ∧ g sl' j = g sl j) := by
  intro d
  induction d with
  | zero =>
    intro k n v sl hd hk hv hs hb hb2
    obtain ⟨k, rfl⟩ : ∃ m, k = m + 1 := ⟨k - 1, by omega⟩
    refine ⟨v, sl, ?_, hv, hs, fun j hj => ⟨fun h => ?_, fun h => ?_, fun _ => ⟨rfl, rfl⟩⟩⟩
    · simp only [assign_solution_augment_1s0.l1]
      rw [if_neg (by omega)]
    · omega
    · omega
  | succ d ih =>
    intro k n v sl hd hk hv hs hb hb2
    obtain ⟨k, rfl⟩ : ∃ m, k = m + 1 := ⟨k - 1, by omega⟩
    have hn : n < 12 := by omega
    have hbn := hb n (Nat.le_refl _) hn
    have hbn2 := hb2 n (Nat.le_refl _) hn
    simp only [assign_solution_augment_1s0.l1, tn]
    rw [if_pos (by omega), if_pos (by omega), if_pos (by omega), Wn (by omega)]
    cases hd' : gb done n with
    | true =>
      rw [if_pos hd', if_pos (by omega), if_pos (by omega), if_pos (by omega), if_pos (by omega), Option.bind_some]
      rw [show W .i64 (v.getD n 0 + a0) = g v n + a0 from W64 (by show _ ≤ g v n + a0; omega) (by show g v n + a0 ≤ _; omega)]
      have key : ∀ (r : Nat), g (v.set n (g v n + a0)) r = if r = n then g v n + a0 else g v r := fun (r : Nat) => gset (by omega) _ r
      obtain ⟨v', sl', e, hl1, hl2, hr⟩ := ih k (n + 1) (v.set n (g v n + a0)) sl (by omega) (by omega) (by simp [hv]) hs (fun j h2 h3 => by
        rw [key, if_neg (by omega)]
        exact hb j (by omega) h3) (fun j h2 h3 => hb2 j (by omega) h3)
      refine ⟨v', sl', e, hl1, hl2, fun j hj => ?_⟩
      have h5 := hr j hj
      rw [key j] at h5
      by_cases e1 : j = n
      · subst e1
        rw [if_pos rfl] at h5
        refine ⟨fun _ _ => h5.2.2 (by omega), fun _ h => ?_, fun h => by omega⟩
        rw [hd'] at h; cases h
      · rw [if_neg e1] at h5
        exact ⟨fun h => h5.1 (by omega), fun h => h5.2.1 (by omega), fun h => h5.2.2 (by omega)⟩
    | false =>
      rw [if_neg (by show ¬ gb done n = true; rw [hd']; decide), if_pos (by omega), if_pos (by omega), if_pos (by omega), if_pos (by omega), Option.bind_some]
      rw [show W .i64 (sl.getD n 0 - a0) = g sl n - a0 from W64 (by show _ ≤ g sl n - a0; omega) (by show g sl n - a0 ≤ _; omega)]
      have key : ∀ (r : Nat), g (sl.set n (g sl n - a0)) r = if r = n then g sl n - a0 else g sl r := fun (r : Nat) => gset (by omega) _ r
      obtain ⟨v', sl', e, hl1, hl2, hr⟩ := ih k (n + 1) v (sl.set n (g sl n - a0)) (by omega) (by omega) hv (by simp [hs]) (fun j h2 h3 => hb j (by omega) h3) (fun j h2 h3 => by
        rw [key, if_neg (by omega)]
        exact hb2 j (by omega) h3)
      refine ⟨v', sl', e, hl1, hl2, fun j hj => ?_⟩
      have h5 := hr j hj
      rw [key j] at h5
      by_cases e1 : j = n
      · subst e1
        rw [if_pos rfl] at h5
        refine ⟨fun _ h => ?_, fun _ _ => h5.2.2 (by omega), fun h => by omega⟩
        rw [hd'] at h; cases h
      · rw [if_neg e1] at h5
        exact ⟨fun h => h5.1 (by omega), fun h => h5.2.1 (by omega), fun h => h5.2.2 (by omega)⟩
/-- The shift, whole. -/
theorem shift (k : Nat) (hk : 200 ≤ k) (a0 : Int) (tree : List Int) (s : S58) (done : List Bool) (sl : List Int) (h0 : 0 ≤ a0) (h1 : a0 ≤ 1000000000000000000) (htl : tree.length ≤ 100) (hu : s.f1.length = 12) (hv : s.f2.length = 12) (hs : sl.length = 12)
    (ht : ∀ m, m < tree.length → 0 ≤ g tree m ∧ g tree m < 12) (hinj : ∀ m m', m < tree.length → m' < tree.length → g tree m = g tree m' → m = m')
    (hbu : ∀ (r : Nat), r < 12 → -1000000000000000000 ≤ g s.f1 r ∧ g s.f1 r ≤ 1000000000000000000) (hbv : ∀ (j : Nat), j < 12 → -1000000000000000000 ≤ g s.f2 j ∧ g s.f2 j ≤ 1000000000000000000) (hbs : ∀ (j : Nat), j < 12 → -1000000000000000000 ≤ g sl j ∧ g sl j ≤ 2000000000000000000) :
    ∃ u' v' sl', assign_solution_augment_1s0.f k a0 tree s done sl = some (⟨s.f0, u', v'⟩, sl') ∧ u'.length = 12 ∧ v'.length = 12 ∧ sl'.length = 12 ∧
      (∀ (r : Nat), r < 12 → ((∃ m, m < tree.length ∧ g tree m = (r : Int)) → g u' r = g s.f1 r - a0) ∧ ((¬ ∃ m, m < tree.length ∧ g tree m = (r : Int)) → g u' r = g s.f1 r)) ∧
      ∀ (j : Nat), j < 12 → (gb done j = true → g v' j = g s.f2 j + a0 ∧ g sl' j = g sl j) ∧ (gb done j = false → g v' j = g s.f2 j ∧ g sl' j = g sl j - a0) := by
  obtain ⟨u', e1, hl1, hr1⟩ := shift_rows a0 tree tree.length k 0 s.f1 (by omega) (by omega) htl hu ht (fun r hr => by have := hbu r hr; omega) h0 hinj (fun m _ hm => by
    have h2 := ht m hm
    have := hbu (g tree m).toNat (by omega)
    omega)
  obtain ⟨v', sl', e2, hl2, hl3, hr2⟩ := shift_cols a0 done h0 (by omega) 12 k 0 s.f2 sl rfl (by omega) hv hs (fun j _ hj => by have := hbv j hj; omega) (fun j _ hj => by have := hbs j hj; omega)
  refine ⟨u', v', sl', ?_, hl1, hl2, hl3, fun r hr => ⟨fun ⟨m, h2, h3⟩ => (hr1 r hr).1 ⟨m, Nat.zero_le _, h2, h3⟩, fun h => (hr1 r hr).2 (fun ⟨m, _, h2, h3⟩ => h ⟨m, h2, h3⟩)⟩, fun j hj => ⟨fun h => (hr2 j hj).1 (Nat.zero_le _) h, fun h => (hr2 j hj).2.1 (Nat.zero_le _) h⟩⟩
  unfold assign_solution_augment_1s0.f
  rw [show assign_solution_augment_1s0.l2 a0 tree k s.f1 0 = some u' from e1, Option.bind_some]
  unfold assign_solution_augment_1s0.k3
  rw [show assign_solution_augment_1s0.l1 a0 done k s.f2 sl 0 = some (v', sl') from e2, Option.bind_some]
  rfl
/-! ### the next column -/
/-- The slacks by one more row, and the least of them. -/
theorem scan (b1 u v : List Int) (done : List Bool) (last : Int) (c : Nat) (hc : c < 12) : ∀ (d k n : Nat) (sl fr : List Int) (best : Int), d + n = 12 → d < k → sl.length = 12 → fr.length = 12 →
    (∀ (j : Nat), j < 12 → -1000000000000000000 ≤ g u c + g v j ∧ g u c + g v j ≤ 1000000000000000000) → (∀ (j : Nat), j < 12 → 0 ≤ g b1 (c * 12 + j) ∧ g b1 (c * 12 + j) ≤ 1000000000000000000) →
    (best = -1 ∧ (∀ (j : Nat), j < n → gb done j = true) ∨ ∃ q : Nat, best = (q : Int) ∧ q < n ∧ gb done q = false ∧ ∀ (j : Nat), j < n → gb done j = false → g sl q ≤ g sl j) →
    ∃ sl' fr' best', assign_solution_augments0.l3 b1 u v done last (c : Int) k sl fr best (n : Int) = some (sl', fr', best') ∧ sl'.length = 12 ∧ fr'.length = 12 ∧
      (∀ (j : Nat), j < 12 → (j < n → g sl' j = g sl j ∧ g fr' j = g fr j) ∧ (n ≤ j → gb done j = true → g sl' j = g sl j ∧ g fr' j = g fr j) ∧
        (n ≤ j → gb done j = false → (g u c + g v j - g b1 (c * 12 + j) < g sl j ∧ g sl' j = g u c + g v j - g b1 (c * 12 + j) ∧ g fr' j = last) ∨ (g sl j ≤ g u c + g v j - g b1 (c * 12 + j) ∧ g sl' j = g sl j ∧ g fr' j = g fr j))) ∧
      (best' = -1 ∧ (∀ (j : Nat), j < 12 → gb done j = true) ∨ ∃ q : Nat, best' = (q : Int) ∧ q < 12 ∧ gb done q = false ∧ ∀ (j : Nat), j < 12 → gb done j = false → g sl' q ≤ g sl' j) := by
  intro d
  induction d with
  | zero =>
    intro k n sl fr best hd hk hs hf hb hw hbest
    obtain ⟨k, rfl⟩ : ∃ m, k = m + 1 := ⟨k - 1, by omega⟩
    obtain rfl : n = 12 := by omega
    refine ⟨sl, fr, best, ?_, hs, hf, fun j hj => ⟨fun _ => ⟨rfl, rfl⟩, fun h => ?_, fun h => ?_⟩, hbest⟩
    · simp only [assign_solution_augments0.l3]
      rw [if_neg (by omega)]
    · omega
    · omega
  | succ d ih =>
    intro k n sl fr best hd hk hs hf hb hw hbest
    obtain ⟨k, rfl⟩ : ∃ m, k = m + 1 := ⟨k - 1, by omega⟩
    have hn : n < 12 := by omega
    have hbn := hb n hn
    have hwn := hw n hn
    simp only [assign_solution_augments0.l3, tn]
    rw [if_pos (by omega), if_pos (by omega), if_pos (by omega), Wn (by omega)]
    cases hd' : gb done n with
    | true =>
      rw [if_pos hd', Option.bind_some]
      obtain ⟨sl', fr', best', e, h1, h2, h3, h4⟩ := ih k (n + 1) sl fr best (by omega) (by omega) hs hf hb hw (by
        rcases hbest with ⟨h5, h6⟩ | ⟨q, h5, h6, h7, h8⟩
        · refine .inl ⟨h5, fun j hj => ?_⟩
          by_cases e : j = n
          · rw [e, hd']
          · exact h6 j (by omega)
        · refine .inr ⟨q, h5, by omega, h7, fun j hj hj2 => h8 j ?_ hj2⟩
          rcases Nat.lt_or_ge j n with h9 | h9
          · exact h9
          · have : j = n := by omega
            rw [this, hd'] at hj2
            cases hj2)
      refine ⟨sl', fr', best', e, h1, h2, fun j hj => ?_, h4⟩
      have h5 := h3 j hj
      refine ⟨fun h => h5.1 (by omega), fun h h' => ?_, fun h h' => ?_⟩
      · by_cases e1 : j = n
        · exact h5.1 (by omega)
        · exact h5.2.1 (by omega) h'
      · by_cases e1 : j = n
        · rw [e1, hd'] at h'; cases h'
        · exact h5.2.2 (by omega) h'
    | false =>
      rw [if_neg (by show ¬ gb done n = true; rw [hd']; decide)]
      rw [if_pos (by omega), if_pos (by omega), if_pos (by omega), if_pos (by omega), if_pos (by omega), if_pos (by omega), if_pos (by omega), if_pos (by omega), if_pos (by omega), if_pos (by omega)]
      rw [show W .i64 (u.getD c 0 + v.getD n 0) = g u c + g v n from W64 (by show _ ≤ g u c + g v n; omega) (by show g u c + g v n ≤ _; omega)]
      rw [show W .i64 (g u c + g v n - b1.getD (c * 12 + n) 0) = g u c + g v n - g b1 (c * 12 + n) from W64 (by show _ ≤ g u c + g v n - g b1 (c * 12 + n); omega) (by show g u c + g v n - g b1 (c * 12 + n) ≤ _; omega)]
      generalize hx : g u c + g v n - g b1 (c * 12 + n) = x
      -- the row's slack is held against the least so far
      have step : ∀ sl2 fr2 : List Int, sl2.length = 12 → fr2.length = 12 → (∀ (j : Nat), j ≠ n → g sl2 j = g sl j ∧ g fr2 j = g fr j) → g sl2 n ≤ g sl n →
          ((x < g sl n ∧ g sl2 n = x ∧ g fr2 n = last) ∨ (g sl n ≤ x ∧ g sl2 n = g sl n ∧ g fr2 n = g fr n)) →
          ∃ sl' fr' best', ((assign_solution_augments0.k8 best (n : Int) (sl2, fr2)).bind fun z => assign_solution_augments0.l3 b1 u v done last (c : Int) k z.1 z.2.1 z.2.2 ((n + 1 : Nat) : Int)) = some (sl', fr', best') ∧ sl'.length = 12 ∧ fr'.length = 12 ∧
            (∀ (j : Nat), j < 12 → (j < n → g sl' j = g sl j ∧ g fr' j = g fr j) ∧ (n ≤ j → gb done j = true → g sl' j = g sl j ∧ g fr' j = g fr j) ∧
              (n ≤ j → gb done j = false → (g u c + g v j - g b1 (c * 12 + j) < g sl j ∧ g sl' j = g u c + g v j - g b1 (c * 12 + j) ∧ g fr' j = last) ∨ (g sl j ≤ g u c + g v j - g b1 (c * 12 + j) ∧ g sl' j = g sl j ∧ g fr' j = g fr j))) ∧
            (best' = -1 ∧ (∀ (j : Nat), j < 12 → gb done j = true) ∨ ∃ q : Nat, best' = (q : Int) ∧ q < 12 ∧ gb done q = false ∧ ∀ (j : Nat), j < 12 → gb done j = false → g sl' q ≤ g sl' j) := by
        intro sl2 fr2 hl hfl hoth hle hcase
        -- the least column
        have hnext : ∃ b2 : Int, (assign_solution_augments0.k8 best (n : Int) (sl2, fr2)) = some (sl2, fr2, b2) ∧ ∃ q : Nat, b2 = (q : Int) ∧ q < n + 1 ∧ gb done q = false ∧ ∀ (j : Nat), j < n + 1 → gb done j = false → g sl2 q ≤ g sl2 j := by
          rcases hbest with ⟨h5, h6⟩ | ⟨q, h5, h6, h7, h8⟩
          · refine ⟨(n : Int), ?_, n, rfl, by omega, hd', fun j hj hj2 => ?_⟩
            · simp only [assign_solution_augments0.k8, h5, if_pos, Option.bind_some, assign_solution_augments0.k7, assign_solution_augments0.k6]
            · rcases Nat.lt_or_ge j n with h9 | h9
              · rw [h6 j h9] at hj2; cases hj2
              · have : j = n := by omega
                rw [this]; exact Int.le_refl _
          · subst h5
            have e0 : ¬ (q : Int) = -1 := by omega
            by_cases hlt : g sl2 n < g sl2 q
            · refine ⟨(n : Int), ?_, n, rfl, by omega, hd', fun j hj hj2 => ?_⟩
              · simp only [assign_solution_augments0.k8, if_neg e0, tn]
                rw [if_pos (by omega), if_pos (by omega), if_pos (by omega), if_pos (by omega), Option.bind_some]
                simp only [assign_solution_augments0.k7]
                rw [if_pos (by simpa using hlt)]
                simp only [Option.bind_some, assign_solution_augments0.k6]
              · rcases Nat.lt_or_ge j n with h9 | h9
                · have := h8 j h9 hj2
                  rw [(hoth q (by omega)).1] at hlt
                  rw [(hoth j (by omega)).1]
                  omega
                · have : j = n := by omega
                  rw [this]; exact Int.le_refl _
            · refine ⟨(q : Int), ?_, q, rfl, by omega, h7, fun j hj hj2 => ?_⟩
              · simp only [assign_solution_augments0.k8, if_neg e0, tn]
                rw [if_pos (by omega), if_pos (by omega), if_pos (by omega), if_pos (by omega), Option.bind_some]
                simp only [assign_solution_augments0.k7]
                rw [if_neg (by simpa using hlt)]
                simp only [Option.bind_some, assign_solution_augments0.k6]
              · rcases Nat.lt_or_ge j n with h9 | h9
                · have := h8 j h9 hj2
                  rw [(hoth q (by omega)).1, (hoth j (by omega)).1]
                  exact this
                · have : j = n := by omega
                  rw [this]; omega
        obtain ⟨b2, eb, hb2⟩ := hnext
        rw [eb, Option.bind_some]
        obtain ⟨sl', fr', best', e, h1, h2, h3, h4⟩ := ih k (n + 1) sl2 fr2 b2 (by omega) (by omega) hl hfl hb hw (.inr hb2)
        refine ⟨sl', fr', best', e, h1, h2, fun j hj => ?_, h4⟩
        have h5 := h3 j hj
        by_cases e1 : j = n
        · have h6 := h5.1 (by omega)
          refine ⟨fun h => by omega, fun _ h => ?_, fun _ _ => ?_⟩
          · rw [e1, hd'] at h; cases h
          · rw [h6.1, h6.2, e1, hx]
            exact hcase
        · rw [(hoth j e1).1, (hoth j e1).2] at h5
          exact ⟨fun h => h5.1 (by omega), fun h => h5.2.1 (by omega), fun h => h5.2.2 (by omega)⟩
      by_cases hlt : x < g sl n
      · rw [if_pos hlt, if_pos (by omega), if_pos (by omega), if_pos (by omega), if_pos (by omega), Option.bind_some]
        exact step _ _ (by simp [hs]) (by simp [hf]) (fun j hj => ⟨by rw [gset (by omega), if_neg hj], by rw [gset (by omega), if_neg hj]⟩) (by rw [gset (by omega), if_pos rfl]; omega) (.inl ⟨hlt, by rw [gset (by omega), if_pos rfl], by rw [gset (by omega), if_pos rfl]⟩)
      · rw [if_neg hlt, Option.bind_some]
        exact step _ _ hs hf (fun _ _ => ⟨rfl, rfl⟩) (Int.le_refl _) (.inr ⟨by omega, rfl, rfl⟩)
end Go.Proofs.Ytdmhbcgmimfjcaa.hun
namespace Go.Proofs.Ytdmhbcgmimfjcaa.hun
open Go Go.Proofs.Ytdmhbcgmimfjcaa Go.Proofs.Ytdmhbcgmimfjcaa.RW
set_option linter.unusedVariables false
set_option maxRecDepth 100000
/-! ### more pigeons than holes -/
theorem pigeon : ∀ (n : Nat) (f : Nat → Nat), (∀ j, j < n + 1 → f j < n) → ∃ a b, a < b ∧ b < n + 1 ∧ f a = f b := by
  intro n
  induction n with
  | zero => intro f h; have := h 0 (by omega); omega
  | succ n ih =>
    intro f h
    by_cases hv : ∃ a, a < n + 1 ∧ f a = f (n + 1)
    · obtain ⟨a, h1, h2⟩ := hv
      exact ⟨a, n + 1, h1, by omega, h2⟩
    · obtain ⟨a, b, h1, h2, h3⟩ := ih (fun j => if f j = n then f (n + 1) else f j) (fun j hj => by
        have h4 := h j (by omega)
        have h5 := h (n + 1) (by omega)
        show (if f j = n then f (n + 1) else f j) < n
        split
        · rename_i e
          have : f (n + 1) ≠ n := fun e2 => hv ⟨j, hj, by rw [e, e2]⟩
          omega
        · omega)
      refine ⟨a, b, h1, by omega, ?_⟩
      split at h3 <;> split at h3
      · rename_i e1 e2; rw [e1, e2]
      · exact absurd ⟨b, by omega, h3.symm⟩ hv
      · exact absurd ⟨a, by omega, h3⟩ hv
      · exact h3

abbrev wt (b : List Int) (r j : Nat) : Int := g b (r * 12 + j)
abbrev red (b u v : List Int) (r j : Nat) : Int := g u r + g v j - wt b r j
/-- The rows below i are matched, each with a column. -/
structure Mt (i : Nat) (R : List Int) : Prop where
  len : R.length = 12
  rng : ∀ j, j < 12 → g R j = -1 ∨ (0 ≤ g R j ∧ g R j < (i : Int))
  inj : ∀ j j', j < 12 → j' < 12 → 0 ≤ g R j → g R j = g R j' → j = j'
  onto : ∀ r, r < i → ∃ j, j < 12 ∧ g R j = (r : Int)
/-- Potentials of the rows below i, with equality on the matching. -/
structure Pt (M : Int) (i : Nat) (b R u v : List Int) : Prop where
  ul : u.length = 12
  vl : v.length = 12
  feas : ∀ r j, r < i → j < 12 → 0 ≤ red b u v r j
  tight : ∀ j (r : Nat), j < 12 → g R j = (r : Int) → red b u v r j = 0
  vpos : ∀ j, j < 12 → 0 ≤ g v j
  vzero : ∀ j, j < 12 → g R j = -1 → g v j = 0
  uzero : ∀ r, i ≤ r → r < 12 → g u r = 0
  vb : ∀ j, j < 12 → g v j ≤ i * M
  ub : ∀ r, r < 12 → -(i * M) ≤ g u r ∧ g u r ≤ M
theorem Mt.free {i : Nat} {R : List Int} (h : Mt i R) (hi : i < 12) : ∃ j, j < 12 ∧ g R j = -1 := by
  by_cases hx : ∃ j, j < 12 ∧ g R j = -1
  · exact hx
  · have hall : ∀ j, j < 12 → 0 ≤ g R j ∧ g R j < (i : Int) := fun j hj => (h.rng j hj).resolve_left (fun e => hx ⟨j, hj, e⟩)
    obtain ⟨a, c, h1, h2, h3⟩ := pigeon i (fun j => (g R j).toNat) (fun j hj => by have := hall j (by omega); show (g R j).toNat < i; omega)
    have h4 := hall a (by omega)
    have h5 := hall c (by omega)
    have := h.inj a c (by omega) (by omega) h4.1 (by have h6 : (g R a).toNat = (g R c).toNat := h3; omega)
    omega
/-- The path's edges: each done column comes by a tight edge from the new row, or from the row of an earlier column. -/
def PathOK (i : Nat) (b R u v fr : List Int) : List Nat → Prop
  | [] => True
  | c :: ds => c < 12 ∧ (g fr c = -1 ∧ red b u v i c = 0 ∨ ∃ p, p ∈ ds ∧ g fr c = (p : Int) ∧ red b u v (g R p).toNat c = 0) ∧ c ∉ ds ∧ PathOK i b R u v fr ds
/-- What stands at the head of a round. -/
structure Av (M : Int) (i : Nat) (b R u v sl fr : List Int) (done : List Bool) (tree : List Int) (last cur : Int) (ds : List Nat) (U : Int) : Prop where
  ul : u.length = 12
  vl : v.length = 12
  sll : sl.length = 12
  frl : fr.length = 12
  dl : done.length = 12
  feas : ∀ r j, r ≤ i → j < 12 → 0 ≤ red b u v r j
  tight : ∀ j (r : Nat), j < 12 → g R j = (r : Int) → red b u v r j = 0
  vpos : ∀ j, j < 12 → 0 ≤ g v j
  vzero : ∀ j, j < 12 → g R j = -1 → g v j = 0
  uzero : ∀ r, i < r → r < 12 → g u r = 0
  ui : 0 ≤ g u i ∧ g u i ≤ U ∧ U ≤ M
  vb : ∀ j, j < 12 → g v j ≤ i * M + (U - g u i)
  ub : ∀ r, r < 12 → -(i * M + (U - g u i)) ≤ g u r ∧ g u r ≤ M
  dn : ∀ j, j < 12 → (gb done j = true ↔ j ∈ ds)
  dm : ∀ c, c ∈ ds → c < 12 ∧ 0 ≤ g R c
  tl : tree.length = ds.length + 1
  tr : ∀ m, m < tree.length → 0 ≤ g tree m ∧ g tree m < 12
  tm : ∀ r : Nat, (∃ m, m < tree.length ∧ g tree m = (r : Int)) ↔ r = i ∨ ∃ c, c ∈ ds ∧ g R c = (r : Int)
  ti : ∀ m m', m < tree.length → m' < tree.length → g tree m = g tree m' → m = m'
  hl : (ds = [] ∧ last = -1 ∧ cur = (i : Int)) ∨ ∃ c ds', ds = c :: ds' ∧ last = (c : Int) ∧ cur = g R c
  path : PathOK i b R u v fr ds
  slb : ∀ j, j < 12 → -1 ≤ g sl j ∧ g sl j ≤ 1152921504606846976
  sT : ∀ j r, j < 12 → gb done j = false → (r = i ∨ ∃ c, c ∈ ds ∧ g R c = (r : Int)) → (r : Int) ≠ cur → g sl j ≤ red b u v r j
  sE : ∀ j, j < 12 → gb done j = false → ds ≠ [] → (g fr j = -1 ∧ g sl j = red b u v i j) ∨ ∃ p, p ∈ ds ∧ g fr j = (p : Int) ∧ g sl j = red b u v (g R p).toNat j
  far : ds = [] → ∀ j, j < 12 → g sl j = 1152921504606846976
def und (done : List Bool) : Nat := cntF (fun j => !gb done j) 12
/-- What stands behind the last round: the new row's path. -/
structure Fin (M : Int) (i : Nat) (b R u v fr : List Int) (ds : List Nat) (U : Int) : Prop where
  ul : u.length = 12
  vl : v.length = 12
  feas : ∀ r j, r ≤ i → j < 12 → 0 ≤ red b u v r j
  tight : ∀ j (r : Nat), j < 12 → g R j = (r : Int) → red b u v r j = 0
  vpos : ∀ j, j < 12 → 0 ≤ g v j
  vzero : ∀ j, j < 12 → g R j = -1 → g v j = 0
  uzero : ∀ r, i < r → r < 12 → g u r = 0
  ui : 0 ≤ g u i ∧ g u i ≤ U ∧ U ≤ M
  vb : ∀ j, j < 12 → g v j ≤ i * M + (U - g u i)
  ub : ∀ r, r < 12 → -(i * M + (U - g u i)) ≤ g u r ∧ g u r ≤ M
  path : PathOK i b R u v fr ds
  pm : ∀ p, p ∈ ds.tail → p < 12 ∧ 0 ≤ g R p
theorem path_mem {i : Nat} {b R u v fr : List Int} : ∀ {ds : List Nat}, PathOK i b R u v fr ds → ∀ c, c ∈ ds → c < 12 ∧ (g fr c = -1 ∧ red b u v i c = 0 ∨ ∃ p, p ∈ ds ∧ g fr c = (p : Int) ∧ red b u v (g R p).toNat c = 0)
  | d :: ds, h, c, hc => by
    obtain ⟨h1, h2, h3, h4⟩ := h
    rcases List.mem_cons.1 hc with rfl | hc
    · refine ⟨h1, h2.imp id (fun ⟨p, hp, h5⟩ => ⟨p, List.mem_cons_of_mem _ hp, h5⟩)⟩
    · have h5 := path_mem h4 c hc
      exact ⟨h5.1, h5.2.imp id (fun ⟨p, hp, h6⟩ => ⟨p, List.mem_cons_of_mem _ hp, h6⟩)⟩
/-- The path's edges stay tight where rows of the tree and done columns are shifted against each other. -/
theorem path_shift {i : Nat} {b R u v u' v' fr fr' : List Int} {x : Int} : ∀ {ds : List Nat} (all : List Nat), (∀ c, c ∈ ds → c ∈ all) → PathOK i b R u v fr ds → (g u' i = g u i - x) → (∀ p, p ∈ all → g u' (g R p).toNat = g u (g R p).toNat - x) → (∀ c, c ∈ all → g v' c = g v c + x) → (∀ c, c ∈ all → g fr' c = g fr c) → PathOK i b R u' v' fr' ds
  | [], _, _, _, _, _, _, _ => trivial
  | d :: ds, all, hs, h, hi, hp, hc, hf => by
    obtain ⟨h1, h2, h3, h4⟩ := h
    have hd := hs d List.mem_cons_self
    refine ⟨h1, ?_, h3, path_shift all (fun c hc => hs c (List.mem_cons_of_mem _ hc)) h4 hi hp hc hf⟩
    rw [hf d hd]
    rcases h2 with ⟨h5, h6⟩ | ⟨p, h5, h6, h7⟩
    · refine .inl ⟨h5, ?_⟩
      have h8 := hc d hd
      show g u' i + g v' d - _ = 0
      have h9 : g u i + g v d - wt b i d = 0 := h6
      omega
    · refine .inr ⟨p, h5, h6, ?_⟩
      have h8 := hc d hd
      have h10 := hp p (hs p (List.mem_cons_of_mem _ h5))
      show g u' (g R p).toNat + g v' d - _ = 0
      have h9 : g u (g R p).toNat + g v d - wt b (g R p).toNat d = 0 := h7
      omega
end Go.Proofs.Ytdmhbcgmimfjcaa.hun
namespace Go.Proofs.Ytdmhbcgmimfjcaa.hun
open Go Go.Proofs.Ytdmhbcgmimfjcaa Go.Proofs.Ytdmhbcgmimfjcaa.RW
set_option linter.unusedVariables false
set_option maxRecDepth 100000
set_option maxHeartbeats 2000000
section
variable {M : Int} {i : Nat} {b R u v sl fr : List Int} {done : List Bool} {tree : List Int} {last cur : Int} {ds : List Nat} {U : Int}
theorem Av.cur_mem (av : Av M i b R u v sl fr done tree last cur ds U) (mt : Mt i R) : ∃ c : Nat, cur = (c : Int) ∧ c ≤ i ∧ (c = i ∨ ∃ d, d ∈ ds ∧ g R d = (c : Int)) := by
  rcases av.hl with ⟨h1, h2, h3⟩ | ⟨c, ds', h1, h2, h3⟩
  · exact ⟨i, h3, Nat.le_refl _, .inl rfl⟩
  · have hc := av.dm c (by rw [h1]; exact List.mem_cons_self)
    have h4 := mt.rng c hc.1
    refine ⟨(g R c).toNat, by omega, by omega, .inr ⟨c, by rw [h1]; exact List.mem_cons_self, by omega⟩⟩
/-- The numbers' bounds. -/
theorem Av.bounds (av : Av M i b R u v sl fr done tree last cur ds U) (hi : i < 12) (hM0 : 0 ≤ M) (hM : M ≤ 1073741824) : (∀ r, r < 12 → -14000000000 ≤ g u r ∧ g u r ≤ 1073741824) ∧ ∀ j, j < 12 → 0 ≤ g v j ∧ g v j ≤ 14000000000 := by
  have hiM : 0 ≤ (i : Int) * M ∧ (i : Int) * M ≤ 11811160064 := by
    have h1 : (i : Int) * M ≤ 11 * M := Int.mul_le_mul_of_nonneg_right (by omega) hM0
    have h2 : 0 ≤ (i : Int) * M := Int.mul_nonneg (by omega) hM0
    omega
  have h3 := av.ui
  refine ⟨fun r hr => ?_, fun j hj => ?_⟩
  · have := av.ub r hr
    omega
  · have := av.vb j hj
    have := av.vpos j hj
    omega
/-- What the scan leaves: the next column, by how much is shifted. -/
structure Sc (i : Nat) (b R u v sl fr : List Int) (done : List Bool) (ds : List Nat) (q : Nat) : Prop where
  sll : sl.length = 12
  frl : fr.length = 12
  q12 : q < 12
  qu : gb done q = false
  qm : ∀ j, j < 12 → gb done j = false → g sl q ≤ g sl j
  sT : ∀ j r, j < 12 → gb done j = false → (r = i ∨ ∃ c, c ∈ ds ∧ g R c = (r : Int)) → g sl j ≤ red b u v r j
  sE : ∀ j, j < 12 → gb done j = false → (g fr j = -1 ∧ g sl j = red b u v i j) ∨ ∃ p, p ∈ ds ∧ g fr j = (p : Int) ∧ g sl j = red b u v (g R p).toNat j
theorem Av.scan (av : Av M i b R u v sl fr done tree last cur ds U) (mt : Mt i R) (hi : i < 12) (hM0 : 0 ≤ M) (hM : M ≤ 1073741824) (hw : ∀ r j, r < 12 → j < 12 → 0 ≤ wt b r j ∧ wt b r j ≤ M) {k : Nat} (hk : 200 ≤ k) :
    ∃ (sl' fr' : List Int) (q : Nat), assign_solution_augments0.l3 b u v done last cur k sl fr (-1) 0 = some (sl', fr', (q : Int)) ∧ Sc i b R u v sl' fr' done ds q ∧ ∀ j, j < 12 → gb done j = true → g sl' j = g sl j ∧ g fr' j = g fr j := by
  obtain ⟨c, hc, hci, hcm⟩ := av.cur_mem mt
  obtain ⟨hbu, hbv⟩ := av.bounds hi hM0 hM
  have hb : ∀ (j : Nat), j < 12 → -1000000000000000000 ≤ g u c + g v j ∧ g u c + g v j ≤ 1000000000000000000 := fun j hj => by
    have h1 := hbu c (by omega)
    have h2 := hbv j hj
    omega
  obtain ⟨sl', fr', best', e, h1, h2, h3, h4⟩ := hun.scan b u v done last c (by omega) 12 k 0 sl fr (-1) rfl (by omega) av.sll av.frl hb (fun j hj => by have := hw c j (by omega) hj; show 0 ≤ wt b c j ∧ wt b c j ≤ _; omega) (.inl ⟨rfl, fun j hj => by omega⟩)
  -- a column that isn't matched isn't done
  obtain ⟨j0, hj0, hf0⟩ := mt.free hi
  have hu0 : gb done j0 = false := by
    cases hd : gb done j0 with
    | false => rfl
    | true =>
      have := av.dm j0 ((av.dn j0 hj0).1 hd)
      omega
  obtain ⟨q, hq, hq12, hqu, hqm⟩ := h4.resolve_left (fun h => by rw [h.2 j0 hj0] at hu0; cases hu0)
  subst hq; subst hc
  have hpos : ∀ j, j < 12 → -2000000000 ≤ red b u v c j := fun j hj => by have := av.feas c j hci hj; omega
  have hcur : ∀ r : Nat, (r : Int) ≠ (c : Int) ↔ r ≠ c := fun r => by omega
  refine ⟨sl', fr', q, e, ⟨h1, h2, hq12, hqu, hqm, fun j r hj hd hr => ?_, fun j hj hd => ?_⟩, fun j hj hd => (h3 j hj).2.1 (Nat.zero_le _) hd⟩
  · have h5 := (h3 j hj).2.2 (Nat.zero_le _) hd
    by_cases hrc : r = c
    · subst hrc
      rcases h5 with ⟨_, h6, _⟩ | ⟨h6, h7, _⟩
      · show g sl' j ≤ g u r + g v j - g b (r * 12 + j); omega
      · show g sl' j ≤ g u r + g v j - g b (r * 12 + j); omega
    · have h6 := av.sT j r hj hd hr (by omega)
      rcases h5 with ⟨h7, h8, _⟩ | ⟨h7, h8, _⟩ <;> omega
  · have h5 := (h3 j hj).2.2 (Nat.zero_le _) hd
    rcases h5 with ⟨_, h6, h7⟩ | ⟨h6, h7, h8⟩
    · -- by the current row
      rcases av.hl with ⟨h9, h10, h11⟩ | ⟨d, ds', h9, h10, h11⟩
      · refine .inl ⟨by rw [h7, h10], ?_⟩
        have : c = i := by omega
        rw [h6, this]
      · refine .inr ⟨d, by rw [h9]; exact List.mem_cons_self, by rw [h7, h10], ?_⟩
        have : (g R d).toNat = c := by omega
        rw [h6, this]
    · -- by an earlier one
      by_cases hds : ds = []
      · have h9 := av.far hds j hj
        have h10 := hbu c (by omega)
        have h11 := hbv j hj
        have h12 := hw c j (by omega) hj
        exfalso
        have h13 : wt b c j = g b (c * 12 + j) := rfl
        omega
      · rcases av.sE j hj hd hds with ⟨h9, h10⟩ | ⟨p, h9, h10, h11⟩
        · exact .inl ⟨by rw [h8, h9], by rw [h7, h10]⟩
        · exact .inr ⟨p, h9, by rw [h8, h10], by rw [h7, h11]⟩
end
end Go.Proofs.Ytdmhbcgmimfjcaa.hun
namespace Go.Proofs.Ytdmhbcgmimfjcaa.hun
open Go Go.Proofs.Ytdmhbcgmimfjcaa Go.Proofs.Ytdmhbcgmimfjcaa.RW
set_option linter.unusedVariables false
set_option maxRecDepth 100000
set_option maxHeartbeats 4000000
section
variable {M : Int} {i : Nat} {b R u v sl fr : List Int} {done : List Bool} {tree : List Int} {last cur : Int} {ds : List Nat} {U : Int}
theorem gapp {l : List Int} {x : Int} {m : Nat} : g (l ++ [x]) m = if m < l.length then g l m else if m = l.length then x else 0 := by
  unfold g
  rw [List.getD_eq_getElem?_getD, List.getD_eq_getElem?_getD, List.getElem?_append]
  split
  · rfl
  · rename_i h
    by_cases e : m = l.length
    · subst e; simp
    · rw [if_neg e]
      have : m - l.length ≠ 0 := by omega
      obtain ⟨q, hq⟩ : ∃ q, m - l.length = q + 1 := ⟨m - l.length - 1, by omega⟩
      rw [hq]; rfl
/-- Who is in the tree. -/
def inT (i : Nat) (R : List Int) (ds : List Nat) (r : Nat) : Prop := r = i ∨ ∃ c, c ∈ ds ∧ g R c = (r : Int)
theorem Av.step (av : Av M i b R u v sl fr done tree last cur ds U) (mt : Mt i R) (hi : i < 12) (hM0 : 0 ≤ M) (hM : M ≤ 1073741824) (hw : ∀ r j, r < 12 → j < 12 → 0 ≤ wt b r j ∧ wt b r j ≤ M)
    {sl1 fr1 : List Int} {q : Nat} (sc : Sc i b R u v sl1 fr1 done ds q) (hkeep : ∀ j, j < 12 → gb done j = true → g sl1 j = g sl j ∧ g fr1 j = g fr j) {u1 v1 sl2 : List Int} (hul : u1.length = 12) (hvl : v1.length = 12) (hsl : sl2.length = 12)
    (hu1 : ∀ r, r < 12 → inT i R ds r → g u1 r = g u r - g sl1 q) (hu2 : ∀ r, r < 12 → ¬ inT i R ds r → g u1 r = g u r)
    (hv1 : ∀ j, j < 12 → gb done j = true → g v1 j = g v j + g sl1 q ∧ g sl2 j = g sl1 j) (hv2 : ∀ j, j < 12 → gb done j = false → g v1 j = g v j ∧ g sl2 j = g sl1 j - g sl1 q) :
    Fin M i b R u1 v1 fr1 (q :: ds) U ∧ (g R q ≠ -1 → Av M i b R u1 v1 sl2 fr1 (done.set q true) (tree ++ [g R q]) (q : Int) (g R q) (q :: ds) U) := by
  obtain ⟨hbu, hbv⟩ := av.bounds hi hM0 hM
  -- by how much is shifted
  obtain ⟨j0, hj0, hf0⟩ := mt.free hi
  have hu0 : gb done j0 = false := by
    cases hd : gb done j0 with
    | false => rfl
    | true => have := av.dm j0 ((av.dn j0 hj0).1 hd); omega
  have hx0 : 0 ≤ g sl1 q := by
    rcases sc.sE q sc.q12 sc.qu with ⟨_, h2⟩ | ⟨p, h1, _, h3⟩
    · rw [h2]; exact av.feas i q (Nat.le_refl _) sc.q12
    · have h4 := av.dm p h1
      have h5 := mt.rng p h4.1
      rw [h3]; exact av.feas _ q (by omega) sc.q12
  have hxu : g sl1 q ≤ g u i := by
    have h1 := sc.qm j0 hj0 hu0
    have h2 := sc.sT j0 i hj0 hu0 (.inl rfl)
    have h3 := av.vzero j0 hj0 hf0
    have h4 := hw i j0 hi hj0
    have h5 : red b u v i j0 = g u i + g v j0 - wt b i j0 := rfl
    omega
  have hui := av.ui
  generalize hx : g sl1 q = x at *
  have hu1i := hu1 i hi (.inl rfl)
  have tree12 : ∀ r, inT i R ds r → r < 12 := fun r hr => by
    rcases hr with rfl | ⟨c, hc, hrc⟩
    · exact hi
    · have := mt.rng c (av.dm c hc).1; omega
  have hnd : ∀ j, j < 12 → gb done j = true ∨ gb done j = false := fun j _ => by cases gb done j <;> simp
  have feas1 : ∀ r j, r ≤ i → j < 12 → 0 ≤ red b u1 v1 r j := by
    intro r j hr hj
    have hf := av.feas r j hr hj
    have e1 : red b u v r j = g u r + g v j - wt b r j := rfl
    show 0 ≤ g u1 r + g v1 j - wt b r j
    by_cases hT : inT i R ds r
    · have h1 := hu1 r (by omega) hT
      rcases hnd j hj with hd | hd
      · have h2 := hv1 j hj hd; omega
      · have h2 := hv2 j hj hd
        have h3 := sc.qm j hj hd
        have h4 := sc.sT j r hj hd hT
        omega
    · have h1 := hu2 r (by omega) hT
      rcases hnd j hj with hd | hd
      · have h2 := hv1 j hj hd; omega
      · have h2 := hv2 j hj hd; omega
  have tight1 : ∀ j (r : Nat), j < 12 → g R j = (r : Int) → red b u1 v1 r j = 0 := by
    intro j r hj hr
    have hf := av.tight j r hj hr
    have e1 : red b u v r j = g u r + g v j - wt b r j := rfl
    have hri := mt.rng j hj
    show g u1 r + g v1 j - wt b r j = 0
    rcases hnd j hj with hd | hd
    · have h1 := hu1 r (by omega) (.inr ⟨j, (av.dn j hj).1 hd, hr⟩)
      have h2 := hv1 j hj hd
      omega
    · have h1 := hu2 r (by omega) (by
        rintro (h3 | ⟨c, hc, hrc⟩)
        · omega
        · have h4 := mt.inj c j (av.dm c hc).1 hj (by omega) (by omega)
          subst h4
          rw [(av.dn c hj).2 hc] at hd
          cases hd)
      have h2 := hv2 j hj hd
      omega
  have hpath : PathOK i b R u1 v1 fr1 ds := by
    refine path_shift (x := x) ds (fun c hc => hc) av.path hu1i (fun p hp => ?_) (fun c hc => (hv1 c (av.dm c hc).1 ((av.dn c (av.dm c hc).1).2 hc)).1) (fun c hc => (hkeep c (av.dm c hc).1 ((av.dn c (av.dm c hc).1).2 hc)).2)
    have h1 := av.dm p hp
    have h2 := mt.rng p h1.1
    exact hu1 _ (by omega) (.inr ⟨p, hp, by omega⟩)
  have hqds : q ∉ ds := fun h => by
    have := (av.dn q sc.q12).2 h
    rw [sc.qu] at this
    cases this
  have hvq := hv2 q sc.q12 sc.qu
  have hpath1 : PathOK i b R u1 v1 fr1 (q :: ds) := by
    refine ⟨sc.q12, ?_, hqds, hpath⟩
    rcases sc.sE q sc.q12 sc.qu with ⟨h1, h2⟩ | ⟨p, h1, h2, h3⟩
    · refine .inl ⟨h1, ?_⟩
      have e1 : red b u v i q = g u i + g v q - wt b i q := rfl
      show g u1 i + g v1 q - wt b i q = 0
      omega
    · refine .inr ⟨p, h1, h2, ?_⟩
      have h4 := av.dm p h1
      have h5 := mt.rng p h4.1
      have h6 := hu1 (g R p).toNat (by omega) (.inr ⟨p, h1, by omega⟩)
      have e1 : red b u v (g R p).toNat q = g u (g R p).toNat + g v q - wt b (g R p).toNat q := rfl
      show g u1 (g R p).toNat + g v1 q - wt b (g R p).toNat q = 0
      omega
  have vpos1 : ∀ j, j < 12 → 0 ≤ g v1 j := fun j hj => by
    have := av.vpos j hj
    rcases hnd j hj with hd | hd
    · have := hv1 j hj hd; omega
    · have := hv2 j hj hd; omega
  have vzero1 : ∀ j, j < 12 → g R j = -1 → g v1 j = 0 := fun j hj hr => by
    have h1 := av.vzero j hj hr
    rcases hnd j hj with hd | hd
    · have := av.dm j ((av.dn j hj).1 hd); omega
    · have := hv2 j hj hd; omega
  have uzero1 : ∀ r, i < r → r < 12 → g u1 r = 0 := fun r hr hr2 => by
    rw [hu2 r hr2 (by
      rintro (h3 | ⟨c, hc, hrc⟩)
      · omega
      · have := mt.rng c (av.dm c hc).1; omega)]
    exact av.uzero r hr hr2
  have ui1 : 0 ≤ g u1 i ∧ g u1 i ≤ U ∧ U ≤ M := by omega
  have vb1 : ∀ j, j < 12 → g v1 j ≤ i * M + (U - g u1 i) := fun j hj => by
    have h1 := av.vb j hj
    rcases hnd j hj with hd | hd
    · have := hv1 j hj hd; omega
    · have := hv2 j hj hd; omega
  have ub1 : ∀ r, r < 12 → -(i * M + (U - g u1 i)) ≤ g u1 r ∧ g u1 r ≤ M := fun r hr => by
    have h1 := av.ub r hr
    by_cases hT : inT i R ds r
    · have := hu1 r hr hT; omega
    · have := hu2 r hr hT; omega
  refine ⟨⟨hul, hvl, feas1, tight1, vpos1, vzero1, uzero1, ui1, vb1, ub1, hpath1, av.dm⟩, fun hq => ?_⟩
  have hq0 : 0 ≤ g R q ∧ g R q < (i : Int) := (mt.rng q sc.q12).resolve_left hq
  have hdone : ∀ j, gb (done.set q true) j = if j = q then true else gb done j := fun j => gbset (by rw [av.dl]; exact sc.q12) true j
  have hdf : ∀ j, gb (done.set q true) j = false → j ≠ q ∧ gb done j = false := fun j h => by
    rw [hdone j] at h
    split at h
    · cases h
    · rename_i e; exact ⟨e, h⟩
  have hTq : ∀ r : Nat, (r = i ∨ ∃ c, c ∈ q :: ds ∧ g R c = (r : Int)) → (r : Int) ≠ g R q → inT i R ds r := fun r hr hne => by
    rcases hr with hr | ⟨c, hc, hrc⟩
    · exact .inl hr
    · rcases List.mem_cons.1 hc with rfl | hc
      · omega
      · exact .inr ⟨c, hc, hrc⟩
  refine ⟨hul, hvl, hsl, sc.frl, by rw [List.length_set]; exact av.dl, feas1, tight1, vpos1, vzero1, uzero1, ui1, vb1, ub1, ?_, ?_, ?_, ?_, ?_, ?_, .inr ⟨q, ds, rfl, rfl, rfl⟩, hpath1, ?_, ?_, ?_, fun h => by cases h⟩
  · intro j hj
    rw [hdone j]
    by_cases e : j = q
    · subst e; simp
    · rw [if_neg e, av.dn j hj]
      simp [e]
  · intro c hc
    rcases List.mem_cons.1 hc with rfl | hc
    · exact ⟨sc.q12, hq0.1⟩
    · exact av.dm c hc
  · rw [List.length_append, av.tl]; rfl
  · intro m hm
    rw [List.length_append] at hm
    simp only [List.length_cons, List.length_nil] at hm
    rw [gapp]
    split
    · rename_i h; exact av.tr m h
    · rw [if_pos (by omega)]; omega
  · intro r
    have htm := av.tm r
    constructor
    · rintro ⟨m, hm, hr⟩
      rw [List.length_append] at hm
      simp only [List.length_cons, List.length_nil] at hm
      rw [gapp] at hr
      split at hr
      · rename_i h
        rcases htm.1 ⟨m, h, hr⟩ with h2 | ⟨c, hc, hrc⟩
        · exact .inl h2
        · exact .inr ⟨c, List.mem_cons_of_mem _ hc, hrc⟩
      · rw [if_pos (by omega)] at hr
        exact .inr ⟨q, List.mem_cons_self, hr⟩
    · intro h
      have hold : (r = i ∨ ∃ c, c ∈ ds ∧ g R c = (r : Int)) → ∃ m, m < (tree ++ [g R q]).length ∧ g (tree ++ [g R q]) m = (r : Int) := fun h => by
        obtain ⟨m, hm, hr⟩ := htm.2 h
        refine ⟨m, by rw [List.length_append]; omega, ?_⟩
        rw [gapp, if_pos hm]
        exact hr
      rcases h with h | ⟨c, hc, hrc⟩
      · exact hold (.inl h)
      · rcases List.mem_cons.1 hc with rfl | hc
        · refine ⟨tree.length, by rw [List.length_append]; simp, ?_⟩
          rw [gapp, if_neg (by omega), if_pos rfl]
          exact hrc
        · exact hold (.inr ⟨c, hc, hrc⟩)
  · -- no row comes twice
    have hnew : ∀ m, m < tree.length → g tree m ≠ g R q := fun m hm e => by
      have h1 := av.tr m hm
      rcases (av.tm (g tree m).toNat).1 ⟨m, hm, by omega⟩ with h2 | ⟨c, hc, hrc⟩
      · omega
      · have h3 := mt.inj c q (av.dm c hc).1 sc.q12 (by omega) (by omega)
        exact hqds (h3 ▸ hc)
    intro m m' hm hm' e
    rw [List.length_append] at hm hm'
    simp only [List.length_cons, List.length_nil] at hm hm'
    rw [gapp, gapp] at e
    by_cases h1 : m < tree.length
    · rw [if_pos h1] at e
      by_cases h2 : m' < tree.length
      · rw [if_pos h2] at e
        exact av.ti m m' h1 h2 e
      · rw [if_neg h2, if_pos (by omega)] at e
        exact absurd e (hnew m h1)
    · rw [if_neg h1, if_pos (by omega)] at e
      by_cases h2 : m' < tree.length
      · rw [if_pos h2] at e
        exact absurd e.symm (hnew m' h2)
      · omega
  · intro j hj
    rcases hnd j hj with hd | hd
    · have h3 := hv1 j hj hd
      have h4 := hkeep j hj hd
      have h5 := av.slb j hj
      omega
    · have h3 := hv2 j hj hd
      have h4 := sc.qm j hj hd
      have h5 := sc.sT j i hj hd (.inl rfl)
      have h6 : red b u v i j = g u i + g v j - wt b i j := rfl
      have h7 := hw i j hi hj
      have h8 := hbv j hj
      omega
  · intro j r hj hd hr hne
    obtain ⟨h1, h2⟩ := hdf j hd
    have hT := hTq r hr hne
    have h3 := hv2 j hj h2
    have h4 := sc.sT j r hj h2 hT
    have h5 := hu1 r (tree12 r hT) hT
    have h6 : red b u v r j = g u r + g v j - wt b r j := rfl
    show g sl2 j ≤ g u1 r + g v1 j - wt b r j
    omega
  · intro j hj hd _
    obtain ⟨h1, h2⟩ := hdf j hd
    have h3 := hv2 j hj h2
    rcases sc.sE j hj h2 with ⟨h4, h5⟩ | ⟨p, h4, h5, h6⟩
    · refine .inl ⟨h4, ?_⟩
      have e1 : red b u v i j = g u i + g v j - wt b i j := rfl
      show g sl2 j = g u1 i + g v1 j - wt b i j
      omega
    · refine .inr ⟨p, List.mem_cons_of_mem _ h4, h5, ?_⟩
      have h7 := av.dm p h4
      have h8 := mt.rng p h7.1
      have h9 := hu1 (g R p).toNat (by omega) (.inr ⟨p, h4, by omega⟩)
      have e1 : red b u v (g R p).toNat j = g u (g R p).toNat + g v j - wt b (g R p).toNat j := rfl
      show g sl2 j = g u1 (g R p).toNat + g v1 j - wt b (g R p).toNat j
      omega
/-- The search, from any round on. -/
theorem search (mt : Mt i R) (hi : i < 12) (hM0 : 0 ≤ M) (hM : M ≤ 1073741824) (hw : ∀ r j, r < 12 → j < 12 → 0 ≤ wt b r j ∧ wt b r j ≤ M) : ∀ (n k : Nat) (u v sl fr : List Int) (done : List Bool) (tree : List Int) (last cur : Int) (ds : List Nat),
    Av M i b R u v sl fr done tree last cur ds U → und done ≤ n → ds.length + und done ≤ 12 → n + 300 ≤ k →
    ∃ (u' v' sl' fr' : List Int) (done' : List Bool) (tree' : List Int) (q : Nat) (ds' : List Nat), assign_solution_augments0.l2 b k R u v sl fr done tree last cur = some (R, u', v', sl', fr', done', tree', (q : Int)) ∧ Fin M i b R u' v' fr' (q :: ds') U ∧ g R q = -1 := by
  intro n
  induction n with
  | zero =>
    intro k u v sl fr done tree last cur ds av hn hdn hk
    exfalso
    obtain ⟨j0, hj0, hf0⟩ := mt.free hi
    have hu0 : gb done j0 = false := by
      cases hd : gb done j0 with
      | false => rfl
      | true => have := av.dm j0 ((av.dn j0 hj0).1 hd); omega
    have := cntF_lt (f := fun j => !gb done j) (g := fun j => if j = j0 then false else !gb done j) (i := j0) (by show (!gb done j0) = true; rw [hu0]; rfl) (by simp) (fun j hj => if_neg hj) 12 hj0
    unfold und at hn
    omega
  | succ n ih =>
    intro k u v sl fr done tree last cur ds av hn hdn hk
    obtain ⟨k, rfl⟩ : ∃ m, k = m + 1 := ⟨k - 1, by omega⟩
    obtain ⟨sl1, fr1, q, e, sc, hkeep⟩ := av.scan mt hi hM0 hM hw (k := k) (by omega)
    obtain ⟨hbu, hbv⟩ := av.bounds hi hM0 hM
    obtain ⟨j0, hj0, hf0⟩ := mt.free hi
    have hu0 : gb done j0 = false := by
      cases hd : gb done j0 with
      | false => rfl
      | true => have := av.dm j0 ((av.dn j0 hj0).1 hd); omega
    have hx0 : 0 ≤ g sl1 q ∧ g sl1 q ≤ 16000000000 := by
      have h1 := sc.sT q i sc.q12 sc.qu (.inl rfl)
      have h2 := hbu i hi
      have h3 := hbv q sc.q12
      have h4 := hw i q hi sc.q12
      have h5 : red b u v i q = g u i + g v q - wt b i q := rfl
      refine ⟨?_, by omega⟩
      rcases sc.sE q sc.q12 sc.qu with ⟨_, h6⟩ | ⟨p, h6, _, h7⟩
      · rw [h6]; exact av.feas i q (Nat.le_refl _) sc.q12
      · have h8 := av.dm p h6
        have h9 := mt.rng p h8.1
        rw [h7]; exact av.feas _ q (by omega) sc.q12
    have hsb : ∀ (j : Nat), j < 12 → gb done j = false → 0 ≤ g sl1 j ∧ g sl1 j ≤ 16000000000 := fun j hj hd => by
      have h1 := sc.sT j i hj hd (.inl rfl)
      have h2 := hbu i hi
      have h3 := hbv j hj
      have h4 := hw i j hi hj
      have h5 : red b u v i j = g u i + g v j - wt b i j := rfl
      have h6 := sc.qm j hj hd
      omega
    obtain ⟨u1, v1, sl2, e2, hul, hvl, hsl, hru, hrv⟩ := shift k (by omega) (g sl1 q) tree ⟨R, u, v⟩ done sl1 hx0.1 (by omega) (by rw [av.tl]; omega) av.ul av.vl sc.sll av.tr av.ti
      (fun r hr => by have := hbu r hr; show _ ≤ g u r ∧ g u r ≤ _; omega) (fun j hj => by have := hbv j hj; show _ ≤ g v j ∧ g v j ≤ _; omega) (fun j hj => by
        cases hd : gb done j with
        | true => have h1 := hkeep j hj hd; have h2 := av.slb j hj; omega
        | false => have := hsb j hj hd; omega)
    obtain ⟨hfin, hav⟩ := av.step mt hi hM0 hM hw sc hkeep hul hvl hsl (fun r hr hT => (hru r hr).1 ((av.tm r).2 hT)) (fun r hr hT => (hru r hr).2 (fun h => hT ((av.tm r).1 h))) (fun j hj hd => (hrv j hj).1 hd) (fun j hj hd => (hrv j hj).2 hd)
    have hq := sc.q12
    simp only [assign_solution_augments0.l2]
    rw [e, Option.bind_some]
    simp only [tn]
    rw [if_pos (by omega), if_pos (by omega), show assign_solution_augment_1s0.f k (sl1.getD q 0) tree ⟨R, u, v⟩ done sl1 = _ from e2, Option.bind_some]
    rw [if_pos (by omega), if_pos (by omega), if_pos (by omega), if_pos (by omega)]
    by_cases hf : g R q = -1
    · rw [if_pos hf]
      exact ⟨_, _, _, _, _, _, q, ds, rfl, hfin, hf⟩
    · have hr := (mt.rng q hq).resolve_left hf
      have hdl := av.tl
      rw [if_neg hf, if_pos (by omega), if_pos (by omega), if_pos (by simp only [List.length_cons, List.length_nil]; omega)]
      have hund : und (done.set q true) < und done := cntF_lt (i := q) (by show (!gb done q) = true; rw [sc.qu]; rfl) (by show (!gb (done.set q true) q) = false; rw [gbset (by rw [av.dl]; exact hq), if_pos rfl]; rfl) (fun j hj => by show (!gb (done.set q true) j) = !gb done j; rw [gbset (by rw [av.dl]; exact hq), if_neg hj]) 12 hq
      exact ih k u1 v1 sl2 fr1 (done.set q true) (tree ++ [g R q]) (q : Int) (g R q) (q :: ds) (hav hf) (by omega) (by simp only [List.length_cons]; omega) (by omega)
end
end Go.Proofs.Ytdmhbcgmimfjcaa.hun
namespace Go.Proofs.Ytdmhbcgmimfjcaa.hun
open Go Go.Proofs.Ytdmhbcgmimfjcaa Go.Proofs.Ytdmhbcgmimfjcaa.RW
set_option linter.unusedVariables false
set_option maxRecDepth 100000
set_option maxHeartbeats 4000000
section
variable {M : Int} {i : Nat} {b R u v fr : List Int}
/-- The rows below i are matched without column c. -/
structure Vac (i : Nat) (b u v x : List Int) (c : Nat) : Prop where
  len : x.length = 12
  c12 : c < 12
  rng : ∀ j, j < 12 → j ≠ c → g x j = -1 ∨ (0 ≤ g x j ∧ g x j < (i : Int))
  inj : ∀ j j', j < 12 → j' < 12 → j ≠ c → j' ≠ c → 0 ≤ g x j → g x j = g x j' → j = j'
  onto : ∀ r, r < i → ∃ j, j < 12 ∧ j ≠ c ∧ g x j = (r : Int)
  tight : ∀ j (r : Nat), j < 12 → j ≠ c → g x j = (r : Int) → red b u v r j = 0
  zero : ∀ j, j < 12 → j ≠ c → g x j = -1 → g v j = 0
theorem path_from : ∀ {ds : List Nat}, PathOK i b R u v fr ds → ∀ p, p ∈ ds → ∃ ds2, PathOK i b R u v fr (p :: ds2) ∧ (∀ q, q ∈ ds2 → q ∈ ds) ∧ ds2.length < ds.length
  | d :: ds, h, p, hp => by
    rcases List.mem_cons.1 hp with rfl | hp
    · exact ⟨ds, h, fun q hq => List.mem_cons_of_mem _ hq, by simp⟩
    · obtain ⟨ds2, h1, h2, h3⟩ := path_from h.2.2.2 p hp
      exact ⟨ds2, h1, fun q hq => List.mem_cons_of_mem _ (h2 q hq), by simp only [List.length_cons]; omega⟩
theorem flip (hi : i < 12) : ∀ (n k : Nat) (x : List Int) (c : Nat) (ds : List Nat), ds.length ≤ n → n + 2 < k → PathOK i b R u v fr (c :: ds) → Vac i b u v x c → (∀ p, p ∈ ds → g x p = g R p ∧ p < 12 ∧ 0 ≤ g R p) →
    ∃ x', assign_solution_augments0.l1 (i : Int) fr k x (c : Int) = some x' ∧ Mt (i + 1) x' ∧ (∀ j (r : Nat), j < 12 → g x' j = (r : Int) → red b u v r j = 0) ∧ ∀ j, j < 12 → g x' j = -1 → g v j = 0 := by
  intro n
  induction n with
  | zero =>
    intro k x c ds hn hk hp hv hR
    obtain rfl : ds = [] := List.eq_nil_of_length_eq_zero (by omega)
    obtain ⟨k, rfl⟩ : ∃ m, k = m + 2 := ⟨k - 2, by omega⟩
    obtain ⟨h1, h2, h3, h4⟩ := hp
    rcases h2 with ⟨h5, h6⟩ | ⟨p, h5, _⟩
    · have hkey : ∀ j, g (x.set c (i : Int)) j = if j = c then (i : Int) else g x j := fun j => gset (by rw [hv.len]; exact h1) _ j
      refine ⟨x.set c (i : Int), ?_, ⟨by rw [List.length_set]; exact hv.len, fun j hj => ?_, fun j j' hj hj' h0 he => ?_, fun r hr => ?_⟩, fun j r hj hr => ?_, fun j hj hr => ?_⟩
      · have h5' : fr.getD c 0 = -1 := h5
        simp only [assign_solution_augments0.l1, tn]
        rw [if_pos (by omega), if_pos (by omega), if_pos (by omega), h5', if_pos rfl, if_pos (by omega), if_pos (by omega), Option.bind_some]
        simp
      · rw [hkey]
        split
        · exact .inr ⟨by omega, by omega⟩
        · rename_i e
          exact (hv.rng j hj e).imp id (fun h => by omega)
      · rw [hkey, hkey] at he
        rw [hkey] at h0
        by_cases e1 : j = c <;> by_cases e2 : j' = c
        · omega
        · rw [if_pos e1, if_neg e2] at he
          have := hv.rng j' hj' e2
          omega
        · rw [if_neg e1, if_pos e2] at he
          have := hv.rng j hj e1
          omega
        · rw [if_neg e1, if_neg e2] at he
          rw [if_neg e1] at h0
          exact hv.inj j j' hj hj' e1 e2 h0 he
      · by_cases e : r = i
        · exact ⟨c, h1, by rw [hkey, if_pos rfl, e]⟩
        · obtain ⟨j, hj, hjc, hjr⟩ := hv.onto r (by omega)
          exact ⟨j, hj, by rw [hkey, if_neg hjc, hjr]⟩
      · rw [hkey] at hr
        split at hr
        · rename_i e
          have : r = i := by omega
          rw [e, this]; exact h6
        · rename_i e; exact hv.tight j r hj e hr
      · rw [hkey] at hr
        split at hr
        · omega
        · rename_i e; exact hv.zero j hj e hr
    · cases h5
  | succ n ih =>
    intro k x c ds hn hk hp hv hR
    obtain ⟨h1, h2, h3, h4⟩ := hp
    rcases h2 with ⟨h5, h6⟩ | ⟨p, h5, h6, h7⟩
    · exact ih k x c [] (by simp) (by omega) ⟨h1, .inl ⟨h5, h6⟩, by simp, trivial⟩ hv (fun p hp => by cases hp) |>.elim fun x' h => ⟨x', h⟩
    · obtain ⟨k, rfl⟩ : ∃ m, k = m + 1 := ⟨k - 1, by omega⟩
      obtain ⟨hxp, hp12, hp0⟩ := hR p h5
      have hpc : p ≠ c := fun e => h3 (e ▸ h5)
      obtain ⟨ds2, h8, h9, h10⟩ := path_from h4 p h5
      have hkey : ∀ j, g (x.set c (g x p)) j = if j = c then g x p else g x j := fun j => gset (by rw [hv.len]; exact h1) _ j
      have hpi := (hv.rng p hp12 hpc).resolve_left (by omega)
      have hv2 : Vac i b u v (x.set c (g x p)) p := by
        refine ⟨by rw [List.length_set]; exact hv.len, hp12, fun j hj hjp => ?_, fun j j' hj hj' hjp hjp' h0 he => ?_, fun r hr => ?_, fun j r hj hjp hr => ?_, fun j hj hjp hr => ?_⟩
        · rw [hkey]
          split
          · exact .inr hpi
          · rename_i e; exact hv.rng j hj e
        · rw [hkey, hkey] at he
          rw [hkey] at h0
          by_cases e1 : j = c <;> by_cases e2 : j' = c
          · omega
          · rw [if_pos e1, if_neg e2] at he
            exact absurd (hv.inj p j' hp12 hj' hpc e2 hpi.1 he) (fun e => hjp' e.symm)
          · rw [if_neg e1, if_pos e2] at he
            rw [if_neg e1] at h0
            exact absurd (hv.inj j p hj hp12 e1 hpc h0 he) hjp
          · rw [if_neg e1, if_neg e2] at he
            rw [if_neg e1] at h0
            exact hv.inj j j' hj hj' e1 e2 h0 he
        · obtain ⟨j, hj, hjc, hjr⟩ := hv.onto r hr
          by_cases e : j = p
          · exact ⟨c, h1, fun e2 => hpc e2.symm, by rw [hkey, if_pos rfl, ← e, hjr]⟩
          · exact ⟨j, hj, e, by rw [hkey, if_neg hjc, hjr]⟩
        · rw [hkey] at hr
          split at hr
          · rename_i e
            rw [e]
            have : r = (g R p).toNat := by omega
            rw [this]; exact h7
          · rename_i e; exact hv.tight j r hj e hr
        · rw [hkey] at hr
          split at hr
          · omega
          · rename_i e; exact hv.zero j hj e hr
      obtain ⟨x', e, hx⟩ := ih k (x.set c (g x p)) p ds2 (by omega) (by omega) h8 hv2 (fun q hq => by
        have hq1 := h9 q hq
        have hqc : q ≠ c := fun e => h3 (e ▸ hq1)
        rw [hkey, if_neg hqc]
        exact hR q hq1)
      refine ⟨x', ?_, hx⟩
      have h6' : fr.getD c 0 = (p : Int) := h6
      simp only [assign_solution_augments0.l1, tn]
      rw [if_pos (by omega), if_pos (by omega), if_pos (by omega), h6', if_neg (by omega), if_pos (by omega), if_pos (by omega), if_pos (by omega), if_pos (by omega), Option.bind_some]
      exact e
/-! ### the new row's potential -/
theorem raise (i : Nat) (hi : i < 12) (R u v b : List Int) (M : Int) (hM0 : 0 ≤ M) (hM : M ≤ 1073741824) (hv : ∀ j, j < 12 → 0 ≤ g v j ∧ g v j ≤ 14000000000) (hw : ∀ r j, r < 12 → j < 12 → 0 ≤ wt b r j ∧ wt b r j ≤ M) : ∀ (d k n : Nat) (x : List Int), d + n = 12 → d < k → x.length = 12 → 0 ≤ g x i ∧ g x i ≤ M →
    ∃ x', assign_solution_augments0.l4 (i : Int) ⟨R, u, v⟩ b k x (n : Int) = some x' ∧ x'.length = 12 ∧ (∀ r, r ≠ i → g x' r = g x r) ∧ g x i ≤ g x' i ∧ g x' i ≤ M ∧ ∀ j, n ≤ j → j < 12 → wt b i j - g v j ≤ g x' i := by
  intro d
  induction d with
  | zero =>
    intro k n x hd hk hx hb
    obtain ⟨k, rfl⟩ : ∃ m, k = m + 1 := ⟨k - 1, by omega⟩
    refine ⟨x, ?_, hx, fun _ _ => rfl, Int.le_refl _, hb.2, fun j h1 h2 => by omega⟩
    simp only [assign_solution_augments0.l4]
    rw [if_neg (by omega)]
  | succ d ih =>
    intro k n x hd hk hx hb
    obtain ⟨k, rfl⟩ : ∃ m, k = m + 1 := ⟨k - 1, by omega⟩
    have hn : n < 12 := by omega
    have h1 := hv n hn
    have h2 := hw i n hi hn
    have e1 : W .i64 (b.getD (i * 12 + n) 0 - v.getD n 0) = wt b i n - g v n := W64 (by show _ ≤ wt b i n - g v n; omega) (by show wt b i n - g v n ≤ _; omega)
    have hmax : ∀ a c : Int, iMax a c = if c > a then c else a := fun _ _ => rfl
    have hkey : ∀ j, g (x.set i (iMax (g x i) (wt b i n - g v n))) j = if j = i then iMax (g x i) (wt b i n - g v n) else g x j := fun j => gset (by omega) _ j
    have hm : g x i ≤ iMax (g x i) (wt b i n - g v n) ∧ wt b i n - g v n ≤ iMax (g x i) (wt b i n - g v n) ∧ iMax (g x i) (wt b i n - g v n) ≤ M := by rw [hmax]; split <;> omega
    obtain ⟨x', e, h3, h4, h5, h6, h7⟩ := ih k (n + 1) (x.set i (iMax (g x i) (wt b i n - g v n))) (by omega) (by omega) (by rw [List.length_set]; exact hx) (by rw [hkey, if_pos rfl]; omega)
    refine ⟨x', ?_, h3, fun r hr => ?_, ?_, h6, fun j hj hj2 => ?_⟩
    · simp only [assign_solution_augments0.l4, tn]
      rw [if_pos (by omega), if_pos (by omega), if_pos (by omega), if_pos (by omega), if_pos (by omega), if_pos (by omega), if_pos (by omega), if_pos (by omega), if_pos (by omega), if_pos (by omega), if_pos (by omega), Wn (by omega), e1]
      exact e
    · rw [h4 r hr, hkey, if_neg hr]
    · rw [hkey, if_pos rfl] at h5; omega
    · rw [hkey, if_pos rfl] at h5
      by_cases e2 : j = n
      · rw [e2]; omega
      · exact h7 j (by omega) hj2
end
end Go.Proofs.Ytdmhbcgmimfjcaa.hun
namespace Go.Proofs.Ytdmhbcgmimfjcaa.hun
open Go Go.Proofs.Ytdmhbcgmimfjcaa Go.Proofs.Ytdmhbcgmimfjcaa.RW
set_option linter.unusedVariables false
set_option maxRecDepth 100000
set_option maxHeartbeats 4000000
theorem far_lists (k : Nat) : assign_solution_augments0.l5 (k + 13) (List.replicate 12 0) (List.replicate 12 0) 0 = some (List.replicate 12 1152921504606846976, List.replicate 12 (-1)) := by kernel_rfl
theorem grep {n : Nat} {x : Int} {j : Nat} (h : j < n) : g (List.replicate n x) j = x := by
  unfold g; rw [List.getD_eq_getElem?_getD, List.getElem?_replicate, if_pos h]; rfl
theorem gbrep {n : Nat} {x : Bool} {j : Nat} (h : j < n) : gb (List.replicate n x) j = x := by
  unfold gb; rw [List.getD_eq_getElem?_getD, List.getElem?_replicate, if_pos h]; rfl
theorem mul_succ (i : Nat) (M : Int) : ((i + 1 : Nat) : Int) * M = i * M + M := by rw [Int.natCast_add, Int.add_mul]; simp
theorem augment {M : Int} {i : Nat} {b R u v : List Int} (mt : Mt i R) (pt : Pt M i b R u v) (hi : i < 12) (hM0 : 0 ≤ M) (hM : M ≤ 1073741824) (hw : ∀ r j, r < 12 → j < 12 → 0 ≤ wt b r j ∧ wt b r j ≤ M) {k : Nat} (hk : 400 ≤ k) :
    ∃ R' u' v', assign_solution_augments0.f k (i : Int) ⟨R, u, v⟩ b = some ⟨R', u', v'⟩ ∧ Mt (i + 1) R' ∧ Pt M (i + 1) b R' u' v' := by
  have hiM : 0 ≤ (i : Int) * M ∧ (i : Int) * M ≤ 11811160064 := by
    have h1 : (i : Int) * M ≤ 11 * M := Int.mul_le_mul_of_nonneg_right (by omega) hM0
    have h2 : 0 ≤ (i : Int) * M := Int.mul_nonneg (by omega) hM0
    omega
  have hvb : ∀ j, j < 12 → 0 ≤ g v j ∧ g v j ≤ 14000000000 := fun j hj => by have h1 := pt.vpos j hj; have h2 := pt.vb j hj; omega
  have hui := pt.uzero i (Nat.le_refl _) hi
  obtain ⟨u0, e0, hu0l, hu0, hu0i, hu0M, hu0f⟩ := raise i hi R u v b M hM0 hM hvb hw 12 k 0 u rfl (by omega) pt.ul (by omega)
  have hother : ∀ r, r < 12 → r ≠ i → g u0 r = g u r := fun r _ h => hu0 r h
  have av : Av M i b R u0 v (List.replicate 12 1152921504606846976) (List.replicate 12 (-1)) (List.replicate 12 false) [(i : Int)] (-1) (i : Int) [] (g u0 i) := by
    refine ⟨hu0l, pt.vl, rfl, rfl, rfl, fun r j hr hj => ?_, fun j r hj hr => ?_, pt.vpos, pt.vzero, fun r hr hr2 => ?_, ⟨by omega, Int.le_refl _, hu0M⟩, fun j hj => ?_, fun r hr => ?_, fun j hj => ?_, (fun c hc => by cases hc), rfl, fun m hm => ?_, fun r => ?_, fun m m' hm hm' _ => ?_, .inl ⟨rfl, rfl, rfl⟩, trivial, fun j hj => ?_, fun j r hj hd hr hne => ?_, fun j hj hd h => absurd rfl h, fun _ j hj => grep hj⟩
    · show 0 ≤ g u0 r + g v j - wt b r j
      by_cases e : r = i
      · subst e
        have := hu0f j (Nat.zero_le _) hj
        omega
      · rw [hu0 r e]
        exact pt.feas r j (by omega) hj
    · have hri := mt.rng j hj
      show g u0 r + g v j - wt b r j = 0
      rw [hu0 r (by omega)]
      exact pt.tight j r hj hr
    · rw [hu0 r (by omega)]
      exact pt.uzero r (by omega) hr2
    · have := pt.vb j hj; omega
    · by_cases e : r = i
      · subst e; omega
      · rw [hu0 r e]
        have := pt.ub r hr; omega
    · rw [gbrep hj]; simp
    · simp only [List.length_cons, List.length_nil] at hm
      obtain rfl : m = 0 := by omega
      show 0 ≤ (i : Int) ∧ (i : Int) < 12
      omega
    · constructor
      · rintro ⟨m, hm, hr⟩
        simp only [List.length_cons, List.length_nil] at hm
        obtain rfl : m = 0 := by omega
        have h1 : (i : Int) = (r : Int) := hr
        exact .inl (by omega)
      · rintro (h | ⟨c, hc, _⟩)
        · exact ⟨0, by simp, by rw [h]; rfl⟩
        · cases hc
    · simp only [List.length_cons, List.length_nil] at hm hm'
      omega
    · rw [grep hj]; omega
    · rcases hr with h | ⟨c, hc, _⟩
      · exact absurd (by rw [h]) hne
      · cases hc
  obtain ⟨u', v', sl', fr', done', tree', q, ds', e1, fin, hq⟩ := search mt hi hM0 hM hw 12 k u0 v _ _ _ _ _ _ [] av (Nat.le_refl _) (Nat.le_refl _) (by omega)
  have hpath := fin.path
  have hq12 : q < 12 := hpath.1
  have vac : Vac i b u' v' R q := by
    refine ⟨mt.len, hq12, fun j hj _ => mt.rng j hj, fun j j' hj hj' _ _ h0 he => mt.inj j j' hj hj' h0 he, fun r hr => ?_, fun j r hj _ hr => fin.tight j r hj hr, fun j hj _ hr => fin.vzero j hj hr⟩
    obtain ⟨j, hj, hjr⟩ := mt.onto r hr
    exact ⟨j, hj, fun e => by rw [e, hq] at hjr; omega, hjr⟩
  have hds : ds'.length ≤ 100 := by
    -- no column comes twice on the path
    have hnd : ∀ (l : List Nat), PathOK i b R u' v' fr' l → ∀ (f : Nat → Bool), (∀ c, c ∈ l → f c = true) → l.length ≤ cntF f 12 := by
      intro l
      induction l with
      | nil => intro _ f _; exact Nat.zero_le _
      | cons c l ih =>
        intro h f hf
        have h1 := ih h.2.2.2 (fun j => if j = c then false else f j) (fun c' hc' => by
          have : c' ≠ c := fun e => h.2.2.1 (e ▸ hc')
          rw [if_neg this]
          exact hf c' (List.mem_cons_of_mem _ hc'))
        have h2 := cntF_lt (f := f) (g := fun j => if j = c then false else f j) (i := c) (hf c List.mem_cons_self) (if_pos rfl) (fun j hj => if_neg hj) 12 h.1
        simp only [List.length_cons]
        omega
    have h1 := hnd _ hpath (fun _ => true) (fun _ _ => rfl)
    have h2 : cntF (fun _ => true) 12 = 12 := by rfl
    simp only [List.length_cons] at h1
    omega
  obtain ⟨R', e2, mt', tight', zero'⟩ := flip hi ds'.length k R q ds' (Nat.le_refl _) (by omega) hpath vac (fun p hp => ⟨rfl, (fin.pm p hp).1, (fin.pm p hp).2⟩)
  refine ⟨R', u', v', ?_, mt', fin.ul, fin.vl, fun r j hr hj => fin.feas r j (by omega) hj, tight', fin.vpos, zero', fun r hr hr2 => fin.uzero r (by omega) hr2, fun j hj => ?_, fun r hr => ?_⟩
  · unfold assign_solution_augments0.f
    obtain ⟨k', rfl⟩ : ∃ m, k = m + 13 := ⟨k - 13, by omega⟩
    rw [far_lists, Option.bind_some]
    simp only [assign_solution_augments0.k10]
    rw [show assign_solution_augments0.l4 (i : Int) ⟨R, u, v⟩ b (k' + 13) u 0 = some u0 from e0, Option.bind_some]
    simp only [assign_solution_augments0.k9]
    rw [e1, Option.bind_some]
    simp only [assign_solution_augments0.k3]
    rw [e2, Option.bind_some]
    rfl
  · have h1 := fin.vb j hj
    have h2 := fin.ui
    rw [mul_succ]; omega
  · have h1 := fin.ub r hr
    have h2 := fin.ui
    rw [mul_succ]; omega
/-- All twelve rows. -/
theorem rows {M : Int} {b : List Int} (hM0 : 0 ≤ M) (hM : M ≤ 1073741824) (hw : ∀ r j, r < 12 → j < 12 → 0 ≤ wt b r j ∧ wt b r j ≤ M) : ∀ (d k i : Nat) (R u v : List Int), d + i = 12 → d + 401 ≤ k → Mt i R → Pt M i b R u v →
    ∃ R' u' v', assign_hungarians0.l1 b k R u v (i : Int) = some (R', u', v') ∧ Mt 12 R' ∧ Pt M 12 b R' u' v' := by
  intro d
  induction d with
  | zero =>
    intro k i R u v hd hk mt pt
    obtain ⟨k, rfl⟩ : ∃ m, k = m + 1 := ⟨k - 1, by omega⟩
    obtain rfl : i = 12 := by omega
    refine ⟨R, u, v, ?_, mt, pt⟩
    simp only [assign_hungarians0.l1]
    rw [if_neg (by omega)]
  | succ d ih =>
    intro k i R u v hd hk mt pt
    obtain ⟨k, rfl⟩ : ∃ m, k = m + 1 := ⟨k - 1, by omega⟩
    obtain ⟨R1, u1, v1, e1, mt1, pt1⟩ := augment mt pt (by omega) hM0 hM hw (k := k) (by omega)
    obtain ⟨R', u', v', e, mt', pt'⟩ := ih k (i + 1) R1 u1 v1 (by omega) (by omega) mt1 pt1
    refine ⟨R', u', v', ?_, mt', pt'⟩
    simp only [assign_hungarians0.l1]
    rw [if_pos (by omega), e1, Option.bind_some, Wn (by omega)]
    exact e
theorem rows0 (k : Nat) : assign_hungarians0.l2 (k + 13) (List.replicate 12 0) 0 = some (List.replicate 12 (-1)) := by kernel_rfl
theorem hungarian {M : Int} {b : List Int} (hM0 : 0 ≤ M) (hM : M ≤ 1073741824) (hw : ∀ r j, r < 12 → j < 12 → 0 ≤ wt b r j ∧ wt b r j ≤ M) {k : Nat} (hk : 500 ≤ k) :
    ∃ s : S58, assign_hungarians0.f k b = some s ∧ Mt 12 s.f0 ∧ Pt M 12 b s.f0 s.f1 s.f2 := by
  have mt : Mt 0 (List.replicate 12 (-1)) := ⟨rfl, fun j hj => .inl (grep hj), fun j j' hj _ h0 _ => by rw [grep hj] at h0; omega, fun r hr => by omega⟩
  have pt : Pt M 0 b (List.replicate 12 (-1)) (List.replicate 12 0) (List.replicate 12 0) := by
    refine ⟨rfl, rfl, fun r j hr => by omega, fun j r hj hr => ?_, fun j hj => ?_, fun j hj _ => grep hj, fun r _ hr => grep hr, fun j hj => ?_, fun r hr => ?_⟩
    · rw [grep hj] at hr; omega
    · rw [grep hj]; exact Int.le_refl _
    · rw [grep hj]; simp
    · rw [grep hr]; simp; exact hM0
  obtain ⟨R', u', v', e, mt', pt'⟩ := rows hM0 hM hw 12 k 0 _ _ _ rfl (by omega) mt pt
  refine ⟨⟨R', u', v'⟩, ?_, mt', pt'⟩
  unfold assign_hungarians0.f
  obtain ⟨k', rfl⟩ : ∃ m, k = m + 13 := ⟨k - 13, by omega⟩
  rw [rows0, Option.bind_some]
  simp only [assign_hungarians0.k2]
  rw [show assign_hungarians0.l1 b (k' + 13) (List.replicate 12 (-1)) (List.replicate 12 0) (List.replicate 12 0) 0 = _ from e, Option.bind_some]
  rfl
/-! ### sums -/
def sm (f : Nat → Int) : Nat → Int
  | 0 => 0
  | n + 1 => sm f n + f n
theorem sm_congr {f h : Nat → Int} : ∀ n, (∀ j, j < n → f j = h j) → sm f n = sm h n
  | 0, _ => rfl
  | n + 1, e => by simp only [sm]; rw [sm_congr n (fun j hj => e j (by omega)), e n (by omega)]
theorem sm_le {f h : Nat → Int} : ∀ n, (∀ j, j < n → f j ≤ h j) → sm f n ≤ sm h n
  | 0, _ => Int.le_refl _
  | n + 1, e => by have h1 := sm_le n (fun j hj => e j (by omega)); have h2 := e n (by omega); simp only [sm]; omega
theorem sm_add (f h : Nat → Int) : ∀ n, sm (fun j => f j + h j) n = sm f n + sm h n
  | 0 => rfl
  | n + 1 => by simp only [sm]; rw [sm_add f h n]; omega
theorem sm_bounds {f : Nat → Int} {B : Int} : ∀ n, (∀ j, j < n → 0 ≤ f j ∧ f j ≤ B) → 0 ≤ sm f n ∧ sm f n ≤ n * B
  | 0, _ => by simp [sm]
  | n + 1, e => by
    have h1 := sm_bounds n (fun j hj => e j (by omega))
    have h2 := e n (by omega)
    simp only [sm]
    rw [mul_succ]
    omega
/-- The matching's value. -/
theorem value {M : Int} {b : List Int} {s : S58} (hM0 : 0 ≤ M) (hM : M ≤ 1073741824) (hw : ∀ r j, r < 12 → j < 12 → 0 ≤ wt b r j ∧ wt b r j ≤ M) (mt : Mt 12 s.f0) {k : Nat} (hk : 14 ≤ k) : assign_solution_values0.f k s b = some (sm (fun j => wt b (g s.f0 j).toNat j) 12) := by
  have hall : ∀ j, j < 12 → 0 ≤ g s.f0 j ∧ g s.f0 j < 12 := fun j hj => by
    rcases mt.rng j hj with h | h
    · obtain ⟨j', hj', e⟩ : ∃ j', j' < 12 ∧ g s.f0 j' = -1 := ⟨j, hj, h⟩
      -- twelve rows, eleven columns
      exfalso
      have hch : ∀ (r : Nat), r < 12 → ∃ c, c < 12 ∧ g s.f0 c = (r : Int) := mt.onto
      have hex : ∃ f : Nat → Nat, ∀ (r : Nat), r < 12 → f r < 12 ∧ g s.f0 (f r) = (r : Int) := ⟨fun r => if h : r < 12 then (hch r h).choose else 0, fun r hr => by simp only [hr, dif_pos]; exact (hch r hr).choose_spec⟩
      obtain ⟨f, hf⟩ := hex
      obtain ⟨a, c, h1, h2, h3⟩ := pigeon 11 (fun r => if f r < j then f r else f r - 1) (fun r hr => by
        have h4 := hf r (by omega)
        have h5 : f r ≠ j := fun e2 => by rw [e2, h] at h4; omega
        show (if f r < j then f r else f r - 1) < 11
        split <;> omega)
      have h4 := hf a (by omega)
      have h5 := hf c (by omega)
      have h6 : f a ≠ j := fun e2 => by rw [e2, h] at h4; omega
      have h7 : f c ≠ j := fun e2 => by rw [e2, h] at h5; omega
      have h8 : f a = f c := by
        have h3' : (if f a < j then f a else f a - 1) = (if f c < j then f c else f c - 1) := h3
        split at h3' <;> split at h3' <;> omega
      rw [h8] at h4
      omega
    · exact h
  have key : ∀ (d k n : Nat) (x : Int), d + n = 12 → d < k → x = sm (fun j => wt b (g s.f0 j).toNat j) n → assign_solution_values0.l1 s b k x (n : Int) = some (sm (fun j => wt b (g s.f0 j).toNat j) 12) := by
    intro d
    induction d with
    | zero =>
      intro k n x hd hk hx
      obtain ⟨k, rfl⟩ : ∃ m, k = m + 1 := ⟨k - 1, by omega⟩
      obtain rfl : n = 12 := by omega
      simp only [assign_solution_values0.l1]
      rw [if_neg (by omega), hx]
    | succ d ih =>
      intro k n x hd hk hx
      obtain ⟨k, rfl⟩ : ∃ m, k = m + 1 := ⟨k - 1, by omega⟩
      have hn : n < 12 := by omega
      have h1 := hall n hn
      have h2 := hw (g s.f0 n).toNat n (by omega) hn
      have h3 := sm_bounds (f := fun j => wt b (g s.f0 j).toNat j) (B := M) n (fun j hj => hw _ j (by have := hall j (by omega); omega) (by omega))
      have h4 : (n : Int) * M ≤ 12 * M := Int.mul_le_mul_of_nonneg_right (by omega) hM0
      have h5 : 0 ≤ s.f0.getD n 0 ∧ s.f0.getD n 0 < 12 := h1
      simp only [assign_solution_values0.l1, tn]
      rw [if_pos (by omega), if_pos (by omega), if_pos (by omega), if_pos (by omega), if_pos (by omega), if_pos (by omega), if_pos (by omega), Wn (by omega)]
      rw [show W .i64 (x + b.getD ((s.f0.getD n 0).toNat * 12 + n) 0) = x + wt b (g s.f0 n).toNat n from W64 (by show _ ≤ x + wt b (g s.f0 n).toNat n; omega) (by show x + wt b (g s.f0 n).toNat n ≤ _; omega)]
      exact ih k (n + 1) _ (by omega) (by omega) (by rw [hx]; rfl)
  unfold assign_solution_values0.f
  rw [show assign_solution_values0.l1 s b k 0 0 = _ from key 12 k 0 0 rfl (by omega) rfl, Option.bind_some]
  rfl
end Go.Proofs.Ytdmhbcgmimfjcaa.hun
