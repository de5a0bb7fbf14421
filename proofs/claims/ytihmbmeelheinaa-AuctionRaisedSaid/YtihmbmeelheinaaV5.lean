/- Words of the walk, the functions' walks and plain laws, joined; no conditions beyond those that the theorems name. -/
import Derived.Test.YtihmbmeelheinaaV2
import Derived.Test.YtihmbmeelheinaaV3
import Derived.Test.YtihmbmeelheinaaV4
namespace Go.Proofs.Ytihmbmeelheinaa
open Go Go.Proofs.Ytihmbmeelheinaa.RW
set_option linter.unusedVariables false
set_option maxRecDepth 100000
set_option maxHeartbeats 8000000

/-! ### auction_Clear: function 15, armillary/auction.Clear -/
noncomputable def K15_0 : Code := cBody Try.f15
noncomputable def O15_54 : List Oper := cOps (cL (cR (cL (cR (cR (cL (cL (cR (cR (cL (cL (cR (cL (cR (cR (cR (cR (cR (cR (cR K15_0))))))))))))))))))))
noncomputable def O15_57 : List Oper := cOps (cR (cR (cR (cL (cL (cR (cR (cL (cL (cR (cL (cR (cR (cR (cR (cR (cR (cR K15_0))))))))))))))))))
def auction_Clear.k1  : List Int × List Int × List Int → Option (S29 × Int)
 | (x1, x2, x3) => (some ((⟨x1, x2, x3⟩ : S29), 0))
def auction_Clear.l1 (t2 : List Int × List Int × List (List Int)) (t3 : List Int × S62) (t4 : Int × Bool) : Nat → (List Int) → (List Int) → (List Int) → (List Int) → (List Int) → Int → Option (List Int × List Int × List Int)
 | 0, _, _, _, _, _, _ => none
 | k + 1, x4, x5, x6, x7, x8, x9 => (if x9 < (t3.1.length : Int) then (if 0 ≤ x9 then (if x9 < (x8.length : Int) then ((if (x8.getD (x9).toNat 0) ≥ 0 then (if 0 ≤ x9 then (if x9 < (t2.2.2.length : Int) then (if 0 ≤ (x8.getD (x9).toNat 0) then (if (x8.getD (x9).toNat 0) < ((t2.2.2.getD (x9).toNat []).length : Int) then (some (decide (((t2.2.2.getD (x9).toNat []).getD ((x8.getD (x9).toNat 0)).toNat 0) > 0))) else none) else none) else none) else none) else (some false)).bind (fun x10 => ((if x10 = true then (if 0 ≤ (x8.getD (x9).toNat 0) then (if (x8.getD (x9).toNat 0) < (x7.length : Int) then (if 0 ≤ x9 then (if x9 < (t2.2.2.length : Int) then (if 0 ≤ (x8.getD (x9).toNat 0) then (if (x8.getD (x9).toNat 0) < ((t2.2.2.getD (x9).toNat []).length : Int) then ((auction_Clear_1s0.f k x9 ((t2.2.2.getD (x9).toNat []).getD ((x8.getD (x9).toNat 0)).toNat 0) t2.2.2 t4.1).bind fun t5 => (some ((x7.getD ((x8.getD (x9).toNat 0)).toNat 0), t5))) else none) else none) else none) else none) else none) else none) else (some ((-1), 0))).bind (fun (x11, x12) => (if (x5.length + [x11].length) * 8 ≤ 140737488355328 then (if (x6.length + [x12].length) * 8 ≤ 140737488355328 then (auction_Clear.l1 t2 t3 t4 k x4 (x5 ++ [x11]) (x6 ++ [x12]) x7 x8 (W .i64 (x9 + 1))) else none) else none))))) else none) else none) else (some (x4, x5, x6)))
def auction_Clear.f (k : Nat) (a0 : List S48) : Option (S29 × Int) := ((auction_Valid.f k a0).bind fun t1 => (if t1 = true then ((auction_Tabulate.f k a0).bind fun t2 => ((assign_Solve.f k t2.2.2).bind fun t3 => ((assign_Value.f k t2.2.2 t3.1).bind fun t4 => ((auction_Clear.l1 t2 t3 t4 k t2.1 ([] : List Int) ([] : List Int) t2.2.1 t3.1 0).bind (auction_Clear.k1))))) else (some ((⟨[], [], []⟩ : S29), 1))))
def auction_Clear.Post (I : Imm) (w : World) (r : S29 × Int) (v : Value) (w' : World) : Prop :=
 ∃ (J : Imm) (A0_0 : Option Addr) (c0_0 : Nat) (cs0_0 : List Value) (A0_1 : Option Addr) (c0_1 : Nat) (cs0_1 : List Value) (A0_2 : Option Addr) (c0_2 : Nat) (cs0_2 : List Value), v = .tuple #[.agg #[.slice A0_0 r.1.f0.length c0_0, .slice A0_1 r.1.f1.length c0_1, .slice A0_2 r.1.f2.length c0_2], .int .i64 r.2] ∧ Got w w' I J [orow 3 1 A0_0 r.1.f0.length c0_0 cs0_0, orow 3 1 A0_1 r.1.f1.length c0_1 cs0_1, orow 2 1 A0_2 r.1.f2.length c0_2 cs0_2] ∧ Reps (Ty.int .i64) J r.1.f0 cs0_0 ∧ Reps (Ty.int .i64) J r.1.f1 cs0_1 ∧ Reps (Ty.int .i64) J r.1.f2 cs0_2
noncomputable def a15_57n : List Nat := [0, 1, 0, 4, 15, 0, 32, 0, 128, 511, 127, 2047, 4095, 8191]
theorem a15_57 : ancs O15_57 [] = a15_57n := by kernel_rfl
theorem a15_57o : drawOk O15_57 a15_57n 11 = true := by kernel_rfl
noncomputable def u15d1l (x5 : List Int) (x6 : List Int) (x11 : Int) (x12 : Int) : List (Nat × (Wt → Value)) := [(4, fun x => .slice ((x 0).1) ((x5 ++ [x11]).length) ((x 0).2.1)), (9, fun x => .slice ((x 0).1) ((x6 ++ [x12]).length) ((x 0).2.1))]
noncomputable def u15d1g  : List (Nat × ((Nat → Wt) → Value)) := []
noncomputable def u15d1x (x4 : List Int) (A10 : Option Addr) (c10 : Nat) (cs10 : List Value) (x5 : List Int) (A11 : Option Addr) (c11 : Nat) (cs11 : List Value) (x6 : List Int) (A12 : Option Addr) (c12 : Nat) (cs12 : List Value) (x7 : List Int) (A13 : Option Addr) (c13 : Nat) (cs13 : List Value) (x8 : List Int) (A14 : Option Addr) (c14 : Nat) (cs14 : List Value) (x11 : Int) (x12 : Int) : Nat → (Nat → Wt) → List Res := fun q u => match q with | 0 => [orow 3 1 A10 x4.length c10 cs10, orow 3 1 A11 x5.length c11 cs11, orow 2 1 A12 x6.length c12 cs12, orow 3 1 A13 x7.length c13 cs13, orow 3 1 A14 x8.length c14 cs14] | 1 => [orow 3 1 A10 x4.length c10 cs10, orow 3 1 ((u 4 0).1) ((x5 ++ [x11]).length) ((u 4 0).2.1) ((u 4 0).2.2), orow 2 1 A12 x6.length c12 cs12, orow 3 1 A13 x7.length c13 cs13, orow 3 1 A14 x8.length c14 cs14] | _ => [orow 3 1 A10 x4.length c10 cs10, orow 3 1 ((u 4 0).1) ((x5 ++ [x11]).length) ((u 4 0).2.1) ((u 4 0).2.2), orow 2 1 ((u 9 0).1) ((x6 ++ [x12]).length) ((u 9 0).2.1) ((u 9 0).2.2), orow 3 1 A13 x7.length c13 cs13, orow 3 1 A14 x8.length c14 cs14]
noncomputable def u15d1p (x4 : List Int) (cs10 : List Value) (x5 : List Int) (cs11 : List Value) (x6 : List Int) (cs12 : List Value) (x7 : List Int) (cs13 : List Value) (x8 : List Int) (cs14 : List Value) (x11 : Int) (x12 : Int) : Nat → (Nat → Wt) → Imm → Prop := fun q u J => match q with | 0 => Reps (Ty.int .i64) J x4 cs10 ∧ Reps (Ty.int .i64) J x5 cs11 ∧ Reps (Ty.int .i64) J x6 cs12 ∧ Reps (Ty.int .i64) J x7 cs13 ∧ Reps (Ty.int .i64) J x8 cs14 ∧ True | 1 => Reps (Ty.int .i64) J x4 cs10 ∧ Reps (Ty.int .i64) J (x5 ++ [x11]) ((u 4 0).2.2) ∧ Reps (Ty.int .i64) J x6 cs12 ∧ Reps (Ty.int .i64) J x7 cs13 ∧ Reps (Ty.int .i64) J x8 cs14 ∧ True | _ => Reps (Ty.int .i64) J x4 cs10 ∧ Reps (Ty.int .i64) J (x5 ++ [x11]) ((u 4 0).2.2) ∧ Reps (Ty.int .i64) J (x6 ++ [x12]) ((u 9 0).2.2) ∧ Reps (Ty.int .i64) J x7 cs13 ∧ Reps (Ty.int .i64) J x8 cs14 ∧ True
noncomputable def u15d1t (x11 : Int) (x12 : Int) : List Ld := [⟨3, fun x => .slice (some ⟨(x 0).2.1, 0, none⟩) 1 1, fun x => [], fun x J => Rd (Ty.int .i64) J (some ⟨(x 0).2.1, 0, none⟩) [x11] ∧ True, fun x J J' h f => ⟨Rd.ext h f.1, trivial⟩⟩, ⟨8, fun x => .slice (some ⟨(x 0).2.1, 0, none⟩) 1 1, fun x => [], fun x J => Rd (Ty.int .i64) J (some ⟨(x 0).2.1, 0, none⟩) [x12] ∧ True, fun x J J' h f => ⟨Rd.ext h f.1, trivial⟩⟩]
noncomputable def u15d1q (nx0 : Nat) (t2 : List Int × List Int × List (List Int)) (A3 : Option Addr) (c3 : Nat) (nx2 : Nat) (t3 : List Int × S62) (A5 : Option Addr) (c5 : Nat) (A6 : Option Addr) (c6 : Nat) (nx3 : Nat) (t4 : Int × Bool) (nx4 : Nat) (x4 : List Int) (A10 : Option Addr) (c10 : Nat) (x5 : List Int) (A11 : Option Addr) (c11 : Nat) (x6 : List Int) (A12 : Option Addr) (c12 : Nat) (x7 : List Int) (A13 : Option Addr) (c13 : Nat) (x8 : List Int) (A14 : Option Addr) (c14 : Nat) (x9 : Int) (x11 : Int) (x12 : Int) (u : Nat → Wt) : Option (List Value × List (Nat × Value) × List (Nat × Nat)) := qSim Try.prog [] [⟨nx0, [.slice none 0 0, .slice none 0 0, .slice none 0 0], 29⟩, ⟨nx2, [.slice A3 t2.2.2.length c3], 33⟩, ⟨nx3, [.slice A5 t3.2.f0.length c5, .slice A6 t3.2.f1.length c6], 62⟩, ⟨nx4, [i6 t4.1], 2⟩, ⟨nx4 + 1, [.slice A10 x4.length c10, .slice A11 x5.length c11, .slice A12 x6.length c12], 29⟩] O15_57 ⟨88, []⟩ ((u15d1l x5 x6 x11 x12) ++ Ld.vl (u15d1t x11 x12)) u15d1g u [.no, .l 4, .no, .no, .no, .no, .l 4, .no, .no, .no, .no] 0 (O15_57.take 11) [(2, pt nx0 0), (5, .slice A13 x7.length c13), (6, pt nx2 0), (11, .func (.func 35) #[] #[pt nx2 0, pt nx4 0]), (12, pt (nx4 + 1) 0), (15, i6 x11), (16, i6 x12), (41, .slice A14 x8.length c14), (42, i6 (t3.1.length : Int)), (43, i6 x9)]
noncomputable def u15d1s (nx4 : Nat) (x5 : List Int) (A11 : Option Addr) (c11 : Nat) (x6 : List Int) (A12 : Option Addr) (c12 : Nat) (x11 : Int) (x12 : Int) (u : Nat → Wt) : List Value := [pt (nx4 + 1) 1, .slice A11 x5.length c11, i6 x11, .slice (some ⟨(u 3 0).2.1, 0, none⟩) 1 1, .slice ((u 4 0).1) ((x5 ++ [x11]).length) ((u 4 0).2.1), pt (nx4 + 1) 2, .slice A12 x6.length c12, i6 x12, .slice (some ⟨(u 8 0).2.1, 0, none⟩) 1 1, .slice ((u 9 0).1) ((x6 ++ [x12]).length) ((u 9 0).2.1), pt (nx4 + 1) 1]
noncomputable def u15d1f (nx0 : Nat) (nx2 : Nat) (t3 : List Int × S62) (nx4 : Nat) (x5 : List Int) (A11 : Option Addr) (c11 : Nat) (x6 : List Int) (A12 : Option Addr) (c12 : Nat) (x7 : List Int) (A13 : Option Addr) (c13 : Nat) (x8 : List Int) (A14 : Option Addr) (c14 : Nat) (x9 : Int) (x11 : Int) (x12 : Int) (i : Nat) (u : Nat → Wt) : List (Nat × Value) := foldPut ⟨88, []⟩ [(2, pt nx0 0), (5, .slice A13 x7.length c13), (6, pt nx2 0), (11, .func (.func 35) #[] #[pt nx2 0, pt nx4 0]), (12, pt (nx4 + 1) 0), (15, i6 x11), (16, i6 x12), (41, .slice A14 x8.length c14), (42, i6 (t3.1.length : Int)), (43, i6 x9)] (O15_57.take i) (((u15d1s nx4 x5 A11 c11 x6 A12 c12 x11 x12) u).take i)
theorem u15d1v (nx0 : Nat) (t2 : List Int × List Int × List (List Int)) (A3 : Option Addr) (c3 : Nat) (nx2 : Nat) (t3 : List Int × S62) (A5 : Option Addr) (c5 : Nat) (A6 : Option Addr) (c6 : Nat) (nx3 : Nat) (t4 : Int × Bool) (nx4 : Nat) (x4 : List Int) (A10 : Option Addr) (c10 : Nat) (x5 : List Int) (A11 : Option Addr) (c11 : Nat) (x6 : List Int) (A12 : Option Addr) (c12 : Nat) (x7 : List Int) (A13 : Option Addr) (c13 : Nat) (x8 : List Int) (A14 : Option Addr) (c14 : Nat) (x9 : Int) (x11 : Int) (x12 : Int) (u : Nat → Wt) : (u15d1q nx0 t2 A3 c3 nx2 t3 A5 c5 A6 c6 nx3 t4 nx4 x4 A10 c10 x5 A11 c11 x6 A12 c12 x7 A13 c13 x8 A14 c14 x9 x11 x12 u).map (fun x => (x.1, x.2.1)) = some ((u15d1s nx4 x5 A11 c11 x6 A12 c12 x11 x12) u, (u15d1f nx0 nx2 t3 nx4 x5 A11 c11 x6 A12 c12 x7 A13 c13 x8 A14 c14 x9 x11 x12 11) u) := by kernel_rfl
theorem u15d1e (nx0 : Nat) (t2 : List Int × List Int × List (List Int)) (A3 : Option Addr) (c3 : Nat) (nx2 : Nat) (t3 : List Int × S62) (A5 : Option Addr) (c5 : Nat) (A6 : Option Addr) (c6 : Nat) (nx3 : Nat) (t4 : Int × Bool) (nx4 : Nat) (x4 : List Int) (A10 : Option Addr) (c10 : Nat) (x5 : List Int) (A11 : Option Addr) (c11 : Nat) (x6 : List Int) (A12 : Option Addr) (c12 : Nat) (x7 : List Int) (A13 : Option Addr) (c13 : Nat) (x8 : List Int) (A14 : Option Addr) (c14 : Nat) (x9 : Int) (x11 : Int) (x12 : Int) (u : Nat → Wt) : (u15d1q nx0 t2 A3 c3 nx2 t3 A5 c5 A6 c6 nx3 t4 nx4 x4 A10 c10 x5 A11 c11 x6 A12 c12 x7 A13 c13 x8 A14 c14 x9 x11 x12 u).map (fun x => x.2.2.map (·.1)) = (u15d1q nx0 t2 A3 c3 nx2 t3 A5 c5 A6 c6 nx3 t4 nx4 x4 A10 c10 x5 A11 c11 x6 A12 c12 x7 A13 c13 x8 A14 c14 x9 x11 x12 u).map (fun x => x.2.2.map (·.2)) := by kernel_rfl
noncomputable def a15_54n : List Nat := [0, 0, 3, 7, 0, 0, 0, 0, 192, 448, 0, 1984, 4032, 8176, 16383, 32767]
theorem a15_54 : ancs O15_54 [] = a15_54n := by kernel_rfl
theorem a15_54o : drawOk O15_54 a15_54n 14 = true := by kernel_rfl
noncomputable def u15d2l (t5 : Int) : List Ld :=
 [⟨13, fun x => i6 t5, fun x => [], fun x J => True, fun x J J' h f => trivial⟩]
noncomputable def u15d2g (x8 : List Int) (x9 : Int) (g2_ : Nat) (g3_ : Nat) (o3_ : Nat) (g4_ : Nat) (o4_ : Nat) : List (Nat × ((Nat → Wt) → Value)) := [(2, fun u => pt g2_ (0 + ((x8.getD (x9).toNat 0)).toNat * 1)), (8, fun u => pt g3_ (o3_ + (x9).toNat * 1)), (11, fun u => pt g4_ (o4_ + ((x8.getD (x9).toNat 0)).toNat * 1))]
noncomputable def u15d2q (nx0 : Nat) (t2 : List Int × List Int × List (List Int)) (A3 : Option Addr) (c3 : Nat) (nx2 : Nat) (t3 : List Int × S62) (A5 : Option Addr) (c5 : Nat) (A6 : Option Addr) (c6 : Nat) (nx3 : Nat) (t4 : Int × Bool) (nx4 : Nat) (x4 : List Int) (A10 : Option Addr) (c10 : Nat) (x5 : List Int) (A11 : Option Addr) (c11 : Nat) (x6 : List Int) (A12 : Option Addr) (c12 : Nat) (x7 : List Int) (A13 : Option Addr) (c13 : Nat) (x8 : List Int) (A14 : Option Addr) (c14 : Nat) (x9 : Int) (x10 : Bool) (g2_ : Nat) (A3_ : Option Addr) (c3_ : Nat) (g3_ : Nat) (o3_ : Nat) (g4_ : Nat) (o4_ : Nat) (t5 : Int) (u : Nat → Wt) : Option (List Value × List (Nat × Value) × List (Nat × Nat)) := qSim Try.prog [(⟨g2_, 0 + ((x8.getD (x9).toNat 0)).toNat * 1, none⟩, i6 (x7.getD ((x8.getD (x9).toNat 0)).toNat 0)), (⟨g3_, o3_ + (x9).toNat * 1, none⟩, .slice A3_ ((t2.2.2.getD (x9).toNat []).length) c3_), (⟨g4_, o4_ + ((x8.getD (x9).toNat 0)).toNat * 1, none⟩, i6 ((t2.2.2.getD (x9).toNat []).getD ((x8.getD (x9).toNat 0)).toNat 0))] [⟨nx0, [.slice none 0 0, .slice none 0 0, .slice none 0 0], 29⟩, ⟨nx2, [.slice A3 t2.2.2.length c3], 33⟩, ⟨nx3, [.slice A5 t3.2.f0.length c5, .slice A6 t3.2.f1.length c6], 62⟩, ⟨nx4, [i6 t4.1], 2⟩, ⟨nx4 + 1, [.slice A10 x4.length c10, .slice A11 x5.length c11, .slice A12 x6.length c12], 29⟩] O15_54 ⟨88, []⟩ (Ld.vl (u15d2l t5)) (u15d2g x8 x9 g2_ g3_ o3_ g4_ o4_) u [.no, .no, .no, .r 0, .no, .no, .l 1, .no, .no, .r 1, .no, .no, .r 2, .no] 0 (O15_54.take 14) [(2, pt nx0 0), (5, .slice A13 x7.length c13), (6, pt nx2 0), (11, .func (.func 35) #[] #[pt nx2 0, pt nx4 0]), (12, pt (nx4 + 1) 0), (13, i6 x9), (14, i6 (x8.getD (x9).toNat 0)), (15, i6 (-1)), (16, i6 0), (41, .slice A14 x8.length c14), (42, i6 (t3.1.length : Int)), (43, i6 x9), (59, .bool x10)]
noncomputable def u15d2s (t2 : List Int × List Int × List (List Int)) (A3 : Option Addr) (c3 : Nat) (nx2 : Nat) (nx4 : Nat) (x7 : List Int) (A13 : Option Addr) (c13 : Nat) (x8 : List Int) (x9 : Int) (g2_ : Nat) (A3_ : Option Addr) (c3_ : Nat) (g3_ : Nat) (o3_ : Nat) (g4_ : Nat) (o4_ : Nat) (t5 : Int) (u : Nat → Wt) : List Value := [.slice A13 x7.length c13, i6 (x8.getD (x9).toNat 0), pt g2_ (0 + ((x8.getD (x9).toNat 0)).toNat * 1), i6 (x7.getD ((x8.getD (x9).toNat 0)).toNat 0), .func (.func 35) #[] #[pt nx2 0, pt nx4 0], i6 x9, .slice A3 t2.2.2.length c3, i6 x9, pt g3_ (o3_ + (x9).toNat * 1), .slice A3_ ((t2.2.2.getD (x9).toNat []).length) c3_, i6 (x8.getD (x9).toNat 0), pt g4_ (o4_ + ((x8.getD (x9).toNat 0)).toNat * 1), i6 ((t2.2.2.getD (x9).toNat []).getD ((x8.getD (x9).toNat 0)).toNat 0), i6 t5]
noncomputable def u15d2f (nx0 : Nat) (t2 : List Int × List Int × List (List Int)) (A3 : Option Addr) (c3 : Nat) (nx2 : Nat) (t3 : List Int × S62) (nx4 : Nat) (x7 : List Int) (A13 : Option Addr) (c13 : Nat) (x8 : List Int) (A14 : Option Addr) (c14 : Nat) (x9 : Int) (x10 : Bool) (g2_ : Nat) (A3_ : Option Addr) (c3_ : Nat) (g3_ : Nat) (o3_ : Nat) (g4_ : Nat) (o4_ : Nat) (t5 : Int) (i : Nat) (u : Nat → Wt) : List (Nat × Value) := foldPut ⟨88, []⟩ [(2, pt nx0 0), (5, .slice A13 x7.length c13), (6, pt nx2 0), (11, .func (.func 35) #[] #[pt nx2 0, pt nx4 0]), (12, pt (nx4 + 1) 0), (13, i6 x9), (14, i6 (x8.getD (x9).toNat 0)), (15, i6 (-1)), (16, i6 0), (41, .slice A14 x8.length c14), (42, i6 (t3.1.length : Int)), (43, i6 x9), (59, .bool x10)] (O15_54.take i) (((u15d2s t2 A3 c3 nx2 nx4 x7 A13 c13 x8 x9 g2_ A3_ c3_ g3_ o3_ g4_ o4_ t5) u).take i)
theorem u15d2v (nx0 : Nat) (t2 : List Int × List Int × List (List Int)) (A3 : Option Addr) (c3 : Nat) (nx2 : Nat) (t3 : List Int × S62) (A5 : Option Addr) (c5 : Nat) (A6 : Option Addr) (c6 : Nat) (nx3 : Nat) (t4 : Int × Bool) (nx4 : Nat) (x4 : List Int) (A10 : Option Addr) (c10 : Nat) (x5 : List Int) (A11 : Option Addr) (c11 : Nat) (x6 : List Int) (A12 : Option Addr) (c12 : Nat) (x7 : List Int) (A13 : Option Addr) (c13 : Nat) (x8 : List Int) (A14 : Option Addr) (c14 : Nat) (x9 : Int) (x10 : Bool) (g2_ : Nat) (A3_ : Option Addr) (c3_ : Nat) (g3_ : Nat) (o3_ : Nat) (g4_ : Nat) (o4_ : Nat) (t5 : Int) (u : Nat → Wt) : (u15d2q nx0 t2 A3 c3 nx2 t3 A5 c5 A6 c6 nx3 t4 nx4 x4 A10 c10 x5 A11 c11 x6 A12 c12 x7 A13 c13 x8 A14 c14 x9 x10 g2_ A3_ c3_ g3_ o3_ g4_ o4_ t5 u).map (fun x => (x.1, x.2.1)) = some ((u15d2s t2 A3 c3 nx2 nx4 x7 A13 c13 x8 x9 g2_ A3_ c3_ g3_ o3_ g4_ o4_ t5) u, (u15d2f nx0 t2 A3 c3 nx2 t3 nx4 x7 A13 c13 x8 A14 c14 x9 x10 g2_ A3_ c3_ g3_ o3_ g4_ o4_ t5 14) u) := by kernel_rfl
theorem u15d2e (nx0 : Nat) (t2 : List Int × List Int × List (List Int)) (A3 : Option Addr) (c3 : Nat) (nx2 : Nat) (t3 : List Int × S62) (A5 : Option Addr) (c5 : Nat) (A6 : Option Addr) (c6 : Nat) (nx3 : Nat) (t4 : Int × Bool) (nx4 : Nat) (x4 : List Int) (A10 : Option Addr) (c10 : Nat) (x5 : List Int) (A11 : Option Addr) (c11 : Nat) (x6 : List Int) (A12 : Option Addr) (c12 : Nat) (x7 : List Int) (A13 : Option Addr) (c13 : Nat) (x8 : List Int) (A14 : Option Addr) (c14 : Nat) (x9 : Int) (x10 : Bool) (g2_ : Nat) (A3_ : Option Addr) (c3_ : Nat) (g3_ : Nat) (o3_ : Nat) (g4_ : Nat) (o4_ : Nat) (t5 : Int) (u : Nat → Wt) : (u15d2q nx0 t2 A3 c3 nx2 t3 A5 c5 A6 c6 nx3 t4 nx4 x4 A10 c10 x5 A11 c11 x6 A12 c12 x7 A13 c13 x8 A14 c14 x9 x10 g2_ A3_ c3_ g3_ o3_ g4_ o4_ t5 u).map (fun x => x.2.2.map (·.1)) = (u15d2q nx0 t2 A3 c3 nx2 t3 A5 c5 A6 c6 nx3 t4 nx4 x4 A10 c10 x5 A11 c11 x6 A12 c12 x7 A13 c13 x8 A14 c14 x9 x10 g2_ A3_ c3_ g3_ o3_ g4_ o4_ t5 u).map (fun x => x.2.2.map (·.2)) := by kernel_rfl
theorem auction_Clear.calls (k : Nat) (I0 : Imm) (a0 : List S48) (Ap0 : Option Addr) (cp0 : Nat) (w : World) (hI : I0.at_ w) (hlp0 : a0.length ≤ cp0) (hrp0 : Rd t48 I0 Ap0 a0) (r : S29 × Int) (h : auction_Clear.f k a0 = some r) :
  Calls Try.prog 15 [.slice Ap0 a0.length cp0].toArray w fun e w' => ∃ v, e = .returned v ∧ auction_Clear.Post I0 w r v w' := by
 have H : ((auction_Valid.f k a0).bind fun t1 => (if t1 = true then ((auction_Tabulate.f k a0).bind fun t2 => ((assign_Solve.f k t2.2.2).bind fun t3 => ((assign_Value.f k t2.2.2 t3.1).bind fun t4 => ((auction_Clear.l1 t2 t3 t4 k t2.1 ([] : List Int) ([] : List Int) t2.2.1 t3.1 0).bind (auction_Clear.k1))))) else (some ((⟨[], [], []⟩ : S29), 1)))) = some r := h
 clear h
 refine calls_body Try.func15 (by kernel_rfl) 88 (by kernel_rfl) (by kernel_rfl) ⟨w, fun _ => False, I0⟩ I0 [] [(0, .slice Ap0 a0.length cp0)] (by kernel_rfl) (Sat.start w _ I0 hI) ?_
 generalize w.heap.size = nx0
 show OK _ K15_0 _ _ _ _ _ _ _ _
 refine OK.sr ?_
 refine RL.spt 2 [(2, pt nx0 0), (0, .slice Ap0 a0.length cp0)] (nx0 + 1) [⟨nx0, [.slice none 0 0, .slice none 0 0, .slice none 0 0], 29⟩] ?_
 refine OK.sq ?_
 refine OK.sr ?_
 refine RL.s 1 [(17, .slice Ap0 a0.length cp0), (2, pt nx0 0), (0, .slice Ap0 a0.length cp0)] ?_
 obtain ⟨t1, hA1, H⟩ := bnd H
 refine RL.callP 12 [.slice Ap0 a0.length cp0] (some 18) (fun w => auction_Valid.Post I0 w t1) (by kernel_rfl) (by kernel_rfl) (fun w hs => auction_Valid.calls k I0 a0 Ap0 cp0 w hs.im hlp0 hrp0 t1 hA1) ?_
 rintro w v w' hs ⟨I1, rfl, hg⟩
 have hi1 := hg.le
 refine RL.resume (X' := []) rfl (hs.call hg) ?_
 clear hs hg
 generalize w'.heap.size = nx1
 clear w w'
 refine RL.st 1 [(19, .bool (!t1)), (2, pt nx0 0), (0, .slice Ap0 a0.length cp0)] ?_
 refine OK.cd (!t1) (fun hb => ?_) (fun hb => ?_)
 ·have hb : t1 = false := by simpa using hb
  have hc := (Bool.eq_false_iff.1 hb)
  rw [if_neg hc] at H
  clear hb
  refine OK.sr ?_
  refine RL.simK (K' := [(3, i6 1), (2, pt nx0 0)]) [] (RFacts.nil _ _ _) 3 [.no, .l 0, .no] (by kernel_rfl) (by kernel_rfl) ?_
  refine RL.nt ?_
  refine OK.re ?_
  refine QN.thenR ?_
  obtain rfl := Option.some.inj H
  refine QN.body rfl [] (RFacts.nil _ _ _) (.l 0) (.tuple #[.agg #[.slice none 0 0, .slice none 0 0, .slice none 0 0], i6 1]) (by kernel_rfl) (by kernel_rfl) (by kernel_rfl) ?_ _ (.inr rfl)
  exact fun w' hs' => ⟨_, rfl, I1, none, 0, [], none, 0, [], none, 0, [], rfl, gotNil3 (hs'.got [] (List.nil_sublist _)), rfl, rfl, rfl⟩
 ·have hb : t1 = true := by simpa using hb
  have hc := hb
  rw [if_pos hc] at H
  clear hb
  refine OK.skt ?_
  refine OK.sr ?_
  refine RL.s 1 [(22, .slice Ap0 a0.length cp0), (2, pt nx0 0)] ?_
  obtain ⟨t2, hA2, H⟩ := bnd H
  refine RL.callP 17 [.slice Ap0 a0.length cp0] (some 23) (fun w => auction_Tabulate.Post I1 w t2) (by kernel_rfl) (by kernel_rfl) (fun w hs => auction_Tabulate.calls k I1 a0 Ap0 cp0 w hs.im hlp0 (Rd.ext hi1 hrp0) t2 hA2) ?_
  rintro w v w' hs ⟨I2, A1, c1, cs1, A2, c2, cs2, A3, c3, cs3, rfl, hg, hp1, hp2, hp3⟩
  have hi2 := hg.le
  refine RL.resume (X' := [orow 3 1 A1 t2.1.length c1 cs1, orow 3 1 A2 t2.2.1.length c2 cs2, orow 27 1 A3 t2.2.2.length c3 cs3]) rfl (hs.call hg) ?_
  clear hs hg
  generalize w'.heap.size = nx2
  clear w w'
  refine RL.simP (K' := [(5, .slice A2 t2.2.1.length c2), (4, .slice A1 t2.1.length c1), (6, pt nx2 0), (2, pt nx0 0)]) (nx' := nx2 + 1) (L' := [⟨nx0, [.slice none 0 0, .slice none 0 0, .slice none 0 0], 29⟩, ⟨nx2, [.slice A3 t2.2.2.length c3], 33⟩]) [] (RFacts.nil _ _ _) 8 [.no, .no, .no, .no, .no, .no, .no, .l 1] (by kernel_rfl) (by kernel_rfl) ?_
  refine RL.nt ?_
  refine OK.sr ?_
  refine RL.simK (K' := [(28, .slice A3 t2.2.2.length c3), (5, .slice A2 t2.2.1.length c2), (4, .slice A1 t2.1.length c1), (6, pt nx2 0), (2, pt nx0 0)]) [] (RFacts.nil _ _ _) 1 [.l 1] (by kernel_rfl) (by kernel_rfl) ?_
  refine RL.freeze (e := 27) (sz := 1) (S := A3) (n := t2.2.2.length) (cap := c3) 2 (by kernel_rfl) hp3 rfl (fun I3 hi3 hl1 hr1 => ?_)
  skip
  obtain ⟨t3, hA3, H⟩ := bnd H
  refine RL.callP 33 [.slice A3 t2.2.2.length c3] (some 29) (fun w => assign_Solve.Post I3 w t3) (by kernel_rfl) (by kernel_rfl) (fun w hs => assign_Solve.calls k I3 t2.2.2 A3 c3 w hs.im hl1 hr1 t3 hA3) ?_
  rintro w v w' hs ⟨I4, A4, c4, cs4, A5, c5, cs5, A6, c6, cs6, rfl, hg, hp4, hp5, hp6⟩
  have hi4 := hg.le
  refine RL.resume (X' := [orow 3 1 A1 t2.1.length c1 cs1, orow 3 1 A2 t2.2.1.length c2 cs2, orow 3 1 A4 t3.1.length c4 cs4, orow 2 1 A5 t3.2.f0.length c5 cs5, orow 2 1 A6 t3.2.f1.length c6 cs6]) rfl (hs.call hg) ?_
  clear hs hg
  generalize w'.heap.size = nx3
  clear w w'
  refine RL.freeze (e := 2) (sz := 1) (S := A5) (n := t3.2.f0.length) (cap := c5) 3 (by kernel_rfl) hp5 rfl (fun I5 hi5 hl2 hr2 => ?_)
  skip
  refine RL.freeze (e := 2) (sz := 1) (S := A6) (n := t3.2.f1.length) (cap := c6) 3 (by kernel_rfl) (Reps.ext hi5 hp6) rfl (fun I6 hi6 hl3 hr3 => ?_)
  skip
  refine RL.simP (K' := [(7, .slice A4 t3.1.length c4), (5, .slice A2 t2.2.1.length c2), (4, .slice A1 t2.1.length c1), (6, pt nx2 0), (2, pt nx0 0)]) (nx' := nx3 + 1) (L' := [⟨nx0, [.slice none 0 0, .slice none 0 0, .slice none 0 0], 29⟩, ⟨nx2, [.slice A3 t2.2.2.length c3], 33⟩, ⟨nx3, [.slice A5 t3.2.f0.length c5, .slice A6 t3.2.f1.length c6], 62⟩]) [] (RFacts.nil _ _ _) 6 [.no, .no, .no, .no, .no, .l 2] (by kernel_rfl) (by kernel_rfl) ?_
  refine RL.nt ?_
  refine OK.sr ?_
  refine RL.simK (K' := [(34, .slice A4 t3.1.length c4), (33, .slice A3 t2.2.2.length c3), (7, .slice A4 t3.1.length c4), (5, .slice A2 t2.2.1.length c2), (4, .slice A1 t2.1.length c1), (6, pt nx2 0), (2, pt nx0 0)]) [] (RFacts.nil _ _ _) 2 [.l 1, .no] (by kernel_rfl) (by kernel_rfl) ?_
  obtain ⟨t4, hA4, H⟩ := bnd H
  refine RL.callP 34 [.slice A3 t2.2.2.length c3, .slice A4 t3.1.length c4] (some 35) (fun w v w' => ∃ I', Imm.le I6 I' ∧ assign_Value.Post I' w t4 v w') (by kernel_rfl) (by kernel_rfl) (fun w hs => ?_) ?_
  ·skip
   obtain ⟨JL1, hj1, hn1, hw1, hs⟩ := Sat.freeze (e := 3) (sz := 1) (S := A4) (n := t3.1.length) (cap := c4) (m := 2) hs (by kernel_rfl) (Reps.ext (Imm.le_trans hi5 hi6) hp4) rfl
   exact (assign_Value.calls k JL1 t2.2.2 A3 c3 t3.1 A4 c4 _ hs.im hl1 (Rd.ext hj1 (Rd.ext (Imm.le_trans (Imm.le_trans hi4 hi5) hi6) hr1)) hn1 hw1 t4 hA4).mono (fun e w' ⟨v, hv, hp⟩ => ⟨v, hv, JL1, hj1, hp⟩)
  rintro w v w' hs ⟨I', hle, J, rfl, hg⟩
  refine RL.resume (X' := [orow 3 1 A1 t2.1.length c1 cs1, orow 3 1 A2 t2.2.1.length c2 cs2, orow 3 1 A4 t3.1.length c4 cs4]) rfl (hs.call (hg.back hle)) ?_
  clear hs hg hle I' J
  generalize w'.heap.size = nx4
  clear w w'
  refine RL.simP (K' := [(9, pt nx4 0), (7, .slice A4 t3.1.length c4), (5, .slice A2 t2.2.1.length c2), (4, .slice A1 t2.1.length c1), (6, pt nx2 0), (2, pt nx0 0)]) (nx' := nx4 + 1) (L' := [⟨nx0, [.slice none 0 0, .slice none 0 0, .slice none 0 0], 29⟩, ⟨nx2, [.slice A3 t2.2.2.length c3], 33⟩, ⟨nx3, [.slice A5 t3.2.f0.length c5, .slice A6 t3.2.f1.length c6], 62⟩, ⟨nx4, [i6 t4.1], 2⟩]) [] (RFacts.nil _ _ _) 6 [.no, .no, .no, .no, .l 3, .no] (by kernel_rfl) (by kernel_rfl) ?_
  refine RL.nt ?_
  refine OK.sr ?_
  refine RL.st 2 [(11, .func (.func 35) #[] #[pt nx2 0, pt nx4 0]), (7, .slice A4 t3.1.length c4), (5, .slice A2 t2.2.1.length c2), (4, .slice A1 t2.1.length c1), (6, pt nx2 0), (2, pt nx0 0)] ?_
  refine OK.sr ?_
  refine RL.simP (K' := [(12, pt (nx4 + 1) 0), (11, .func (.func 35) #[] #[pt nx2 0, pt nx4 0]), (7, .slice A4 t3.1.length c4), (5, .slice A2 t2.2.1.length c2), (6, pt nx2 0), (2, pt nx0 0)]) (nx' := nx4 + 2) (L' := [⟨nx0, [.slice none 0 0, .slice none 0 0, .slice none 0 0], 29⟩, ⟨nx2, [.slice A3 t2.2.2.length c3], 33⟩, ⟨nx3, [.slice A5 t3.2.f0.length c5, .slice A6 t3.2.f1.length c6], 62⟩, ⟨nx4, [i6 t4.1], 2⟩, ⟨nx4 + 1, [.slice A1 t2.1.length c1, .slice none 0 0, .slice none 0 0], 29⟩]) [] (RFacts.nil _ _ _) 4 [.no, .no, .no, .l 4] (by kernel_rfl) (by kernel_rfl) ?_
  refine RL.nt ?_
  refine OK.sq ?_
  refine OK.sr ?_
  refine RL.st 3 [(43, i6 0), (42, i6 (t3.1.length : Int)), (41, .slice A4 t3.1.length c4), (12, pt (nx4 + 1) 0), (11, .func (.func 35) #[] #[pt nx2 0, pt nx4 0]), (5, .slice A2 t2.2.1.length c2), (6, pt nx2 0), (2, pt nx0 0)] ?_
  refine OK.join (fun K' I' _ L' X' => ∃ (x1 : List Int) (x2 : List Int) (x3 : List Int) (A7 : Option Addr) (c7 : Nat) (cs7 : List Value) (A8 : Option Addr) (c8 : Nat) (cs8 : List Value) (A9 : Option Addr) (c9 : Nat) (cs9 : List Value), K' = [(2, pt nx0 0), (12, pt (nx4 + 1) 0)] ∧ L' = [⟨nx0, [.slice none 0 0, .slice none 0 0, .slice none 0 0], 29⟩, ⟨nx2, [.slice A3 t2.2.2.length c3], 33⟩, ⟨nx3, [.slice A5 t3.2.f0.length c5, .slice A6 t3.2.f1.length c6], 62⟩, ⟨nx4, [i6 t4.1], 2⟩, ⟨nx4 + 1, [.slice A7 x1.length c7, .slice A8 x2.length c8, .slice A9 x3.length c9], 29⟩] ∧ X' = [orow 3 1 A7 x1.length c7 cs7, orow 3 1 A8 x2.length c8 cs8, orow 2 1 A9 x3.length c9 cs9] ∧ Imm.le I6 I' ∧ Reps (Ty.int .i64) I' x1 cs7 ∧ Reps (Ty.int .i64) I' x2 cs8 ∧ Reps (Ty.int .i64) I' x3 cs9 ∧ auction_Clear.k1 (x1, x2, x3) = some r) ?_ ?_
  ·rintro _ I7 nx5 _ _ ⟨x1, x2, x3, A7, c7, cs7, A8, c8, cs8, A9, c9, cs9, rfl, rfl, rfl, hi7, hp7, hp8, hp9, H⟩
   rw [auction_Clear.k1] at H
   refine QN.then_ ?_
   refine OK.sr ?_
   refine RL.simP (K' := [(3, i6 0), (2, pt nx0 0)]) (nx' := nx5) (L' := [⟨nx0, [.slice A7 x1.length c7, .slice A8 x2.length c8, .slice A9 x3.length c9], 29⟩, ⟨nx2, [.slice A3 t2.2.2.length c3], 33⟩, ⟨nx3, [.slice A5 t3.2.f0.length c5, .slice A6 t3.2.f1.length c6], 62⟩, ⟨nx4, [i6 t4.1], 2⟩, ⟨nx4 + 1, [.slice A7 x1.length c7, .slice A8 x2.length c8, .slice A9 x3.length c9], 29⟩]) [] (RFacts.nil _ _ _) 3 [.l 4, .l 0, .no] (by kernel_rfl) (by kernel_rfl) ?_
   refine RL.nt ?_
   refine OK.re ?_
   obtain rfl := Option.some.inj H
   refine QN.body rfl [] (RFacts.nil _ _ _) (.l 0) (.tuple #[.agg #[.slice A7 x1.length c7, .slice A8 x2.length c8, .slice A9 x3.length c9], i6 0]) (by kernel_rfl) (by kernel_rfl) (by kernel_rfl) ?_ _ (.inr rfl)
   exact fun w' hs' => ⟨_, rfl, I7, A7, c7, cs7, A8, c8, cs8, A9, c9, cs9, rfl, hs'.got _ (.cons_cons _ (.cons_cons _ (.cons_cons _ .slnil))), hp7, hp8, hp9⟩
  ·intro Q_1 hJ1 hQ1
   obtain ⟨y1, H, HK1⟩ := bnd H
   refine OK.bk 0 ?_
   refine OK.nilRow 3 1 ?_
   have hp20 : Reps (Ty.int .i64) I6 ([] : List Int) [] := rfl
   refine OK.nilRow 2 1 ?_
   have hp21 : Reps (Ty.int .i64) I6 ([] : List Int) [] := rfl
   refine OK.sel (K' := [(2, pt nx0 0), (5, .slice A2 t2.2.1.length c2), (6, pt nx2 0), (11, .func (.func 35) #[] #[pt nx2 0, pt nx4 0]), (12, pt (nx4 + 1) 0), (41, .slice A4 t3.1.length c4), (42, i6 (t3.1.length : Int)), (43, i6 0)]) (L' := [⟨nx0, [.slice none 0 0, .slice none 0 0, .slice none 0 0], 29⟩, ⟨nx2, [.slice A3 t2.2.2.length c3], 33⟩, ⟨nx3, [.slice A5 t3.2.f0.length c5, .slice A6 t3.2.f1.length c6], 62⟩, ⟨nx4, [i6 t4.1], 2⟩, ⟨nx4 + 1, [.slice A1 t2.1.length c1, .slice none 0 0, .slice none 0 0], 29⟩]) [0, 3, 4, 1, 2] (by kernel_rfl) (by kernel_rfl) (.cons_cons _ (.cons_cons _ (.cons_cons _ (.cons_cons _ (.cons_cons _ .slnil))))) ?_
   refine OK.norm (X' := [orow 3 1 A1 t2.1.length c1 cs1, orow 3 1 none (([] : List Int).length) 0 [], orow 2 1 none (([] : List Int).length) 0 [], orow 3 1 A2 t2.2.1.length c2 cs2, orow 3 1 A4 t3.1.length c4 cs4]) rfl rfl rfl (by kernel_rfl) ?_
   refine OK.lp (fun n_ K' I' _ L' X' => ∃ (x4 : List Int) (x5 : List Int) (x6 : List Int) (x7 : List Int) (x8 : List Int) (x9 : Int) (A10 : Option Addr) (c10 : Nat) (cs10 : List Value) (A11 : Option Addr) (c11 : Nat) (cs11 : List Value) (A12 : Option Addr) (c12 : Nat) (cs12 : List Value) (A13 : Option Addr) (c13 : Nat) (cs13 : List Value) (A14 : Option Addr) (c14 : Nat) (cs14 : List Value), K' = [(2, pt nx0 0), (5, .slice A13 x7.length c13), (6, pt nx2 0), (11, .func (.func 35) #[] #[pt nx2 0, pt nx4 0]), (12, pt (nx4 + 1) 0), (41, .slice A14 x8.length c14), (42, i6 (t3.1.length : Int)), (43, i6 x9)] ∧ L' = [⟨nx0, [.slice none 0 0, .slice none 0 0, .slice none 0 0], 29⟩, ⟨nx2, [.slice A3 t2.2.2.length c3], 33⟩, ⟨nx3, [.slice A5 t3.2.f0.length c5, .slice A6 t3.2.f1.length c6], 62⟩, ⟨nx4, [i6 t4.1], 2⟩, ⟨nx4 + 1, [.slice A10 x4.length c10, .slice A11 x5.length c11, .slice A12 x6.length c12], 29⟩] ∧ X' = [orow 3 1 A10 x4.length c10 cs10, orow 3 1 A11 x5.length c11 cs11, orow 2 1 A12 x6.length c12 cs12, orow 3 1 A13 x7.length c13 cs13, orow 3 1 A14 x8.length c14 cs14] ∧ Imm.le I6 I' ∧ Reps (Ty.int .i64) I' x4 cs10 ∧ Reps (Ty.int .i64) I' x5 cs11 ∧ Reps (Ty.int .i64) I' x6 cs12 ∧ Reps (Ty.int .i64) I' x7 cs13 ∧ Reps (Ty.int .i64) I' x8 cs14 ∧ auction_Clear.l1 t2 t3 t4 n_ x4 x5 x6 x7 x8 x9 = some y1) k ⟨t2.1, ([] : List Int), ([] : List Int), t2.2.1, t3.1, 0, A1, c1, cs1, none, 0, [], none, 0, [], A2, c2, cs2, A4, c4, cs4, rfl, rfl, rfl, (Imm.le_refl _), (Reps.ext (Imm.le_trans (Imm.le_trans (Imm.le_trans hi3 hi4) hi5) hi6) hp1), hp20, hp21, (Reps.ext (Imm.le_trans (Imm.le_trans (Imm.le_trans hi3 hi4) hi5) hi6) hp2), (Reps.ext (Imm.le_trans hi5 hi6) hp4), H⟩ ?_ ?_
   ·rintro _ _ _ _ _ ⟨x4, x5, x6, x7, x8, x9, A10, c10, cs10, A11, c11, cs11, A12, c12, cs12, A13, c13, cs13, A14, c14, cs14, rfl, rfl, rfl, _, hp10, hp11, hp12, hp13, hp14, H⟩
    cases H
   ·rintro kq1 _ I8 nx6 _ _ ⟨x4, x5, x6, x7, x8, x9, A10, c10, cs10, A11, c11, cs11, A12, c12, cs12, A13, c13, cs13, A14, c14, cs14, rfl, rfl, rfl, hi8, hp10, hp11, hp12, hp13, hp14, H⟩ Q_l1 hJ2 hQ2
    rw [auction_Clear.l1] at H
    refine OK.sr ?_
    refine RL.st 1 [(44, .bool (decide (x9 < (t3.1.length : Int)))), (2, pt nx0 0), (5, .slice A13 x7.length c13), (6, pt nx2 0), (11, .func (.func 35) #[] #[pt nx2 0, pt nx4 0]), (12, pt (nx4 + 1) 0), (41, .slice A14 x8.length c14), (42, i6 (t3.1.length : Int)), (43, i6 x9)] ?_
    refine OK.sq ?_
    refine OK.cd (decide (x9 < (t3.1.length : Int))) (fun hb => ?_) (fun hb => ?_)
    ·skip
     have hc := (of_decide_eq_true hb)
     rw [if_pos hc] at H
     clear hb
     refine OK.skt ?_
     refine OK.sq ?_
     refine OK.bk 1 ?_
     refine OK.sr ?_
     refine RL.s 1 [(45, i6 x9), (2, pt nx0 0), (5, .slice A13 x7.length c13), (6, pt nx2 0), (11, .func (.func 35) #[] #[pt nx2 0, pt nx4 0]), (12, pt (nx4 + 1) 0), (41, .slice A14 x8.length c14), (42, i6 (t3.1.length : Int)), (43, i6 x9)] ?_
     obtain ⟨hib0, H⟩ := ifs H
     obtain ⟨hib1, H⟩ := ifs H
     have hx01_ := hib0; have hx11_ := hib1
     refine RL.ownAddr (e := 3) (sz := 1) (S := A14) (n := x8.length) (cap := c14) (cs := cs14) 4 (by kernel_rfl) (by omega) (fun g1_ hA1_ => ?_)
     have hc1_ := Ty.int_own hp14 x9 hib0 hib1
     refine RL.idx 1 .i64 x9 hA1_ x8.length c14 (some 46) (by kernel_rfl) (by kernel_rfl) (T := 26) (e := 3) (by kernel_rfl) (by kernel_rfl) hib0 hib1 (K' := [(46, pt g1_ (0 + (x9).toNat * 1)), (45, i6 x9), (2, pt nx0 0), (5, .slice A13 x7.length c13), (6, pt nx2 0), (11, .func (.func 35) #[] #[pt nx2 0, pt nx4 0]), (12, pt (nx4 + 1) 0), (41, .slice A14 x8.length c14), (42, i6 (t3.1.length : Int)), (43, i6 x9)]) (by kernel_rfl) ?_
     refine RL.simK (K' := [(14, i6 (x8.getD (x9).toNat 0)), (13, i6 x9), (2, pt nx0 0), (5, .slice A13 x7.length c13), (6, pt nx2 0), (11, .func (.func 35) #[] #[pt nx2 0, pt nx4 0]), (12, pt (nx4 + 1) 0), (41, .slice A14 x8.length c14), (42, i6 (t3.1.length : Int)), (43, i6 x9)]) [(⟨g1_, 0 + (x9).toNat * 1, none⟩, i6 (x8.getD (x9).toNat 0))] (RFacts.ownQ (e := 3) (sz := 1) (S := A14) (n := x8.length) (cap := c14) (cs := cs14) 4 (by kernel_rfl) hA1_ (0 + (x9).toNat * 1) ((x9).toNat * 1 + 0) (by omega) (hc1_ 0 _ rfl) (RFacts.nil _ _ _)) 3 [.r 0, .no, .no] (by kernel_rfl) (by kernel_rfl) ?_
     refine RL.nt ?_
     refine OK.sr ?_
     refine RL.st 2 [(16, i6 0), (15, i6 (-1)), (14, i6 (x8.getD (x9).toNat 0)), (13, i6 x9), (2, pt nx0 0), (5, .slice A13 x7.length c13), (6, pt nx2 0), (11, .func (.func 35) #[] #[pt nx2 0, pt nx4 0]), (12, pt (nx4 + 1) 0), (41, .slice A14 x8.length c14), (42, i6 (t3.1.length : Int)), (43, i6 x9)] ?_
     refine OK.sq ?_
     refine OK.sq ?_
     refine OK.join (fun K' I' _ L' X' => ∃ (x10 : Bool), K' = [(2, pt nx0 0), (5, .slice A13 x7.length c13), (6, pt nx2 0), (11, .func (.func 35) #[] #[pt nx2 0, pt nx4 0]), (12, pt (nx4 + 1) 0), (13, i6 x9), (14, i6 (x8.getD (x9).toNat 0)), (15, i6 (-1)), (16, i6 0), (41, .slice A14 x8.length c14), (42, i6 (t3.1.length : Int)), (43, i6 x9), (59, .bool x10)] ∧ L' = [⟨nx0, [.slice none 0 0, .slice none 0 0, .slice none 0 0], 29⟩, ⟨nx2, [.slice A3 t2.2.2.length c3], 33⟩, ⟨nx3, [.slice A5 t3.2.f0.length c5, .slice A6 t3.2.f1.length c6], 62⟩, ⟨nx4, [i6 t4.1], 2⟩, ⟨nx4 + 1, [.slice A10 x4.length c10, .slice A11 x5.length c11, .slice A12 x6.length c12], 29⟩] ∧ X' = [orow 3 1 A10 x4.length c10 cs10, orow 3 1 A11 x5.length c11 cs11, orow 2 1 A12 x6.length c12 cs12, orow 3 1 A13 x7.length c13 cs13, orow 3 1 A14 x8.length c14 cs14] ∧ Imm.le I8 I' ∧ ((if x10 = true then (if 0 ≤ (x8.getD (x9).toNat 0) then (if (x8.getD (x9).toNat 0) < (x7.length : Int) then (if 0 ≤ x9 then (if x9 < (t2.2.2.length : Int) then (if 0 ≤ (x8.getD (x9).toNat 0) then (if (x8.getD (x9).toNat 0) < ((t2.2.2.getD (x9).toNat []).length : Int) then ((auction_Clear_1s0.f kq1 x9 ((t2.2.2.getD (x9).toNat []).getD ((x8.getD (x9).toNat 0)).toNat 0) t2.2.2 t4.1).bind fun t5 => (some ((x7.getD ((x8.getD (x9).toNat 0)).toNat 0), t5))) else none) else none) else none) else none) else none) else none) else (some ((-1), 0))).bind (fun (x11, x12) => (if (x5.length + [x11].length) * 8 ≤ 140737488355328 then (if (x6.length + [x12].length) * 8 ≤ 140737488355328 then (auction_Clear.l1 t2 t3 t4 kq1 x4 (x5 ++ [x11]) (x6 ++ [x12]) x7 x8 (W .i64 (x9 + 1))) else none) else none))) = some y1) ?_ ?_
     ·rintro _ I9 nx7 _ _ ⟨x10, rfl, rfl, rfl, hi9, H⟩
      replace H : ((if x10 = true then (if 0 ≤ (x8.getD (x9).toNat 0) then (if (x8.getD (x9).toNat 0) < (x7.length : Int) then (if 0 ≤ x9 then (if x9 < (t2.2.2.length : Int) then (if 0 ≤ (x8.getD (x9).toNat 0) then (if (x8.getD (x9).toNat 0) < ((t2.2.2.getD (x9).toNat []).length : Int) then ((auction_Clear_1s0.f kq1 x9 ((t2.2.2.getD (x9).toNat []).getD ((x8.getD (x9).toNat 0)).toNat 0) t2.2.2 t4.1).bind fun t5 => (some ((x7.getD ((x8.getD (x9).toNat 0)).toNat 0), t5))) else none) else none) else none) else none) else none) else none) else (some ((-1), 0))).bind (fun (x11, x12) => (if (x5.length + [x11].length) * 8 ≤ 140737488355328 then (if (x6.length + [x12].length) * 8 ≤ 140737488355328 then (auction_Clear.l1 t2 t3 t4 kq1 x4 (x5 ++ [x11]) (x6 ++ [x12]) x7 x8 (W .i64 (x9 + 1))) else none) else none))) = some y1 := H
      refine QN.then_ ?_
      refine OK.join (fun K' I' _ L' X' => ∃ (x11 : Int) (x12 : Int), K' = [(2, pt nx0 0), (5, .slice A13 x7.length c13), (6, pt nx2 0), (11, .func (.func 35) #[] #[pt nx2 0, pt nx4 0]), (12, pt (nx4 + 1) 0), (15, i6 x11), (16, i6 x12), (41, .slice A14 x8.length c14), (42, i6 (t3.1.length : Int)), (43, i6 x9)] ∧ L' = [⟨nx0, [.slice none 0 0, .slice none 0 0, .slice none 0 0], 29⟩, ⟨nx2, [.slice A3 t2.2.2.length c3], 33⟩, ⟨nx3, [.slice A5 t3.2.f0.length c5, .slice A6 t3.2.f1.length c6], 62⟩, ⟨nx4, [i6 t4.1], 2⟩, ⟨nx4 + 1, [.slice A10 x4.length c10, .slice A11 x5.length c11, .slice A12 x6.length c12], 29⟩] ∧ X' = [orow 3 1 A10 x4.length c10 cs10, orow 3 1 A11 x5.length c11 cs11, orow 2 1 A12 x6.length c12 cs12, orow 3 1 A13 x7.length c13 cs13, orow 3 1 A14 x8.length c14 cs14] ∧ Imm.le I9 I' ∧ (if (x5.length + [x11].length) * 8 ≤ 140737488355328 then (if (x6.length + [x12].length) * 8 ≤ 140737488355328 then (auction_Clear.l1 t2 t3 t4 kq1 x4 (x5 ++ [x11]) (x6 ++ [x12]) x7 x8 (W .i64 (x9 + 1))) else none) else none) = some y1) ?_ ?_
      ·rintro _ I10 nx8 _ _ ⟨x11, x12, rfl, rfl, rfl, hi10, H⟩
       replace H : (if (x5.length + [x11].length) * 8 ≤ 140737488355328 then (if (x6.length + [x12].length) * 8 ≤ 140737488355328 then (auction_Clear.l1 t2 t3 t4 kq1 x4 (x5 ++ [x11]) (x6 ++ [x12]) x7 x8 (W .i64 (x9 + 1))) else none) else none) = some y1 := H
       refine QN.then_ ?_
       obtain ⟨hz1, H⟩ := ifs H
       obtain ⟨hz2, H⟩ := ifs H
       refine OK.drawnB 14 11 O15_57 a15_57n (by kernel_rfl) (by kernel_rfl) (u15d1l x5 x6 x11 x12) (u15d1t x11 x12) u15d1g (u15d1x x4 A10 c10 cs10 x5 A11 c11 cs11 x6 A12 c12 cs12 x7 A13 c13 cs13 x8 A14 c14 cs14 x11 x12) (u15d1p x4 cs10 x5 cs11 x6 cs12 x7 cs13 x8 cs14 x11 x12) [] (RI.nil _) [.no, .l 4, .no, .no, .no, .no, .l 4, .no, .no, .no, .no] a15_57 a15_57o (by kernel_rfl) (by kernel_rfl) (by kernel_rfl) (by kernel_rfl) (u15d1s nx4 x5 A11 c11 x6 A12 c12 x11 x12) (u15d1f nx0 nx2 t3 nx4 x5 A11 c11 x6 A12 c12 x7 A13 c13 x8 A14 c14 x9 x11 x12 11) (u15d1v nx0 t2 A3 c3 nx2 t3 A5 c5 A6 c6 nx3 t4 nx4 x4 A10 c10 x5 A11 c11 x6 A12 c12 x7 A13 c13 x8 A14 c14 x9 x11 x12) (u15d1e nx0 t2 A3 c3 nx2 t3 A5 c5 A6 c6 nx3 t4 nx4 x4 A10 c10 x5 A11 c11 x6 A12 c12 x7 A13 c13 x8 A14 c14 x9 x11 x12) (fun _ => rfl) (fun _ => ⟨(Reps.ext (Imm.le_trans hi9 hi10) hp10), (Reps.ext (Imm.le_trans hi9 hi10) hp11), (Reps.ext (Imm.le_trans hi9 hi10) hp12), (Reps.ext (Imm.le_trans hi9 hi10) hp13), (Reps.ext (Imm.le_trans hi9 hi10) hp14), trivial⟩) (List.forall_mem_cons.2 ⟨fun q u x => match q with | 0 => rfl | 1 => rfl | _ + 2 => rfl, List.forall_mem_cons.2 ⟨fun q u x => match q with | 0 => rfl | 1 => rfl | _ + 2 => rfl, fun l hl => (by cases hl)⟩⟩) (List.forall_mem_cons.2 ⟨fun q u x J J' h f => match q, f with | 0, f => (And.intro (Reps.ext h (And.left f)) (And.intro (Reps.ext h (And.left (And.right f))) (And.intro (Reps.ext h (And.left (And.right (And.right f)))) (And.intro (Reps.ext h (And.left (And.right (And.right (And.right f))))) (And.intro (Reps.ext h (And.left (And.right (And.right (And.right (And.right f)))))) True.intro))))) | 1, f => (And.intro (Reps.ext h (And.left f)) (And.intro (Reps.ext h (And.left (And.right f))) (And.intro (Reps.ext h (And.left (And.right (And.right f)))) (And.intro (Reps.ext h (And.left (And.right (And.right (And.right f))))) (And.intro (Reps.ext h (And.left (And.right (And.right (And.right (And.right f)))))) True.intro))))) | _ + 2, f => (And.intro (Reps.ext h (And.left f)) (And.intro (Reps.ext h (And.left (And.right f))) (And.intro (Reps.ext h (And.left (And.right (And.right f)))) (And.intro (Reps.ext h (And.left (And.right (And.right (And.right f))))) (And.intro (Reps.ext h (And.left (And.right (And.right (And.right (And.right f)))))) True.intro))))), List.forall_mem_cons.2 ⟨fun q u x J J' h f => match q, f with | 0, f => (And.intro (Reps.ext h (And.left f)) (And.intro (Reps.ext h (And.left (And.right f))) (And.intro (Reps.ext h (And.left (And.right (And.right f)))) (And.intro (Reps.ext h (And.left (And.right (And.right (And.right f))))) (And.intro (Reps.ext h (And.left (And.right (And.right (And.right (And.right f)))))) True.intro))))) | 1, f => (And.intro (Reps.ext h (And.left f)) (And.intro (Reps.ext h (And.left (And.right f))) (And.intro (Reps.ext h (And.left (And.right (And.right f)))) (And.intro (Reps.ext h (And.left (And.right (And.right (And.right f))))) (And.intro (Reps.ext h (And.left (And.right (And.right (And.right (And.right f)))))) True.intro))))) | _ + 2, f => (And.intro (Reps.ext h (And.left f)) (And.intro (Reps.ext h (And.left (And.right f))) (And.intro (Reps.ext h (And.left (And.right (And.right f)))) (And.intro (Reps.ext h (And.left (And.right (And.right (And.right f))))) (And.intro (Reps.ext h (And.left (And.right (And.right (And.right (And.right f)))))) True.intro))))), fun l hl => (by cases hl)⟩⟩) [u15d1f nx0 nx2 t3 nx4 x5 A11 c11 x6 A12 c12 x7 A13 c13 x8 A14 c14 x9 x11 x12 4, u15d1f nx0 nx2 t3 nx4 x5 A11 c11 x6 A12 c12 x7 A13 c13 x8 A14 c14 x9 x11 x12 9] [u15d1f nx0 nx2 t3 nx4 x5 A11 c11 x6 A12 c12 x7 A13 c13 x8 A14 c14 x9 x11 x12 3, u15d1f nx0 nx2 t3 nx4 x5 A11 c11 x6 A12 c12 x7 A13 c13 x8 A14 c14 x9 x11 x12 8] rfl (framesOk.cons (fun u => rfl) (framesOk.cons (fun u => rfl) (framesOk.cons (fun u => rfl) (framesOk.cons (fun u => rfl) framesOk.nil)))) ?_ ?_ [] framesOk.nil ?_ ?_
       ·refine StepsB.cons ?_ (StepsB.cons ?_ (StepsB.nil))
        ·rintro D u w J hp hJ hs ⟨r0, r1, r2, r3, r4, -⟩ hlit
         have hl_3 := And.left ((And.left hlit) (hp 3 (by kernel_rfl) (by kernel_rfl)))
         replace hs : Sat _ J w.heap.size [⟨nx0, [.slice none 0 0, .slice none 0 0, .slice none 0 0], 29⟩, ⟨nx2, [.slice A3 t2.2.2.length c3], 33⟩, ⟨nx3, [.slice A5 t3.2.f0.length c5, .slice A6 t3.2.f1.length c6], 62⟩, ⟨nx4, [i6 t4.1], 2⟩, ⟨nx4 + 1, [.slice A10 x4.length c10, .slice A11 x5.length c11, .slice A12 x6.length c12], 29⟩] [orow 3 1 A10 x4.length c10 cs10, orow 3 1 A11 x5.length c11 cs11, orow 2 1 A12 x6.length c12 cs12, orow 3 1 A13 x7.length c13 cs13, orow 3 1 A14 x8.length c14 cs14] w := hs
         obtain ⟨S', c', cs', w', hr, hp, hs'⟩ := hs.append_runR (P := Try.prog) (T := 26) (e := 3) (S := A11) (S2 := (some ⟨(u 3 0).2.1, 0, none⟩)) 1 8 26 c11 1 cs11 (Ty.int .i64) x5 [x11] 1 (by kernel_rfl) (by kernel_rfl) (by kernel_rfl) (by decide) (by kernel_rfl) r1 hl_3 hz1 (by omega)
         have hx : execOp (evalK (u15d1f nx0 nx2 t3 nx4 x5 A11 c11 x6 A12 c12 x7 A13 c13 x8 A14 c14 x9 x11 x12 4 u)) (O15_57.getD 4 default) = toNext (Builtin.append_ #[26, 26] 26 #[.slice A11 x5.length c11, .slice (some ⟨(u 3 0).2.1, 0, none⟩) [x11].length 1]) := by kernel_rfl
         refine Does.run (w' := w') (v := .slice S' (x5 ++ [x11]).length c') ?_ ?_
         ·rw [hx]; exact (run_toNext hr)
         exact ⟨fun _ => (S', c', cs'), rfl, J, Imm.le_refl _, hs', r0, hp, r2, r3, r4, trivial⟩
        ·rintro D u w J hp hJ hs ⟨r0, r1, r2, r3, r4, -⟩ hlit
         have hl_3 := And.left ((And.left hlit) (hp 3 (by kernel_rfl) (by kernel_rfl)))
         have hl_8 := And.left ((And.left (And.right hlit)) (hp 8 (by kernel_rfl) (by kernel_rfl)))
         replace hs : Sat _ J w.heap.size [⟨nx0, [.slice none 0 0, .slice none 0 0, .slice none 0 0], 29⟩, ⟨nx2, [.slice A3 t2.2.2.length c3], 33⟩, ⟨nx3, [.slice A5 t3.2.f0.length c5, .slice A6 t3.2.f1.length c6], 62⟩, ⟨nx4, [i6 t4.1], 2⟩, ⟨nx4 + 1, [.slice A10 x4.length c10, .slice A11 x5.length c11, .slice A12 x6.length c12], 29⟩] [orow 3 1 A10 x4.length c10 cs10, orow 3 1 ((u 4 0).1) ((x5 ++ [x11]).length) ((u 4 0).2.1) ((u 4 0).2.2), orow 2 1 A12 x6.length c12 cs12, orow 3 1 A13 x7.length c13 cs13, orow 3 1 A14 x8.length c14 cs14] w := hs
         obtain ⟨S', c', cs', w', hr, hp, hs'⟩ := hs.append_runR (P := Try.prog) (T := 27) (e := 2) (S := A12) (S2 := (some ⟨(u 8 0).2.1, 0, none⟩)) 1 8 27 c12 1 cs12 (Ty.int .i64) x6 [x12] 2 (by kernel_rfl) (by kernel_rfl) (by kernel_rfl) (by decide) (by kernel_rfl) r2 hl_8 hz2 (by omega)
         have hx : execOp (evalK (u15d1f nx0 nx2 t3 nx4 x5 A11 c11 x6 A12 c12 x7 A13 c13 x8 A14 c14 x9 x11 x12 9 u)) (O15_57.getD 9 default) = toNext (Builtin.append_ #[27, 27] 27 #[.slice A12 x6.length c12, .slice (some ⟨(u 8 0).2.1, 0, none⟩) [x12].length 1]) := by kernel_rfl
         refine Does.run (w' := w') (v := .slice S' (x6 ++ [x12]).length c') ?_ ?_
         ·rw [hx]; exact (run_toNext hr)
         exact ⟨fun _ => (S', c', cs'), rfl, J, Imm.le_refl _, hs', r0, r1, hp, r3, r4, trivial⟩
       ·refine LitsB.cons ?_ (LitsB.cons ?_ (LitsB.nil))
        ·intro u w J X hJ hs
         refine (Does.make hs.im (fun n_ => .slice (some ⟨n_, 0, none⟩) 1 1) (cs := [i6 x11]) (ty := 3) (fun n_ => by kernel_rfl)).mono ?_
         rintro v w' ⟨rfl, hg⟩
         obtain ⟨J2, hJ2, hg2, hr2⟩ := hg.freezeK (d := (Ty.int .i64)) (l := [x11]) ⟨_, _, rfl, rfl, rfl⟩ (Nat.le_of_ble_eq_true rfl)
         exact ⟨fun _ => (none, w.heap.size, []), rfl, J2, hJ2, by have h9 := hs.call hg2; rw [List.append_nil] at h9; exact h9, hr2, trivial⟩
        ·intro u w J X hJ hs
         refine (Does.make hs.im (fun n_ => .slice (some ⟨n_, 0, none⟩) 1 1) (cs := [i6 x12]) (ty := 2) (fun n_ => by kernel_rfl)).mono ?_
         rintro v w' ⟨rfl, hg⟩
         obtain ⟨J2, hJ2, hg2, hr2⟩ := hg.freezeK (d := (Ty.int .i64)) (l := [x12]) ⟨_, _, rfl, rfl, rfl⟩ (Nat.le_of_ble_eq_true rfl)
         exact ⟨fun _ => (none, w.heap.size, []), rfl, J2, hJ2, by have h9 := hs.call hg2; rw [List.append_nil] at h9; exact h9, hr2, trivial⟩
       ·refine Givens.nil
       rintro u I11 nx9 hi11 ⟨hp15, hp16, hp17, hp18, hp19, -⟩
       refine RL.norm (K' := [(84, pt (nx4 + 1) 1), (83, .slice ((u 9 0).1) ((x6 ++ [x12]).length) ((u 9 0).2.1)), (82, .slice (some ⟨(u 8 0).2.1, 0, none⟩) 1 1), (81, i6 x12), (80, .slice A12 x6.length c12), (79, pt (nx4 + 1) 2), (78, .slice ((u 4 0).1) ((x5 ++ [x11]).length) ((u 4 0).2.1)), (77, .slice (some ⟨(u 3 0).2.1, 0, none⟩) 1 1), (76, i6 x11), (75, .slice A11 x5.length c11), (74, pt (nx4 + 1) 1), (2, pt nx0 0), (5, .slice A13 x7.length c13), (6, pt nx2 0), (11, .func (.func 35) #[] #[pt nx2 0, pt nx4 0]), (12, pt (nx4 + 1) 0), (15, i6 x11), (16, i6 x12), (41, .slice A14 x8.length c14), (42, i6 (t3.1.length : Int)), (43, i6 x9)]) (X' := [orow 3 1 A10 x4.length c10 cs10, orow 3 1 ((u 4 0).1) ((x5 ++ [x11]).length) ((u 4 0).2.1) ((u 4 0).2.2), orow 2 1 ((u 9 0).1) ((x6 ++ [x12]).length) ((u 9 0).2.1) ((u 9 0).2.2), orow 3 1 A13 x7.length c13 cs13, orow 3 1 A14 x8.length c14 cs14]) (by kernel_rfl) rfl rfl rfl ?_
       revert hp15 hp16 hp17 hp18 hp19
       generalize (u 4 0).1 = A15
       generalize (u 4 0).2.1 = c15
       generalize (u 4 0).2.2 = cs15
       generalize (u 9 0).1 = A16
       generalize (u 9 0).2.1 = c16
       generalize (u 9 0).2.2 = cs16
       generalize (u 3 0).2.1 = c17
       generalize (u 8 0).2.1 = c18
       intro hp15 hp16 hp17 hp18 hp19
       clear u
       refine RL.simP (K' := [(2, pt nx0 0), (5, .slice A13 x7.length c13), (6, pt nx2 0), (11, .func (.func 35) #[] #[pt nx2 0, pt nx4 0]), (12, pt (nx4 + 1) 0), (41, .slice A14 x8.length c14), (42, i6 (t3.1.length : Int)), (43, i6 x9)]) (nx' := nx9) (L' := [⟨nx0, [.slice none 0 0, .slice none 0 0, .slice none 0 0], 29⟩, ⟨nx2, [.slice A3 t2.2.2.length c3], 33⟩, ⟨nx3, [.slice A5 t3.2.f0.length c5, .slice A6 t3.2.f1.length c6], 62⟩, ⟨nx4, [i6 t4.1], 2⟩, ⟨nx4 + 1, [.slice A10 x4.length c10, .slice A15 ((x5 ++ [x11]).length) c15, .slice A16 ((x6 ++ [x12]).length) c16], 29⟩]) [] (RFacts.nil _ _ _) 3 [.l 4, .no, .l 4] (by kernel_rfl) (by kernel_rfl) ?_
       refine RL.nil (by kernel_rfl) ?_
       refine QN.blkN ?_
       refine QN.then_ ?_
       refine OK.rg ?_
       refine RL.s 2 [(43, i6 (W .i64 (x9 + 1))), (2, pt nx0 0), (5, .slice A13 x7.length c13), (6, pt nx2 0), (11, .func (.func 35) #[] #[pt nx2 0, pt nx4 0]), (12, pt (nx4 + 1) 0), (41, .slice A14 x8.length c14), (42, i6 (t3.1.length : Int))] ?_
       refine RL.nil (by kernel_rfl) ?_
       exact QN.sb (hJ2 _ _ _ _ _ ⟨x4, (x5 ++ [x11]), (x6 ++ [x12]), x7, x8, W .i64 (x9 + 1), A10, c10, cs10, A15, c15, cs15, A16, c16, cs16, A13, c13, cs13, A14, c14, cs14, rfl, rfl, rfl, (Imm.le_trans (Imm.le_trans (Imm.le_trans hi8 hi9) hi10) hi11), hp15, hp16, hp17, hp18, hp19, H⟩) (.cons_cons _ (.cons_cons _ (.cons_cons _ (.cons_cons _ (.cons_cons _ .slnil))))) (.refl _)
      ·intro Q_2 hJ4 hQ4
       obtain ⟨y3, H, HK3⟩ := bnd H
       refine OK.cd x10 (fun hb => ?_) (fun hb => ?_)
       ·skip
        have hc := hb
        rw [if_pos hc] at H
        clear hb
        obtain ⟨hi0_1, H⟩ := ifs H
        obtain ⟨hi1_1, H⟩ := ifs H
        refine OK.ownAddr (e := 3) (sz := 1) (S := A13) (n := x7.length) (cap := c13) (cs := cs13) 3 (by kernel_rfl) (by omega) (fun g2_ hA2_ => ?_)
        have hc2_ := Ty.int_own (Reps.ext hi9 hp13) (x8.getD (x9).toNat 0) hi0_1 hi1_1
        have hx02_ := hi0_1; have hx12_ := hi1_1
        obtain ⟨hi0_2, H⟩ := ifs H
        obtain ⟨hi1_2, H⟩ := ifs H
        obtain ⟨g3_, o3_, hA3_, A3_, c3_, hl3_, hr3_, hc3_⟩ := Ty.slice_at (Rd.ext (Imm.le_trans (Imm.le_trans (Imm.le_trans (Imm.le_trans hi4 hi5) hi6) hi8) hi9) hr1) x9 hi0_2 hi1_2
        obtain ⟨hi0_3, H⟩ := ifs H
        obtain ⟨hi1_3, H⟩ := ifs H
        obtain ⟨g4_, o4_, hA4_, hc4_⟩ := Ty.int_at hr3_ (x8.getD (x9).toNat 0) hi0_3 hi1_3
        obtain ⟨t5, hA5, H⟩ := bnd H
        refine OK.drawnC 13 14 O15_54 a15_54n (by kernel_rfl) (by kernel_rfl) (u15d2l t5) (u15d2g x8 x9 g2_ g3_ o3_ g4_ o4_) [(⟨g2_, 0 + ((x8.getD (x9).toNat 0)).toNat * 1, none⟩, i6 (x7.getD ((x8.getD (x9).toNat 0)).toNat 0)), (⟨g3_, o3_ + (x9).toNat * 1, none⟩, .slice A3_ ((t2.2.2.getD (x9).toNat []).length) c3_), (⟨g4_, o4_ + ((x8.getD (x9).toNat 0)).toNat * 1, none⟩, i6 ((t2.2.2.getD (x9).toNat []).getD ((x8.getD (x9).toNat 0)).toNat 0))] (RI.own (e := 3) (sz := 1) (S := A13) (n := x7.length) (cap := c13) (cs := cs13) 3 (by kernel_rfl) hA2_ (0 + ((x8.getD (x9).toNat 0)).toNat * 1) (((x8.getD (x9).toNat 0)).toNat * 1 + 0) (by omega) (hc2_ 0 _ rfl) (RI.cons (hc3_ 0 _ rfl) (RI.cons (hc4_ 0 _ rfl) (RI.nil _)))) [.no, .no, .no, .r 0, .no, .no, .l 1, .no, .no, .r 1, .no, .no, .r 2, .no] a15_54 a15_54o (by kernel_rfl) (by kernel_rfl) (u15d2s t2 A3 c3 nx2 nx4 x7 A13 c13 x8 x9 g2_ A3_ c3_ g3_ o3_ g4_ o4_ t5) (u15d2f nx0 t2 A3 c3 nx2 t3 nx4 x7 A13 c13 x8 A14 c14 x9 x10 g2_ A3_ c3_ g3_ o3_ g4_ o4_ t5 14) (u15d2v nx0 t2 A3 c3 nx2 t3 A5 c5 A6 c6 nx3 t4 nx4 x4 A10 c10 x5 A11 c11 x6 A12 c12 x7 A13 c13 x8 A14 c14 x9 x10 g2_ A3_ c3_ g3_ o3_ g4_ o4_ t5) (u15d2e nx0 t2 A3 c3 nx2 t3 A5 c5 A6 c6 nx3 t4 nx4 x4 A10 c10 x5 A11 c11 x6 A12 c12 x7 A13 c13 x8 A14 c14 x9 x10 g2_ A3_ c3_ g3_ o3_ g4_ o4_ t5) [u15d2f nx0 t2 A3 c3 nx2 t3 nx4 x7 A13 c13 x8 A14 c14 x9 x10 g2_ A3_ c3_ g3_ o3_ g4_ o4_ t5 13] (framesOk.cons (fun u => rfl) framesOk.nil) ?_ [u15d2f nx0 t2 A3 c3 nx2 t3 nx4 x7 A13 c13 x8 A14 c14 x9 x10 g2_ A3_ c3_ g3_ o3_ g4_ o4_ t5 2, u15d2f nx0 t2 A3 c3 nx2 t3 nx4 x7 A13 c13 x8 A14 c14 x9 x10 g2_ A3_ c3_ g3_ o3_ g4_ o4_ t5 8, u15d2f nx0 t2 A3 c3 nx2 t3 nx4 x7 A13 c13 x8 A14 c14 x9 x10 g2_ A3_ c3_ g3_ o3_ g4_ o4_ t5 11] (framesOk.cons (fun u => rfl) (framesOk.cons (fun u => rfl) (framesOk.cons (fun u => rfl) framesOk.nil))) ?_ ?_
        ·refine LoudsG.cons ?_ (LoudsG.nil)
         ·intro D u J w hp hJ hs hF
          have hq : Sat _ _ _ ([⟨nx2, [.slice A3 t2.2.2.length c3], 33⟩, ⟨nx4, [i6 t4.1], 2⟩] ++ []) ([] ++ _) w := hs.selB [1, 3] (by kernel_rfl)
          refine Does.call 35 [i6 x9, i6 ((t2.2.2.getD (x9).toNat []).getD ((x8.getD (x9).toNat 0)).toNat 0), pt nx2 0, pt nx4 0] (by kernel_rfl) ((auction_Clear_1s0.calls kq1 J nx2 nx4 x9 ((t2.2.2.getD (x9).toNat []).getD ((x8.getD (x9).toNat 0)).toNat 0) t2.2.2 A3 c3 t4.1 w (Sat.into hq) hl1 (Rd.ext (Imm.le_trans (Imm.le_trans (Imm.le_trans (Imm.le_trans (Imm.le_trans hi4 hi5) hi6) hi8) hi9) hJ) hr1) t5 hA5).mono ?_)
          rintro e w' ⟨v, rfl, J2, rfl, hg⟩
          exact ⟨_, rfl, fun _ => (none, 0, []), J2, rfl, Sat.quiet (fun b hb => hq.blk b (List.mem_append_left _ hb)) hg, trivial⟩
        ·refine Givens.cons (fun u w =>  ?_) (fun _ _ _ => rfl) (Givens.cons (fun u w =>  ?_) (fun _ _ _ => rfl) (Givens.cons (fun u w =>  ?_) (fun _ _ _ => rfl) (Givens.nil)))
         ·exact giv_idx (T := 26) (e := 3) 1 .i64 (x8.getD (x9).toNat 0) hA2_ x7.length c13 (by kernel_rfl) (by kernel_rfl) (by kernel_rfl) hi0_1 hi1_1 w
         ·exact giv_idx (T := 33) (e := 27) 1 .i64 x9 hA3_ t2.2.2.length c3 (by kernel_rfl) (by kernel_rfl) (by kernel_rfl) hi0_2 hi1_2 w
         ·exact giv_idx (T := 27) (e := 2) 1 .i64 (x8.getD (x9).toNat 0) hA4_ ((t2.2.2.getD (x9).toNat []).length) c3_ (by kernel_rfl) (by kernel_rfl) (by kernel_rfl) hi0_3 hi1_3 w
        intro u I12 nx10 hi12 hF
        clear hF
        refine RL.norm (K' := [(73, i6 t5), (72, i6 ((t2.2.2.getD (x9).toNat []).getD ((x8.getD (x9).toNat 0)).toNat 0)), (71, pt g4_ (o4_ + ((x8.getD (x9).toNat 0)).toNat * 1)), (70, i6 (x8.getD (x9).toNat 0)), (69, .slice A3_ ((t2.2.2.getD (x9).toNat []).length) c3_), (68, pt g3_ (o3_ + (x9).toNat * 1)), (67, i6 x9), (66, .slice A3 t2.2.2.length c3), (65, i6 x9), (64, .func (.func 35) #[] #[pt nx2 0, pt nx4 0]), (63, i6 (x7.getD ((x8.getD (x9).toNat 0)).toNat 0)), (62, pt g2_ (0 + ((x8.getD (x9).toNat 0)).toNat * 1)), (61, i6 (x8.getD (x9).toNat 0)), (60, .slice A13 x7.length c13), (2, pt nx0 0), (5, .slice A13 x7.length c13), (6, pt nx2 0), (11, .func (.func 35) #[] #[pt nx2 0, pt nx4 0]), (12, pt (nx4 + 1) 0), (13, i6 x9), (14, i6 (x8.getD (x9).toNat 0)), (15, i6 (-1)), (16, i6 0), (41, .slice A14 x8.length c14), (42, i6 (t3.1.length : Int)), (43, i6 x9), (59, .bool x10)]) (X' := [orow 3 1 A10 x4.length c10 cs10, orow 3 1 A11 x5.length c11 cs11, orow 2 1 A12 x6.length c12 cs12, orow 3 1 A13 x7.length c13 cs13, orow 3 1 A14 x8.length c14 cs14]) (by kernel_rfl) rfl rfl rfl ?_
        refine RL.s 2 [(16, i6 t5), (15, i6 (x7.getD ((x8.getD (x9).toNat 0)).toNat 0)), (2, pt nx0 0), (5, .slice A13 x7.length c13), (6, pt nx2 0), (11, .func (.func 35) #[] #[pt nx2 0, pt nx4 0]), (12, pt (nx4 + 1) 0), (41, .slice A14 x8.length c14), (42, i6 (t3.1.length : Int)), (43, i6 x9)] ?_
        refine RL.nil (by kernel_rfl) ?_
        obtain rfl := Option.some.inj H
        exact QN.sb (hJ4 _ _ _ _ _ ⟨(x7.getD ((x8.getD (x9).toNat 0)).toNat 0), t5, rfl, rfl, rfl, hi12, HK3⟩) (.cons_cons _ (.cons_cons _ (.cons_cons _ (.cons_cons _ (.cons_cons _ .slnil))))) (.refl _)
       ·skip
        have hc := (Bool.eq_false_iff.1 hb)
        rw [if_neg hc] at H
        clear hb
        refine OK.sk ?_
        obtain rfl := Option.some.inj H
        exact QN.sb (hJ4 _ _ _ _ _ ⟨(-1), 0, rfl, rfl, rfl, (Imm.le_refl _), HK3⟩) (.cons_cons _ (.cons_cons _ (.cons_cons _ (.cons_cons _ (.cons_cons _ .slnil))))) (.refl _)
     ·intro Q_3 hJ3 hQ3
      obtain ⟨y2, H, HK2⟩ := bnd H
      refine OK.rg ?_
      refine RL.s 3 [(50, .bool (decide ((x8.getD (x9).toNat 0) ≥ 0))), (16, i6 0), (15, i6 (-1)), (14, i6 (x8.getD (x9).toNat 0)), (13, i6 x9), (2, pt nx0 0), (5, .slice A13 x7.length c13), (6, pt nx2 0), (11, .func (.func 35) #[] #[pt nx2 0, pt nx4 0]), (12, pt (nx4 + 1) 0), (41, .slice A14 x8.length c14), (42, i6 (t3.1.length : Int)), (43, i6 x9)] ?_
      refine RL.cases (decide ((x8.getD (x9).toNat 0) ≥ 0)) (fun hb => ?_) (fun hb => ?_)
      ·have hc := (of_decide_eq_true hb)
       rw [hb]
       rw [if_pos hc] at H; clear hb
       refine RL.simK (K' := [(52, i6 x9), (51, .slice A3 t2.2.2.length c3), (50, .bool true), (16, i6 0), (15, i6 (-1)), (14, i6 (x8.getD (x9).toNat 0)), (13, i6 x9), (2, pt nx0 0), (5, .slice A13 x7.length c13), (6, pt nx2 0), (11, .func (.func 35) #[] #[pt nx2 0, pt nx4 0]), (12, pt (nx4 + 1) 0), (41, .slice A14 x8.length c14), (42, i6 (t3.1.length : Int)), (43, i6 x9)]) [] (RFacts.nil _ _ _) 2 [.l 1, .no] (by kernel_rfl) (by kernel_rfl) ?_
       obtain ⟨hib0, H⟩ := ifs H
       obtain ⟨hib1, H⟩ := ifs H
       obtain ⟨g5_, o5_, hA5_, A5_, c5_, hl5_, hr5_, hc5_⟩ := Ty.slice_at (Rd.ext (Imm.le_trans (Imm.le_trans (Imm.le_trans hi4 hi5) hi6) hi8) hr1) x9 hib0 hib1
       refine RL.idx 1 .i64 x9 hA5_ t2.2.2.length c3 (some 53) (by kernel_rfl) (by kernel_rfl) (T := 33) (e := 27) (by kernel_rfl) (by kernel_rfl) hib0 hib1 (K' := [(53, pt g5_ (o5_ + (x9).toNat * 1)), (52, i6 x9), (51, .slice A3 t2.2.2.length c3), (50, .bool true), (16, i6 0), (15, i6 (-1)), (14, i6 (x8.getD (x9).toNat 0)), (13, i6 x9), (2, pt nx0 0), (5, .slice A13 x7.length c13), (6, pt nx2 0), (11, .func (.func 35) #[] #[pt nx2 0, pt nx4 0]), (12, pt (nx4 + 1) 0), (41, .slice A14 x8.length c14), (42, i6 (t3.1.length : Int)), (43, i6 x9)]) (by kernel_rfl) ?_
       refine RL.simK (K' := [(55, i6 (x8.getD (x9).toNat 0)), (54, .slice A5_ ((t2.2.2.getD (x9).toNat []).length) c5_), (50, .bool true), (16, i6 0), (15, i6 (-1)), (14, i6 (x8.getD (x9).toNat 0)), (13, i6 x9), (2, pt nx0 0), (5, .slice A13 x7.length c13), (6, pt nx2 0), (11, .func (.func 35) #[] #[pt nx2 0, pt nx4 0]), (12, pt (nx4 + 1) 0), (41, .slice A14 x8.length c14), (42, i6 (t3.1.length : Int)), (43, i6 x9)]) [(⟨g5_, o5_ + (x9).toNat * 1, none⟩, .slice A5_ ((t2.2.2.getD (x9).toNat []).length) c5_)] (RFacts.imm (hc5_ 0 _ rfl) (RFacts.nil _ _ _)) 2 [.r 0, .no] (by kernel_rfl) (by kernel_rfl) ?_
       obtain ⟨hib0, H⟩ := ifs H
       obtain ⟨hib1, H⟩ := ifs H
       obtain ⟨g6_, o6_, hA6_, hc6_⟩ := Ty.int_at hr5_ (x8.getD (x9).toNat 0) hib0 hib1
       refine RL.idx 1 .i64 (x8.getD (x9).toNat 0) hA6_ ((t2.2.2.getD (x9).toNat []).length) c5_ (some 56) (by kernel_rfl) (by kernel_rfl) (T := 27) (e := 2) (by kernel_rfl) (by kernel_rfl) hib0 hib1 (K' := [(56, pt g6_ (o6_ + ((x8.getD (x9).toNat 0)).toNat * 1)), (55, i6 (x8.getD (x9).toNat 0)), (54, .slice A5_ ((t2.2.2.getD (x9).toNat []).length) c5_), (50, .bool true), (16, i6 0), (15, i6 (-1)), (14, i6 (x8.getD (x9).toNat 0)), (13, i6 x9), (2, pt nx0 0), (5, .slice A13 x7.length c13), (6, pt nx2 0), (11, .func (.func 35) #[] #[pt nx2 0, pt nx4 0]), (12, pt (nx4 + 1) 0), (41, .slice A14 x8.length c14), (42, i6 (t3.1.length : Int)), (43, i6 x9)]) (by kernel_rfl) ?_
       refine RL.simK (K' := [(59, .bool (decide (((t2.2.2.getD (x9).toNat []).getD ((x8.getD (x9).toNat 0)).toNat 0) > 0))), (16, i6 0), (15, i6 (-1)), (14, i6 (x8.getD (x9).toNat 0)), (13, i6 x9), (2, pt nx0 0), (5, .slice A13 x7.length c13), (6, pt nx2 0), (11, .func (.func 35) #[] #[pt nx2 0, pt nx4 0]), (12, pt (nx4 + 1) 0), (41, .slice A14 x8.length c14), (42, i6 (t3.1.length : Int)), (43, i6 x9)]) [(⟨g6_, o6_ + ((x8.getD (x9).toNat 0)).toNat * 1, none⟩, i6 ((t2.2.2.getD (x9).toNat []).getD ((x8.getD (x9).toNat 0)).toNat 0))] (RFacts.imm (hc6_ 0 _ rfl) (RFacts.nil _ _ _)) 3 [.r 0, .no, .no] (by kernel_rfl) (by kernel_rfl) ?_
       refine RL.nil (by kernel_rfl) ?_
       obtain rfl := Option.some.inj H
       exact QN.sb (hJ3 _ _ _ _ _ ⟨(decide (((t2.2.2.getD (x9).toNat []).getD ((x8.getD (x9).toNat 0)).toNat 0) > 0)), rfl, rfl, rfl, (Imm.le_refl _), HK2⟩) (.cons_cons _ (.cons_cons _ (.cons_cons _ (.cons_cons _ (.cons_cons _ .slnil))))) (.refl _)
      ·have hc := (of_decide_eq_false hb)
       rw [hb]
       rw [if_neg hc] at H; clear hb
       refine RL.s 9 [(59, .bool false), (16, i6 0), (15, i6 (-1)), (14, i6 (x8.getD (x9).toNat 0)), (13, i6 x9), (2, pt nx0 0), (5, .slice A13 x7.length c13), (6, pt nx2 0), (11, .func (.func 35) #[] #[pt nx2 0, pt nx4 0]), (12, pt (nx4 + 1) 0), (41, .slice A14 x8.length c14), (42, i6 (t3.1.length : Int)), (43, i6 x9)] ?_
       refine RL.nil (by kernel_rfl) ?_
       obtain rfl := Option.some.inj H
       exact QN.sb (hJ3 _ _ _ _ _ ⟨false, rfl, rfl, rfl, (Imm.le_refl _), HK2⟩) (.cons_cons _ (.cons_cons _ (.cons_cons _ (.cons_cons _ (.cons_cons _ .slnil))))) (.refl _)
    ·skip
     have hc := (of_decide_eq_false hb)
     rw [if_neg hc] at H
     clear hb
     refine OK.ex 0 ?_
     refine QN.thenE ?_
     refine QN.outE hQ2 ?_
     refine QN.blkE ?_
     obtain rfl := Option.some.inj H
     refine QN.sel (K' := [(2, pt nx0 0), (12, pt (nx4 + 1) 0)]) (L' := [⟨nx0, [.slice none 0 0, .slice none 0 0, .slice none 0 0], 29⟩, ⟨nx2, [.slice A3 t2.2.2.length c3], 33⟩, ⟨nx3, [.slice A5 t3.2.f0.length c5, .slice A6 t3.2.f1.length c6], 62⟩, ⟨nx4, [i6 t4.1], 2⟩, ⟨nx4 + 1, [.slice A10 x4.length c10, .slice A11 x5.length c11, .slice A12 x6.length c12], 29⟩]) [0, 1, 2] (by kernel_rfl) (by kernel_rfl) (.cons_cons _ (.cons_cons _ (.cons_cons _ (.cons_cons _ (.cons_cons _ .slnil))))) ?_
     refine QN.norm (X' := [orow 3 1 A10 x4.length c10 cs10, orow 3 1 A11 x5.length c11 cs11, orow 2 1 A12 x6.length c12 cs12]) rfl rfl rfl (by kernel_rfl) ?_
     exact hJ1 _ _ _ _ _ ⟨x4, x5, x6, A10, c10, cs10, A11, c11, cs11, A12, c12, cs12, rfl, rfl, rfl, hi8, hp10, hp11, hp12, HK1⟩

end Go.Proofs.Ytihmbmeelheinaa
namespace Go.Proofs.Ytihmbmeelheinaa
open Go Go.Proofs.Ytihmbmeelheinaa.RW
set_option linter.unusedVariables false
set_option maxRecDepth 100000
set_option maxHeartbeats 8000000

/-! ### armillaryref23_Same: function 19, armillary/armillaryref23.Same -/
noncomputable def K19_0 : Code := cBody Try.f19
noncomputable def O19_29 : List Oper := cOps (cL (cL (cL (cR (cL (cL (cR (cL (cR (cR K19_0))))))))))
def armillaryref23_Same.k1  : (Unit) ⊕ (Bool) → Option (Bool)
 | .inl () => (some true)
 | .inr r_ => some r_
def armillaryref23_Same.l1 (a0 : S29) (a1 : S29) : Nat → Int → Option ((Unit) ⊕ (Bool))
 | 0, _ => none
 | k + 1, x2 => (if x2 < (a0.f0.length : Int) then ((if 0 ≤ x2 then (if x2 < (a0.f0.length : Int) then (if 0 ≤ x2 then (if x2 < (a1.f0.length : Int) then (if (a0.f0.getD (x2).toNat 0) ≠ (a1.f0.getD (x2).toNat 0) then (some true) else (if 0 ≤ x2 then (if x2 < (a0.f1.length : Int) then (if 0 ≤ x2 then (if x2 < (a1.f1.length : Int) then (if (a0.f1.getD (x2).toNat 0) ≠ (a1.f1.getD (x2).toNat 0) then (some true) else (if 0 ≤ x2 then (if x2 < (a0.f2.length : Int) then (if 0 ≤ x2 then (if x2 < (a1.f2.length : Int) then (some ((a0.f2.getD (x2).toNat 0) != (a1.f2.getD (x2).toNat 0))) else none) else none) else none) else none)) else none) else none) else none) else none)) else none) else none) else none) else none).bind (fun x3 => (if x3 = true then (some (Sum.inr false)) else (armillaryref23_Same.l1 a0 a1 k (W .i64 (x2 + 1)))))) else (some (Sum.inl ())))
def armillaryref23_Same.k3 (k : Nat) (a0 : S29) (a1 : S29) (x1 : Bool) : Option (Bool) := (if x1 = true then (some false) else ((armillaryref23_Same.l1 a0 a1 k 0).bind (armillaryref23_Same.k1)))
def armillaryref23_Same.f (k : Nat) (a0 : S29) (a1 : S29) : Option (Bool) := ((if (a0.f0.length : Int) ≠ (a1.f0.length : Int) then (some true) else (if (a0.f1.length : Int) ≠ (a1.f1.length : Int) then (some true) else (if (a0.f2.length : Int) ≠ (a1.f2.length : Int) then (some true) else (if (a0.f1.length : Int) ≠ (a0.f0.length : Int) then (some true) else (some ((a0.f2.length : Int) != (a0.f0.length : Int))))))).bind (armillaryref23_Same.k3 k a0 a1))
def armillaryref23_Same.Post (I : Imm) (w : World) (r : Bool) (v : Value) (w' : World) : Prop :=
 ∃ (J : Imm), v = .bool r ∧ Got w w' I J []
noncomputable def a19_29n : List Nat := (0 :: 1 :: 0 :: 7 :: 15 :: 0 :: 32 :: 0 :: 224 :: 480 :: 1023 :: 2047 :: 4095 :: 8191 :: 4095 :: 32767 :: 65535 :: 4095 :: 135167 :: 4095 :: 921599 :: 1970175 :: 4194303 :: 8388607 :: 16777215 :: 33554431 :: 67108863 :: 33554431 :: 268435455 :: 536870911 :: 33554431 :: 1107296255 :: 33554431 :: 7549747199 :: 16139681791 :: 34359738367 :: 68719476735 :: [])
theorem a19_29 : ancs O19_29 [] = a19_29n := by kernel_rfl
theorem a19_29o : drawOk O19_29 a19_29n 35 = true := by kernel_rfl
noncomputable def u19d1l  : List Ld :=
 []
noncomputable def u19d1g (x2 : Int) (g1_ : Nat) (o1_ : Nat) (g2_ : Nat) (o2_ : Nat) : List (Nat × ((Nat → Wt) → Value)) := [(3, fun u => pt g1_ (o1_ + (x2).toNat * 1)), (8, fun u => pt g2_ (o2_ + (x2).toNat * 1)), (11, fun u => .bool true)]
noncomputable def u19d1q (a0 : S29) (Ap0_0 : Option Addr) (cp0_0 : Nat) (Ap0_1 : Option Addr) (cp0_1 : Nat) (Ap0_2 : Option Addr) (cp0_2 : Nat) (a1 : S29) (Ap1_0 : Option Addr) (cp1_0 : Nat) (Ap1_1 : Option Addr) (cp1_1 : Nat) (Ap1_2 : Option Addr) (cp1_2 : Nat) (nx0 : Nat) (x2 : Int) (g1_ : Nat) (o1_ : Nat) (g2_ : Nat) (o2_ : Nat) (u : Nat → Wt) : Option (List Value × List (Nat × Value) × List (Nat × Nat)) := qSim Try.prog [(⟨g1_, o1_ + (x2).toNat * 1, none⟩, i6 (a0.f0.getD (x2).toNat 0)), (⟨g2_, o2_ + (x2).toNat * 1, none⟩, i6 (a1.f0.getD (x2).toNat 0))] [⟨nx0, [.slice Ap0_0 a0.f0.length cp0_0, .slice Ap0_1 a0.f1.length cp0_1, .slice Ap0_2 a0.f2.length cp0_2], 29⟩, ⟨nx0 + 1, [.slice Ap1_0 a1.f0.length cp1_0, .slice Ap1_1 a1.f1.length cp1_1, .slice Ap1_2 a1.f2.length cp1_2], 29⟩] O19_29 ⟨93, []⟩ (Ld.vl u19d1l) (u19d1g x2 g1_ o1_ g2_ o2_) u (.no :: .l 0 :: .no :: .no :: .r 0 :: .no :: .l 1 :: .no :: .no :: .r 1 :: .no :: .no :: .no :: .no :: .no :: .no :: .no :: .no :: .no :: .no :: .no :: .no :: .no :: .no :: .no :: .no :: .no :: .no :: .no :: .no :: .no :: .no :: .no :: .no :: .no :: []) 0 (O19_29.take 35) [(53, .bool (decide (x2 < (a0.f0.length : Int)))), (2, pt nx0 0), (3, pt (nx0 + 1) 0), (5, i6 x2)]
noncomputable def u19d1s (a0 : S29) (Ap0_0 : Option Addr) (cp0_0 : Nat) (a1 : S29) (Ap1_0 : Option Addr) (cp1_0 : Nat) (nx0 : Nat) (x2 : Int) (g1_ : Nat) (o1_ : Nat) (g2_ : Nat) (o2_ : Nat) (u : Nat → Wt) : List Value := (pt nx0 0 :: .slice Ap0_0 a0.f0.length cp0_0 :: i6 x2 :: pt g1_ (o1_ + (x2).toNat * 1) :: i6 (a0.f0.getD (x2).toNat 0) :: pt (nx0 + 1) 0 :: .slice Ap1_0 a1.f0.length cp1_0 :: i6 x2 :: pt g2_ (o2_ + (x2).toNat * 1) :: i6 (a1.f0.getD (x2).toNat 0) :: .bool ((a0.f0.getD (x2).toNat 0) != (a1.f0.getD (x2).toNat 0)) :: .bool true :: undef :: undef :: undef :: undef :: undef :: undef :: undef :: undef :: undef :: undef :: undef :: .bool true :: .bool true :: undef :: undef :: undef :: undef :: undef :: undef :: undef :: undef :: undef :: undef :: [])
noncomputable def u19d1f (a0 : S29) (Ap0_0 : Option Addr) (cp0_0 : Nat) (a1 : S29) (Ap1_0 : Option Addr) (cp1_0 : Nat) (nx0 : Nat) (x2 : Int) (g1_ : Nat) (o1_ : Nat) (g2_ : Nat) (o2_ : Nat) (i : Nat) (u : Nat → Wt) : List (Nat × Value) := foldPut ⟨93, []⟩ [(53, .bool (decide (x2 < (a0.f0.length : Int)))), (2, pt nx0 0), (3, pt (nx0 + 1) 0), (5, i6 x2)] (O19_29.take i) (((u19d1s a0 Ap0_0 cp0_0 a1 Ap1_0 cp1_0 nx0 x2 g1_ o1_ g2_ o2_) u).take i)
theorem u19d1v (a0 : S29) (Ap0_0 : Option Addr) (cp0_0 : Nat) (Ap0_1 : Option Addr) (cp0_1 : Nat) (Ap0_2 : Option Addr) (cp0_2 : Nat) (a1 : S29) (Ap1_0 : Option Addr) (cp1_0 : Nat) (Ap1_1 : Option Addr) (cp1_1 : Nat) (Ap1_2 : Option Addr) (cp1_2 : Nat) (nx0 : Nat) (x2 : Int) (g1_ : Nat) (o1_ : Nat) (g2_ : Nat) (o2_ : Nat) (u : Nat → Wt) : (u19d1q a0 Ap0_0 cp0_0 Ap0_1 cp0_1 Ap0_2 cp0_2 a1 Ap1_0 cp1_0 Ap1_1 cp1_1 Ap1_2 cp1_2 nx0 x2 g1_ o1_ g2_ o2_ u).map (fun x => (x.1, x.2.1)) = some ((u19d1s a0 Ap0_0 cp0_0 a1 Ap1_0 cp1_0 nx0 x2 g1_ o1_ g2_ o2_) u, (u19d1f a0 Ap0_0 cp0_0 a1 Ap1_0 cp1_0 nx0 x2 g1_ o1_ g2_ o2_ 35) u) := by kernel_rfl
theorem u19d1e (a0 : S29) (Ap0_0 : Option Addr) (cp0_0 : Nat) (Ap0_1 : Option Addr) (cp0_1 : Nat) (Ap0_2 : Option Addr) (cp0_2 : Nat) (a1 : S29) (Ap1_0 : Option Addr) (cp1_0 : Nat) (Ap1_1 : Option Addr) (cp1_1 : Nat) (Ap1_2 : Option Addr) (cp1_2 : Nat) (nx0 : Nat) (x2 : Int) (g1_ : Nat) (o1_ : Nat) (g2_ : Nat) (o2_ : Nat) (u : Nat → Wt) : (u19d1q a0 Ap0_0 cp0_0 Ap0_1 cp0_1 Ap0_2 cp0_2 a1 Ap1_0 cp1_0 Ap1_1 cp1_1 Ap1_2 cp1_2 nx0 x2 g1_ o1_ g2_ o2_ u).map (fun x => x.2.2.map (·.1)) = (u19d1q a0 Ap0_0 cp0_0 Ap0_1 cp0_1 Ap0_2 cp0_2 a1 Ap1_0 cp1_0 Ap1_1 cp1_1 Ap1_2 cp1_2 nx0 x2 g1_ o1_ g2_ o2_ u).map (fun x => x.2.2.map (·.2)) := by kernel_rfl
noncomputable def u19d2l  : List Ld :=
 []
noncomputable def u19d2g (x2 : Int) (g1_ : Nat) (o1_ : Nat) (g2_ : Nat) (o2_ : Nat) (g3_ : Nat) (o3_ : Nat) (g4_ : Nat) (o4_ : Nat) : List (Nat × ((Nat → Wt) → Value)) := [(3, fun u => pt g1_ (o1_ + (x2).toNat * 1)), (8, fun u => pt g2_ (o2_ + (x2).toNat * 1)), (11, fun u => .bool false), (15, fun u => pt g3_ (o3_ + (x2).toNat * 1)), (20, fun u => pt g4_ (o4_ + (x2).toNat * 1)), (24, fun u => .bool true)]
noncomputable def u19d2q (a0 : S29) (Ap0_0 : Option Addr) (cp0_0 : Nat) (Ap0_1 : Option Addr) (cp0_1 : Nat) (Ap0_2 : Option Addr) (cp0_2 : Nat) (a1 : S29) (Ap1_0 : Option Addr) (cp1_0 : Nat) (Ap1_1 : Option Addr) (cp1_1 : Nat) (Ap1_2 : Option Addr) (cp1_2 : Nat) (nx0 : Nat) (x2 : Int) (g1_ : Nat) (o1_ : Nat) (g2_ : Nat) (o2_ : Nat) (g3_ : Nat) (o3_ : Nat) (g4_ : Nat) (o4_ : Nat) (u : Nat → Wt) : Option (List Value × List (Nat × Value) × List (Nat × Nat)) := qSim Try.prog [(⟨g1_, o1_ + (x2).toNat * 1, none⟩, i6 (a0.f0.getD (x2).toNat 0)), (⟨g2_, o2_ + (x2).toNat * 1, none⟩, i6 (a1.f0.getD (x2).toNat 0)), (⟨g3_, o3_ + (x2).toNat * 1, none⟩, i6 (a0.f1.getD (x2).toNat 0)), (⟨g4_, o4_ + (x2).toNat * 1, none⟩, i6 (a1.f1.getD (x2).toNat 0))] [⟨nx0, [.slice Ap0_0 a0.f0.length cp0_0, .slice Ap0_1 a0.f1.length cp0_1, .slice Ap0_2 a0.f2.length cp0_2], 29⟩, ⟨nx0 + 1, [.slice Ap1_0 a1.f0.length cp1_0, .slice Ap1_1 a1.f1.length cp1_1, .slice Ap1_2 a1.f2.length cp1_2], 29⟩] O19_29 ⟨93, []⟩ (Ld.vl u19d2l) (u19d2g x2 g1_ o1_ g2_ o2_ g3_ o3_ g4_ o4_) u (.no :: .l 0 :: .no :: .no :: .r 0 :: .no :: .l 1 :: .no :: .no :: .r 1 :: .no :: .no :: .no :: .l 0 :: .no :: .no :: .r 2 :: .no :: .l 1 :: .no :: .no :: .r 3 :: .no :: .no :: .no :: .no :: .no :: .no :: .no :: .no :: .no :: .no :: .no :: .no :: .no :: []) 0 (O19_29.take 35) [(53, .bool (decide (x2 < (a0.f0.length : Int)))), (2, pt nx0 0), (3, pt (nx0 + 1) 0), (5, i6 x2)]
noncomputable def u19d2s (a0 : S29) (Ap0_0 : Option Addr) (cp0_0 : Nat) (Ap0_1 : Option Addr) (cp0_1 : Nat) (a1 : S29) (Ap1_0 : Option Addr) (cp1_0 : Nat) (Ap1_1 : Option Addr) (cp1_1 : Nat) (nx0 : Nat) (x2 : Int) (g1_ : Nat) (o1_ : Nat) (g2_ : Nat) (o2_ : Nat) (g3_ : Nat) (o3_ : Nat) (g4_ : Nat) (o4_ : Nat) (u : Nat → Wt) : List Value := (pt nx0 0 :: .slice Ap0_0 a0.f0.length cp0_0 :: i6 x2 :: pt g1_ (o1_ + (x2).toNat * 1) :: i6 (a0.f0.getD (x2).toNat 0) :: pt (nx0 + 1) 0 :: .slice Ap1_0 a1.f0.length cp1_0 :: i6 x2 :: pt g2_ (o2_ + (x2).toNat * 1) :: i6 (a1.f0.getD (x2).toNat 0) :: .bool ((a0.f0.getD (x2).toNat 0) != (a1.f0.getD (x2).toNat 0)) :: .bool false :: pt nx0 1 :: .slice Ap0_1 a0.f1.length cp0_1 :: i6 x2 :: pt g3_ (o3_ + (x2).toNat * 1) :: i6 (a0.f1.getD (x2).toNat 0) :: pt (nx0 + 1) 1 :: .slice Ap1_1 a1.f1.length cp1_1 :: i6 x2 :: pt g4_ (o4_ + (x2).toNat * 1) :: i6 (a1.f1.getD (x2).toNat 0) :: .bool ((a0.f1.getD (x2).toNat 0) != (a1.f1.getD (x2).toNat 0)) :: .bool ((a0.f1.getD (x2).toNat 0) != (a1.f1.getD (x2).toNat 0)) :: .bool true :: undef :: undef :: undef :: undef :: undef :: undef :: undef :: undef :: undef :: undef :: [])
noncomputable def u19d2f (a0 : S29) (Ap0_0 : Option Addr) (cp0_0 : Nat) (Ap0_1 : Option Addr) (cp0_1 : Nat) (a1 : S29) (Ap1_0 : Option Addr) (cp1_0 : Nat) (Ap1_1 : Option Addr) (cp1_1 : Nat) (nx0 : Nat) (x2 : Int) (g1_ : Nat) (o1_ : Nat) (g2_ : Nat) (o2_ : Nat) (g3_ : Nat) (o3_ : Nat) (g4_ : Nat) (o4_ : Nat) (i : Nat) (u : Nat → Wt) : List (Nat × Value) := foldPut ⟨93, []⟩ [(53, .bool (decide (x2 < (a0.f0.length : Int)))), (2, pt nx0 0), (3, pt (nx0 + 1) 0), (5, i6 x2)] (O19_29.take i) (((u19d2s a0 Ap0_0 cp0_0 Ap0_1 cp0_1 a1 Ap1_0 cp1_0 Ap1_1 cp1_1 nx0 x2 g1_ o1_ g2_ o2_ g3_ o3_ g4_ o4_) u).take i)
theorem u19d2v (a0 : S29) (Ap0_0 : Option Addr) (cp0_0 : Nat) (Ap0_1 : Option Addr) (cp0_1 : Nat) (Ap0_2 : Option Addr) (cp0_2 : Nat) (a1 : S29) (Ap1_0 : Option Addr) (cp1_0 : Nat) (Ap1_1 : Option Addr) (cp1_1 : Nat) (Ap1_2 : Option Addr) (cp1_2 : Nat) (nx0 : Nat) (x2 : Int) (g1_ : Nat) (o1_ : Nat) (g2_ : Nat) (o2_ : Nat) (g3_ : Nat) (o3_ : Nat) (g4_ : Nat) (o4_ : Nat) (u : Nat → Wt) : (u19d2q a0 Ap0_0 cp0_0 Ap0_1 cp0_1 Ap0_2 cp0_2 a1 Ap1_0 cp1_0 Ap1_1 cp1_1 Ap1_2 cp1_2 nx0 x2 g1_ o1_ g2_ o2_ g3_ o3_ g4_ o4_ u).map (fun x => (x.1, x.2.1)) = some ((u19d2s a0 Ap0_0 cp0_0 Ap0_1 cp0_1 a1 Ap1_0 cp1_0 Ap1_1 cp1_1 nx0 x2 g1_ o1_ g2_ o2_ g3_ o3_ g4_ o4_) u, (u19d2f a0 Ap0_0 cp0_0 Ap0_1 cp0_1 a1 Ap1_0 cp1_0 Ap1_1 cp1_1 nx0 x2 g1_ o1_ g2_ o2_ g3_ o3_ g4_ o4_ 35) u) := by kernel_rfl
theorem u19d2e (a0 : S29) (Ap0_0 : Option Addr) (cp0_0 : Nat) (Ap0_1 : Option Addr) (cp0_1 : Nat) (Ap0_2 : Option Addr) (cp0_2 : Nat) (a1 : S29) (Ap1_0 : Option Addr) (cp1_0 : Nat) (Ap1_1 : Option Addr) (cp1_1 : Nat) (Ap1_2 : Option Addr) (cp1_2 : Nat) (nx0 : Nat) (x2 : Int) (g1_ : Nat) (o1_ : Nat) (g2_ : Nat) (o2_ : Nat) (g3_ : Nat) (o3_ : Nat) (g4_ : Nat) (o4_ : Nat) (u : Nat → Wt) : (u19d2q a0 Ap0_0 cp0_0 Ap0_1 cp0_1 Ap0_2 cp0_2 a1 Ap1_0 cp1_0 Ap1_1 cp1_1 Ap1_2 cp1_2 nx0 x2 g1_ o1_ g2_ o2_ g3_ o3_ g4_ o4_ u).map (fun x => x.2.2.map (·.1)) = (u19d2q a0 Ap0_0 cp0_0 Ap0_1 cp0_1 Ap0_2 cp0_2 a1 Ap1_0 cp1_0 Ap1_1 cp1_1 Ap1_2 cp1_2 nx0 x2 g1_ o1_ g2_ o2_ g3_ o3_ g4_ o4_ u).map (fun x => x.2.2.map (·.2)) := by kernel_rfl
noncomputable def u19d3l  : List Ld :=
 []
noncomputable def u19d3g (x2 : Int) (g1_ : Nat) (o1_ : Nat) (g2_ : Nat) (o2_ : Nat) (g3_ : Nat) (o3_ : Nat) (g4_ : Nat) (o4_ : Nat) (g5_ : Nat) (o5_ : Nat) (g6_ : Nat) (o6_ : Nat) : List (Nat × ((Nat → Wt) → Value)) := [(3, fun u => pt g1_ (o1_ + (x2).toNat * 1)), (8, fun u => pt g2_ (o2_ + (x2).toNat * 1)), (11, fun u => .bool false), (15, fun u => pt g3_ (o3_ + (x2).toNat * 1)), (20, fun u => pt g4_ (o4_ + (x2).toNat * 1)), (24, fun u => .bool false), (28, fun u => pt g5_ (o5_ + (x2).toNat * 1)), (33, fun u => pt g6_ (o6_ + (x2).toNat * 1))]
noncomputable def u19d3q (a0 : S29) (Ap0_0 : Option Addr) (cp0_0 : Nat) (Ap0_1 : Option Addr) (cp0_1 : Nat) (Ap0_2 : Option Addr) (cp0_2 : Nat) (a1 : S29) (Ap1_0 : Option Addr) (cp1_0 : Nat) (Ap1_1 : Option Addr) (cp1_1 : Nat) (Ap1_2 : Option Addr) (cp1_2 : Nat) (nx0 : Nat) (x2 : Int) (g1_ : Nat) (o1_ : Nat) (g2_ : Nat) (o2_ : Nat) (g3_ : Nat) (o3_ : Nat) (g4_ : Nat) (o4_ : Nat) (g5_ : Nat) (o5_ : Nat) (g6_ : Nat) (o6_ : Nat) (u : Nat → Wt) : Option (List Value × List (Nat × Value) × List (Nat × Nat)) := qSim Try.prog [(⟨g1_, o1_ + (x2).toNat * 1, none⟩, i6 (a0.f0.getD (x2).toNat 0)), (⟨g2_, o2_ + (x2).toNat * 1, none⟩, i6 (a1.f0.getD (x2).toNat 0)), (⟨g3_, o3_ + (x2).toNat * 1, none⟩, i6 (a0.f1.getD (x2).toNat 0)), (⟨g4_, o4_ + (x2).toNat * 1, none⟩, i6 (a1.f1.getD (x2).toNat 0)), (⟨g5_, o5_ + (x2).toNat * 1, none⟩, i6 (a0.f2.getD (x2).toNat 0)), (⟨g6_, o6_ + (x2).toNat * 1, none⟩, i6 (a1.f2.getD (x2).toNat 0))] [⟨nx0, [.slice Ap0_0 a0.f0.length cp0_0, .slice Ap0_1 a0.f1.length cp0_1, .slice Ap0_2 a0.f2.length cp0_2], 29⟩, ⟨nx0 + 1, [.slice Ap1_0 a1.f0.length cp1_0, .slice Ap1_1 a1.f1.length cp1_1, .slice Ap1_2 a1.f2.length cp1_2], 29⟩] O19_29 ⟨93, []⟩ (Ld.vl u19d3l) (u19d3g x2 g1_ o1_ g2_ o2_ g3_ o3_ g4_ o4_ g5_ o5_ g6_ o6_) u (.no :: .l 0 :: .no :: .no :: .r 0 :: .no :: .l 1 :: .no :: .no :: .r 1 :: .no :: .no :: .no :: .l 0 :: .no :: .no :: .r 2 :: .no :: .l 1 :: .no :: .no :: .r 3 :: .no :: .no :: .no :: .no :: .l 0 :: .no :: .no :: .r 4 :: .no :: .l 1 :: .no :: .no :: .r 5 :: []) 0 (O19_29.take 35) [(53, .bool (decide (x2 < (a0.f0.length : Int)))), (2, pt nx0 0), (3, pt (nx0 + 1) 0), (5, i6 x2)]
noncomputable def u19d3s (a0 : S29) (Ap0_0 : Option Addr) (cp0_0 : Nat) (Ap0_1 : Option Addr) (cp0_1 : Nat) (Ap0_2 : Option Addr) (cp0_2 : Nat) (a1 : S29) (Ap1_0 : Option Addr) (cp1_0 : Nat) (Ap1_1 : Option Addr) (cp1_1 : Nat) (Ap1_2 : Option Addr) (cp1_2 : Nat) (nx0 : Nat) (x2 : Int) (g1_ : Nat) (o1_ : Nat) (g2_ : Nat) (o2_ : Nat) (g3_ : Nat) (o3_ : Nat) (g4_ : Nat) (o4_ : Nat) (g5_ : Nat) (o5_ : Nat) (g6_ : Nat) (o6_ : Nat) (u : Nat → Wt) : List Value := (pt nx0 0 :: .slice Ap0_0 a0.f0.length cp0_0 :: i6 x2 :: pt g1_ (o1_ + (x2).toNat * 1) :: i6 (a0.f0.getD (x2).toNat 0) :: pt (nx0 + 1) 0 :: .slice Ap1_0 a1.f0.length cp1_0 :: i6 x2 :: pt g2_ (o2_ + (x2).toNat * 1) :: i6 (a1.f0.getD (x2).toNat 0) :: .bool ((a0.f0.getD (x2).toNat 0) != (a1.f0.getD (x2).toNat 0)) :: .bool false :: pt nx0 1 :: .slice Ap0_1 a0.f1.length cp0_1 :: i6 x2 :: pt g3_ (o3_ + (x2).toNat * 1) :: i6 (a0.f1.getD (x2).toNat 0) :: pt (nx0 + 1) 1 :: .slice Ap1_1 a1.f1.length cp1_1 :: i6 x2 :: pt g4_ (o4_ + (x2).toNat * 1) :: i6 (a1.f1.getD (x2).toNat 0) :: .bool ((a0.f1.getD (x2).toNat 0) != (a1.f1.getD (x2).toNat 0)) :: .bool ((a0.f1.getD (x2).toNat 0) != (a1.f1.getD (x2).toNat 0)) :: .bool false :: pt nx0 2 :: .slice Ap0_2 a0.f2.length cp0_2 :: i6 x2 :: pt g5_ (o5_ + (x2).toNat * 1) :: i6 (a0.f2.getD (x2).toNat 0) :: pt (nx0 + 1) 2 :: .slice Ap1_2 a1.f2.length cp1_2 :: i6 x2 :: pt g6_ (o6_ + (x2).toNat * 1) :: i6 (a1.f2.getD (x2).toNat 0) :: [])
noncomputable def u19d3f (a0 : S29) (Ap0_0 : Option Addr) (cp0_0 : Nat) (Ap0_1 : Option Addr) (cp0_1 : Nat) (Ap0_2 : Option Addr) (cp0_2 : Nat) (a1 : S29) (Ap1_0 : Option Addr) (cp1_0 : Nat) (Ap1_1 : Option Addr) (cp1_1 : Nat) (Ap1_2 : Option Addr) (cp1_2 : Nat) (nx0 : Nat) (x2 : Int) (g1_ : Nat) (o1_ : Nat) (g2_ : Nat) (o2_ : Nat) (g3_ : Nat) (o3_ : Nat) (g4_ : Nat) (o4_ : Nat) (g5_ : Nat) (o5_ : Nat) (g6_ : Nat) (o6_ : Nat) (i : Nat) (u : Nat → Wt) : List (Nat × Value) := foldPut ⟨93, []⟩ [(53, .bool (decide (x2 < (a0.f0.length : Int)))), (2, pt nx0 0), (3, pt (nx0 + 1) 0), (5, i6 x2)] (O19_29.take i) (((u19d3s a0 Ap0_0 cp0_0 Ap0_1 cp0_1 Ap0_2 cp0_2 a1 Ap1_0 cp1_0 Ap1_1 cp1_1 Ap1_2 cp1_2 nx0 x2 g1_ o1_ g2_ o2_ g3_ o3_ g4_ o4_ g5_ o5_ g6_ o6_) u).take i)
theorem u19d3v (a0 : S29) (Ap0_0 : Option Addr) (cp0_0 : Nat) (Ap0_1 : Option Addr) (cp0_1 : Nat) (Ap0_2 : Option Addr) (cp0_2 : Nat) (a1 : S29) (Ap1_0 : Option Addr) (cp1_0 : Nat) (Ap1_1 : Option Addr) (cp1_1 : Nat) (Ap1_2 : Option Addr) (cp1_2 : Nat) (nx0 : Nat) (x2 : Int) (g1_ : Nat) (o1_ : Nat) (g2_ : Nat) (o2_ : Nat) (g3_ : Nat) (o3_ : Nat) (g4_ : Nat) (o4_ : Nat) (g5_ : Nat) (o5_ : Nat) (g6_ : Nat) (o6_ : Nat) (u : Nat → Wt) : (u19d3q a0 Ap0_0 cp0_0 Ap0_1 cp0_1 Ap0_2 cp0_2 a1 Ap1_0 cp1_0 Ap1_1 cp1_1 Ap1_2 cp1_2 nx0 x2 g1_ o1_ g2_ o2_ g3_ o3_ g4_ o4_ g5_ o5_ g6_ o6_ u).map (fun x => (x.1, x.2.1)) = some ((u19d3s a0 Ap0_0 cp0_0 Ap0_1 cp0_1 Ap0_2 cp0_2 a1 Ap1_0 cp1_0 Ap1_1 cp1_1 Ap1_2 cp1_2 nx0 x2 g1_ o1_ g2_ o2_ g3_ o3_ g4_ o4_ g5_ o5_ g6_ o6_) u, (u19d3f a0 Ap0_0 cp0_0 Ap0_1 cp0_1 Ap0_2 cp0_2 a1 Ap1_0 cp1_0 Ap1_1 cp1_1 Ap1_2 cp1_2 nx0 x2 g1_ o1_ g2_ o2_ g3_ o3_ g4_ o4_ g5_ o5_ g6_ o6_ 35) u) := by kernel_rfl
theorem u19d3e (a0 : S29) (Ap0_0 : Option Addr) (cp0_0 : Nat) (Ap0_1 : Option Addr) (cp0_1 : Nat) (Ap0_2 : Option Addr) (cp0_2 : Nat) (a1 : S29) (Ap1_0 : Option Addr) (cp1_0 : Nat) (Ap1_1 : Option Addr) (cp1_1 : Nat) (Ap1_2 : Option Addr) (cp1_2 : Nat) (nx0 : Nat) (x2 : Int) (g1_ : Nat) (o1_ : Nat) (g2_ : Nat) (o2_ : Nat) (g3_ : Nat) (o3_ : Nat) (g4_ : Nat) (o4_ : Nat) (g5_ : Nat) (o5_ : Nat) (g6_ : Nat) (o6_ : Nat) (u : Nat → Wt) : (u19d3q a0 Ap0_0 cp0_0 Ap0_1 cp0_1 Ap0_2 cp0_2 a1 Ap1_0 cp1_0 Ap1_1 cp1_1 Ap1_2 cp1_2 nx0 x2 g1_ o1_ g2_ o2_ g3_ o3_ g4_ o4_ g5_ o5_ g6_ o6_ u).map (fun x => x.2.2.map (·.1)) = (u19d3q a0 Ap0_0 cp0_0 Ap0_1 cp0_1 Ap0_2 cp0_2 a1 Ap1_0 cp1_0 Ap1_1 cp1_1 Ap1_2 cp1_2 nx0 x2 g1_ o1_ g2_ o2_ g3_ o3_ g4_ o4_ g5_ o5_ g6_ o6_ u).map (fun x => x.2.2.map (·.2)) := by kernel_rfl
theorem armillaryref23_Same.calls (k : Nat) (I0 : Imm) (a0 : S29) (Ap0_0 : Option Addr) (cp0_0 : Nat) (Ap0_1 : Option Addr) (cp0_1 : Nat) (Ap0_2 : Option Addr) (cp0_2 : Nat) (a1 : S29) (Ap1_0 : Option Addr) (cp1_0 : Nat) (Ap1_1 : Option Addr) (cp1_1 : Nat) (Ap1_2 : Option Addr) (cp1_2 : Nat) (w : World) (hI : I0.at_ w) (hlp0_0 : a0.f0.length ≤ cp0_0) (hrp0_0 : Rd (Ty.int .i64) I0 Ap0_0 a0.f0) (hlp0_1 : a0.f1.length ≤ cp0_1) (hrp0_1 : Rd (Ty.int .i64) I0 Ap0_1 a0.f1) (hlp0_2 : a0.f2.length ≤ cp0_2) (hrp0_2 : Rd (Ty.int .i64) I0 Ap0_2 a0.f2) (hlp1_0 : a1.f0.length ≤ cp1_0) (hrp1_0 : Rd (Ty.int .i64) I0 Ap1_0 a1.f0) (hlp1_1 : a1.f1.length ≤ cp1_1) (hrp1_1 : Rd (Ty.int .i64) I0 Ap1_1 a1.f1) (hlp1_2 : a1.f2.length ≤ cp1_2) (hrp1_2 : Rd (Ty.int .i64) I0 Ap1_2 a1.f2) (r : Bool) (h : armillaryref23_Same.f k a0 a1 = some r) :
  Calls Try.prog 19 [.agg #[.slice Ap0_0 a0.f0.length cp0_0, .slice Ap0_1 a0.f1.length cp0_1, .slice Ap0_2 a0.f2.length cp0_2], .agg #[.slice Ap1_0 a1.f0.length cp1_0, .slice Ap1_1 a1.f1.length cp1_1, .slice Ap1_2 a1.f2.length cp1_2]].toArray w fun e w' => ∃ v, e = .returned v ∧ armillaryref23_Same.Post I0 w r v w' := by
 have H : ((if (a0.f0.length : Int) ≠ (a1.f0.length : Int) then (some true) else (if (a0.f1.length : Int) ≠ (a1.f1.length : Int) then (some true) else (if (a0.f2.length : Int) ≠ (a1.f2.length : Int) then (some true) else (if (a0.f1.length : Int) ≠ (a0.f0.length : Int) then (some true) else (some ((a0.f2.length : Int) != (a0.f0.length : Int))))))).bind (armillaryref23_Same.k3 k a0 a1)) = some r := h
 clear h
 refine calls_body Try.func19 (by kernel_rfl) 93 (by kernel_rfl) (by kernel_rfl) ⟨w, fun _ => False, I0⟩ I0 [] [(0, .agg #[.slice Ap0_0 a0.f0.length cp0_0, .slice Ap0_1 a0.f1.length cp0_1, .slice Ap0_2 a0.f2.length cp0_2]), (1, .agg #[.slice Ap1_0 a1.f0.length cp1_0, .slice Ap1_1 a1.f1.length cp1_1, .slice Ap1_2 a1.f2.length cp1_2])] (by kernel_rfl) (Sat.start w _ I0 hI) ?_
 generalize w.heap.size = nx0
 show OK _ K19_0 _ _ _ _ _ _ _ _
 refine OK.sr ?_
 refine RL.spt 3 [(3, pt (nx0 + 1) 0), (2, pt nx0 0)] (nx0 + 2) [⟨nx0, [.slice Ap0_0 a0.f0.length cp0_0, .slice Ap0_1 a0.f1.length cp0_1, .slice Ap0_2 a0.f2.length cp0_2], 29⟩, ⟨nx0 + 1, [.slice Ap1_0 a1.f0.length cp1_0, .slice Ap1_1 a1.f1.length cp1_1, .slice Ap1_2 a1.f2.length cp1_2], 29⟩] ?_
 refine OK.sq ?_
 refine OK.sq ?_
 refine OK.join (fun K' I' _ L' X' => ∃ (x1 : Bool), K' = [(2, pt nx0 0), (3, pt (nx0 + 1) 0), (48, .bool x1)] ∧ L' = [⟨nx0, [.slice Ap0_0 a0.f0.length cp0_0, .slice Ap0_1 a0.f1.length cp0_1, .slice Ap0_2 a0.f2.length cp0_2], 29⟩, ⟨nx0 + 1, [.slice Ap1_0 a1.f0.length cp1_0, .slice Ap1_1 a1.f1.length cp1_1, .slice Ap1_2 a1.f2.length cp1_2], 29⟩] ∧ X' = [] ∧ Imm.le I0 I' ∧ armillaryref23_Same.k3 k a0 a1 x1 = some r) ?_ ?_
 ·rintro _ I1 nx1 _ _ ⟨x1, rfl, rfl, rfl, hi1, H⟩
  rw [armillaryref23_Same.k3] at H
  refine QN.then_ ?_
  refine OK.cd x1 (fun hb => ?_) (fun hb => ?_)
  ·skip
   have hc := hb
   rw [if_pos hc] at H
   clear hb
   refine OK.sr ?_
   refine RL.st 1 [(4, .bool false)] ?_
   refine OK.re ?_
   refine QN.thenR ?_
   obtain rfl := Option.some.inj H
   refine QN.body rfl [] (RFacts.nil _ _ _) (.no) (.bool false) (by kernel_rfl) (by kernel_rfl) (by kernel_rfl) ?_ _ (.inr rfl)
   exact fun w' hs' => ⟨_, rfl, I1, rfl, hs'.got _ .slnil⟩
  ·skip
   have hc := (Bool.eq_false_iff.1 hb)
   rw [if_neg hc] at H
   clear hb
   refine OK.skt ?_
   refine OK.sq ?_
   refine OK.sr ?_
   refine RL.st 1 [(5, i6 0), (2, pt nx0 0), (3, pt (nx0 + 1) 0)] ?_
   refine OK.join (fun K' I' _ L' X' => K' = [] ∧ L' = [⟨nx0, [.slice Ap0_0 a0.f0.length cp0_0, .slice Ap0_1 a0.f1.length cp0_1, .slice Ap0_2 a0.f2.length cp0_2], 29⟩, ⟨nx0 + 1, [.slice Ap1_0 a1.f0.length cp1_0, .slice Ap1_1 a1.f1.length cp1_1, .slice Ap1_2 a1.f2.length cp1_2], 29⟩] ∧ X' = [] ∧ Imm.le I1 I' ∧ armillaryref23_Same.k1 (Sum.inl ()) = some r) ?_ ?_
   ·rintro _ I2 nx2 _ _ ⟨rfl, rfl, rfl, hi2, H⟩
    rw [armillaryref23_Same.k1] at H
    refine QN.then_ ?_
    refine OK.sr ?_
    refine RL.st 1 [(4, .bool true)] ?_
    refine OK.re ?_
    obtain rfl := Option.some.inj H
    refine QN.body rfl [] (RFacts.nil _ _ _) (.no) (.bool true) (by kernel_rfl) (by kernel_rfl) (by kernel_rfl) ?_ _ (.inr rfl)
    exact fun w' hs' => ⟨_, rfl, I2, rfl, hs'.got _ .slnil⟩
   ·intro Q_1 hJ2 hQ2
    obtain ⟨y2, H, HK2⟩ := bnd H
    refine OK.bk 0 ?_
    refine OK.sub (K' := [(2, pt nx0 0), (3, pt (nx0 + 1) 0), (5, i6 0)]) (L' := [⟨nx0, [.slice Ap0_0 a0.f0.length cp0_0, .slice Ap0_1 a0.f1.length cp0_1, .slice Ap0_2 a0.f2.length cp0_2], 29⟩, ⟨nx0 + 1, [.slice Ap1_0 a1.f0.length cp1_0, .slice Ap1_1 a1.f1.length cp1_1, .slice Ap1_2 a1.f2.length cp1_2], 29⟩]) (by kernel_rfl) (.cons_cons _ (.cons_cons _ .slnil)) (.refl _) ?_
    refine OK.lp (fun n_ K' I' _ L' X' => ∃ (x2 : Int), K' = [(2, pt nx0 0), (3, pt (nx0 + 1) 0), (5, i6 x2)] ∧ L' = [⟨nx0, [.slice Ap0_0 a0.f0.length cp0_0, .slice Ap0_1 a0.f1.length cp0_1, .slice Ap0_2 a0.f2.length cp0_2], 29⟩, ⟨nx0 + 1, [.slice Ap1_0 a1.f0.length cp1_0, .slice Ap1_1 a1.f1.length cp1_1, .slice Ap1_2 a1.f2.length cp1_2], 29⟩] ∧ X' = [] ∧ Imm.le I1 I' ∧ armillaryref23_Same.l1 a0 a1 n_ x2 = some y2) k ⟨0, rfl, rfl, rfl, (Imm.le_refl _), H⟩ ?_ ?_
    ·rintro _ _ _ _ _ ⟨x2, rfl, rfl, rfl, _, H⟩
     cases H
    ·rintro kq1 _ I3 nx3 _ _ ⟨x2, rfl, rfl, rfl, hi3, H⟩ Q_l1 hJ3 hQ3
     rw [armillaryref23_Same.l1] at H
     refine OK.sq ?_
     refine OK.sr ?_
     refine RL.simK (K' := [(53, .bool (decide (x2 < (a0.f0.length : Int)))), (2, pt nx0 0), (3, pt (nx0 + 1) 0), (5, i6 x2)]) [] (RFacts.nil _ _ _) 5 [.no, .no, .l 0, .no, .no] (by kernel_rfl) (by kernel_rfl) ?_
     refine RL.nt ?_
     refine OK.cd (decide (x2 < (a0.f0.length : Int))) (fun hb => ?_) (fun hb => ?_)
     ·skip
      have hc := (of_decide_eq_true hb)
      rw [if_pos hc] at H
      clear hb
      refine OK.skt ?_
      refine OK.sq ?_
      refine OK.bk 1 ?_
      refine OK.sq ?_
      refine OK.join (fun K' I' _ L' X' => ∃ (x3 : Bool), K' = [(2, pt nx0 0), (3, pt (nx0 + 1) 0), (5, i6 x2), (92, .bool x3)] ∧ L' = [⟨nx0, [.slice Ap0_0 a0.f0.length cp0_0, .slice Ap0_1 a0.f1.length cp0_1, .slice Ap0_2 a0.f2.length cp0_2], 29⟩, ⟨nx0 + 1, [.slice Ap1_0 a1.f0.length cp1_0, .slice Ap1_1 a1.f1.length cp1_1, .slice Ap1_2 a1.f2.length cp1_2], 29⟩] ∧ X' = [] ∧ Imm.le I3 I' ∧ (if x3 = true then (some (Sum.inr false)) else (armillaryref23_Same.l1 a0 a1 kq1 (W .i64 (x2 + 1)))) = some y2) ?_ ?_
      ·rintro _ I4 nx4 _ _ ⟨x3, rfl, rfl, rfl, hi4, H⟩
       replace H : (if x3 = true then (some (Sum.inr false)) else (armillaryref23_Same.l1 a0 a1 kq1 (W .i64 (x2 + 1)))) = some y2 := H
       refine QN.then_ ?_
       refine OK.cd x3 (fun hb => ?_) (fun hb => ?_)
       ·skip
        have hc := hb
        rw [if_pos hc] at H
        clear hb
        refine OK.sr ?_
        refine RL.st 1 [(4, .bool false)] ?_
        refine OK.re ?_
        refine QN.blkR ?_
        refine QN.thenR ?_
        refine QN.outR hQ3 ?_
        refine QN.blkR ?_
        refine QN.outR hQ2 ?_
        refine QN.thenR ?_
        obtain rfl := Option.some.inj H
        replace H : some false = some r := HK2
        obtain rfl := Option.some.inj H
        refine QN.body rfl [] (RFacts.nil _ _ _) (.no) (.bool false) (by kernel_rfl) (by kernel_rfl) (by kernel_rfl) ?_ _ (.inr rfl)
        exact fun w' hs' => ⟨_, rfl, I4, rfl, hs'.got _ .slnil⟩
       ·skip
        have hc := (Bool.eq_false_iff.1 hb)
        rw [if_neg hc] at H
        clear hb
        refine OK.sk ?_
        refine QN.blkN ?_
        refine QN.then_ ?_
        refine OK.rg ?_
        refine RL.s 3 [(5, i6 (W .i64 (x2 + 1))), (2, pt nx0 0), (3, pt (nx0 + 1) 0)] ?_
        refine RL.nil (by kernel_rfl) ?_
        exact QN.sb (hJ3 _ _ _ _ _ ⟨W .i64 (x2 + 1), rfl, rfl, rfl, (Imm.le_trans hi3 hi4), H⟩) (.cons_cons _ (.cons_cons _ .slnil)) (.refl _)
      ·intro Q_2 hJ4 hQ4
       obtain ⟨y3, H, HK3⟩ := bnd H
       obtain ⟨hi0_1, H⟩ := ifs H
       obtain ⟨hi1_1, H⟩ := ifs H
       obtain ⟨g1_, o1_, hA1_, hc1_⟩ := Ty.int_at (Rd.ext (Imm.le_trans hi1 hi3) hrp0_0) x2 hi0_1 hi1_1
       obtain ⟨hi0_2, H⟩ := ifs H
       obtain ⟨hi1_2, H⟩ := ifs H
       obtain ⟨g2_, o2_, hA2_, hc2_⟩ := Ty.int_at (Rd.ext (Imm.le_trans hi1 hi3) hrp1_0) x2 hi0_2 hi1_2
       refine OK.cases ((a0.f0.getD (x2).toNat 0) != (a1.f0.getD (x2).toNat 0)) (fun hb1 => ?_) (fun hb1 => ?_)
       ·have hc1 := (bne_iff_ne.1 hb1)
        rw [if_pos hc1] at H
        refine OK.drawnC 6 35 O19_29 a19_29n (by kernel_rfl) (by kernel_rfl) u19d1l (u19d1g x2 g1_ o1_ g2_ o2_) [(⟨g1_, o1_ + (x2).toNat * 1, none⟩, i6 (a0.f0.getD (x2).toNat 0)), (⟨g2_, o2_ + (x2).toNat * 1, none⟩, i6 (a1.f0.getD (x2).toNat 0))] (RI.cons (hc1_ 0 _ rfl) (RI.cons (hc2_ 0 _ rfl) (RI.nil _))) (.no :: .l 0 :: .no :: .no :: .r 0 :: .no :: .l 1 :: .no :: .no :: .r 1 :: .no :: .no :: .no :: .no :: .no :: .no :: .no :: .no :: .no :: .no :: .no :: .no :: .no :: .no :: .no :: .no :: .no :: .no :: .no :: .no :: .no :: .no :: .no :: .no :: .no :: []) a19_29 a19_29o (by kernel_rfl) (by kernel_rfl) (u19d1s a0 Ap0_0 cp0_0 a1 Ap1_0 cp1_0 nx0 x2 g1_ o1_ g2_ o2_) (u19d1f a0 Ap0_0 cp0_0 a1 Ap1_0 cp1_0 nx0 x2 g1_ o1_ g2_ o2_ 35) (u19d1v a0 Ap0_0 cp0_0 Ap0_1 cp0_1 Ap0_2 cp0_2 a1 Ap1_0 cp1_0 Ap1_1 cp1_1 Ap1_2 cp1_2 nx0 x2 g1_ o1_ g2_ o2_) (u19d1e a0 Ap0_0 cp0_0 Ap0_1 cp0_1 Ap0_2 cp0_2 a1 Ap1_0 cp1_0 Ap1_1 cp1_1 Ap1_2 cp1_2 nx0 x2 g1_ o1_ g2_ o2_) [] framesOk.nil ?_ [u19d1f a0 Ap0_0 cp0_0 a1 Ap1_0 cp1_0 nx0 x2 g1_ o1_ g2_ o2_ 3, u19d1f a0 Ap0_0 cp0_0 a1 Ap1_0 cp1_0 nx0 x2 g1_ o1_ g2_ o2_ 8, u19d1f a0 Ap0_0 cp0_0 a1 Ap1_0 cp1_0 nx0 x2 g1_ o1_ g2_ o2_ 11] (framesOk.cons (fun u => rfl) (framesOk.cons (fun u => rfl) (framesOk.cons (fun u => rfl) framesOk.nil))) ?_ ?_
        ·refine LoudsG.nil
        ·refine Givens.cons (fun u w =>  ?_) (fun _ _ _ => rfl) (Givens.cons (fun u w =>  ?_) (fun _ _ _ => rfl) (Givens.cons (fun u w =>  ?_) (fun _ _ _ => rfl) (Givens.nil)))
         ·exact giv_idx (T := 26) (e := 3) 1 .i64 x2 hA1_ a0.f0.length cp0_0 (by kernel_rfl) (by kernel_rfl) (by kernel_rfl) hi0_1 hi1_1 w
         ·exact giv_idx (T := 26) (e := 3) 1 .i64 x2 hA2_ a1.f0.length cp1_0 (by kernel_rfl) (by kernel_rfl) (by kernel_rfl) hi0_2 hi1_2 w
         ·exact giv_run (v := .bool ((a0.f0.getD (x2).toNat 0) != (a1.f0.getD (x2).toNat 0))) (by kernel_rfl) (by rw [hb1]; try rfl) w
        intro u I5 nx5 hi5 hF
        clear hF
        refine RL.norm (K' := ((90, undef) :: (89, undef) :: (88, undef) :: (87, undef) :: (86, undef) :: (85, undef) :: (84, undef) :: (83, undef) :: (82, undef) :: (81, undef) :: (80, .bool true) :: (79, .bool true) :: (78, undef) :: (77, undef) :: (76, undef) :: (75, undef) :: (74, undef) :: (73, undef) :: (72, undef) :: (71, undef) :: (70, undef) :: (69, undef) :: (68, undef) :: (67, .bool true) :: (66, .bool ((a0.f0.getD (x2).toNat 0) != (a1.f0.getD (x2).toNat 0))) :: (65, i6 (a1.f0.getD (x2).toNat 0)) :: (64, pt g2_ (o2_ + (x2).toNat * 1)) :: (63, i6 x2) :: (62, .slice Ap1_0 a1.f0.length cp1_0) :: (61, pt (nx0 + 1) 0) :: (60, i6 (a0.f0.getD (x2).toNat 0)) :: (59, pt g1_ (o1_ + (x2).toNat * 1)) :: (58, i6 x2) :: (57, .slice Ap0_0 a0.f0.length cp0_0) :: (56, pt nx0 0) :: (53, .bool (decide (x2 < (a0.f0.length : Int)))) :: (2, pt nx0 0) :: (3, pt (nx0 + 1) 0) :: (5, i6 x2) :: [])) (X' := []) (by kernel_rfl) rfl rfl rfl ?_
        refine RL.s 2 [(92, .bool true), (2, pt nx0 0), (3, pt (nx0 + 1) 0), (5, i6 x2)] ?_
        refine RL.nil (by kernel_rfl) ?_
        obtain rfl := Option.some.inj H
        exact QN.sb (hJ4 _ _ _ _ _ ⟨true, rfl, rfl, rfl, hi5, HK3⟩) (.cons_cons _ (.cons_cons _ .slnil)) (.refl _)
       ·have hc1 := (not_not_intro (bne_eq_false_iff_eq.1 hb1))
        rw [if_neg hc1] at H
        obtain ⟨hi0_3, H⟩ := ifs H
        obtain ⟨hi1_3, H⟩ := ifs H
        obtain ⟨g3_, o3_, hA3_, hc3_⟩ := Ty.int_at (Rd.ext (Imm.le_trans hi1 hi3) hrp0_1) x2 hi0_3 hi1_3
        obtain ⟨hi0_4, H⟩ := ifs H
        obtain ⟨hi1_4, H⟩ := ifs H
        obtain ⟨g4_, o4_, hA4_, hc4_⟩ := Ty.int_at (Rd.ext (Imm.le_trans hi1 hi3) hrp1_1) x2 hi0_4 hi1_4
        refine OK.cases ((a0.f1.getD (x2).toNat 0) != (a1.f1.getD (x2).toNat 0)) (fun hb2 => ?_) (fun hb2 => ?_)
        ·have hc2 := (bne_iff_ne.1 hb2)
         rw [if_pos hc2] at H
         refine OK.drawnC 6 35 O19_29 a19_29n (by kernel_rfl) (by kernel_rfl) u19d2l (u19d2g x2 g1_ o1_ g2_ o2_ g3_ o3_ g4_ o4_) [(⟨g1_, o1_ + (x2).toNat * 1, none⟩, i6 (a0.f0.getD (x2).toNat 0)), (⟨g2_, o2_ + (x2).toNat * 1, none⟩, i6 (a1.f0.getD (x2).toNat 0)), (⟨g3_, o3_ + (x2).toNat * 1, none⟩, i6 (a0.f1.getD (x2).toNat 0)), (⟨g4_, o4_ + (x2).toNat * 1, none⟩, i6 (a1.f1.getD (x2).toNat 0))] (RI.cons (hc1_ 0 _ rfl) (RI.cons (hc2_ 0 _ rfl) (RI.cons (hc3_ 0 _ rfl) (RI.cons (hc4_ 0 _ rfl) (RI.nil _))))) (.no :: .l 0 :: .no :: .no :: .r 0 :: .no :: .l 1 :: .no :: .no :: .r 1 :: .no :: .no :: .no :: .l 0 :: .no :: .no :: .r 2 :: .no :: .l 1 :: .no :: .no :: .r 3 :: .no :: .no :: .no :: .no :: .no :: .no :: .no :: .no :: .no :: .no :: .no :: .no :: .no :: []) a19_29 a19_29o (by kernel_rfl) (by kernel_rfl) (u19d2s a0 Ap0_0 cp0_0 Ap0_1 cp0_1 a1 Ap1_0 cp1_0 Ap1_1 cp1_1 nx0 x2 g1_ o1_ g2_ o2_ g3_ o3_ g4_ o4_) (u19d2f a0 Ap0_0 cp0_0 Ap0_1 cp0_1 a1 Ap1_0 cp1_0 Ap1_1 cp1_1 nx0 x2 g1_ o1_ g2_ o2_ g3_ o3_ g4_ o4_ 35) (u19d2v a0 Ap0_0 cp0_0 Ap0_1 cp0_1 Ap0_2 cp0_2 a1 Ap1_0 cp1_0 Ap1_1 cp1_1 Ap1_2 cp1_2 nx0 x2 g1_ o1_ g2_ o2_ g3_ o3_ g4_ o4_) (u19d2e a0 Ap0_0 cp0_0 Ap0_1 cp0_1 Ap0_2 cp0_2 a1 Ap1_0 cp1_0 Ap1_1 cp1_1 Ap1_2 cp1_2 nx0 x2 g1_ o1_ g2_ o2_ g3_ o3_ g4_ o4_) [] framesOk.nil ?_ [u19d2f a0 Ap0_0 cp0_0 Ap0_1 cp0_1 a1 Ap1_0 cp1_0 Ap1_1 cp1_1 nx0 x2 g1_ o1_ g2_ o2_ g3_ o3_ g4_ o4_ 3, u19d2f a0 Ap0_0 cp0_0 Ap0_1 cp0_1 a1 Ap1_0 cp1_0 Ap1_1 cp1_1 nx0 x2 g1_ o1_ g2_ o2_ g3_ o3_ g4_ o4_ 8, u19d2f a0 Ap0_0 cp0_0 Ap0_1 cp0_1 a1 Ap1_0 cp1_0 Ap1_1 cp1_1 nx0 x2 g1_ o1_ g2_ o2_ g3_ o3_ g4_ o4_ 11, u19d2f a0 Ap0_0 cp0_0 Ap0_1 cp0_1 a1 Ap1_0 cp1_0 Ap1_1 cp1_1 nx0 x2 g1_ o1_ g2_ o2_ g3_ o3_ g4_ o4_ 15, u19d2f a0 Ap0_0 cp0_0 Ap0_1 cp0_1 a1 Ap1_0 cp1_0 Ap1_1 cp1_1 nx0 x2 g1_ o1_ g2_ o2_ g3_ o3_ g4_ o4_ 20, u19d2f a0 Ap0_0 cp0_0 Ap0_1 cp0_1 a1 Ap1_0 cp1_0 Ap1_1 cp1_1 nx0 x2 g1_ o1_ g2_ o2_ g3_ o3_ g4_ o4_ 24] (framesOk.cons (fun u => rfl) (framesOk.cons (fun u => rfl) (framesOk.cons (fun u => rfl) (framesOk.cons (fun u => rfl) (framesOk.cons (fun u => rfl) (framesOk.cons (fun u => rfl) framesOk.nil)))))) ?_ ?_
         ·refine LoudsG.nil
         ·refine Givens.cons (fun u w =>  ?_) (fun _ _ _ => rfl) (Givens.cons (fun u w =>  ?_) (fun _ _ _ => rfl) (Givens.cons (fun u w =>  ?_) (fun _ _ _ => rfl) (Givens.cons (fun u w =>  ?_) (fun _ _ _ => rfl) (Givens.cons (fun u w =>  ?_) (fun _ _ _ => rfl) (Givens.cons (fun u w =>  ?_) (fun _ _ _ => rfl) (Givens.nil))))))
          ·exact giv_idx (T := 26) (e := 3) 1 .i64 x2 hA1_ a0.f0.length cp0_0 (by kernel_rfl) (by kernel_rfl) (by kernel_rfl) hi0_1 hi1_1 w
          ·exact giv_idx (T := 26) (e := 3) 1 .i64 x2 hA2_ a1.f0.length cp1_0 (by kernel_rfl) (by kernel_rfl) (by kernel_rfl) hi0_2 hi1_2 w
          ·exact giv_run (v := .bool ((a0.f0.getD (x2).toNat 0) != (a1.f0.getD (x2).toNat 0))) (by kernel_rfl) (by rw [hb1]; try rfl) w
          ·exact giv_idx (T := 26) (e := 3) 1 .i64 x2 hA3_ a0.f1.length cp0_1 (by kernel_rfl) (by kernel_rfl) (by kernel_rfl) hi0_3 hi1_3 w
          ·exact giv_idx (T := 26) (e := 3) 1 .i64 x2 hA4_ a1.f1.length cp1_1 (by kernel_rfl) (by kernel_rfl) (by kernel_rfl) hi0_4 hi1_4 w
          ·exact giv_run (v := .bool ((a0.f1.getD (x2).toNat 0) != (a1.f1.getD (x2).toNat 0))) (by kernel_rfl) (by rw [hb2]; try rfl) w
         intro u I6 nx6 hi6 hF
         clear hF
         refine RL.norm (K' := ((90, undef) :: (89, undef) :: (88, undef) :: (87, undef) :: (86, undef) :: (85, undef) :: (84, undef) :: (83, undef) :: (82, undef) :: (81, undef) :: (80, .bool true) :: (79, .bool ((a0.f1.getD (x2).toNat 0) != (a1.f1.getD (x2).toNat 0))) :: (78, .bool ((a0.f1.getD (x2).toNat 0) != (a1.f1.getD (x2).toNat 0))) :: (77, i6 (a1.f1.getD (x2).toNat 0)) :: (76, pt g4_ (o4_ + (x2).toNat * 1)) :: (75, i6 x2) :: (74, .slice Ap1_1 a1.f1.length cp1_1) :: (73, pt (nx0 + 1) 1) :: (72, i6 (a0.f1.getD (x2).toNat 0)) :: (71, pt g3_ (o3_ + (x2).toNat * 1)) :: (70, i6 x2) :: (69, .slice Ap0_1 a0.f1.length cp0_1) :: (68, pt nx0 1) :: (67, .bool false) :: (66, .bool ((a0.f0.getD (x2).toNat 0) != (a1.f0.getD (x2).toNat 0))) :: (65, i6 (a1.f0.getD (x2).toNat 0)) :: (64, pt g2_ (o2_ + (x2).toNat * 1)) :: (63, i6 x2) :: (62, .slice Ap1_0 a1.f0.length cp1_0) :: (61, pt (nx0 + 1) 0) :: (60, i6 (a0.f0.getD (x2).toNat 0)) :: (59, pt g1_ (o1_ + (x2).toNat * 1)) :: (58, i6 x2) :: (57, .slice Ap0_0 a0.f0.length cp0_0) :: (56, pt nx0 0) :: (53, .bool (decide (x2 < (a0.f0.length : Int)))) :: (2, pt nx0 0) :: (3, pt (nx0 + 1) 0) :: (5, i6 x2) :: [])) (X' := []) (by kernel_rfl) rfl rfl rfl ?_
         refine RL.s 2 [(92, .bool true), (2, pt nx0 0), (3, pt (nx0 + 1) 0), (5, i6 x2)] ?_
         refine RL.nil (by kernel_rfl) ?_
         obtain rfl := Option.some.inj H
         exact QN.sb (hJ4 _ _ _ _ _ ⟨true, rfl, rfl, rfl, hi6, HK3⟩) (.cons_cons _ (.cons_cons _ .slnil)) (.refl _)
        ·have hc2 := (not_not_intro (bne_eq_false_iff_eq.1 hb2))
         rw [if_neg hc2] at H
         obtain ⟨hi0_5, H⟩ := ifs H
         obtain ⟨hi1_5, H⟩ := ifs H
         obtain ⟨g5_, o5_, hA5_, hc5_⟩ := Ty.int_at (Rd.ext (Imm.le_trans hi1 hi3) hrp0_2) x2 hi0_5 hi1_5
         obtain ⟨hi0_6, H⟩ := ifs H
         obtain ⟨hi1_6, H⟩ := ifs H
         obtain ⟨g6_, o6_, hA6_, hc6_⟩ := Ty.int_at (Rd.ext (Imm.le_trans hi1 hi3) hrp1_2) x2 hi0_6 hi1_6
         refine OK.drawnC 6 35 O19_29 a19_29n (by kernel_rfl) (by kernel_rfl) u19d3l (u19d3g x2 g1_ o1_ g2_ o2_ g3_ o3_ g4_ o4_ g5_ o5_ g6_ o6_) [(⟨g1_, o1_ + (x2).toNat * 1, none⟩, i6 (a0.f0.getD (x2).toNat 0)), (⟨g2_, o2_ + (x2).toNat * 1, none⟩, i6 (a1.f0.getD (x2).toNat 0)), (⟨g3_, o3_ + (x2).toNat * 1, none⟩, i6 (a0.f1.getD (x2).toNat 0)), (⟨g4_, o4_ + (x2).toNat * 1, none⟩, i6 (a1.f1.getD (x2).toNat 0)), (⟨g5_, o5_ + (x2).toNat * 1, none⟩, i6 (a0.f2.getD (x2).toNat 0)), (⟨g6_, o6_ + (x2).toNat * 1, none⟩, i6 (a1.f2.getD (x2).toNat 0))] (RI.cons (hc1_ 0 _ rfl) (RI.cons (hc2_ 0 _ rfl) (RI.cons (hc3_ 0 _ rfl) (RI.cons (hc4_ 0 _ rfl) (RI.cons (hc5_ 0 _ rfl) (RI.cons (hc6_ 0 _ rfl) (RI.nil _))))))) (.no :: .l 0 :: .no :: .no :: .r 0 :: .no :: .l 1 :: .no :: .no :: .r 1 :: .no :: .no :: .no :: .l 0 :: .no :: .no :: .r 2 :: .no :: .l 1 :: .no :: .no :: .r 3 :: .no :: .no :: .no :: .no :: .l 0 :: .no :: .no :: .r 4 :: .no :: .l 1 :: .no :: .no :: .r 5 :: []) a19_29 a19_29o (by kernel_rfl) (by kernel_rfl) (u19d3s a0 Ap0_0 cp0_0 Ap0_1 cp0_1 Ap0_2 cp0_2 a1 Ap1_0 cp1_0 Ap1_1 cp1_1 Ap1_2 cp1_2 nx0 x2 g1_ o1_ g2_ o2_ g3_ o3_ g4_ o4_ g5_ o5_ g6_ o6_) (u19d3f a0 Ap0_0 cp0_0 Ap0_1 cp0_1 Ap0_2 cp0_2 a1 Ap1_0 cp1_0 Ap1_1 cp1_1 Ap1_2 cp1_2 nx0 x2 g1_ o1_ g2_ o2_ g3_ o3_ g4_ o4_ g5_ o5_ g6_ o6_ 35) (u19d3v a0 Ap0_0 cp0_0 Ap0_1 cp0_1 Ap0_2 cp0_2 a1 Ap1_0 cp1_0 Ap1_1 cp1_1 Ap1_2 cp1_2 nx0 x2 g1_ o1_ g2_ o2_ g3_ o3_ g4_ o4_ g5_ o5_ g6_ o6_) (u19d3e a0 Ap0_0 cp0_0 Ap0_1 cp0_1 Ap0_2 cp0_2 a1 Ap1_0 cp1_0 Ap1_1 cp1_1 Ap1_2 cp1_2 nx0 x2 g1_ o1_ g2_ o2_ g3_ o3_ g4_ o4_ g5_ o5_ g6_ o6_) [] framesOk.nil ?_ [u19d3f a0 Ap0_0 cp0_0 Ap0_1 cp0_1 Ap0_2 cp0_2 a1 Ap1_0 cp1_0 Ap1_1 cp1_1 Ap1_2 cp1_2 nx0 x2 g1_ o1_ g2_ o2_ g3_ o3_ g4_ o4_ g5_ o5_ g6_ o6_ 3, u19d3f a0 Ap0_0 cp0_0 Ap0_1 cp0_1 Ap0_2 cp0_2 a1 Ap1_0 cp1_0 Ap1_1 cp1_1 Ap1_2 cp1_2 nx0 x2 g1_ o1_ g2_ o2_ g3_ o3_ g4_ o4_ g5_ o5_ g6_ o6_ 8, u19d3f a0 Ap0_0 cp0_0 Ap0_1 cp0_1 Ap0_2 cp0_2 a1 Ap1_0 cp1_0 Ap1_1 cp1_1 Ap1_2 cp1_2 nx0 x2 g1_ o1_ g2_ o2_ g3_ o3_ g4_ o4_ g5_ o5_ g6_ o6_ 11, u19d3f a0 Ap0_0 cp0_0 Ap0_1 cp0_1 Ap0_2 cp0_2 a1 Ap1_0 cp1_0 Ap1_1 cp1_1 Ap1_2 cp1_2 nx0 x2 g1_ o1_ g2_ o2_ g3_ o3_ g4_ o4_ g5_ o5_ g6_ o6_ 15, u19d3f a0 Ap0_0 cp0_0 Ap0_1 cp0_1 Ap0_2 cp0_2 a1 Ap1_0 cp1_0 Ap1_1 cp1_1 Ap1_2 cp1_2 nx0 x2 g1_ o1_ g2_ o2_ g3_ o3_ g4_ o4_ g5_ o5_ g6_ o6_ 20, u19d3f a0 Ap0_0 cp0_0 Ap0_1 cp0_1 Ap0_2 cp0_2 a1 Ap1_0 cp1_0 Ap1_1 cp1_1 Ap1_2 cp1_2 nx0 x2 g1_ o1_ g2_ o2_ g3_ o3_ g4_ o4_ g5_ o5_ g6_ o6_ 24, u19d3f a0 Ap0_0 cp0_0 Ap0_1 cp0_1 Ap0_2 cp0_2 a1 Ap1_0 cp1_0 Ap1_1 cp1_1 Ap1_2 cp1_2 nx0 x2 g1_ o1_ g2_ o2_ g3_ o3_ g4_ o4_ g5_ o5_ g6_ o6_ 28, u19d3f a0 Ap0_0 cp0_0 Ap0_1 cp0_1 Ap0_2 cp0_2 a1 Ap1_0 cp1_0 Ap1_1 cp1_1 Ap1_2 cp1_2 nx0 x2 g1_ o1_ g2_ o2_ g3_ o3_ g4_ o4_ g5_ o5_ g6_ o6_ 33] (framesOk.cons (fun u => rfl) (framesOk.cons (fun u => rfl) (framesOk.cons (fun u => rfl) (framesOk.cons (fun u => rfl) (framesOk.cons (fun u => rfl) (framesOk.cons (fun u => rfl) (framesOk.cons (fun u => rfl) (framesOk.cons (fun u => rfl) framesOk.nil)))))))) ?_ ?_
         ·refine LoudsG.nil
         ·refine Givens.cons (fun u w =>  ?_) (fun _ _ _ => rfl) (Givens.cons (fun u w =>  ?_) (fun _ _ _ => rfl) (Givens.cons (fun u w =>  ?_) (fun _ _ _ => rfl) (Givens.cons (fun u w =>  ?_) (fun _ _ _ => rfl) (Givens.cons (fun u w =>  ?_) (fun _ _ _ => rfl) (Givens.cons (fun u w =>  ?_) (fun _ _ _ => rfl) (Givens.cons (fun u w =>  ?_) (fun _ _ _ => rfl) (Givens.cons (fun u w =>  ?_) (fun _ _ _ => rfl) (Givens.nil))))))))
          ·exact giv_idx (T := 26) (e := 3) 1 .i64 x2 hA1_ a0.f0.length cp0_0 (by kernel_rfl) (by kernel_rfl) (by kernel_rfl) hi0_1 hi1_1 w
          ·exact giv_idx (T := 26) (e := 3) 1 .i64 x2 hA2_ a1.f0.length cp1_0 (by kernel_rfl) (by kernel_rfl) (by kernel_rfl) hi0_2 hi1_2 w
          ·exact giv_run (v := .bool ((a0.f0.getD (x2).toNat 0) != (a1.f0.getD (x2).toNat 0))) (by kernel_rfl) (by rw [hb1]; try rfl) w
          ·exact giv_idx (T := 26) (e := 3) 1 .i64 x2 hA3_ a0.f1.length cp0_1 (by kernel_rfl) (by kernel_rfl) (by kernel_rfl) hi0_3 hi1_3 w
          ·exact giv_idx (T := 26) (e := 3) 1 .i64 x2 hA4_ a1.f1.length cp1_1 (by kernel_rfl) (by kernel_rfl) (by kernel_rfl) hi0_4 hi1_4 w
          ·exact giv_run (v := .bool ((a0.f1.getD (x2).toNat 0) != (a1.f1.getD (x2).toNat 0))) (by kernel_rfl) (by rw [hb2]; try rfl) w
          ·exact giv_idx (T := 27) (e := 2) 1 .i64 x2 hA5_ a0.f2.length cp0_2 (by kernel_rfl) (by kernel_rfl) (by kernel_rfl) hi0_5 hi1_5 w
          ·exact giv_idx (T := 27) (e := 2) 1 .i64 x2 hA6_ a1.f2.length cp1_2 (by kernel_rfl) (by kernel_rfl) (by kernel_rfl) hi0_6 hi1_6 w
         intro u I7 nx7 hi7 hF
         clear hF
         refine RL.norm (K' := ((90, i6 (a1.f2.getD (x2).toNat 0)) :: (89, pt g6_ (o6_ + (x2).toNat * 1)) :: (88, i6 x2) :: (87, .slice Ap1_2 a1.f2.length cp1_2) :: (86, pt (nx0 + 1) 2) :: (85, i6 (a0.f2.getD (x2).toNat 0)) :: (84, pt g5_ (o5_ + (x2).toNat * 1)) :: (83, i6 x2) :: (82, .slice Ap0_2 a0.f2.length cp0_2) :: (81, pt nx0 2) :: (80, .bool false) :: (79, .bool ((a0.f1.getD (x2).toNat 0) != (a1.f1.getD (x2).toNat 0))) :: (78, .bool ((a0.f1.getD (x2).toNat 0) != (a1.f1.getD (x2).toNat 0))) :: (77, i6 (a1.f1.getD (x2).toNat 0)) :: (76, pt g4_ (o4_ + (x2).toNat * 1)) :: (75, i6 x2) :: (74, .slice Ap1_1 a1.f1.length cp1_1) :: (73, pt (nx0 + 1) 1) :: (72, i6 (a0.f1.getD (x2).toNat 0)) :: (71, pt g3_ (o3_ + (x2).toNat * 1)) :: (70, i6 x2) :: (69, .slice Ap0_1 a0.f1.length cp0_1) :: (68, pt nx0 1) :: (67, .bool false) :: (66, .bool ((a0.f0.getD (x2).toNat 0) != (a1.f0.getD (x2).toNat 0))) :: (65, i6 (a1.f0.getD (x2).toNat 0)) :: (64, pt g2_ (o2_ + (x2).toNat * 1)) :: (63, i6 x2) :: (62, .slice Ap1_0 a1.f0.length cp1_0) :: (61, pt (nx0 + 1) 0) :: (60, i6 (a0.f0.getD (x2).toNat 0)) :: (59, pt g1_ (o1_ + (x2).toNat * 1)) :: (58, i6 x2) :: (57, .slice Ap0_0 a0.f0.length cp0_0) :: (56, pt nx0 0) :: (53, .bool (decide (x2 < (a0.f0.length : Int)))) :: (2, pt nx0 0) :: (3, pt (nx0 + 1) 0) :: (5, i6 x2) :: [])) (X' := []) (by kernel_rfl) rfl rfl rfl ?_
         refine RL.s 2 [(92, .bool ((a0.f2.getD (x2).toNat 0) != (a1.f2.getD (x2).toNat 0))), (2, pt nx0 0), (3, pt (nx0 + 1) 0), (5, i6 x2)] ?_
         refine RL.nil (by kernel_rfl) ?_
         obtain rfl := Option.some.inj H
         exact QN.sb (hJ4 _ _ _ _ _ ⟨((a0.f2.getD (x2).toNat 0) != (a1.f2.getD (x2).toNat 0)), rfl, rfl, rfl, hi7, HK3⟩) (.cons_cons _ (.cons_cons _ .slnil)) (.refl _)
     ·skip
      have hc := (of_decide_eq_false hb)
      rw [if_neg hc] at H
      clear hb
      refine OK.ex 0 ?_
      refine QN.thenE ?_
      refine QN.outE hQ3 ?_
      refine QN.blkE ?_
      obtain rfl := Option.some.inj H
      exact QN.sb (hJ2 _ _ _ _ _ ⟨rfl, rfl, rfl, hi3, HK2⟩) (.cons_cons _ (.cons_cons _ .slnil)) (.refl _)
 ·intro Q_3 hJ1 hQ1
  obtain ⟨y1, H, HK1⟩ := bnd H
  refine OK.rg ?_
  refine RL.simK (K' := [(13, .bool ((a0.f0.length : Int) != (a1.f0.length : Int))), (3, pt (nx0 + 1) 0), (2, pt nx0 0)]) [] (RFacts.nil _ _ _) 8 [.no, .l 0, .no, .no, .l 1, .no, .no, .no] (by kernel_rfl) (by kernel_rfl) ?_
  refine RL.cases ((a0.f0.length : Int) != (a1.f0.length : Int)) (fun hb => ?_) (fun hb => ?_)
  ·have hc := (bne_iff_ne.1 hb)
   rw [hb]
   rw [if_pos hc] at H; clear hb
   refine RL.simK (K' := [(48, .bool true), (3, pt (nx0 + 1) 0), (2, pt nx0 0)]) [] (RFacts.nil _ _ _) 35 (.no :: .no :: .no :: .no :: .no :: .no :: .no :: .no :: .no :: .no :: .no :: .no :: .no :: .no :: .no :: .no :: .no :: .no :: .no :: .no :: .no :: .no :: .no :: .no :: .no :: .no :: .no :: .no :: .no :: .no :: .no :: .no :: .no :: .no :: .no :: []) (by kernel_rfl) (by kernel_rfl) ?_
   refine RL.nil (by kernel_rfl) ?_
   obtain rfl := Option.some.inj H
   exact QN.sb (hJ1 _ _ _ _ _ ⟨true, rfl, rfl, rfl, (Imm.le_refl _), HK1⟩) (.cons_cons _ (.cons_cons _ .slnil)) (.refl _)
  ·have hc := (not_not_intro (bne_eq_false_iff_eq.1 hb))
   rw [hb]
   rw [if_neg hc] at H; clear hb
   refine RL.simK (K' := [(22, .bool ((a0.f1.length : Int) != (a1.f1.length : Int))), (3, pt (nx0 + 1) 0), (2, pt nx0 0)]) [] (RFacts.nil _ _ _) 9 [.no, .l 0, .no, .no, .l 1, .no, .no, .no, .no] (by kernel_rfl) (by kernel_rfl) ?_
   refine RL.cases ((a0.f1.length : Int) != (a1.f1.length : Int)) (fun hb => ?_) (fun hb => ?_)
   ·have hc := (bne_iff_ne.1 hb)
    rw [hb]
    rw [if_pos hc] at H; clear hb
    refine RL.s 26 [(48, .bool true), (3, pt (nx0 + 1) 0), (2, pt nx0 0)] ?_
    refine RL.nil (by kernel_rfl) ?_
    obtain rfl := Option.some.inj H
    exact QN.sb (hJ1 _ _ _ _ _ ⟨true, rfl, rfl, rfl, (Imm.le_refl _), HK1⟩) (.cons_cons _ (.cons_cons _ .slnil)) (.refl _)
   ·have hc := (not_not_intro (bne_eq_false_iff_eq.1 hb))
    rw [hb]
    rw [if_neg hc] at H; clear hb
    refine RL.simK (K' := [(31, .bool ((a0.f2.length : Int) != (a1.f2.length : Int))), (3, pt (nx0 + 1) 0), (2, pt nx0 0)]) [] (RFacts.nil _ _ _) 9 [.no, .l 0, .no, .no, .l 1, .no, .no, .no, .no] (by kernel_rfl) (by kernel_rfl) ?_
    refine RL.cases ((a0.f2.length : Int) != (a1.f2.length : Int)) (fun hb => ?_) (fun hb => ?_)
    ·have hc := (bne_iff_ne.1 hb)
     rw [hb]
     rw [if_pos hc] at H; clear hb
     refine RL.s 17 [(48, .bool true), (3, pt (nx0 + 1) 0), (2, pt nx0 0)] ?_
     refine RL.nil (by kernel_rfl) ?_
     obtain rfl := Option.some.inj H
     exact QN.sb (hJ1 _ _ _ _ _ ⟨true, rfl, rfl, rfl, (Imm.le_refl _), HK1⟩) (.cons_cons _ (.cons_cons _ .slnil)) (.refl _)
    ·have hc := (not_not_intro (bne_eq_false_iff_eq.1 hb))
     rw [hb]
     rw [if_neg hc] at H; clear hb
     refine RL.simK (K' := [(40, .bool ((a0.f1.length : Int) != (a0.f0.length : Int))), (3, pt (nx0 + 1) 0), (2, pt nx0 0)]) [] (RFacts.nil _ _ _) 9 [.no, .l 0, .no, .no, .l 0, .no, .no, .no, .no] (by kernel_rfl) (by kernel_rfl) ?_
     refine RL.cases ((a0.f1.length : Int) != (a0.f0.length : Int)) (fun hb => ?_) (fun hb => ?_)
     ·have hc := (bne_iff_ne.1 hb)
      rw [hb]
      rw [if_pos hc] at H; clear hb
      refine RL.s 8 [(48, .bool true), (3, pt (nx0 + 1) 0), (2, pt nx0 0)] ?_
      refine RL.nil (by kernel_rfl) ?_
      obtain rfl := Option.some.inj H
      exact QN.sb (hJ1 _ _ _ _ _ ⟨true, rfl, rfl, rfl, (Imm.le_refl _), HK1⟩) (.cons_cons _ (.cons_cons _ .slnil)) (.refl _)
     ·have hc := (not_not_intro (bne_eq_false_iff_eq.1 hb))
      rw [hb]
      rw [if_neg hc] at H; clear hb
      refine RL.simK (K' := [(48, .bool ((a0.f2.length : Int) != (a0.f0.length : Int))), (3, pt (nx0 + 1) 0), (2, pt nx0 0)]) [] (RFacts.nil _ _ _) 8 [.no, .l 0, .no, .no, .l 0, .no, .no, .no] (by kernel_rfl) (by kernel_rfl) ?_
      refine RL.nil (by kernel_rfl) ?_
      obtain rfl := Option.some.inj H
      exact QN.sb (hJ1 _ _ _ _ _ ⟨((a0.f2.length : Int) != (a0.f0.length : Int)), rfl, rfl, rfl, (Imm.le_refl _), HK1⟩) (.cons_cons _ (.cons_cons _ .slnil)) (.refl _)

end Go.Proofs.Ytihmbmeelheinaa
namespace Go.Proofs.Ytihmbmeelheinaa
open Go Go.Proofs.Ytihmbmeelheinaa.RW
set_option linter.unusedVariables false
set_option maxRecDepth 100000
set_option maxHeartbeats 8000000

/-! ### slices_Index_int_int: function 42, slices.Index[[]int,int] -/
noncomputable def K42_0 : Code := cBody Try.f42
def slices_Index_int_int.k1  : (Unit) ⊕ (Int) → Option (Int)
 | .inl () => (some (-1))
 | .inr r_ => some r_
def slices_Index_int_int.l1 (a0 : List Int) (a1 : Int) : Nat → Int → Option ((Unit) ⊕ (Int))
 | 0, _ => none
 | k + 1, x1 => (if x1 < (a0.length : Int) then (if 0 ≤ x1 then (if x1 < (a0.length : Int) then (if a1 = (a0.getD (x1).toNat 0) then (some (Sum.inr x1)) else (slices_Index_int_int.l1 a0 a1 k (W .i64 (x1 + 1)))) else none) else none) else (some (Sum.inl ())))
def slices_Index_int_int.f (k : Nat) (a0 : List Int) (a1 : Int) : Option (Int) := ((slices_Index_int_int.l1 a0 a1 k 0).bind (slices_Index_int_int.k1))
def slices_Index_int_int.Post (I : Imm) (w : World) (r : Int) (v : Value) (w' : World) : Prop :=
 ∃ (J : Imm), v = .int .i64 r ∧ Got w w' I J []
theorem slices_Index_int_int.calls (k : Nat) (I0 : Imm) (a0 : List Int) (Ap0 : Option Addr) (cp0 : Nat) (a1 : Int) (w : World) (hI : I0.at_ w) (hlp0 : a0.length ≤ cp0) (hrp0 : Rd (Ty.int .i64) I0 Ap0 a0) (r : Int) (h : slices_Index_int_int.f k a0 a1 = some r) :
  Calls Try.prog 42 [.slice Ap0 a0.length cp0, i6 a1].toArray w fun e w' => ∃ v, e = .returned v ∧ slices_Index_int_int.Post I0 w r v w' := by
 have H : ((slices_Index_int_int.l1 a0 a1 k 0).bind (slices_Index_int_int.k1)) = some r := h
 clear h
 refine calls_body Try.func42 (by kernel_rfl) 19 (by kernel_rfl) (by kernel_rfl) ⟨w, fun _ => False, I0⟩ I0 [] [(0, .slice Ap0 a0.length cp0), (1, i6 a1)] (by kernel_rfl) (Sat.start w _ I0 hI) ?_
 generalize w.heap.size = nx0
 show OK _ K42_0 _ _ _ _ _ _ _ _
 refine OK.sr ?_
 refine RL.st 1 [(0, .slice Ap0 a0.length cp0), (1, i6 a1)] ?_
 refine OK.sq ?_
 refine OK.sr ?_
 refine RL.st 3 [(8, i6 0), (7, i6 (a0.length : Int)), (0, .slice Ap0 a0.length cp0), (1, i6 a1)] ?_
 refine OK.join (fun K' I' _ L' X' => K' = [] ∧ L' = [] ∧ X' = [] ∧ Imm.le I0 I' ∧ slices_Index_int_int.k1 (Sum.inl ()) = some r) ?_ ?_
 ·rintro _ I1 nx1 _ _ ⟨rfl, rfl, rfl, hi1, H⟩
  rw [slices_Index_int_int.k1] at H
  refine QN.then_ ?_
  refine OK.sr ?_
  refine RL.st 1 [(4, i6 (-1))] ?_
  refine OK.re ?_
  obtain rfl := Option.some.inj H
  refine QN.body rfl [] (RFacts.nil _ _ _) (.no) (i6 (-1)) (by kernel_rfl) (by kernel_rfl) (by kernel_rfl) ?_ _ (.inr rfl)
  exact fun w' hs' => ⟨_, rfl, I1, rfl, hs'.got _ .slnil⟩
 ·intro Q_1 hJ1 hQ1
  obtain ⟨y1, H, HK1⟩ := bnd H
  refine OK.bk 0 ?_
  refine OK.sub (K' := [(0, .slice Ap0 a0.length cp0), (1, i6 a1), (7, i6 (a0.length : Int)), (8, i6 0)]) (L' := []) (by kernel_rfl) .slnil (.refl _) ?_
  refine OK.lp (fun n_ K' I' _ L' X' => ∃ (x1 : Int), K' = [(0, .slice Ap0 a0.length cp0), (1, i6 a1), (7, i6 (a0.length : Int)), (8, i6 x1)] ∧ L' = [] ∧ X' = [] ∧ Imm.le I0 I' ∧ slices_Index_int_int.l1 a0 a1 n_ x1 = some y1) k ⟨0, rfl, rfl, rfl, (Imm.le_refl _), H⟩ ?_ ?_
  ·rintro _ _ _ _ _ ⟨x1, rfl, rfl, rfl, _, H⟩
   cases H
  ·rintro kq1 _ I2 nx2 _ _ ⟨x1, rfl, rfl, rfl, hi2, H⟩ Q_l1 hJ2 hQ2
   rw [slices_Index_int_int.l1] at H
   refine OK.sr ?_
   refine RL.st 1 [(9, .bool (decide (x1 < (a0.length : Int)))), (0, .slice Ap0 a0.length cp0), (1, i6 a1), (7, i6 (a0.length : Int)), (8, i6 x1)] ?_
   refine OK.sq ?_
   refine OK.cd (decide (x1 < (a0.length : Int))) (fun hb => ?_) (fun hb => ?_)
   ·skip
    have hc := (of_decide_eq_true hb)
    rw [if_pos hc] at H
    clear hb
    refine OK.skt ?_
    refine OK.sq ?_
    refine OK.bk 1 ?_
    refine OK.sr ?_
    refine RL.st 2 [(5, i6 x1), (0, .slice Ap0 a0.length cp0), (1, i6 a1), (7, i6 (a0.length : Int)), (8, i6 x1)] ?_
    refine OK.sr ?_
    refine RL.s 3 [(13, i6 x1), (12, .slice Ap0 a0.length cp0), (11, i6 a1), (5, i6 x1), (0, .slice Ap0 a0.length cp0), (1, i6 a1), (7, i6 (a0.length : Int)), (8, i6 x1)] ?_
    obtain ⟨hib0, H⟩ := ifs H
    obtain ⟨hib1, H⟩ := ifs H
    obtain ⟨g1_, o1_, hA1_, hc1_⟩ := Ty.int_at (Rd.ext hi2 hrp0) x1 hib0 hib1
    refine RL.idx 1 .i64 x1 hA1_ a0.length cp0 (some 14) (by kernel_rfl) (by kernel_rfl) (T := 26) (e := 3) (by kernel_rfl) (by kernel_rfl) hib0 hib1 (K' := [(14, pt g1_ (o1_ + (x1).toNat * 1)), (13, i6 x1), (12, .slice Ap0 a0.length cp0), (11, i6 a1), (5, i6 x1), (0, .slice Ap0 a0.length cp0), (1, i6 a1), (7, i6 (a0.length : Int)), (8, i6 x1)]) (by kernel_rfl) ?_
    refine RL.simK (K' := [(16, .bool (a1 == (a0.getD (x1).toNat 0))), (5, i6 x1), (0, .slice Ap0 a0.length cp0), (1, i6 a1), (7, i6 (a0.length : Int)), (8, i6 x1)]) [(⟨g1_, o1_ + (x1).toNat * 1, none⟩, i6 (a0.getD (x1).toNat 0))] (RFacts.imm (hc1_ 0 _ rfl) (RFacts.nil _ _ _)) 2 [.r 0, .no] (by kernel_rfl) (by kernel_rfl) ?_
    refine RL.nt ?_
    refine OK.cd (a1 == (a0.getD (x1).toNat 0)) (fun hb => ?_) (fun hb => ?_)
    ·skip
     have hc := (beq_iff_eq.1 hb)
     rw [if_pos hc] at H
     clear hb
     refine OK.sr ?_
     refine RL.st 2 [(4, i6 x1)] ?_
     refine OK.re ?_
     refine QN.blkR ?_
     refine QN.thenR ?_
     refine QN.outR hQ2 ?_
     refine QN.blkR ?_
     refine QN.outR hQ1 ?_
     refine QN.thenR ?_
     obtain rfl := Option.some.inj H
     replace H : some x1 = some r := HK1
     obtain rfl := Option.some.inj H
     refine QN.body rfl [] (RFacts.nil _ _ _) (.no) (i6 x1) (by kernel_rfl) (by kernel_rfl) (by kernel_rfl) ?_ _ (.inr rfl)
     exact fun w' hs' => ⟨_, rfl, I2, rfl, hs'.got _ .slnil⟩
    ·skip
     have hc := (beq_eq_false_iff_ne.1 hb)
     rw [if_neg hc] at H
     clear hb
     refine OK.sk ?_
     refine QN.blkN ?_
     refine QN.then_ ?_
     refine OK.rg ?_
     refine RL.s 2 [(8, i6 (W .i64 (x1 + 1))), (0, .slice Ap0 a0.length cp0), (1, i6 a1), (7, i6 (a0.length : Int))] ?_
     refine RL.nil (by kernel_rfl) ?_
     exact QN.sb (hJ2 _ _ _ _ _ ⟨W .i64 (x1 + 1), rfl, rfl, rfl, hi2, H⟩) .slnil (.refl _)
   ·skip
    have hc := (of_decide_eq_false hb)
    rw [if_neg hc] at H
    clear hb
    refine OK.ex 0 ?_
    refine QN.thenE ?_
    refine QN.outE hQ2 ?_
    refine QN.blkE ?_
    obtain rfl := Option.some.inj H
    exact QN.sb (hJ1 _ _ _ _ _ ⟨rfl, rfl, rfl, hi2, HK1⟩) .slnil (.refl _)

end Go.Proofs.Ytihmbmeelheinaa
namespace Go.Proofs.Ytihmbmeelheinaa
open Go Go.Proofs.Ytihmbmeelheinaa.RW
set_option linter.unusedVariables false
set_option maxRecDepth 100000
set_option maxHeartbeats 8000000

/-! ### auction_Utility: function 21, armillary/auction.Utility -/
noncomputable def K21_0 : Code := cBody Try.f21
noncomputable def O21_17 : List Oper := cOps (cL (cR (cR (cR K21_0))))
def auction_Utility.f (k : Nat) (a0 : List S48) (a1 : S29) (a2 : Int) : Option (Int) := ((slices_Index_int_int.f k a1.f0 a2).bind fun t1 => (if t1 < 0 then (some 0) else ((auction_values.f k a0).bind fun t2 => (if 0 ≤ t1 then (if t1 < (a1.f1.length : Int) then (if 0 ≤ t1 then (if t1 < (a1.f2.length : Int) then (some (W .i64 (((mget t2 (a2, (a1.f1.getD (t1).toNat 0))).getD 0) - (a1.f2.getD (t1).toNat 0)))) else none) else none) else none) else none))))
def auction_Utility.Post (I : Imm) (w : World) (r : Int) (v : Value) (w' : World) : Prop :=
 ∃ (J : Imm), v = .int .i64 r ∧ Got w w' I J []
noncomputable def a21_17n : List Nat := [0, 1, 0, 0, 8, 0, 56, 120, 252, 511, 0, 1024, 0, 7168, 15360, 32767, 65535]
theorem a21_17 : ancs O21_17 [] = a21_17n := by kernel_rfl
theorem a21_17o : drawOk O21_17 a21_17n 15 = true := by kernel_rfl
noncomputable def u21d1l (t2 : (List ((Int × Int) × Int))) : List Ld :=
 [⟨1, fun x => .map (some ((x 0).2.1)), fun x => [], fun x J => Mp kK (Value.int .i64) J (x 0).2.1 t2 ∧ True, fun x J J' h f => ⟨Mp.ext h f.1, trivial⟩⟩]
noncomputable def u21d1g (a1 : S29) (a2 : Int) (t1 : Int) (t2 : (List ((Int × Int) × Int))) (g1_ : Nat) (o1_ : Nat) (g2_ : Nat) (o2_ : Nat) : List (Nat × ((Nat → Wt) → Value)) := [(6, fun u => pt g1_ (o1_ + (t1).toNat * 1)), (9, fun u => i6 ((mget t2 (a2, (a1.f1.getD (t1).toNat 0))).getD 0)), (13, fun u => pt g2_ (o2_ + (t1).toNat * 1))]
noncomputable def u21d1q (a0 : List S48) (Ap0 : Option Addr) (cp0 : Nat) (a1 : S29) (Ap1_0 : Option Addr) (cp1_0 : Nat) (Ap1_1 : Option Addr) (cp1_1 : Nat) (Ap1_2 : Option Addr) (cp1_2 : Nat) (a2 : Int) (nx0 : Nat) (t1 : Int) (t2 : (List ((Int × Int) × Int))) (g1_ : Nat) (o1_ : Nat) (g2_ : Nat) (o2_ : Nat) (u : Nat → Wt) : Option (List Value × List (Nat × Value) × List (Nat × Nat)) := qSim Try.prog [(⟨g1_, o1_ + (t1).toNat * 1, none⟩, i6 (a1.f1.getD (t1).toNat 0)), (⟨g2_, o2_ + (t1).toNat * 1, none⟩, i6 (a1.f2.getD (t1).toNat 0))] [⟨nx0, [.slice Ap1_0 a1.f0.length cp1_0, .slice Ap1_1 a1.f1.length cp1_1, .slice Ap1_2 a1.f2.length cp1_2], 29⟩] O21_17 ⟨30, []⟩ (Ld.vl (u21d1l t2)) (u21d1g a1 a2 t1 t2 g1_ o1_ g2_ o2_) u [.no, .no, .no, .no, .l 0, .no, .no, .r 0, .no, .no, .no, .l 0, .no, .no, .r 1] 0 (O21_17.take 15) [(13, .bool (decide (t1 < 0))), (7, i6 t1), (4, pt nx0 0), (0, .slice Ap0 a0.length cp0), (2, i6 a2)]
noncomputable def u21d1s (a0 : List S48) (Ap0 : Option Addr) (cp0 : Nat) (a1 : S29) (Ap1_1 : Option Addr) (cp1_1 : Nat) (Ap1_2 : Option Addr) (cp1_2 : Nat) (a2 : Int) (nx0 : Nat) (t1 : Int) (t2 : (List ((Int × Int) × Int))) (g1_ : Nat) (o1_ : Nat) (g2_ : Nat) (o2_ : Nat) (u : Nat → Wt) : List Value := [.slice Ap0 a0.length cp0, .map (some ((u 1 0).2.1)), i6 a2, pt nx0 1, .slice Ap1_1 a1.f1.length cp1_1, i6 t1, pt g1_ (o1_ + (t1).toNat * 1), i6 (a1.f1.getD (t1).toNat 0), .agg #[i6 a2, i6 (a1.f1.getD (t1).toNat 0)], i6 ((mget t2 (a2, (a1.f1.getD (t1).toNat 0))).getD 0), pt nx0 2, .slice Ap1_2 a1.f2.length cp1_2, i6 t1, pt g2_ (o2_ + (t1).toNat * 1), i6 (a1.f2.getD (t1).toNat 0)]
noncomputable def u21d1f (a0 : List S48) (Ap0 : Option Addr) (cp0 : Nat) (a1 : S29) (Ap1_1 : Option Addr) (cp1_1 : Nat) (Ap1_2 : Option Addr) (cp1_2 : Nat) (a2 : Int) (nx0 : Nat) (t1 : Int) (t2 : (List ((Int × Int) × Int))) (g1_ : Nat) (o1_ : Nat) (g2_ : Nat) (o2_ : Nat) (i : Nat) (u : Nat → Wt) : List (Nat × Value) := foldPut ⟨30, []⟩ [(13, .bool (decide (t1 < 0))), (7, i6 t1), (4, pt nx0 0), (0, .slice Ap0 a0.length cp0), (2, i6 a2)] (O21_17.take i) (((u21d1s a0 Ap0 cp0 a1 Ap1_1 cp1_1 Ap1_2 cp1_2 a2 nx0 t1 t2 g1_ o1_ g2_ o2_) u).take i)
theorem u21d1v (a0 : List S48) (Ap0 : Option Addr) (cp0 : Nat) (a1 : S29) (Ap1_0 : Option Addr) (cp1_0 : Nat) (Ap1_1 : Option Addr) (cp1_1 : Nat) (Ap1_2 : Option Addr) (cp1_2 : Nat) (a2 : Int) (nx0 : Nat) (t1 : Int) (t2 : (List ((Int × Int) × Int))) (g1_ : Nat) (o1_ : Nat) (g2_ : Nat) (o2_ : Nat) (u : Nat → Wt) : (u21d1q a0 Ap0 cp0 a1 Ap1_0 cp1_0 Ap1_1 cp1_1 Ap1_2 cp1_2 a2 nx0 t1 t2 g1_ o1_ g2_ o2_ u).map (fun x => (x.1, x.2.1)) = some ((u21d1s a0 Ap0 cp0 a1 Ap1_1 cp1_1 Ap1_2 cp1_2 a2 nx0 t1 t2 g1_ o1_ g2_ o2_) u, (u21d1f a0 Ap0 cp0 a1 Ap1_1 cp1_1 Ap1_2 cp1_2 a2 nx0 t1 t2 g1_ o1_ g2_ o2_ 15) u) := by kernel_rfl
theorem u21d1e (a0 : List S48) (Ap0 : Option Addr) (cp0 : Nat) (a1 : S29) (Ap1_0 : Option Addr) (cp1_0 : Nat) (Ap1_1 : Option Addr) (cp1_1 : Nat) (Ap1_2 : Option Addr) (cp1_2 : Nat) (a2 : Int) (nx0 : Nat) (t1 : Int) (t2 : (List ((Int × Int) × Int))) (g1_ : Nat) (o1_ : Nat) (g2_ : Nat) (o2_ : Nat) (u : Nat → Wt) : (u21d1q a0 Ap0 cp0 a1 Ap1_0 cp1_0 Ap1_1 cp1_1 Ap1_2 cp1_2 a2 nx0 t1 t2 g1_ o1_ g2_ o2_ u).map (fun x => x.2.2.map (·.1)) = (u21d1q a0 Ap0 cp0 a1 Ap1_0 cp1_0 Ap1_1 cp1_1 Ap1_2 cp1_2 a2 nx0 t1 t2 g1_ o1_ g2_ o2_ u).map (fun x => x.2.2.map (·.2)) := by kernel_rfl
theorem auction_Utility.calls (k : Nat) (I0 : Imm) (a0 : List S48) (Ap0 : Option Addr) (cp0 : Nat) (a1 : S29) (Ap1_0 : Option Addr) (cp1_0 : Nat) (Ap1_1 : Option Addr) (cp1_1 : Nat) (Ap1_2 : Option Addr) (cp1_2 : Nat) (a2 : Int) (w : World) (hI : I0.at_ w) (hlp0 : a0.length ≤ cp0) (hrp0 : Rd t48 I0 Ap0 a0) (hlp1_0 : a1.f0.length ≤ cp1_0) (hrp1_0 : Rd (Ty.int .i64) I0 Ap1_0 a1.f0) (hlp1_1 : a1.f1.length ≤ cp1_1) (hrp1_1 : Rd (Ty.int .i64) I0 Ap1_1 a1.f1) (hlp1_2 : a1.f2.length ≤ cp1_2) (hrp1_2 : Rd (Ty.int .i64) I0 Ap1_2 a1.f2) (r : Int) (h : auction_Utility.f k a0 a1 a2 = some r) :
  Calls Try.prog 21 [.slice Ap0 a0.length cp0, .agg #[.slice Ap1_0 a1.f0.length cp1_0, .slice Ap1_1 a1.f1.length cp1_1, .slice Ap1_2 a1.f2.length cp1_2], i6 a2].toArray w fun e w' => ∃ v, e = .returned v ∧ auction_Utility.Post I0 w r v w' := by
 have H : ((slices_Index_int_int.f k a1.f0 a2).bind fun t1 => (if t1 < 0 then (some 0) else ((auction_values.f k a0).bind fun t2 => (if 0 ≤ t1 then (if t1 < (a1.f1.length : Int) then (if 0 ≤ t1 then (if t1 < (a1.f2.length : Int) then (some (W .i64 (((mget t2 (a2, (a1.f1.getD (t1).toNat 0))).getD 0) - (a1.f2.getD (t1).toNat 0)))) else none) else none) else none) else none)))) = some r := h
 clear h
 refine calls_body Try.func21 (by kernel_rfl) 30 (by kernel_rfl) (by kernel_rfl) ⟨w, fun _ => False, I0⟩ I0 [] [(0, .slice Ap0 a0.length cp0), (1, .agg #[.slice Ap1_0 a1.f0.length cp1_0, .slice Ap1_1 a1.f1.length cp1_1, .slice Ap1_2 a1.f2.length cp1_2]), (2, i6 a2)] (by kernel_rfl) (Sat.start w _ I0 hI) ?_
 generalize w.heap.size = nx0
 show OK _ K21_0 _ _ _ _ _ _ _ _
 refine OK.sr ?_
 refine RL.spt 2 [(4, pt nx0 0), (0, .slice Ap0 a0.length cp0), (2, i6 a2)] (nx0 + 1) [⟨nx0, [.slice Ap1_0 a1.f0.length cp1_0, .slice Ap1_1 a1.f1.length cp1_1, .slice Ap1_2 a1.f2.length cp1_2], 29⟩] ?_
 refine OK.sr ?_
 refine RL.simK (K' := [(10, i6 a2), (9, .slice Ap1_0 a1.f0.length cp1_0), (4, pt nx0 0), (0, .slice Ap0 a0.length cp0), (2, i6 a2)]) [] (RFacts.nil _ _ _) 3 [.no, .l 0, .no] (by kernel_rfl) (by kernel_rfl) ?_
 obtain ⟨t1, hA1, H⟩ := bnd H
 refine RL.callP 42 [.slice Ap1_0 a1.f0.length cp1_0, i6 a2] (some 11) (fun w => slices_Index_int_int.Post I0 w t1) (by kernel_rfl) (by kernel_rfl) (fun w hs => slices_Index_int_int.calls k I0 a1.f0 Ap1_0 cp1_0 a2 w hs.im hlp1_0 hrp1_0 t1 hA1) ?_
 rintro w v w' hs ⟨I1, rfl, hg⟩
 have hi1 := hg.le
 refine RL.resume (X' := []) rfl (hs.call hg) ?_
 clear hs hg
 generalize w'.heap.size = nx1
 clear w w'
 refine RL.st 1 [(7, i6 t1), (4, pt nx0 0), (0, .slice Ap0 a0.length cp0), (2, i6 a2)] ?_
 refine OK.sq ?_
 refine OK.sr ?_
 refine RL.st 2 [(13, .bool (decide (t1 < 0))), (7, i6 t1), (4, pt nx0 0), (0, .slice Ap0 a0.length cp0), (2, i6 a2)] ?_
 refine OK.cd (decide (t1 < 0)) (fun hb => ?_) (fun hb => ?_)
 ·skip
  have hc := (of_decide_eq_true hb)
  rw [if_pos hc] at H
  clear hb
  refine OK.sr ?_
  refine RL.st 1 [(6, i6 0)] ?_
  refine OK.re ?_
  refine QN.thenR ?_
  obtain rfl := Option.some.inj H
  refine QN.body rfl [] (RFacts.nil _ _ _) (.no) (i6 0) (by kernel_rfl) (by kernel_rfl) (by kernel_rfl) ?_ _ (.inr rfl)
  exact fun w' hs' => ⟨_, rfl, I1, rfl, hs'.got _ .slnil⟩
 ·skip
  have hc := (of_decide_eq_false hb)
  rw [if_neg hc] at H
  clear hb
  refine OK.skt ?_
  refine OK.sq ?_
  obtain ⟨t2, hA2, H⟩ := bnd H
  obtain ⟨hi0_1, H⟩ := ifs H
  obtain ⟨hi1_1, H⟩ := ifs H
  obtain ⟨g1_, o1_, hA1_, hc1_⟩ := Ty.int_at (Rd.ext hi1 hrp1_1) t1 hi0_1 hi1_1
  obtain ⟨hi0_2, H⟩ := ifs H
  obtain ⟨hi1_2, H⟩ := ifs H
  obtain ⟨g2_, o2_, hA2_, hc2_⟩ := Ty.int_at (Rd.ext hi1 hrp1_2) t1 hi0_2 hi1_2
  refine OK.drawnC 4 15 O21_17 a21_17n (by kernel_rfl) (by kernel_rfl) (u21d1l t2) (u21d1g a1 a2 t1 t2 g1_ o1_ g2_ o2_) [(⟨g1_, o1_ + (t1).toNat * 1, none⟩, i6 (a1.f1.getD (t1).toNat 0)), (⟨g2_, o2_ + (t1).toNat * 1, none⟩, i6 (a1.f2.getD (t1).toNat 0))] (RI.cons (hc1_ 0 _ rfl) (RI.cons (hc2_ 0 _ rfl) (RI.nil _))) [.no, .no, .no, .no, .l 0, .no, .no, .r 0, .no, .no, .no, .l 0, .no, .no, .r 1] a21_17 a21_17o (by kernel_rfl) (by kernel_rfl) (u21d1s a0 Ap0 cp0 a1 Ap1_1 cp1_1 Ap1_2 cp1_2 a2 nx0 t1 t2 g1_ o1_ g2_ o2_) (u21d1f a0 Ap0 cp0 a1 Ap1_1 cp1_1 Ap1_2 cp1_2 a2 nx0 t1 t2 g1_ o1_ g2_ o2_ 15) (u21d1v a0 Ap0 cp0 a1 Ap1_0 cp1_0 Ap1_1 cp1_1 Ap1_2 cp1_2 a2 nx0 t1 t2 g1_ o1_ g2_ o2_) (u21d1e a0 Ap0 cp0 a1 Ap1_0 cp1_0 Ap1_1 cp1_1 Ap1_2 cp1_2 a2 nx0 t1 t2 g1_ o1_ g2_ o2_) [u21d1f a0 Ap0 cp0 a1 Ap1_1 cp1_1 Ap1_2 cp1_2 a2 nx0 t1 t2 g1_ o1_ g2_ o2_ 1] (framesOk.cons (fun u => rfl) framesOk.nil) ?_ [u21d1f a0 Ap0 cp0 a1 Ap1_1 cp1_1 Ap1_2 cp1_2 a2 nx0 t1 t2 g1_ o1_ g2_ o2_ 6, u21d1f a0 Ap0 cp0 a1 Ap1_1 cp1_1 Ap1_2 cp1_2 a2 nx0 t1 t2 g1_ o1_ g2_ o2_ 9, u21d1f a0 Ap0 cp0 a1 Ap1_1 cp1_1 Ap1_2 cp1_2 a2 nx0 t1 t2 g1_ o1_ g2_ o2_ 13] (framesOk.cons (fun u => rfl) (framesOk.cons (fun u => rfl) (framesOk.cons (fun u => rfl) framesOk.nil))) ?_ ?_
  ·refine LoudsG.cons ?_ (LoudsG.nil)
   ·intro D u J w hp hJ hs hF
    refine Does.call 28 [.slice Ap0 a0.length cp0] (by kernel_rfl) ((auction_values.calls k J a0 Ap0 cp0 w hs.im hlp0 (Rd.ext (Imm.le_trans hi1 hJ) hrp0) t2 hA2).mono ?_)
    rintro e w' ⟨v, rfl, J2, g0_, rfl, hg, hm0_⟩
    exact ⟨_, rfl, fun _ => (none, g0_, []), J2, rfl, hg, hm0_, trivial⟩
  ·refine Givens.cons (fun u w =>  ?_) (fun _ _ _ => rfl) (Givens.consU (fun D u w hp hS =>  ?_) (fun _ _ _ => rfl) (Givens.cons (fun u w =>  ?_) (fun _ _ _ => rfl) (Givens.nil)))
   ·exact giv_idx (T := 26) (e := 3) 1 .i64 t1 hA1_ a1.f1.length cp1_1 (by kernel_rfl) (by kernel_rfl) (by kernel_rfl) hi0_1 hi1_1 w
   ·obtain ⟨J, hJ, hs, hF⟩ := hS
    exact giv_look2 mt54 (a2, (a1.f1.getD (t1).toNat 0)) (((hF.1 (hp 1 (by kernel_rfl) (by kernel_rfl))).1)) hs.im (by kernel_rfl)
   ·exact giv_idx (T := 27) (e := 2) 1 .i64 t1 hA2_ a1.f2.length cp1_2 (by kernel_rfl) (by kernel_rfl) (by kernel_rfl) hi0_2 hi1_2 w
  intro u I2 nx2 hi2 hF
  have hf1 := ((hF.1 rfl).1)
  clear hF
  refine RL.norm (K' := [(28, i6 (a1.f2.getD (t1).toNat 0)), (27, pt g2_ (o2_ + (t1).toNat * 1)), (26, i6 t1), (25, .slice Ap1_2 a1.f2.length cp1_2), (24, pt nx0 2), (23, i6 ((mget t2 (a2, (a1.f1.getD (t1).toNat 0))).getD 0)), (22, .agg #[i6 a2, i6 (a1.f1.getD (t1).toNat 0)]), (21, i6 (a1.f1.getD (t1).toNat 0)), (20, pt g1_ (o1_ + (t1).toNat * 1)), (19, i6 t1), (18, .slice Ap1_1 a1.f1.length cp1_1), (17, pt nx0 1), (16, i6 a2), (15, .map (some ((u 1 0).2.1))), (14, .slice Ap0 a0.length cp0), (13, .bool (decide (t1 < 0))), (7, i6 t1), (4, pt nx0 0), (0, .slice Ap0 a0.length cp0), (2, i6 a2)]) (X' := []) (by kernel_rfl) rfl rfl rfl ?_
  revert hf1
  generalize (u 1 0).1 = A1
  generalize (u 1 0).2.1 = c1
  generalize (u 1 0).2.2 = cs1
  intro hf1
  clear u
  refine RL.st 2 [(6, i6 (W .i64 (((mget t2 (a2, (a1.f1.getD (t1).toNat 0))).getD 0) - (a1.f2.getD (t1).toNat 0))))] ?_
  refine OK.re ?_
  obtain rfl := Option.some.inj H
  refine QN.body rfl [] (RFacts.nil _ _ _) (.no) (i6 (W .i64 (((mget t2 (a2, (a1.f1.getD (t1).toNat 0))).getD 0) - (a1.f2.getD (t1).toNat 0)))) (by kernel_rfl) (by kernel_rfl) (by kernel_rfl) ?_ _ (.inr rfl)
  exact fun w' hs' => ⟨_, rfl, I2, rfl, hs'.got _ .slnil⟩

end Go.Proofs.Ytihmbmeelheinaa
namespace Go.Proofs.Ytihmbmeelheinaa
open Go Go.Proofs.Ytihmbmeelheinaa.RW
set_option linter.unusedVariables false
set_option maxRecDepth 100000
set_option maxHeartbeats 8000000

/-! ### auction_Welfare: function 23, armillary/auction.Welfare -/
noncomputable def K23_0 : Code := cBody Try.f23
def auction_Welfare.k1  (x1 : Int) : Option (Int) := (some x1)
def auction_Welfare.l1 (a1 : S29) (t1 : (List ((Int × Int) × Int))) : Nat → Int → Int → Option (Int)
 | 0, _, _ => none
 | k + 1, x2, x3 => (if x3 < (a1.f0.length : Int) then (if 0 ≤ x3 then (if x3 < (a1.f0.length : Int) then (if 0 ≤ x3 then (if x3 < (a1.f1.length : Int) then (auction_Welfare.l1 a1 t1 k (W .i64 (x2 + ((mget t1 ((a1.f0.getD (x3).toNat 0), (a1.f1.getD (x3).toNat 0))).getD 0))) (W .i64 (x3 + 1))) else none) else none) else none) else none) else (some x2))
def auction_Welfare.f (k : Nat) (a0 : List S48) (a1 : S29) : Option (Int) := ((auction_values.f k a0).bind fun t1 => ((auction_Welfare.l1 a1 t1 k 0 0).bind (auction_Welfare.k1)))
def auction_Welfare.Post (I : Imm) (w : World) (r : Int) (v : Value) (w' : World) : Prop :=
 ∃ (J : Imm), v = .int .i64 r ∧ Got w w' I J []
theorem auction_Welfare.calls (k : Nat) (I0 : Imm) (a0 : List S48) (Ap0 : Option Addr) (cp0 : Nat) (a1 : S29) (Ap1_0 : Option Addr) (cp1_0 : Nat) (Ap1_1 : Option Addr) (cp1_1 : Nat) (Ap1_2 : Option Addr) (cp1_2 : Nat) (w : World) (hI : I0.at_ w) (hlp0 : a0.length ≤ cp0) (hrp0 : Rd t48 I0 Ap0 a0) (hlp1_0 : a1.f0.length ≤ cp1_0) (hrp1_0 : Rd (Ty.int .i64) I0 Ap1_0 a1.f0) (hlp1_1 : a1.f1.length ≤ cp1_1) (hrp1_1 : Rd (Ty.int .i64) I0 Ap1_1 a1.f1) (hlp1_2 : a1.f2.length ≤ cp1_2) (hrp1_2 : Rd (Ty.int .i64) I0 Ap1_2 a1.f2) (r : Int) (h : auction_Welfare.f k a0 a1 = some r) :
  Calls Try.prog 23 [.slice Ap0 a0.length cp0, .agg #[.slice Ap1_0 a1.f0.length cp1_0, .slice Ap1_1 a1.f1.length cp1_1, .slice Ap1_2 a1.f2.length cp1_2]].toArray w fun e w' => ∃ v, e = .returned v ∧ auction_Welfare.Post I0 w r v w' := by
 have H : ((auction_values.f k a0).bind fun t1 => ((auction_Welfare.l1 a1 t1 k 0 0).bind (auction_Welfare.k1))) = some r := h
 clear h
 refine calls_body Try.func23 (by kernel_rfl) 32 (by kernel_rfl) (by kernel_rfl) ⟨w, fun _ => False, I0⟩ I0 [] [(0, .slice Ap0 a0.length cp0), (1, .agg #[.slice Ap1_0 a1.f0.length cp1_0, .slice Ap1_1 a1.f1.length cp1_1, .slice Ap1_2 a1.f2.length cp1_2])] (by kernel_rfl) (Sat.start w _ I0 hI) ?_
 generalize w.heap.size = nx0
 show OK _ K23_0 _ _ _ _ _ _ _ _
 refine OK.sr ?_
 refine RL.spt 2 [(3, pt nx0 0), (0, .slice Ap0 a0.length cp0)] (nx0 + 1) [⟨nx0, [.slice Ap1_0 a1.f0.length cp1_0, .slice Ap1_1 a1.f1.length cp1_1, .slice Ap1_2 a1.f2.length cp1_2], 29⟩] ?_
 refine OK.sr ?_
 refine RL.s 1 [(9, .slice Ap0 a0.length cp0), (3, pt nx0 0)] ?_
 obtain ⟨t1, hA1, H⟩ := bnd H
 refine RL.callP 28 [.slice Ap0 a0.length cp0] (some 10) (fun w => auction_values.Post I0 w t1) (by kernel_rfl) (by kernel_rfl) (fun w hs => auction_values.calls k I0 a0 Ap0 cp0 w hs.im hlp0 hrp0 t1 hA1) ?_
 rintro w v w' hs ⟨I1, g1, rfl, hg, hm1⟩
 have hi1 := hg.le
 refine RL.resume (X' := []) rfl (hs.call hg) ?_
 clear hs hg
 generalize w'.heap.size = nx1
 clear w w'
 refine RL.st 2 [(6, i6 0), (5, .map (some g1)), (3, pt nx0 0)] ?_
 refine OK.sq ?_
 refine OK.sr ?_
 refine RL.simK (K' := [(14, i6 0), (13, i6 (a1.f0.length : Int)), (12, .slice Ap1_0 a1.f0.length cp1_0), (6, i6 0), (5, .map (some g1)), (3, pt nx0 0)]) [] (RFacts.nil _ _ _) 4 [.no, .l 0, .no, .no] (by kernel_rfl) (by kernel_rfl) ?_
 refine RL.nt ?_
 refine OK.join (fun K' I' _ L' X' => ∃ (x1 : Int), K' = [(6, i6 x1)] ∧ L' = [⟨nx0, [.slice Ap1_0 a1.f0.length cp1_0, .slice Ap1_1 a1.f1.length cp1_1, .slice Ap1_2 a1.f2.length cp1_2], 29⟩] ∧ X' = [] ∧ Imm.le I1 I' ∧ auction_Welfare.k1 x1 = some r) ?_ ?_
 ·rintro _ I2 nx2 _ _ ⟨x1, rfl, rfl, rfl, hi2, H⟩
  rw [auction_Welfare.k1] at H
  refine QN.then_ ?_
  refine OK.sr ?_
  refine RL.st 2 [(4, i6 x1)] ?_
  refine OK.re ?_
  obtain rfl := Option.some.inj H
  refine QN.body rfl [] (RFacts.nil _ _ _) (.no) (i6 x1) (by kernel_rfl) (by kernel_rfl) (by kernel_rfl) ?_ _ (.inr rfl)
  exact fun w' hs' => ⟨_, rfl, I2, rfl, hs'.got _ .slnil⟩
 ·intro Q_1 hJ1 hQ1
  obtain ⟨y1, H, HK1⟩ := bnd H
  refine OK.bk 0 ?_
  refine OK.sub (K' := [(3, pt nx0 0), (5, .map (some g1)), (6, i6 0), (12, .slice Ap1_0 a1.f0.length cp1_0), (13, i6 (a1.f0.length : Int)), (14, i6 0)]) (L' := [⟨nx0, [.slice Ap1_0 a1.f0.length cp1_0, .slice Ap1_1 a1.f1.length cp1_1, .slice Ap1_2 a1.f2.length cp1_2], 29⟩]) (by kernel_rfl) (.cons_cons _ .slnil) (.refl _) ?_
  refine OK.lp (fun n_ K' I' _ L' X' => ∃ (x2 : Int) (x3 : Int), K' = [(3, pt nx0 0), (5, .map (some g1)), (6, i6 x2), (12, .slice Ap1_0 a1.f0.length cp1_0), (13, i6 (a1.f0.length : Int)), (14, i6 x3)] ∧ L' = [⟨nx0, [.slice Ap1_0 a1.f0.length cp1_0, .slice Ap1_1 a1.f1.length cp1_1, .slice Ap1_2 a1.f2.length cp1_2], 29⟩] ∧ X' = [] ∧ Imm.le I1 I' ∧ auction_Welfare.l1 a1 t1 n_ x2 x3 = some y1) k ⟨0, 0, rfl, rfl, rfl, (Imm.le_refl _), H⟩ ?_ ?_
  ·rintro _ _ _ _ _ ⟨x2, x3, rfl, rfl, rfl, _, H⟩
   cases H
  ·rintro kq1 _ I3 nx3 _ _ ⟨x2, x3, rfl, rfl, rfl, hi3, H⟩ Q_l1 hJ2 hQ2
   rw [auction_Welfare.l1] at H
   refine OK.sr ?_
   refine RL.st 1 [(15, .bool (decide (x3 < (a1.f0.length : Int)))), (3, pt nx0 0), (5, .map (some g1)), (6, i6 x2), (12, .slice Ap1_0 a1.f0.length cp1_0), (13, i6 (a1.f0.length : Int)), (14, i6 x3)] ?_
   refine OK.sq ?_
   refine OK.cd (decide (x3 < (a1.f0.length : Int))) (fun hb => ?_) (fun hb => ?_)
   ·skip
    have hc := (of_decide_eq_true hb)
    rw [if_pos hc] at H
    clear hb
    refine OK.skt ?_
    refine OK.sq ?_
    refine OK.bk 1 ?_
    refine OK.sr ?_
    refine RL.s 1 [(16, i6 x3), (3, pt nx0 0), (5, .map (some g1)), (6, i6 x2), (12, .slice Ap1_0 a1.f0.length cp1_0), (13, i6 (a1.f0.length : Int)), (14, i6 x3)] ?_
    obtain ⟨hib0, H⟩ := ifs H
    obtain ⟨hib1, H⟩ := ifs H
    obtain ⟨g1_, o1_, hA1_, hc1_⟩ := Ty.int_at (Rd.ext (Imm.le_trans hi1 hi3) hrp1_0) x3 hib0 hib1
    refine RL.idx 1 .i64 x3 hA1_ a1.f0.length cp1_0 (some 17) (by kernel_rfl) (by kernel_rfl) (T := 26) (e := 3) (by kernel_rfl) (by kernel_rfl) hib0 hib1 (K' := [(17, pt g1_ (o1_ + (x3).toNat * 1)), (16, i6 x3), (3, pt nx0 0), (5, .map (some g1)), (6, i6 x2), (12, .slice Ap1_0 a1.f0.length cp1_0), (13, i6 (a1.f0.length : Int)), (14, i6 x3)]) (by kernel_rfl) ?_
    refine RL.simK (K' := [(8, i6 (a1.f0.getD (x3).toNat 0)), (7, i6 x3), (3, pt nx0 0), (5, .map (some g1)), (6, i6 x2), (12, .slice Ap1_0 a1.f0.length cp1_0), (13, i6 (a1.f0.length : Int)), (14, i6 x3)]) [(⟨g1_, o1_ + (x3).toNat * 1, none⟩, i6 (a1.f0.getD (x3).toNat 0))] (RFacts.imm (hc1_ 0 _ rfl) (RFacts.nil _ _ _)) 3 [.r 0, .no, .no] (by kernel_rfl) (by kernel_rfl) ?_
    refine RL.nt ?_
    refine OK.rg ?_
    refine RL.simK (K' := [(24, i6 x3), (23, .slice Ap1_1 a1.f1.length cp1_1), (21, i6 (a1.f0.getD (x3).toNat 0)), (20, .map (some g1)), (19, i6 x2), (3, pt nx0 0), (5, .map (some g1)), (6, i6 x2), (12, .slice Ap1_0 a1.f0.length cp1_0), (13, i6 (a1.f0.length : Int)), (14, i6 x3)]) [] (RFacts.nil _ _ _) 6 [.no, .no, .no, .no, .l 0, .no] (by kernel_rfl) (by kernel_rfl) ?_
    obtain ⟨hib0, H⟩ := ifs H
    obtain ⟨hib1, H⟩ := ifs H
    obtain ⟨g2_, o2_, hA2_, hc2_⟩ := Ty.int_at (Rd.ext (Imm.le_trans hi1 hi3) hrp1_1) x3 hib0 hib1
    refine RL.idx 1 .i64 x3 hA2_ a1.f1.length cp1_1 (some 25) (by kernel_rfl) (by kernel_rfl) (T := 26) (e := 3) (by kernel_rfl) (by kernel_rfl) hib0 hib1 (K' := [(25, pt g2_ (o2_ + (x3).toNat * 1)), (24, i6 x3), (23, .slice Ap1_1 a1.f1.length cp1_1), (21, i6 (a1.f0.getD (x3).toNat 0)), (20, .map (some g1)), (19, i6 x2), (3, pt nx0 0), (5, .map (some g1)), (6, i6 x2), (12, .slice Ap1_0 a1.f0.length cp1_0), (13, i6 (a1.f0.length : Int)), (14, i6 x3)]) (by kernel_rfl) ?_
    refine RL.simK (K' := [(27, .agg #[i6 (a1.f0.getD (x3).toNat 0), i6 (a1.f1.getD (x3).toNat 0)]), (20, .map (some g1)), (19, i6 x2), (3, pt nx0 0), (5, .map (some g1)), (6, i6 x2), (12, .slice Ap1_0 a1.f0.length cp1_0), (13, i6 (a1.f0.length : Int)), (14, i6 x3)]) [(⟨g2_, o2_ + (x3).toNat * 1, none⟩, i6 (a1.f1.getD (x3).toNat 0))] (RFacts.imm (hc2_ 0 _ rfl) (RFacts.nil _ _ _)) 2 [.r 0, .no] (by kernel_rfl) (by kernel_rfl) ?_
    refine RL.lookF2 mt54 ((a1.f0.getD (x3).toNat 0), (a1.f1.getD (x3).toNat 0)) (some 28) (by kernel_rfl) (Mp.ext hi3 hm1) (by kernel_rfl) (K' := [(28, i6 ((mget t1 ((a1.f0.getD (x3).toNat 0), (a1.f1.getD (x3).toNat 0))).getD 0)), (27, .agg #[i6 (a1.f0.getD (x3).toNat 0), i6 (a1.f1.getD (x3).toNat 0)]), (20, .map (some g1)), (19, i6 x2), (3, pt nx0 0), (5, .map (some g1)), (6, i6 x2), (12, .slice Ap1_0 a1.f0.length cp1_0), (13, i6 (a1.f0.length : Int)), (14, i6 x3)]) (by kernel_rfl) ?_
    refine RL.s 2 [(6, i6 (W .i64 (x2 + ((mget t1 ((a1.f0.getD (x3).toNat 0), (a1.f1.getD (x3).toNat 0))).getD 0)))), (3, pt nx0 0), (5, .map (some g1)), (12, .slice Ap1_0 a1.f0.length cp1_0), (13, i6 (a1.f0.length : Int)), (14, i6 x3)] ?_
    refine RL.nil (by kernel_rfl) ?_
    refine QN.blkN ?_
    refine QN.then_ ?_
    refine OK.rg ?_
    refine RL.s 2 [(14, i6 (W .i64 (x3 + 1))), (6, i6 (W .i64 (x2 + ((mget t1 ((a1.f0.getD (x3).toNat 0), (a1.f1.getD (x3).toNat 0))).getD 0)))), (3, pt nx0 0), (5, .map (some g1)), (12, .slice Ap1_0 a1.f0.length cp1_0), (13, i6 (a1.f0.length : Int))] ?_
    refine RL.nil (by kernel_rfl) ?_
    exact QN.sb (hJ2 _ _ _ _ _ ⟨W .i64 (x2 + ((mget t1 ((a1.f0.getD (x3).toNat 0), (a1.f1.getD (x3).toNat 0))).getD 0)), W .i64 (x3 + 1), rfl, rfl, rfl, hi3, H⟩) (.cons_cons _ .slnil) (.refl _)
   ·skip
    have hc := (of_decide_eq_false hb)
    rw [if_neg hc] at H
    clear hb
    refine OK.ex 0 ?_
    refine QN.thenE ?_
    refine QN.outE hQ2 ?_
    refine QN.blkE ?_
    obtain rfl := Option.some.inj H
    exact QN.sb (hJ1 _ _ _ _ _ ⟨x2, rfl, rfl, rfl, hi3, HK1⟩) (.cons_cons _ .slnil) (.refl _)

end Go.Proofs.Ytihmbmeelheinaa
