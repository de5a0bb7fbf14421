/- Words of the walk, the functions' walks and plain laws, joined; no conditions beyond those that the theorems name. -/
import Derived.Test.YtdmhbcgmimfjcaaX32
import Derived.Test.YtdmhbcgmimfjcaaX36
import Derived.Test.YtdmhbcgmimfjcaaX35
import Derived.Test.YtdmhbcgmimfjcaaX34
namespace Go.Proofs.Ytdmhbcgmimfjcaa
open Go Go.Proofs.Ytdmhbcgmimfjcaa.RW
set_option linter.unusedVariables false
set_option maxRecDepth 100000
set_option maxHeartbeats 8000000

/-! ### armillaryref22_Solve: function 18, armillary/armillaryref22.Solve -/
noncomputable def K18_0 : Code := cBody Try.f18
noncomputable def O18_40 : List Oper := cOps (cL (cL (cL (cR (cL (cL (cR (cL (cR (cL (cL (cR (cL (cL (cR (cL (cR (cR K18_0))))))))))))))))))
def armillaryref22_Solve.k1  (x1 : List Int) : Option (List Int) := (some x1)
def armillaryref22_Solve.k3 (x2 : List Int) (x7 : Int) (x8 : Int) : Option (List Int × Int) := (if (x2.length + [x7].length) * 8 ≤ 140737488355328 then (some ((x2 ++ [x7]), x8)) else none)
def armillaryref22_Solve.k4 (x2 : List Int) (x3 : Int) (x7 : Int) : Option (List Int × Int) := ((if x7 ≥ 0 then (if 0 ≤ x7 then (some (bOr .i64 x3 (W .i64 (1 * 2 ^ (min (x7).toNat 64))))) else none) else (some x3)).bind (armillaryref22_Solve.k3 x2 x7))
def armillaryref22_Solve.l2 (a0 : List (List Int)) (x3 : Int) (x4 : Int) (t1 : List Int) (t2 : List Int) : Nat → Int → Int → Option (Int)
 | 0, _, _ => none
 | k + 1, x9, x10 => ((if 0 ≤ x4 then (if x4 < (a0.length : Int) then (if x10 < ((a0.getD (x4).toNat []).length : Int) then (some (decide (x9 < 0))) else (some false)) else none) else none).bind (fun x11 => (if x11 = true then ((if 0 ≤ x10 then (if (bAnd .i64 (Int.fdiv x3 (2 ^ (min (x10).toNat 64))) 1) = 0 then (if 0 ≤ x4 then (if x4 < (a0.length : Int) then (if 0 ≤ x10 then (if x10 < ((a0.getD (x4).toNat []).length : Int) then (if 0 ≤ x10 then (if 0 ≤ (bOr .i64 x3 (W .i64 (1 * 2 ^ (min (x10).toNat 64)))) then (if (bOr .i64 x3 (W .i64 (1 * 2 ^ (min (x10).toNat 64)))) < (t2.length : Int) then (if 0 ≤ x3 then (if x3 < (t1.length : Int) then (some ((W .i64 (((a0.getD (x4).toNat []).getD (x10).toNat 0) + (t2.getD (bOr .i64 x3 (W .i64 (1 * 2 ^ (min (x10).toNat 64)))).toNat 0))) == (t1.getD (x3).toNat 0))) else none) else none) else none) else none) else none) else none) else none) else none) else none) else (some false)) else none).bind (fun x12 => ((if x12 = true then (some x10) else (some x9)).bind (fun x13 => (armillaryref22_Solve.l2 a0 x3 x4 t1 t2 k x13 (W .i64 (x10 + 1))))))) else (some x9))))
def armillaryref22_Solve.l1 (a0 : List (List Int)) : Nat → (List Int) → Int → Int → Option (List Int)
 | 0, _, _, _ => none
 | k + 1, x2, x3, x4 => (if x4 < (a0.length : Int) then (((armillaryref22_Best.f k a0 x4).bind fun t1 => ((armillaryref22_Best.f k a0 (W .i64 (x4 + 1))).bind fun t2 => ((armillaryref22_Solve.l2 a0 x3 x4 t1 t2 k (-1) 0).bind (armillaryref22_Solve.k4 x2 x3)))).bind (fun (x5, x6) => (armillaryref22_Solve.l1 a0 k x5 x6 (W .i64 (x4 + 1))))) else (some x2))
def armillaryref22_Solve.f (k : Nat) (a0 : List (List Int)) : Option (List Int) := ((armillaryref22_Solve.l1 a0 k ([] : List Int) 0 0).bind (armillaryref22_Solve.k1))
def armillaryref22_Solve.Post (I : Imm) (w : World) (r : List Int) (v : Value) (w' : World) : Prop :=
 ∃ (J : Imm) (A0 : Option Addr) (c0 : Nat) (cs0 : List Value), v = .slice A0 r.length c0 ∧ Got w w' I J [orow 3 1 A0 r.length c0 cs0] ∧ Reps (Ty.int .i64) J r cs0
noncomputable def a18_40n : List Nat := [0, 0, 3, 7, 15, 31, 63, 63, 255, 511, 63, 2047, 4095, 63, 63, 63, 32831, 114751, 254015, 516159, 1048575, 63, 63, 6291519, 14680127, 33554431, 67108863]
theorem a18_40 : ancs O18_40 [] = a18_40n := by kernel_rfl
theorem a18_40o : drawOk O18_40 a18_40n 25 = true := by kernel_rfl
noncomputable def u18d1l  : List Ld :=
 []
noncomputable def u18d1g (x3 : Int) (x4 : Int) (x10 : Int) (g1_ : Nat) (o1_ : Nat) (g2_ : Nat) (o2_ : Nat) (g3_ : Nat) (g4_ : Nat) : List (Nat × ((Nat → Wt) → Value)) := [(2, fun u => i6 (Int.fdiv x3 (2 ^ (min (x10).toNat 64)))), (5, fun u => .bool true), (8, fun u => pt g1_ (o1_ + (x4).toNat * 1)), (11, fun u => pt g2_ (o2_ + (x10).toNat * 1)), (16, fun u => i6 (W .i64 (1 * 2 ^ (min (x10).toNat 64)))), (18, fun u => pt g3_ (0 + (bOr .i64 x3 (W .i64 (1 * 2 ^ (min (x10).toNat 64)))).toNat * 1)), (23, fun u => pt g4_ (0 + (x3).toNat * 1))]
noncomputable def u18d1q (a0 : List (List Int)) (Ap0 : Option Addr) (cp0 : Nat) (x2 : List Int) (A2 : Option Addr) (c2 : Nat) (x3 : Int) (x4 : Int) (t1 : List Int) (A4 : Option Addr) (c4 : Nat) (t2 : List Int) (A5 : Option Addr) (c5 : Nat) (x9 : Int) (x10 : Int) (x11 : Bool) (A1_ : Option Addr) (c1_ : Nat) (g1_ : Nat) (o1_ : Nat) (g2_ : Nat) (o2_ : Nat) (g3_ : Nat) (g4_ : Nat) (u : Nat → Wt) : Option (List Value × List (Nat × Value) × List (Nat × Nat)) := qSim Try.prog [(⟨g1_, o1_ + (x4).toNat * 1, none⟩, .slice A1_ ((a0.getD (x4).toNat []).length) c1_), (⟨g2_, o2_ + (x10).toNat * 1, none⟩, i6 ((a0.getD (x4).toNat []).getD (x10).toNat 0)), (⟨g3_, 0 + (bOr .i64 x3 (W .i64 (1 * 2 ^ (min (x10).toNat 64)))).toNat * 1, none⟩, i6 (t2.getD (bOr .i64 x3 (W .i64 (1 * 2 ^ (min (x10).toNat 64)))).toNat 0)), (⟨g4_, 0 + (x3).toNat * 1, none⟩, i6 (t1.getD (x3).toNat 0))] [] O18_40 ⟨76, []⟩ (Ld.vl u18d1l) (u18d1g x3 x4 x10 g1_ o1_ g2_ o2_ g3_ g4_) u [.no, .no, .no, .no, .no, .no, .no, .no, .no, .r 0, .no, .no, .r 1, .no, .no, .no, .no, .no, .no, .r 2, .no, .no, .no, .no, .r 3] 0 (O18_40.take 25) [(0, .slice Ap0 a0.length cp0), (3, .slice A2 x2.length c2), (4, i6 x3), (5, i6 x4), (6, .slice A4 t1.length c4), (7, .slice A5 t2.length c5), (8, i6 x9), (9, i6 x10), (34, .bool x11)]
noncomputable def u18d1s (a0 : List (List Int)) (Ap0 : Option Addr) (cp0 : Nat) (x3 : Int) (x4 : Int) (t1 : List Int) (A4 : Option Addr) (c4 : Nat) (t2 : List Int) (A5 : Option Addr) (c5 : Nat) (x10 : Int) (A1_ : Option Addr) (c1_ : Nat) (g1_ : Nat) (o1_ : Nat) (g2_ : Nat) (o2_ : Nat) (g3_ : Nat) (g4_ : Nat) (u : Nat → Wt) : List Value := [i6 x3, i6 x10, i6 (Int.fdiv x3 (2 ^ (min (x10).toNat 64))), i6 (bAnd .i64 (Int.fdiv x3 (2 ^ (min (x10).toNat 64))) 1), .bool ((bAnd .i64 (Int.fdiv x3 (2 ^ (min (x10).toNat 64))) 1) == 0), .bool true, .slice Ap0 a0.length cp0, i6 x4, pt g1_ (o1_ + (x4).toNat * 1), .slice A1_ ((a0.getD (x4).toNat []).length) c1_, i6 x10, pt g2_ (o2_ + (x10).toNat * 1), i6 ((a0.getD (x4).toNat []).getD (x10).toNat 0), .slice A5 t2.length c5, i6 x3, i6 x10, i6 (W .i64 (1 * 2 ^ (min (x10).toNat 64))), i6 (bOr .i64 x3 (W .i64 (1 * 2 ^ (min (x10).toNat 64)))), pt g3_ (0 + (bOr .i64 x3 (W .i64 (1 * 2 ^ (min (x10).toNat 64)))).toNat * 1), i6 (t2.getD (bOr .i64 x3 (W .i64 (1 * 2 ^ (min (x10).toNat 64)))).toNat 0), i6 (W .i64 (((a0.getD (x4).toNat []).getD (x10).toNat 0) + (t2.getD (bOr .i64 x3 (W .i64 (1 * 2 ^ (min (x10).toNat 64)))).toNat 0))), .slice A4 t1.length c4, i6 x3, pt g4_ (0 + (x3).toNat * 1), i6 (t1.getD (x3).toNat 0)]
noncomputable def u18d1f (a0 : List (List Int)) (Ap0 : Option Addr) (cp0 : Nat) (x2 : List Int) (A2 : Option Addr) (c2 : Nat) (x3 : Int) (x4 : Int) (t1 : List Int) (A4 : Option Addr) (c4 : Nat) (t2 : List Int) (A5 : Option Addr) (c5 : Nat) (x9 : Int) (x10 : Int) (x11 : Bool) (A1_ : Option Addr) (c1_ : Nat) (g1_ : Nat) (o1_ : Nat) (g2_ : Nat) (o2_ : Nat) (g3_ : Nat) (g4_ : Nat) (i : Nat) (u : Nat → Wt) : List (Nat × Value) := foldPut ⟨76, []⟩ [(0, .slice Ap0 a0.length cp0), (3, .slice A2 x2.length c2), (4, i6 x3), (5, i6 x4), (6, .slice A4 t1.length c4), (7, .slice A5 t2.length c5), (8, i6 x9), (9, i6 x10), (34, .bool x11)] (O18_40.take i) (((u18d1s a0 Ap0 cp0 x3 x4 t1 A4 c4 t2 A5 c5 x10 A1_ c1_ g1_ o1_ g2_ o2_ g3_ g4_) u).take i)
theorem u18d1v (a0 : List (List Int)) (Ap0 : Option Addr) (cp0 : Nat) (x2 : List Int) (A2 : Option Addr) (c2 : Nat) (x3 : Int) (x4 : Int) (t1 : List Int) (A4 : Option Addr) (c4 : Nat) (t2 : List Int) (A5 : Option Addr) (c5 : Nat) (x9 : Int) (x10 : Int) (x11 : Bool) (A1_ : Option Addr) (c1_ : Nat) (g1_ : Nat) (o1_ : Nat) (g2_ : Nat) (o2_ : Nat) (g3_ : Nat) (g4_ : Nat) (u : Nat → Wt) : (u18d1q a0 Ap0 cp0 x2 A2 c2 x3 x4 t1 A4 c4 t2 A5 c5 x9 x10 x11 A1_ c1_ g1_ o1_ g2_ o2_ g3_ g4_ u).map (fun x => (x.1, x.2.1)) = some ((u18d1s a0 Ap0 cp0 x3 x4 t1 A4 c4 t2 A5 c5 x10 A1_ c1_ g1_ o1_ g2_ o2_ g3_ g4_) u, (u18d1f a0 Ap0 cp0 x2 A2 c2 x3 x4 t1 A4 c4 t2 A5 c5 x9 x10 x11 A1_ c1_ g1_ o1_ g2_ o2_ g3_ g4_ 25) u) := by kernel_rfl
theorem u18d1e (a0 : List (List Int)) (Ap0 : Option Addr) (cp0 : Nat) (x2 : List Int) (A2 : Option Addr) (c2 : Nat) (x3 : Int) (x4 : Int) (t1 : List Int) (A4 : Option Addr) (c4 : Nat) (t2 : List Int) (A5 : Option Addr) (c5 : Nat) (x9 : Int) (x10 : Int) (x11 : Bool) (A1_ : Option Addr) (c1_ : Nat) (g1_ : Nat) (o1_ : Nat) (g2_ : Nat) (o2_ : Nat) (g3_ : Nat) (g4_ : Nat) (u : Nat → Wt) : (u18d1q a0 Ap0 cp0 x2 A2 c2 x3 x4 t1 A4 c4 t2 A5 c5 x9 x10 x11 A1_ c1_ g1_ o1_ g2_ o2_ g3_ g4_ u).map (fun x => x.2.2.map (·.1)) = (u18d1q a0 Ap0 cp0 x2 A2 c2 x3 x4 t1 A4 c4 t2 A5 c5 x9 x10 x11 A1_ c1_ g1_ o1_ g2_ o2_ g3_ g4_ u).map (fun x => x.2.2.map (·.2)) := by kernel_rfl
noncomputable def u18d2l  : List Ld :=
 []
noncomputable def u18d2g (x3 : Int) (x10 : Int) : List (Nat × ((Nat → Wt) → Value)) := [(2, fun u => i6 (Int.fdiv x3 (2 ^ (min (x10).toNat 64)))), (5, fun u => .bool false)]
noncomputable def u18d2q (a0 : List (List Int)) (Ap0 : Option Addr) (cp0 : Nat) (x2 : List Int) (A2 : Option Addr) (c2 : Nat) (x3 : Int) (x4 : Int) (t1 : List Int) (A4 : Option Addr) (c4 : Nat) (t2 : List Int) (A5 : Option Addr) (c5 : Nat) (x9 : Int) (x10 : Int) (x11 : Bool) (u : Nat → Wt) : Option (List Value × List (Nat × Value) × List (Nat × Nat)) := qSim Try.prog [] [] O18_40 ⟨76, []⟩ (Ld.vl u18d2l) (u18d2g x3 x10) u [.no, .no, .no, .no, .no, .no, .no, .no, .no, .no, .no, .no, .no, .no, .no, .no, .no, .no, .no, .no, .no, .no, .no, .no, .no] 0 (O18_40.take 25) [(0, .slice Ap0 a0.length cp0), (3, .slice A2 x2.length c2), (4, i6 x3), (5, i6 x4), (6, .slice A4 t1.length c4), (7, .slice A5 t2.length c5), (8, i6 x9), (9, i6 x10), (34, .bool x11)]
noncomputable def u18d2s (x3 : Int) (x10 : Int) (u : Nat → Wt) : List Value := [i6 x3, i6 x10, i6 (Int.fdiv x3 (2 ^ (min (x10).toNat 64))), i6 (bAnd .i64 (Int.fdiv x3 (2 ^ (min (x10).toNat 64))) 1), .bool ((bAnd .i64 (Int.fdiv x3 (2 ^ (min (x10).toNat 64))) 1) == 0), .bool false, undef, undef, undef, undef, undef, undef, undef, undef, undef, undef, undef, undef, undef, undef, undef, undef, undef, undef, undef]
noncomputable def u18d2f (a0 : List (List Int)) (Ap0 : Option Addr) (cp0 : Nat) (x2 : List Int) (A2 : Option Addr) (c2 : Nat) (x3 : Int) (x4 : Int) (t1 : List Int) (A4 : Option Addr) (c4 : Nat) (t2 : List Int) (A5 : Option Addr) (c5 : Nat) (x9 : Int) (x10 : Int) (x11 : Bool) (i : Nat) (u : Nat → Wt) : List (Nat × Value) := foldPut ⟨76, []⟩ [(0, .slice Ap0 a0.length cp0), (3, .slice A2 x2.length c2), (4, i6 x3), (5, i6 x4), (6, .slice A4 t1.length c4), (7, .slice A5 t2.length c5), (8, i6 x9), (9, i6 x10), (34, .bool x11)] (O18_40.take i) (((u18d2s x3 x10) u).take i)
theorem u18d2v (a0 : List (List Int)) (Ap0 : Option Addr) (cp0 : Nat) (x2 : List Int) (A2 : Option Addr) (c2 : Nat) (x3 : Int) (x4 : Int) (t1 : List Int) (A4 : Option Addr) (c4 : Nat) (t2 : List Int) (A5 : Option Addr) (c5 : Nat) (x9 : Int) (x10 : Int) (x11 : Bool) (u : Nat → Wt) : (u18d2q a0 Ap0 cp0 x2 A2 c2 x3 x4 t1 A4 c4 t2 A5 c5 x9 x10 x11 u).map (fun x => (x.1, x.2.1)) = some ((u18d2s x3 x10) u, (u18d2f a0 Ap0 cp0 x2 A2 c2 x3 x4 t1 A4 c4 t2 A5 c5 x9 x10 x11 25) u) := by kernel_rfl
theorem u18d2e (a0 : List (List Int)) (Ap0 : Option Addr) (cp0 : Nat) (x2 : List Int) (A2 : Option Addr) (c2 : Nat) (x3 : Int) (x4 : Int) (t1 : List Int) (A4 : Option Addr) (c4 : Nat) (t2 : List Int) (A5 : Option Addr) (c5 : Nat) (x9 : Int) (x10 : Int) (x11 : Bool) (u : Nat → Wt) : (u18d2q a0 Ap0 cp0 x2 A2 c2 x3 x4 t1 A4 c4 t2 A5 c5 x9 x10 x11 u).map (fun x => x.2.2.map (·.1)) = (u18d2q a0 Ap0 cp0 x2 A2 c2 x3 x4 t1 A4 c4 t2 A5 c5 x9 x10 x11 u).map (fun x => x.2.2.map (·.2)) := by kernel_rfl
theorem armillaryref22_Solve.calls (k : Nat) (I0 : Imm) (a0 : List (List Int)) (Ap0 : Option Addr) (cp0 : Nat) (w : World) (hI : I0.at_ w) (hlp0 : a0.length ≤ cp0) (hrp0 : Rd (Ty.slice (Ty.int .i64)) I0 Ap0 a0) (r : List Int) (h : armillaryref22_Solve.f k a0 = some r) :
  Calls Try.prog 18 [.slice Ap0 a0.length cp0].toArray w fun e w' => ∃ v, e = .returned v ∧ armillaryref22_Solve.Post I0 w r v w' := by
 have H : ((armillaryref22_Solve.l1 a0 k ([] : List Int) 0 0).bind (armillaryref22_Solve.k1)) = some r := h
 clear h
 refine calls_body Try.func18 (by kernel_rfl) 76 (by kernel_rfl) (by kernel_rfl) ⟨w, fun _ => False, I0⟩ I0 [] [(0, .slice Ap0 a0.length cp0)] (by kernel_rfl) (Sat.start w _ I0 hI) ?_
 generalize w.heap.size = nx0
 show OK _ K18_0 _ _ _ _ _ _ _ _
 refine OK.sr ?_
 refine RL.st 1 [(0, .slice Ap0 a0.length cp0)] ?_
 refine OK.sr ?_
 refine RL.spt 3 [(4, i6 0), (3, .slice (some ⟨nx0, 0, none⟩) 0 0), (0, .slice Ap0 a0.length cp0)] (nx0 + 1) [⟨nx0, [], 3⟩] ?_
 refine OK.sq ?_
 refine OK.sr ?_
 refine RL.st 1 [(5, i6 0), (4, i6 0), (3, .slice (some ⟨nx0, 0, none⟩) 0 0), (0, .slice Ap0 a0.length cp0)] ?_
 refine OK.join (fun K' I' _ L' X' => ∃ (x1 : List Int) (A1 : Option Addr) (c1 : Nat) (cs1 : List Value), K' = [(3, .slice A1 x1.length c1)] ∧ L' = [] ∧ X' = [orow 3 1 A1 x1.length c1 cs1] ∧ Imm.le I0 I' ∧ Reps (Ty.int .i64) I' x1 cs1 ∧ armillaryref22_Solve.k1 x1 = some r) ?_ ?_
 ·rintro _ I1 nx1 _ _ ⟨x1, A1, c1, cs1, rfl, rfl, rfl, hi1, hp1, H⟩
  rw [armillaryref22_Solve.k1] at H
  refine QN.then_ ?_
  refine OK.sr ?_
  refine RL.st 2 [(2, .slice A1 x1.length c1)] ?_
  refine OK.re ?_
  obtain rfl := Option.some.inj H
  refine QN.body rfl [] (RFacts.nil _ _ _) (.no) (.slice A1 x1.length c1) (by kernel_rfl) (by kernel_rfl) (by kernel_rfl) ?_ _ (.inr rfl)
  exact fun w' hs' => ⟨_, rfl, I1, A1, c1, cs1, rfl, hs'.got _ (.cons_cons _ .slnil), hp1⟩
 ·intro Q_1 hJ1 hQ1
  obtain ⟨y1, H, HK1⟩ := bnd H
  refine OK.bk 0 ?_
  refine OK.toRow (b := ⟨nx0, [], 3⟩) 0 0 1 (by kernel_rfl) (by kernel_rfl) (by decide) ?_
  have hp7 : Reps (Ty.int .i64) I0 ([] : List Int) [] := rfl
  refine OK.norm (L' := []) (X' := [orow 3 1 (some ⟨nx0, 0, none⟩) (([] : List Int).length) 0 []]) rfl rfl (by kernel_rfl) (by kernel_rfl) ?_
  refine OK.sub (K' := [(0, .slice Ap0 a0.length cp0), (3, .slice (some ⟨nx0, 0, none⟩) 0 0), (4, i6 0), (5, i6 0)]) (L' := []) (by kernel_rfl) .slnil (.refl _) ?_
  refine OK.lp (fun n_ K' I' _ L' X' => ∃ (x2 : List Int) (x3 : Int) (x4 : Int) (A2 : Option Addr) (c2 : Nat) (cs2 : List Value), K' = [(0, .slice Ap0 a0.length cp0), (3, .slice A2 x2.length c2), (4, i6 x3), (5, i6 x4)] ∧ L' = [] ∧ X' = [orow 3 1 A2 x2.length c2 cs2] ∧ Imm.le I0 I' ∧ Reps (Ty.int .i64) I' x2 cs2 ∧ armillaryref22_Solve.l1 a0 n_ x2 x3 x4 = some y1) k ⟨([] : List Int), 0, 0, (some ⟨nx0, 0, none⟩), 0, [], rfl, rfl, rfl, (Imm.le_refl _), hp7, H⟩ ?_ ?_
  ·rintro _ _ _ _ _ ⟨x2, x3, x4, A2, c2, cs2, rfl, rfl, rfl, _, hp2, H⟩
   cases H
  ·rintro kq1 _ I2 nx2 _ _ ⟨x2, x3, x4, A2, c2, cs2, rfl, rfl, rfl, hi2, hp2, H⟩ Q_l1 hJ2 hQ2
   rw [armillaryref22_Solve.l1] at H
   refine OK.sq ?_
   refine OK.sr ?_
   refine RL.st 4 [(14, .bool (decide (x4 < (a0.length : Int)))), (0, .slice Ap0 a0.length cp0), (3, .slice A2 x2.length c2), (4, i6 x3), (5, i6 x4)] ?_
   refine OK.cd (decide (x4 < (a0.length : Int))) (fun hb => ?_) (fun hb => ?_)
   ·skip
    have hc := (of_decide_eq_true hb)
    rw [if_pos hc] at H
    clear hb
    refine OK.skt ?_
    refine OK.sq ?_
    refine OK.join (fun K' I' _ L' X' => ∃ (x5 : List Int) (x6 : Int) (A3 : Option Addr) (c3 : Nat) (cs3 : List Value), K' = [(0, .slice Ap0 a0.length cp0), (3, .slice A3 x5.length c3), (4, i6 x6), (5, i6 x4)] ∧ L' = [] ∧ X' = [orow 3 1 A3 x5.length c3 cs3] ∧ Imm.le I2 I' ∧ Reps (Ty.int .i64) I' x5 cs3 ∧ (armillaryref22_Solve.l1 a0 kq1 x5 x6 (W .i64 (x4 + 1))) = some y1) ?_ ?_
    ·rintro _ I3 nx3 _ _ ⟨x5, x6, A3, c3, cs3, rfl, rfl, rfl, hi3, hp3, H⟩
     replace H : (armillaryref22_Solve.l1 a0 kq1 x5 x6 (W .i64 (x4 + 1))) = some y1 := H
     refine QN.then_ ?_
     refine OK.rg ?_
     refine RL.s 3 [(5, i6 (W .i64 (x4 + 1))), (0, .slice Ap0 a0.length cp0), (3, .slice A3 x5.length c3), (4, i6 x6)] ?_
     refine RL.nil (by kernel_rfl) ?_
     exact QN.sb (hJ2 _ _ _ _ _ ⟨x5, x6, W .i64 (x4 + 1), A3, c3, cs3, rfl, rfl, rfl, (Imm.le_trans hi2 hi3), hp3, H⟩) .slnil (.refl _)
    ·intro Q_2 hJ3 hQ3
     obtain ⟨y2, H, HK2⟩ := bnd H
     refine OK.bk 1 ?_
     refine OK.sr ?_
     refine RL.s 2 [(18, i6 x4), (17, .slice Ap0 a0.length cp0), (0, .slice Ap0 a0.length cp0), (3, .slice A2 x2.length c2), (4, i6 x3), (5, i6 x4)] ?_
     obtain ⟨t1, hA1, H⟩ := bnd H
     refine RL.callP 24 [.slice Ap0 a0.length cp0, i6 x4] (some 19) (fun w => armillaryref22_Best.Post I2 w t1) (by kernel_rfl) (by kernel_rfl) (fun w hs => armillaryref22_Best.calls kq1 I2 a0 Ap0 cp0 x4 w hs.im hlp0 (Rd.ext hi2 hrp0) t1 hA1) ?_
     rintro w v w' hs ⟨I4, A4, c4, cs4, rfl, hg, hp4⟩
     have hi4 := hg.le
     refine RL.resume (X' := [orow 3 1 A2 x2.length c2 cs2, orow 2 1 A4 t1.length c4 cs4]) rfl (hs.call hg) ?_
     clear hs hg
     generalize w'.heap.size = nx4
     clear w w'
     refine RL.s 3 [(22, i6 (W .i64 (x4 + 1))), (20, .slice Ap0 a0.length cp0), (19, .slice A4 t1.length c4), (0, .slice Ap0 a0.length cp0), (3, .slice A2 x2.length c2), (4, i6 x3), (5, i6 x4)] ?_
     obtain ⟨t2, hA2, H⟩ := bnd H
     refine RL.callP 24 [.slice Ap0 a0.length cp0, i6 (W .i64 (x4 + 1))] (some 23) (fun w => armillaryref22_Best.Post I4 w t2) (by kernel_rfl) (by kernel_rfl) (fun w hs => armillaryref22_Best.calls kq1 I4 a0 Ap0 cp0 (W .i64 (x4 + 1)) w hs.im hlp0 (Rd.ext (Imm.le_trans hi2 hi4) hrp0) t2 hA2) ?_
     rintro w v w' hs ⟨I5, A5, c5, cs5, rfl, hg, hp5⟩
     have hi5 := hg.le
     refine RL.resume (X' := [orow 3 1 A2 x2.length c2 cs2, orow 2 1 A4 t1.length c4 cs4, orow 2 1 A5 t2.length c5 cs5]) rfl (hs.call hg) ?_
     clear hs hg
     generalize w'.heap.size = nx5
     clear w w'
     refine RL.st 3 [(8, i6 (-1)), (7, .slice A5 t2.length c5), (6, .slice A4 t1.length c4), (0, .slice Ap0 a0.length cp0), (3, .slice A2 x2.length c2), (4, i6 x3), (5, i6 x4)] ?_
     refine OK.sq ?_
     refine OK.sr ?_
     refine RL.st 1 [(9, i6 0), (8, i6 (-1)), (7, .slice A5 t2.length c5), (6, .slice A4 t1.length c4), (0, .slice Ap0 a0.length cp0), (3, .slice A2 x2.length c2), (4, i6 x3), (5, i6 x4)] ?_
     refine OK.join (fun K' I' _ L' X' => ∃ (x7 : Int), K' = [(0, .slice Ap0 a0.length cp0), (3, .slice A2 x2.length c2), (4, i6 x3), (5, i6 x4), (8, i6 x7)] ∧ L' = [] ∧ X' = [orow 3 1 A2 x2.length c2 cs2] ∧ Imm.le I5 I' ∧ armillaryref22_Solve.k4 x2 x3 x7 = some y2) ?_ ?_
     ·rintro _ I6 nx6 _ _ ⟨x7, rfl, rfl, rfl, hi6, H⟩
      rw [armillaryref22_Solve.k4] at H
      refine QN.then_ ?_
      refine OK.sq ?_
      refine OK.sr ?_
      refine RL.st 2 [(66, .bool (decide (x7 ≥ 0))), (0, .slice Ap0 a0.length cp0), (3, .slice A2 x2.length c2), (4, i6 x3), (5, i6 x4), (8, i6 x7)] ?_
      refine OK.join (fun K' I' _ L' X' => ∃ (x8 : Int), K' = [(0, .slice Ap0 a0.length cp0), (3, .slice A2 x2.length c2), (4, i6 x8), (5, i6 x4), (8, i6 x7)] ∧ L' = [] ∧ X' = [orow 3 1 A2 x2.length c2 cs2] ∧ Imm.le I6 I' ∧ armillaryref22_Solve.k3 x2 x7 x8 = some y2) ?_ ?_
      ·rintro _ I7 nx7 _ _ ⟨x8, rfl, rfl, rfl, hi7, H⟩
       rw [armillaryref22_Solve.k3] at H
       refine QN.then_ ?_
       refine OK.rg ?_
       refine RL.sp 3 [(73, .slice (some ⟨nx7, 0, none⟩) 1 1), (71, .slice A2 x2.length c2), (0, .slice Ap0 a0.length cp0), (3, .slice A2 x2.length c2), (4, i6 x8), (5, i6 x4)] (nx7 + 1) [⟨nx7, [i6 x7], 3⟩] ?_
       obtain ⟨hz1, H⟩ := ifs H
       refine RL.appendB (T := 23) (e := 3) (S := A2) 1 8 23 c2 0 1 nx7 3 cs2 [i6 x7] (Ty.int .i64) x2 [x7] 0 (some 74) (by kernel_rfl) (by kernel_rfl) (by kernel_rfl) (by kernel_rfl) (by kernel_rfl) (by decide) (by kernel_rfl) (Reps.ext (Imm.le_trans (Imm.le_trans (Imm.le_trans hi4 hi5) hi6) hi7) hp2) (by kernel_rfl) ⟨_, _, rfl, rfl, rfl⟩ hz1 (by omega) (fun A6 c6 nx8 cs6 hp6 => ?_)
       refine RL.sub (K' := [(74, .slice A6 ((x2 ++ [x7]).length) c6), (73, .slice (some ⟨nx7, 0, none⟩) 1 1), (0, .slice Ap0 a0.length cp0), (4, i6 x8), (5, i6 x4)]) (L' := [⟨nx7, [i6 x7], 3⟩]) (X' := [orow 3 1 A6 ((x2 ++ [x7]).length) c6 cs6]) (by kernel_rfl) (.refl _) (.refl _) ?_
       refine RL.s 1 [(3, .slice A6 ((x2 ++ [x7]).length) c6), (0, .slice Ap0 a0.length cp0), (4, i6 x8), (5, i6 x4)] ?_
       refine RL.nil (by kernel_rfl) ?_
       refine QN.blkN ?_
       obtain rfl := Option.some.inj H
       exact QN.sb (hJ3 _ _ _ _ _ ⟨(x2 ++ [x7]), x8, A6, c6, cs6, rfl, rfl, rfl, (Imm.le_trans (Imm.le_trans (Imm.le_trans hi4 hi5) hi6) hi7), hp6, HK2⟩) (.cons _ .slnil) (.refl _)
      ·intro Q_3 hJ5 hQ5
       obtain ⟨y4, H, HK4⟩ := bnd H
       refine OK.cd (decide (x7 ≥ 0)) (fun hb => ?_) (fun hb => ?_)
       ·skip
        have hc := (of_decide_eq_true hb)
        rw [if_pos hc] at H
        clear hb
        refine OK.rg ?_
        refine RL.s 2 [(68, i6 x7), (67, i6 x3), (0, .slice Ap0 a0.length cp0), (3, .slice A2 x2.length c2), (4, i6 x3), (5, i6 x4), (8, i6 x7)] ?_
        obtain ⟨hc, H⟩ := ifs H
        refine RL.shl .i64 .i64 1 x7 (some 69) (by kernel_rfl) (by kernel_rfl) hc (K' := [(69, i6 (W .i64 (1 * 2 ^ (min (x7).toNat 64)))), (68, i6 x7), (67, i6 x3), (0, .slice Ap0 a0.length cp0), (3, .slice A2 x2.length c2), (4, i6 x3), (5, i6 x4), (8, i6 x7)]) (by kernel_rfl) ?_
        refine RL.s 2 [(4, i6 (bOr .i64 x3 (W .i64 (1 * 2 ^ (min (x7).toNat 64))))), (0, .slice Ap0 a0.length cp0), (3, .slice A2 x2.length c2), (5, i6 x4), (8, i6 x7)] ?_
        refine RL.nil (by kernel_rfl) ?_
        obtain rfl := Option.some.inj H
        exact QN.sb (hJ5 _ _ _ _ _ ⟨bOr .i64 x3 (W .i64 (1 * 2 ^ (min (x7).toNat 64))), rfl, rfl, rfl, (Imm.le_refl _), HK4⟩) .slnil (.refl _)
       ·skip
        have hc := (of_decide_eq_false hb)
        rw [if_neg hc] at H
        clear hb
        refine OK.sk ?_
        obtain rfl := Option.some.inj H
        exact QN.sb (hJ5 _ _ _ _ _ ⟨x3, rfl, rfl, rfl, (Imm.le_refl _), HK4⟩) .slnil (.refl _)
     ·intro Q_4 hJ4 hQ4
      obtain ⟨y3, H, HK3⟩ := bnd H
      refine OK.bk 2 ?_
      refine OK.sub (K' := [(0, .slice Ap0 a0.length cp0), (3, .slice A2 x2.length c2), (4, i6 x3), (5, i6 x4), (6, .slice A4 t1.length c4), (7, .slice A5 t2.length c5), (8, i6 (-1)), (9, i6 0)]) (L' := []) (by kernel_rfl) .slnil (.refl _) ?_
      refine OK.lp (fun n_ K' I' _ L' X' => ∃ (x9 : Int) (x10 : Int), K' = [(0, .slice Ap0 a0.length cp0), (3, .slice A2 x2.length c2), (4, i6 x3), (5, i6 x4), (6, .slice A4 t1.length c4), (7, .slice A5 t2.length c5), (8, i6 x9), (9, i6 x10)] ∧ L' = [] ∧ X' = [orow 3 1 A2 x2.length c2 cs2, orow 2 1 A4 t1.length c4 cs4, orow 2 1 A5 t2.length c5 cs5] ∧ Imm.le I5 I' ∧ armillaryref22_Solve.l2 a0 x3 x4 t1 t2 n_ x9 x10 = some y3) kq1 ⟨(-1), 0, rfl, rfl, rfl, (Imm.le_refl _), H⟩ ?_ ?_
      ·rintro _ _ _ _ _ ⟨x9, x10, rfl, rfl, rfl, _, H⟩
       cases H
      ·rintro kq2 _ I8 nx9 _ _ ⟨x9, x10, rfl, rfl, rfl, hi8, H⟩ Q_l2 hJ6 hQ6
       rw [armillaryref22_Solve.l2] at H
       refine OK.sq ?_
       refine OK.sq ?_
       refine OK.join (fun K' I' _ L' X' => ∃ (x11 : Bool), K' = [(0, .slice Ap0 a0.length cp0), (3, .slice A2 x2.length c2), (4, i6 x3), (5, i6 x4), (6, .slice A4 t1.length c4), (7, .slice A5 t2.length c5), (8, i6 x9), (9, i6 x10), (34, .bool x11)] ∧ L' = [] ∧ X' = [orow 3 1 A2 x2.length c2 cs2, orow 2 1 A4 t1.length c4 cs4, orow 2 1 A5 t2.length c5 cs5] ∧ Imm.le I8 I' ∧ (if x11 = true then ((if 0 ≤ x10 then (if (bAnd .i64 (Int.fdiv x3 (2 ^ (min (x10).toNat 64))) 1) = 0 then (if 0 ≤ x4 then (if x4 < (a0.length : Int) then (if 0 ≤ x10 then (if x10 < ((a0.getD (x4).toNat []).length : Int) then (if 0 ≤ x10 then (if 0 ≤ (bOr .i64 x3 (W .i64 (1 * 2 ^ (min (x10).toNat 64)))) then (if (bOr .i64 x3 (W .i64 (1 * 2 ^ (min (x10).toNat 64)))) < (t2.length : Int) then (if 0 ≤ x3 then (if x3 < (t1.length : Int) then (some ((W .i64 (((a0.getD (x4).toNat []).getD (x10).toNat 0) + (t2.getD (bOr .i64 x3 (W .i64 (1 * 2 ^ (min (x10).toNat 64)))).toNat 0))) == (t1.getD (x3).toNat 0))) else none) else none) else none) else none) else none) else none) else none) else none) else none) else (some false)) else none).bind (fun x12 => ((if x12 = true then (some x10) else (some x9)).bind (fun x13 => (armillaryref22_Solve.l2 a0 x3 x4 t1 t2 kq2 x13 (W .i64 (x10 + 1))))))) else (some x9)) = some y3) ?_ ?_
       ·rintro _ I9 nx10 _ _ ⟨x11, rfl, rfl, rfl, hi9, H⟩
        replace H : (if x11 = true then ((if 0 ≤ x10 then (if (bAnd .i64 (Int.fdiv x3 (2 ^ (min (x10).toNat 64))) 1) = 0 then (if 0 ≤ x4 then (if x4 < (a0.length : Int) then (if 0 ≤ x10 then (if x10 < ((a0.getD (x4).toNat []).length : Int) then (if 0 ≤ x10 then (if 0 ≤ (bOr .i64 x3 (W .i64 (1 * 2 ^ (min (x10).toNat 64)))) then (if (bOr .i64 x3 (W .i64 (1 * 2 ^ (min (x10).toNat 64)))) < (t2.length : Int) then (if 0 ≤ x3 then (if x3 < (t1.length : Int) then (some ((W .i64 (((a0.getD (x4).toNat []).getD (x10).toNat 0) + (t2.getD (bOr .i64 x3 (W .i64 (1 * 2 ^ (min (x10).toNat 64)))).toNat 0))) == (t1.getD (x3).toNat 0))) else none) else none) else none) else none) else none) else none) else none) else none) else none) else (some false)) else none).bind (fun x12 => ((if x12 = true then (some x10) else (some x9)).bind (fun x13 => (armillaryref22_Solve.l2 a0 x3 x4 t1 t2 kq2 x13 (W .i64 (x10 + 1))))))) else (some x9)) = some y3 := H
        refine QN.then_ ?_
        refine OK.cd x11 (fun hb => ?_) (fun hb => ?_)
        ·skip
         have hc := hb
         rw [if_pos hc] at H
         clear hb
         refine OK.skt ?_
         refine OK.sq ?_
         refine OK.bk 3 ?_
         refine OK.sq ?_
         refine OK.join (fun K' I' _ L' X' => ∃ (x12 : Bool), K' = [(0, .slice Ap0 a0.length cp0), (3, .slice A2 x2.length c2), (4, i6 x3), (5, i6 x4), (6, .slice A4 t1.length c4), (7, .slice A5 t2.length c5), (8, i6 x9), (9, i6 x10), (63, .bool x12)] ∧ L' = [] ∧ X' = [orow 3 1 A2 x2.length c2 cs2, orow 2 1 A4 t1.length c4 cs4, orow 2 1 A5 t2.length c5 cs5] ∧ Imm.le I9 I' ∧ ((if x12 = true then (some x10) else (some x9)).bind (fun x13 => (armillaryref22_Solve.l2 a0 x3 x4 t1 t2 kq2 x13 (W .i64 (x10 + 1))))) = some y3) ?_ ?_
         ·rintro _ I10 nx11 _ _ ⟨x12, rfl, rfl, rfl, hi10, H⟩
          replace H : ((if x12 = true then (some x10) else (some x9)).bind (fun x13 => (armillaryref22_Solve.l2 a0 x3 x4 t1 t2 kq2 x13 (W .i64 (x10 + 1))))) = some y3 := H
          refine QN.then_ ?_
          refine OK.join (fun K' I' _ L' X' => ∃ (x13 : Int), K' = [(0, .slice Ap0 a0.length cp0), (3, .slice A2 x2.length c2), (4, i6 x3), (5, i6 x4), (6, .slice A4 t1.length c4), (7, .slice A5 t2.length c5), (8, i6 x13), (9, i6 x10)] ∧ L' = [] ∧ X' = [orow 3 1 A2 x2.length c2 cs2, orow 2 1 A4 t1.length c4 cs4, orow 2 1 A5 t2.length c5 cs5] ∧ Imm.le I10 I' ∧ (armillaryref22_Solve.l2 a0 x3 x4 t1 t2 kq2 x13 (W .i64 (x10 + 1))) = some y3) ?_ ?_
          ·rintro _ I11 nx12 _ _ ⟨x13, rfl, rfl, rfl, hi11, H⟩
           replace H : (armillaryref22_Solve.l2 a0 x3 x4 t1 t2 kq2 x13 (W .i64 (x10 + 1))) = some y3 := H
           refine QN.blkN ?_
           refine QN.then_ ?_
           refine OK.rg ?_
           refine RL.s 3 [(9, i6 (W .i64 (x10 + 1))), (0, .slice Ap0 a0.length cp0), (3, .slice A2 x2.length c2), (4, i6 x3), (5, i6 x4), (6, .slice A4 t1.length c4), (7, .slice A5 t2.length c5), (8, i6 x13)] ?_
           refine RL.nil (by kernel_rfl) ?_
           exact QN.sb (hJ6 _ _ _ _ _ ⟨x13, W .i64 (x10 + 1), rfl, rfl, rfl, (Imm.le_trans (Imm.le_trans (Imm.le_trans hi8 hi9) hi10) hi11), H⟩) .slnil (.refl _)
          ·intro Q_5 hJ9 hQ9
           obtain ⟨y7, H, HK7⟩ := bnd H
           refine OK.cd x12 (fun hb => ?_) (fun hb => ?_)
           ·skip
            have hc := hb
            rw [if_pos hc] at H
            clear hb
            refine OK.rg ?_
            refine RL.s 2 [(8, i6 x10), (0, .slice Ap0 a0.length cp0), (3, .slice A2 x2.length c2), (4, i6 x3), (5, i6 x4), (6, .slice A4 t1.length c4), (7, .slice A5 t2.length c5), (9, i6 x10)] ?_
            refine RL.nil (by kernel_rfl) ?_
            obtain rfl := Option.some.inj H
            exact QN.sb (hJ9 _ _ _ _ _ ⟨x10, rfl, rfl, rfl, (Imm.le_refl _), HK7⟩) .slnil (.refl _)
           ·skip
            have hc := (Bool.eq_false_iff.1 hb)
            rw [if_neg hc] at H
            clear hb
            refine OK.sk ?_
            obtain rfl := Option.some.inj H
            exact QN.sb (hJ9 _ _ _ _ _ ⟨x9, rfl, rfl, rfl, (Imm.le_refl _), HK7⟩) .slnil (.refl _)
         ·intro Q_6 hJ8 hQ8
          obtain ⟨y6, H, HK6⟩ := bnd H
          obtain ⟨hc1, H⟩ := ifs H
          refine OK.cases ((bAnd .i64 (Int.fdiv x3 (2 ^ (min (x10).toNat 64))) 1) == 0) (fun hb1 => ?_) (fun hb1 => ?_)
          ·have hc2 := (beq_iff_eq.1 hb1)
           rw [if_pos hc2] at H
           obtain ⟨hi0_1, H⟩ := ifs H
           obtain ⟨hi1_1, H⟩ := ifs H
           obtain ⟨g1_, o1_, hA1_, A1_, c1_, hl1_, hr1_, hc1_⟩ := Ty.slice_at (Rd.ext (Imm.le_trans (Imm.le_trans (Imm.le_trans (Imm.le_trans hi2 hi4) hi5) hi8) hi9) hrp0) x4 hi0_1 hi1_1
           obtain ⟨hi0_2, H⟩ := ifs H
           obtain ⟨hi1_2, H⟩ := ifs H
           obtain ⟨g2_, o2_, hA2_, hc2_⟩ := Ty.int_at hr1_ x10 hi0_2 hi1_2
           obtain ⟨hc3, H⟩ := ifs H
           obtain ⟨hi0_3, H⟩ := ifs H
           obtain ⟨hi1_3, H⟩ := ifs H
           refine OK.ownAddr (e := 2) (sz := 1) (S := A5) (n := t2.length) (cap := c5) (cs := cs5) 2 (by kernel_rfl) (by omega) (fun g3_ hA3_ => ?_)
           have hc3_ := Ty.int_own (Reps.ext (Imm.le_trans hi8 hi9) hp5) (bOr .i64 x3 (W .i64 (1 * 2 ^ (min (x10).toNat 64)))) hi0_3 hi1_3
           have hx03_ := hi0_3; have hx13_ := hi1_3
           obtain ⟨hi0_4, H⟩ := ifs H
           obtain ⟨hi1_4, H⟩ := ifs H
           refine OK.ownAddr (e := 2) (sz := 1) (S := A4) (n := t1.length) (cap := c4) (cs := cs4) 1 (by kernel_rfl) (by omega) (fun g4_ hA4_ => ?_)
           have hc4_ := Ty.int_own (Reps.ext (Imm.le_trans (Imm.le_trans hi5 hi8) hi9) hp4) x3 hi0_4 hi1_4
           have hx04_ := hi0_4; have hx14_ := hi1_4
           refine OK.drawnC 9 25 O18_40 a18_40n (by kernel_rfl) (by kernel_rfl) u18d1l (u18d1g x3 x4 x10 g1_ o1_ g2_ o2_ g3_ g4_) [(⟨g1_, o1_ + (x4).toNat * 1, none⟩, .slice A1_ ((a0.getD (x4).toNat []).length) c1_), (⟨g2_, o2_ + (x10).toNat * 1, none⟩, i6 ((a0.getD (x4).toNat []).getD (x10).toNat 0)), (⟨g3_, 0 + (bOr .i64 x3 (W .i64 (1 * 2 ^ (min (x10).toNat 64)))).toNat * 1, none⟩, i6 (t2.getD (bOr .i64 x3 (W .i64 (1 * 2 ^ (min (x10).toNat 64)))).toNat 0)), (⟨g4_, 0 + (x3).toNat * 1, none⟩, i6 (t1.getD (x3).toNat 0))] (RI.cons (hc1_ 0 _ rfl) (RI.cons (hc2_ 0 _ rfl) (RI.own (e := 2) (sz := 1) (S := A5) (n := t2.length) (cap := c5) (cs := cs5) 2 (by kernel_rfl) hA3_ (0 + (bOr .i64 x3 (W .i64 (1 * 2 ^ (min (x10).toNat 64)))).toNat * 1) ((bOr .i64 x3 (W .i64 (1 * 2 ^ (min (x10).toNat 64)))).toNat * 1 + 0) (by omega) (hc3_ 0 _ rfl) (RI.own (e := 2) (sz := 1) (S := A4) (n := t1.length) (cap := c4) (cs := cs4) 1 (by kernel_rfl) hA4_ (0 + (x3).toNat * 1) ((x3).toNat * 1 + 0) (by omega) (hc4_ 0 _ rfl) (RI.nil _))))) [.no, .no, .no, .no, .no, .no, .no, .no, .no, .r 0, .no, .no, .r 1, .no, .no, .no, .no, .no, .no, .r 2, .no, .no, .no, .no, .r 3] a18_40 a18_40o (by kernel_rfl) (by kernel_rfl) (u18d1s a0 Ap0 cp0 x3 x4 t1 A4 c4 t2 A5 c5 x10 A1_ c1_ g1_ o1_ g2_ o2_ g3_ g4_) (u18d1f a0 Ap0 cp0 x2 A2 c2 x3 x4 t1 A4 c4 t2 A5 c5 x9 x10 x11 A1_ c1_ g1_ o1_ g2_ o2_ g3_ g4_ 25) (u18d1v a0 Ap0 cp0 x2 A2 c2 x3 x4 t1 A4 c4 t2 A5 c5 x9 x10 x11 A1_ c1_ g1_ o1_ g2_ o2_ g3_ g4_) (u18d1e a0 Ap0 cp0 x2 A2 c2 x3 x4 t1 A4 c4 t2 A5 c5 x9 x10 x11 A1_ c1_ g1_ o1_ g2_ o2_ g3_ g4_) [] framesOk.nil ?_ [u18d1f a0 Ap0 cp0 x2 A2 c2 x3 x4 t1 A4 c4 t2 A5 c5 x9 x10 x11 A1_ c1_ g1_ o1_ g2_ o2_ g3_ g4_ 2, u18d1f a0 Ap0 cp0 x2 A2 c2 x3 x4 t1 A4 c4 t2 A5 c5 x9 x10 x11 A1_ c1_ g1_ o1_ g2_ o2_ g3_ g4_ 5, u18d1f a0 Ap0 cp0 x2 A2 c2 x3 x4 t1 A4 c4 t2 A5 c5 x9 x10 x11 A1_ c1_ g1_ o1_ g2_ o2_ g3_ g4_ 8, u18d1f a0 Ap0 cp0 x2 A2 c2 x3 x4 t1 A4 c4 t2 A5 c5 x9 x10 x11 A1_ c1_ g1_ o1_ g2_ o2_ g3_ g4_ 11, u18d1f a0 Ap0 cp0 x2 A2 c2 x3 x4 t1 A4 c4 t2 A5 c5 x9 x10 x11 A1_ c1_ g1_ o1_ g2_ o2_ g3_ g4_ 16, u18d1f a0 Ap0 cp0 x2 A2 c2 x3 x4 t1 A4 c4 t2 A5 c5 x9 x10 x11 A1_ c1_ g1_ o1_ g2_ o2_ g3_ g4_ 18, u18d1f a0 Ap0 cp0 x2 A2 c2 x3 x4 t1 A4 c4 t2 A5 c5 x9 x10 x11 A1_ c1_ g1_ o1_ g2_ o2_ g3_ g4_ 23] (framesOk.cons (fun u => rfl) (framesOk.cons (fun u => rfl) (framesOk.cons (fun u => rfl) (framesOk.cons (fun u => rfl) (framesOk.cons (fun u => rfl) (framesOk.cons (fun u => rfl) (framesOk.cons (fun u => rfl) framesOk.nil))))))) ?_ ?_
           ·refine LoudsG.nil
           ·refine Givens.cons (fun u w =>  ?_) (fun _ _ _ => rfl) (Givens.cons (fun u w =>  ?_) (fun _ _ _ => rfl) (Givens.cons (fun u w =>  ?_) (fun _ _ _ => rfl) (Givens.cons (fun u w =>  ?_) (fun _ _ _ => rfl) (Givens.cons (fun u w =>  ?_) (fun _ _ _ => rfl) (Givens.cons (fun u w =>  ?_) (fun _ _ _ => rfl) (Givens.cons (fun u w =>  ?_) (fun _ _ _ => rfl) (Givens.nil)))))))
            ·exact giv_shr .i64 .i64 x3 x10 (by kernel_rfl) hc1 w
            ·exact giv_run (v := .bool ((bAnd .i64 (Int.fdiv x3 (2 ^ (min (x10).toNat 64))) 1) == 0)) (by kernel_rfl) (by rw [hb1]; try rfl) w
            ·exact giv_idx (T := 22) (e := 24) 1 .i64 x4 hA1_ a0.length cp0 (by kernel_rfl) (by kernel_rfl) (by kernel_rfl) hi0_1 hi1_1 w
            ·exact giv_idx (T := 24) (e := 2) 1 .i64 x10 hA2_ ((a0.getD (x4).toNat []).length) c1_ (by kernel_rfl) (by kernel_rfl) (by kernel_rfl) hi0_2 hi1_2 w
            ·exact giv_shl .i64 .i64 1 x10 (by kernel_rfl) hc3 w
            ·exact giv_idx (T := 24) (e := 2) 1 .i64 (bOr .i64 x3 (W .i64 (1 * 2 ^ (min (x10).toNat 64)))) hA3_ t2.length c5 (by kernel_rfl) (by kernel_rfl) (by kernel_rfl) hi0_3 hi1_3 w
            ·exact giv_idx (T := 24) (e := 2) 1 .i64 x3 hA4_ t1.length c4 (by kernel_rfl) (by kernel_rfl) (by kernel_rfl) hi0_4 hi1_4 w
           intro u I12 nx13 hi12 hF
           clear hF
           refine RL.norm (K' := ((61, i6 (t1.getD (x3).toNat 0)) :: (60, pt g4_ (0 + (x3).toNat * 1)) :: (59, i6 x3) :: (58, .slice A4 t1.length c4) :: (57, i6 (W .i64 (((a0.getD (x4).toNat []).getD (x10).toNat 0) + (t2.getD (bOr .i64 x3 (W .i64 (1 * 2 ^ (min (x10).toNat 64)))).toNat 0)))) :: (56, i6 (t2.getD (bOr .i64 x3 (W .i64 (1 * 2 ^ (min (x10).toNat 64)))).toNat 0)) :: (55, pt g3_ (0 + (bOr .i64 x3 (W .i64 (1 * 2 ^ (min (x10).toNat 64)))).toNat * 1)) :: (54, i6 (bOr .i64 x3 (W .i64 (1 * 2 ^ (min (x10).toNat 64))))) :: (53, i6 (W .i64 (1 * 2 ^ (min (x10).toNat 64)))) :: (52, i6 x10) :: (51, i6 x3) :: (50, .slice A5 t2.length c5) :: (49, i6 ((a0.getD (x4).toNat []).getD (x10).toNat 0)) :: (48, pt g2_ (o2_ + (x10).toNat * 1)) :: (47, i6 x10) :: (46, .slice A1_ ((a0.getD (x4).toNat []).length) c1_) :: (45, pt g1_ (o1_ + (x4).toNat * 1)) :: (44, i6 x4) :: (43, .slice Ap0 a0.length cp0) :: (42, .bool true) :: (41, .bool ((bAnd .i64 (Int.fdiv x3 (2 ^ (min (x10).toNat 64))) 1) == 0)) :: (40, i6 (bAnd .i64 (Int.fdiv x3 (2 ^ (min (x10).toNat 64))) 1)) :: (39, i6 (Int.fdiv x3 (2 ^ (min (x10).toNat 64)))) :: (38, i6 x10) :: (37, i6 x3) :: (0, .slice Ap0 a0.length cp0) :: (3, .slice A2 x2.length c2) :: (4, i6 x3) :: (5, i6 x4) :: (6, .slice A4 t1.length c4) :: (7, .slice A5 t2.length c5) :: (8, i6 x9) :: (9, i6 x10) :: (34, .bool x11) :: [])) (X' := [orow 3 1 A2 x2.length c2 cs2, orow 2 1 A4 t1.length c4 cs4, orow 2 1 A5 t2.length c5 cs5]) (by kernel_rfl) rfl rfl rfl ?_
           refine RL.s 2 [(63, .bool ((W .i64 (((a0.getD (x4).toNat []).getD (x10).toNat 0) + (t2.getD (bOr .i64 x3 (W .i64 (1 * 2 ^ (min (x10).toNat 64)))).toNat 0))) == (t1.getD (x3).toNat 0))), (0, .slice Ap0 a0.length cp0), (3, .slice A2 x2.length c2), (4, i6 x3), (5, i6 x4), (6, .slice A4 t1.length c4), (7, .slice A5 t2.length c5), (8, i6 x9), (9, i6 x10)] ?_
           refine RL.nil (by kernel_rfl) ?_
           obtain rfl := Option.some.inj H
           exact QN.sb (hJ8 _ _ _ _ _ ⟨((W .i64 (((a0.getD (x4).toNat []).getD (x10).toNat 0) + (t2.getD (bOr .i64 x3 (W .i64 (1 * 2 ^ (min (x10).toNat 64)))).toNat 0))) == (t1.getD (x3).toNat 0)), rfl, rfl, rfl, hi12, HK6⟩) .slnil (.refl _)
          ·have hc2 := (beq_eq_false_iff_ne.1 hb1)
           rw [if_neg hc2] at H
           refine OK.drawnC 9 25 O18_40 a18_40n (by kernel_rfl) (by kernel_rfl) u18d2l (u18d2g x3 x10) [] (RI.nil _) [.no, .no, .no, .no, .no, .no, .no, .no, .no, .no, .no, .no, .no, .no, .no, .no, .no, .no, .no, .no, .no, .no, .no, .no, .no] a18_40 a18_40o (by kernel_rfl) (by kernel_rfl) (u18d2s x3 x10) (u18d2f a0 Ap0 cp0 x2 A2 c2 x3 x4 t1 A4 c4 t2 A5 c5 x9 x10 x11 25) (u18d2v a0 Ap0 cp0 x2 A2 c2 x3 x4 t1 A4 c4 t2 A5 c5 x9 x10 x11) (u18d2e a0 Ap0 cp0 x2 A2 c2 x3 x4 t1 A4 c4 t2 A5 c5 x9 x10 x11) [] framesOk.nil ?_ [u18d2f a0 Ap0 cp0 x2 A2 c2 x3 x4 t1 A4 c4 t2 A5 c5 x9 x10 x11 2, u18d2f a0 Ap0 cp0 x2 A2 c2 x3 x4 t1 A4 c4 t2 A5 c5 x9 x10 x11 5] (framesOk.cons (fun u => rfl) (framesOk.cons (fun u => rfl) framesOk.nil)) ?_ ?_
           ·refine LoudsG.nil
           ·refine Givens.cons (fun u w =>  ?_) (fun _ _ _ => rfl) (Givens.cons (fun u w =>  ?_) (fun _ _ _ => rfl) (Givens.nil))
            ·exact giv_shr .i64 .i64 x3 x10 (by kernel_rfl) hc1 w
            ·exact giv_run (v := .bool ((bAnd .i64 (Int.fdiv x3 (2 ^ (min (x10).toNat 64))) 1) == 0)) (by kernel_rfl) (by rw [hb1]; try rfl) w
           intro u I13 nx14 hi13 hF
           clear hF
           refine RL.norm (K' := ((61, undef) :: (60, undef) :: (59, undef) :: (58, undef) :: (57, undef) :: (56, undef) :: (55, undef) :: (54, undef) :: (53, undef) :: (52, undef) :: (51, undef) :: (50, undef) :: (49, undef) :: (48, undef) :: (47, undef) :: (46, undef) :: (45, undef) :: (44, undef) :: (43, undef) :: (42, .bool false) :: (41, .bool ((bAnd .i64 (Int.fdiv x3 (2 ^ (min (x10).toNat 64))) 1) == 0)) :: (40, i6 (bAnd .i64 (Int.fdiv x3 (2 ^ (min (x10).toNat 64))) 1)) :: (39, i6 (Int.fdiv x3 (2 ^ (min (x10).toNat 64)))) :: (38, i6 x10) :: (37, i6 x3) :: (0, .slice Ap0 a0.length cp0) :: (3, .slice A2 x2.length c2) :: (4, i6 x3) :: (5, i6 x4) :: (6, .slice A4 t1.length c4) :: (7, .slice A5 t2.length c5) :: (8, i6 x9) :: (9, i6 x10) :: (34, .bool x11) :: [])) (X' := [orow 3 1 A2 x2.length c2 cs2, orow 2 1 A4 t1.length c4 cs4, orow 2 1 A5 t2.length c5 cs5]) (by kernel_rfl) rfl rfl rfl ?_
           refine RL.s 2 [(63, .bool false), (0, .slice Ap0 a0.length cp0), (3, .slice A2 x2.length c2), (4, i6 x3), (5, i6 x4), (6, .slice A4 t1.length c4), (7, .slice A5 t2.length c5), (8, i6 x9), (9, i6 x10)] ?_
           refine RL.nil (by kernel_rfl) ?_
           obtain rfl := Option.some.inj H
           exact QN.sb (hJ8 _ _ _ _ _ ⟨false, rfl, rfl, rfl, hi13, HK6⟩) .slnil (.refl _)
        ·skip
         have hc := (Bool.eq_false_iff.1 hb)
         rw [if_neg hc] at H
         clear hb
         refine OK.ex 2 ?_
         refine QN.thenE ?_
         refine QN.outE hQ6 ?_
         refine QN.blkE ?_
         obtain rfl := Option.some.inj H
         refine QN.sel (K' := [(0, .slice Ap0 a0.length cp0), (3, .slice A2 x2.length c2), (4, i6 x3), (5, i6 x4), (8, i6 x9)]) (L' := []) [0] (by kernel_rfl) (by kernel_rfl) .slnil ?_
         refine QN.norm (X' := [orow 3 1 A2 x2.length c2 cs2]) rfl rfl rfl (by kernel_rfl) ?_
         exact hJ4 _ _ _ _ _ ⟨x9, rfl, rfl, rfl, (Imm.le_trans hi8 hi9), HK3⟩
       ·intro Q_7 hJ7 hQ7
        obtain ⟨y5, H, HK5⟩ := bnd H
        refine OK.rg ?_
        refine RL.s 3 [(26, i6 x4), (25, .slice Ap0 a0.length cp0), (24, i6 x10), (0, .slice Ap0 a0.length cp0), (3, .slice A2 x2.length c2), (4, i6 x3), (5, i6 x4), (6, .slice A4 t1.length c4), (7, .slice A5 t2.length c5), (8, i6 x9), (9, i6 x10)] ?_
        obtain ⟨hib0, H⟩ := ifs H
        obtain ⟨hib1, H⟩ := ifs H
        obtain ⟨g5_, o5_, hA5_, A5_, c5_, hl5_, hr5_, hc5_⟩ := Ty.slice_at (Rd.ext (Imm.le_trans (Imm.le_trans (Imm.le_trans hi2 hi4) hi5) hi8) hrp0) x4 hib0 hib1
        refine RL.idx 1 .i64 x4 hA5_ a0.length cp0 (some 27) (by kernel_rfl) (by kernel_rfl) (T := 22) (e := 24) (by kernel_rfl) (by kernel_rfl) hib0 hib1 (K' := [(27, pt g5_ (o5_ + (x4).toNat * 1)), (26, i6 x4), (25, .slice Ap0 a0.length cp0), (24, i6 x10), (0, .slice Ap0 a0.length cp0), (3, .slice A2 x2.length c2), (4, i6 x3), (5, i6 x4), (6, .slice A4 t1.length c4), (7, .slice A5 t2.length c5), (8, i6 x9), (9, i6 x10)]) (by kernel_rfl) ?_
        refine RL.simK (K' := [(31, .bool (decide (x10 < ((a0.getD (x4).toNat []).length : Int)))), (0, .slice Ap0 a0.length cp0), (3, .slice A2 x2.length c2), (4, i6 x3), (5, i6 x4), (6, .slice A4 t1.length c4), (7, .slice A5 t2.length c5), (8, i6 x9), (9, i6 x10)]) [(⟨g5_, o5_ + (x4).toNat * 1, none⟩, .slice A5_ ((a0.getD (x4).toNat []).length) c5_)] (RFacts.imm (hc5_ 0 _ rfl) (RFacts.nil _ _ _)) 4 [.r 0, .no, .no, .no] (by kernel_rfl) (by kernel_rfl) ?_
        refine RL.cases (decide (x10 < ((a0.getD (x4).toNat []).length : Int))) (fun hb => ?_) (fun hb => ?_)
        ·have hc := (of_decide_eq_true hb)
         rw [hb]
         rw [if_pos hc] at H; clear hb
         refine RL.s 3 [(34, .bool (decide (x9 < 0))), (0, .slice Ap0 a0.length cp0), (3, .slice A2 x2.length c2), (4, i6 x3), (5, i6 x4), (6, .slice A4 t1.length c4), (7, .slice A5 t2.length c5), (8, i6 x9), (9, i6 x10)] ?_
         refine RL.nil (by kernel_rfl) ?_
         obtain rfl := Option.some.inj H
         exact QN.sb (hJ7 _ _ _ _ _ ⟨(decide (x9 < 0)), rfl, rfl, rfl, (Imm.le_refl _), HK5⟩) .slnil (.refl _)
        ·have hc := (of_decide_eq_false hb)
         rw [hb]
         rw [if_neg hc] at H; clear hb
         refine RL.s 3 [(34, .bool false), (0, .slice Ap0 a0.length cp0), (3, .slice A2 x2.length c2), (4, i6 x3), (5, i6 x4), (6, .slice A4 t1.length c4), (7, .slice A5 t2.length c5), (8, i6 x9), (9, i6 x10)] ?_
         refine RL.nil (by kernel_rfl) ?_
         obtain rfl := Option.some.inj H
         exact QN.sb (hJ7 _ _ _ _ _ ⟨false, rfl, rfl, rfl, (Imm.le_refl _), HK5⟩) .slnil (.refl _)
   ·skip
    have hc := (of_decide_eq_false hb)
    rw [if_neg hc] at H
    clear hb
    refine OK.ex 0 ?_
    refine QN.thenE ?_
    refine QN.outE hQ2 ?_
    refine QN.blkE ?_
    obtain rfl := Option.some.inj H
    exact QN.sb (hJ1 _ _ _ _ _ ⟨x2, A2, c2, cs2, rfl, rfl, rfl, hi2, hp2, HK1⟩) .slnil (.refl _)

end Go.Proofs.Ytdmhbcgmimfjcaa
namespace Go.Proofs.Ytdmhbcgmimfjcaa.hun
open Go Go.Proofs.Ytdmhbcgmimfjcaa Go.Proofs.Ytdmhbcgmimfjcaa.RW
set_option linter.unusedVariables false
set_option maxRecDepth 100000
set_option maxHeartbeats 4000000
section
variable {w : List (List Int)} {m : Nat}
theorem Opt.next {l : List Int} {i : Nat} {V : Int} (hi : i < w.length) (hv : valid w m l) (h : Opt w m (i + 1) (taken (g l) (i + 1)) V) : (g l i = -1 ∧ Opt w m (i + 1) (taken (g l) i) V) ∨ (0 ≤ g l i ∧ g l i < (m : Int) ∧ taken (g l) i (g l i).toNat = false ∧ Opt w m (i + 1) (plus (taken (g l) i) (g l i).toNat) V) := by
  refine (hv.2 i hi).imp (fun e => ⟨e, h.congr fun j hj => ?_⟩) (fun ⟨h1, h2, h3⟩ => ⟨h1, h2, h3, h.congr fun j hj => ?_⟩)
  · rw [taken_succ, e, beq_eq_false_iff_ne.2 (by omega : (-1 : Int) ≠ (j : Int)), Bool.or_false]
  · rw [taken_succ]
    show _ = if j = (g l i).toNat then true else taken (g l) i j
    by_cases e2 : j = (g l i).toNat
    · rw [if_pos e2, beq_iff_eq.2 (by omega : g l i = (j : Int)), Bool.or_true]
    · rw [if_neg e2, beq_eq_false_iff_ne.2 (by omega : g l i ≠ (j : Int)), Bool.or_false]
theorem ahead_succ (w : List (List Int)) (a : Nat → Int) (i : Nat) : ahead w a (i + 1) = ahead w a i + if a i = -1 then 0 else we w i (a i).toNat := rfl
/-- What lies ahead and the best of what is left make up the whole. -/
theorem level (h : Vw w m) {l : List Int} {V0 : Int} (hop : Opt w m 0 none' V0) (hv : valid w m l) (hval : val w (g l) = V0) : ∀ i, i ≤ w.length → ∀ V, Opt w m i (taken (g l) i) V → ahead w (g l) i + V = V0 := by
  have step : ∀ i, i < w.length → ∀ V V', Opt w m i (taken (g l) i) V → Opt w m (i + 1) (taken (g l) (i + 1)) V' → ahead w (g l) (i + 1) + V' ≤ ahead w (g l) i + V := fun i hi V V' h1 h2 => by
    rw [ahead_succ]
    rcases h2.next hi hv with ⟨e, h3⟩ | ⟨e1, e2, e3, h3⟩
    · have := h1.weaken h3
      rw [if_pos e]
      omega
    · have := Opt.take hi (by omega : (g l i).toNat < m) e3 h1 h3
      rw [if_neg (by omega)]
      omega
  have up : ∀ i, i ≤ w.length → ∀ V, Opt w m i (taken (g l) i) V → ahead w (g l) i + V ≤ V0 := by
    intro i
    induction i with
    | zero =>
      intro _ V h1
      have := (h1.congr (used' := none') fun j hj => rfl).uniq hop
      show (0 : Int) + V ≤ V0
      omega
    | succ i ih =>
      intro hi V h1
      obtain ⟨V', h2, _⟩ := opt_at h (i := i) (by omega) (taken (g l) i)
      have := ih (by omega) V' h2
      have := step i (by omega) V' V h2 h1
      omega
  have down : ∀ d i, d + i = w.length → ∀ V, Opt w m i (taken (g l) i) V → V0 ≤ ahead w (g l) i + V := by
    intro d
    induction d with
    | zero =>
      intro i hi V h1
      obtain rfl : i = w.length := by omega
      have := h1.uniq Opt.last
      have : ahead w (g l) w.length = V0 := hval
      omega
    | succ d ih =>
      intro i hi V h1
      obtain ⟨V', h2, _⟩ := opt_at h (i := i + 1) (by omega) (taken (g l) (i + 1))
      have := ih (i + 1) (by omega) V' h2
      have := step i (by omega) V V' h1 h2
      omega
  intro i hi V h1
  have := up i hi V h1
  have := down (w.length - i) i (by omega) V h1
  omega
theorem rpick (h : Vw w m) (hm6 : m ≤ 6) {i x : Nat} (hi : i < w.length) (hx : x < 2 ^ m) {t1 t2 : List Int} (ht1 : Tab w m i t1) (ht2 : Tab w m (i + 1) t2) {c : Int}
    (hA : ∀ j, j < m → x.testBit j = false → (c = -1 ∨ (j : Int) < c) → we w i j + g t2 (x ||| 2 ^ j) ≠ g t1 x) (hB : c = -1 ∨ (0 ≤ c ∧ c < (m : Int) ∧ x.testBit c.toNat = false ∧ we w i c.toNat + g t2 (x ||| 2 ^ c.toNat) = g t1 x)) :
    ∀ (d k j : Nat), d + j = m → d + 1 < k → (c = -1 ∨ (j : Int) ≤ c) → armillaryref22_Solve.l2 w (x : Int) (i : Int) t1 t2 k (-1) (j : Int) = some c := by
  have hrl := h.rl i hi
  have hl : ((w.getD i []).length : Int) = (m : Int) := by show ((row w i).length : Int) = _; omega
  have hp := (bitP m (by omega)).2
  have htl := ht2.len
  have htl1 := ht1.len
  intro d
  induction d with
  | zero =>
    intro k j hd hk hc
    obtain ⟨k, rfl⟩ : ∃ m, k = m + 1 := ⟨k - 1, by omega⟩
    obtain rfl : j = m := by omega
    obtain rfl : c = -1 := by rcases hB with e | ⟨h1, h2, _⟩ <;> omega
    simp only [armillaryref22_Solve.l2, tn, hl]
    rw [if_pos (by omega), if_pos (by omega), if_neg (by omega), Option.bind_some, if_neg (by decide)]
  | succ d ih =>
    intro k j hd hk hc
    obtain ⟨k, rfl⟩ : ∃ m, k = m + 1 := ⟨k - 1, by omega⟩
    have hj : j < m := by omega
    have hlt := bitL hx hj
    simp only [armillaryref22_Solve.l2, tn, hl]
    rw [if_pos (by omega), if_pos (by omega), if_pos (by omega), Option.bind_some, if_pos (by decide), if_pos (by omega), bitA x (by omega) j (by omega), bitO x (by omega) j (by omega)]
    simp only [tn]
    by_cases e : x.testBit j = true
    · simp only [if_pos e]
      rw [if_neg (by decide), Option.bind_some, if_neg (by decide), Option.bind_some, Wn (by omega)]
      refine ih k (j + 1) (by omega) (by omega) ?_
      rcases hB with e2 | ⟨h1, h2, h3, _⟩
      · exact .inl e2
      · refine hc.imp id fun h4 => ?_
        by_cases e5 : (j : Int) = c
        · rw [show c.toNat = j by omega, e] at h3; cases h3
        · omega
    · have ef : x.testBit j = false := by revert e; cases x.testBit j <;> simp
      simp only [if_neg e]
      have hb := ht2.b h (by omega) hlt
      have he := h.eb i j hi hj
      rw [if_pos trivial, if_pos (by omega), if_pos (by omega), if_pos (by omega), if_pos (by omega), if_pos (by omega), if_pos (by omega), if_pos (by omega), if_pos (by omega), if_pos (by omega), Option.bind_some, Wn (by omega)]
      rw [show W .i64 ((w.getD i []).getD j 0 + t2.getD (x ||| 2 ^ j) 0) = we w i j + g t2 (x ||| 2 ^ j) from W64 (by show _ ≤ we w i j + g t2 (x ||| 2 ^ j); omega) (by show we w i j + g t2 (x ||| 2 ^ j) ≤ _; omega)]
      by_cases e2 : (j : Int) = c
      · obtain ⟨h1, h2, h3, h4⟩ := hB.resolve_left (by omega)
        rw [show c.toNat = j by omega] at h4
        rw [h4, show (g t1 x == t1.getD x 0) = true from beq_self_eq_true _, if_pos rfl, Option.bind_some]
        obtain ⟨k, rfl⟩ : ∃ m, k = m + 1 := ⟨k - 1, by omega⟩
        rw [← e2]
        simp only [armillaryref22_Solve.l2, tn, hl]
        rw [if_pos (by omega), if_pos (by omega)]
        by_cases e3 : ((j + 1 : Nat) : Int) < (m : Int)
        · rw [if_pos e3, decide_eq_false (by omega), Option.bind_some, if_neg (by decide)]
        · rw [if_neg e3, Option.bind_some, if_neg (by decide)]
      · have h5 := hA j hj ef (hc.imp id fun h4 => by omega)
        rw [show (we w i j + g t2 (x ||| 2 ^ j) == t1.getD x 0) = false from beq_eq_false_iff_ne.2 h5, if_neg (by decide), Option.bind_some]
        exact ih k (j + 1) (by omega) (by omega) (hc.imp id fun h4 => by omega)
theorem rsolve_loop (h : Vw w m) (hm6 : m ≤ 6) {l : List Int} {V0 : Int} (hop : Opt w m 0 none' V0) (hv : valid w m l) (hval : val w (g l) = V0) (hc : Chosen w m V0 (g l) w.length) : ∀ (d k i x : Nat) (o : List Int), d + i = w.length → d + 200 ≤ k → o.length = i → (∀ q, q < i → g o q = g l q) → x < 2 ^ m → (∀ j, j < m → x.testBit j = taken (g l) i j) →
    ∃ o', armillaryref22_Solve.l1 w k o (x : Int) (i : Int) = some o' ∧ o'.length = w.length ∧ ∀ q, q < w.length → g o' q = g l q := by
  have hn12 := h.nr
  have hp := (bitP m (by omega)).2
  intro d
  induction d with
  | zero =>
    intro k i x o hd hk ho hg hx ht
    obtain ⟨k, rfl⟩ : ∃ m, k = m + 1 := ⟨k - 1, by omega⟩
    obtain rfl : i = w.length := by omega
    refine ⟨o, ?_, ho, hg⟩
    simp only [armillaryref22_Solve.l1]
    rw [if_neg (by omega)]
  | succ d ih =>
    intro k i x o hd hk ho hg hx ht
    obtain ⟨k, rfl⟩ : ∃ m, k = m + 1 := ⟨k - 1, by omega⟩
    have hi : i < w.length := by omega
    obtain ⟨t1, e1, ht1⟩ := best_tab h hm6 (w.length - i) k i (by omega) (by omega)
    obtain ⟨t2, e2, ht2⟩ := best_tab h hm6 (w.length - (i + 1)) k (i + 1) (by omega) (by omega)
    have hV := (ht1.at_ x hx).congr ht
    have hlev := level h hop hv hval i (by omega) _ hV
    have hplus : ∀ j, j < m → Opt w m (i + 1) (plus (taken (g l) i) j) (g t2 (x ||| 2 ^ j)) := fun j hj => by
      have := ht2.at_ _ (bitL hx hj)
      rw [bitT] at this
      refine this.congr fun q hq => ?_
      show (if q = j then true else x.testBit q) = if q = j then true else taken (g l) i q
      rw [ht q hq]
    have hA : ∀ j, j < m → x.testBit j = false → (g l i = -1 ∨ (j : Int) < g l i) → we w i j + g t2 (x ||| 2 ^ j) ≠ g t1 x := fun j hj hu h1 => by
      obtain ⟨Vj, h2, h3⟩ := hc.lex i hi j hj (by rw [← ht j hj]; exact hu) h1
      have := h2.uniq (hplus j hj)
      omega
    have hB : g l i = -1 ∨ (0 ≤ g l i ∧ g l i < (m : Int) ∧ x.testBit (g l i).toNat = false ∧ we w i (g l i).toNat + g t2 (x ||| 2 ^ (g l i).toNat) = g t1 x) := by
      obtain ⟨V', h2, _⟩ := opt_at h (i := i + 1) (by omega) (taken (g l) (i + 1))
      have hlev2 := level h hop hv hval (i + 1) (by omega) _ h2
      rcases h2.next hi hv with ⟨e, _⟩ | ⟨h3, h4, h5, h6⟩
      · exact .inl e
      · have := h6.uniq (hplus (g l i).toNat (by omega))
        rw [ahead_succ, if_neg (by omega)] at hlev2
        exact .inr ⟨h3, h4, by rw [ht _ (by omega)]; exact h5, by omega⟩
    have e3 := rpick h hm6 hi hx ht1 ht2 hA hB m k 0 (by omega) (by omega) (by rcases hB with e | ⟨h1, _⟩ <;> omega)
    simp only [armillaryref22_Solve.l1]
    rw [if_pos (by omega), Wn (by omega), e1, Option.bind_some, e2, Option.bind_some, show armillaryref22_Solve.l2 w (x : Int) (i : Int) t1 t2 k (-1) 0 = _ from e3, Option.bind_some]
    have len1 : ∀ {α : Type} (u : α), [u].length = 1 := fun _ => rfl
    have hgo : ∀ q, q < i + 1 → g (o ++ [g l i]) q = g l q := fun q hq => by
      rw [gapp, ho]
      by_cases e : q = i
      · subst e; rw [if_neg (by omega), if_pos rfl]
      · rw [if_pos (by omega)]; exact hg q (by omega)
    have hk3 : ∀ (c y : Int), armillaryref22_Solve.k3 o c y = some (o ++ [c], y) := fun c y => by
      unfold armillaryref22_Solve.k3
      rw [len1, if_pos (by omega)]
    simp only [armillaryref22_Solve.k4]
    rcases hB with e | ⟨h1, h2, h3, _⟩
    · rw [if_neg (by omega), Option.bind_some, hk3, Option.bind_some]
      exact ih k (i + 1) x _ (by omega) (by omega) (by simp [ho]) hgo hx (fun j hj => by rw [taken_succ, ht j hj, e, beq_eq_false_iff_ne.2 (by omega : (-1 : Int) ≠ (j : Int)), Bool.or_false])
    · obtain ⟨c, hcc⟩ : ∃ c : Nat, g l i = (c : Int) := ⟨(g l i).toNat, by omega⟩
      rw [if_pos (by omega), if_pos (by omega), show (g l i).toNat = c by omega, bitO x (by omega) c (by omega), Option.bind_some, hk3, Option.bind_some]
      refine ih k (i + 1) (x ||| 2 ^ c) _ (by omega) (by omega) (by simp [ho]) hgo (bitL hx (by omega)) (fun j hj => ?_)
      rw [bitT, taken_succ]
      show (if j = c then true else x.testBit j) = _
      by_cases e2 : j = c
      · rw [if_pos e2, beq_iff_eq.2 (by omega : g l i = (j : Int)), Bool.or_true]
      · rw [if_neg e2, beq_eq_false_iff_ne.2 (by omega : g l i ≠ (j : Int)), Bool.or_false, ht j hj]
theorem rsolve (h : Vw w m) (hm6 : m ≤ 6) {l : List Int} {d : S26} {V : Int} (s : Solved w m l d V) {k : Nat} (hk : 300 ≤ k) : armillaryref22_Solve.f k w = some l := by
  have hn := h.nr
  obtain ⟨o, e, ho, hg⟩ := rsolve_loop h hm6 s.opt (valid_of s.ll s.isa) s.val s.ch w.length k 0 0 [] (by omega) (by omega) rfl (fun q hq => by omega) (Nat.two_pow_pos m) (fun j hj => by simp [taken])
  have : o = l := ext_g (by rw [ho, s.ll]) (fun i hi => hg i (by omega))
  unfold armillaryref22_Solve.f
  rw [show armillaryref22_Solve.l1 w k [] 0 0 = some o from e, this]
  rfl
end
end Go.Proofs.Ytdmhbcgmimfjcaa.hun
namespace Go.Proofs.Ytdmhbcgmimfjcaa
open Go Go.Proofs.Ytdmhbcgmimfjcaa.RW
set_option linter.unusedVariables false
set_option maxRecDepth 100000
set_option maxHeartbeats 8000000

/-! ### armillarylaw22_sanity: function 10, armillary/armillarylaw22.sanity -/
noncomputable def K10_0 : Code := cBody Try.f10
def armillarylaw22_sanity.k1  (x1 : Bool) : Option (Bool) := (some x1)
def armillarylaw22_sanity.f (k : Nat)  : Option (Bool) := ((assign_Solve.f k [[3, 5], [4, 7]]).bind fun t1 => ((assign_Solve.f k [[5], [7]]).bind fun t2 => ((assign_Solve.f k [[0, 0], [0, 0]]).bind fun t3 => ((assign_Solve.f k []).bind fun t4 => ((assign_Value.f k [[3, 5], [4, 7]] [1, 0]).bind fun t5 => ((assign_Value.f k [[3, 5], [4, 7]] [(-1), 1]).bind fun t6 => ((assign_Value.f k [[3, 5], [4, 7]] [1, 1]).bind fun t7 => ((assign_Value.f k [[3, 5], [4, 7]] [1]).bind fun t8 => (((armillaryref22_Same.f k t1.1 [0, 1]).bind fun t9 => (if t9 = true then ((assign_VerifyDuals.f k [[3, 5], [4, 7]] t1.1 t1.2).bind fun t10 => (if t10 = true then ((armillaryref22_Same.f k t2.1 [(-1), 0]).bind fun t11 => (if t11 = true then ((armillaryref22_Same.f k t3.1 [0, 1]).bind fun t12 => (if t12 = true then (if (W .i64 ((W .i64 ((t4.1.length : Int) + (t4.2.f0.length : Int))) + (t4.2.f1.length : Int))) = 0 then (if t5.1 = 9 then (if t5.2 = true then (if t6.1 = 7 then (if t6.2 = true then (if t7.2 = true then (some false) else (if t8.2 = true then (some false) else ((assign_VerifyDuals.f k [[3, 5], [4, 7]] t1.1 (⟨[3, 5], [0, 2]⟩ : S26)).bind fun t13 => (if t13 = true then ((assign_VerifyDuals.f k [[3, 5], [4, 7]] t1.1 (⟨[3, 5], [0, 1]⟩ : S26)).bind fun t14 => (if t14 = true then (some false) else ((assign_VerifyDuals.f k [[3, 5], [4, 7]] t1.1 (⟨[4, 5], [0, 2]⟩ : S26)).bind fun t15 => (if t15 = true then (some false) else ((assign_VerifyDuals.f k [[3, 5], [4, 7]] [1, 0] (⟨[3, 5], [0, 2]⟩ : S26)).bind fun t16 => (if t16 = true then (some false) else ((assign_Valid.f k [[3, 5], [4, 7]]).bind fun t17 => (if t17 = true then ((assign_Valid.f k []).bind fun t18 => (if t18 = true then ((assign_Valid.f k [[1], []]).bind fun t19 => (if t19 = true then (some false) else ((assign_Valid.f k [[(-1)]]).bind fun t20 => (some (!t20))))) else (some false))) else (some false))))))))) else (some false))))) else (some false)) else (some false)) else (some false)) else (some false)) else (some false)) else (some false))) else (some false))) else (some false))) else (some false))).bind (armillarylaw22_sanity.k1))))))))))
def armillarylaw22_sanity.Post (I : Imm) (w : World) (r : Bool) (v : Value) (w' : World) : Prop :=
 ∃ (J : Imm), v = .bool r ∧ Got w w' I J []
theorem armillarylaw22_sanity.calls (k : Nat) (I0 : Imm)  (w : World) (hI : I0.at_ w)  (r : Bool) (h : armillarylaw22_sanity.f k  = some r) :
  Calls Try.prog 10 [].toArray w fun e w' => ∃ v, e = .returned v ∧ armillarylaw22_sanity.Post I0 w r v w' := by
 have H : ((assign_Solve.f k [[3, 5], [4, 7]]).bind fun t1 => ((assign_Solve.f k [[5], [7]]).bind fun t2 => ((assign_Solve.f k [[0, 0], [0, 0]]).bind fun t3 => ((assign_Solve.f k []).bind fun t4 => ((assign_Value.f k [[3, 5], [4, 7]] [1, 0]).bind fun t5 => ((assign_Value.f k [[3, 5], [4, 7]] [(-1), 1]).bind fun t6 => ((assign_Value.f k [[3, 5], [4, 7]] [1, 1]).bind fun t7 => ((assign_Value.f k [[3, 5], [4, 7]] [1]).bind fun t8 => (((armillaryref22_Same.f k t1.1 [0, 1]).bind fun t9 => (if t9 = true then ((assign_VerifyDuals.f k [[3, 5], [4, 7]] t1.1 t1.2).bind fun t10 => (if t10 = true then ((armillaryref22_Same.f k t2.1 [(-1), 0]).bind fun t11 => (if t11 = true then ((armillaryref22_Same.f k t3.1 [0, 1]).bind fun t12 => (if t12 = true then (if (W .i64 ((W .i64 ((t4.1.length : Int) + (t4.2.f0.length : Int))) + (t4.2.f1.length : Int))) = 0 then (if t5.1 = 9 then (if t5.2 = true then (if t6.1 = 7 then (if t6.2 = true then (if t7.2 = true then (some false) else (if t8.2 = true then (some false) else ((assign_VerifyDuals.f k [[3, 5], [4, 7]] t1.1 (⟨[3, 5], [0, 2]⟩ : S26)).bind fun t13 => (if t13 = true then ((assign_VerifyDuals.f k [[3, 5], [4, 7]] t1.1 (⟨[3, 5], [0, 1]⟩ : S26)).bind fun t14 => (if t14 = true then (some false) else ((assign_VerifyDuals.f k [[3, 5], [4, 7]] t1.1 (⟨[4, 5], [0, 2]⟩ : S26)).bind fun t15 => (if t15 = true then (some false) else ((assign_VerifyDuals.f k [[3, 5], [4, 7]] [1, 0] (⟨[3, 5], [0, 2]⟩ : S26)).bind fun t16 => (if t16 = true then (some false) else ((assign_Valid.f k [[3, 5], [4, 7]]).bind fun t17 => (if t17 = true then ((assign_Valid.f k []).bind fun t18 => (if t18 = true then ((assign_Valid.f k [[1], []]).bind fun t19 => (if t19 = true then (some false) else ((assign_Valid.f k [[(-1)]]).bind fun t20 => (some (!t20))))) else (some false))) else (some false))))))))) else (some false))))) else (some false)) else (some false)) else (some false)) else (some false)) else (some false)) else (some false))) else (some false))) else (some false))) else (some false))).bind (armillarylaw22_sanity.k1)))))))))) = some r := h
 clear h
 refine calls_body Try.func10 (by kernel_rfl) 179 (by kernel_rfl) (by kernel_rfl) ⟨w, fun _ => False, I0⟩ I0 [] [] (by kernel_rfl) (Sat.start w _ I0 hI) ?_
 generalize w.heap.size = nx0
 show OK _ K10_0 _ _ _ _ _ _ _ _
 refine OK.sr ?_
 refine RL.st 1 [] ?_
 refine OK.sr ?_
 refine RL.spt 4 [(1, .slice (some ⟨nx0 + 2, 0, none⟩) 2 2)] (nx0 + 3) [⟨nx0, [i6 3, i6 5], 2⟩, ⟨nx0 + 1, [i6 4, i6 7], 2⟩, ⟨nx0 + 2, [.slice (some ⟨nx0, 0, none⟩) 2 2, .slice (some ⟨nx0 + 1, 0, none⟩) 2 2], 24⟩] ?_
 refine OK.sr ?_
 refine RL.s 1 [(23, .slice (some ⟨nx0 + 2, 0, none⟩) 2 2), (1, .slice (some ⟨nx0 + 2, 0, none⟩) 2 2)] ?_
 refine RL.freezeL (d := (Ty.int .i64)) (xs := [3, 5]) (b := ⟨nx0, [i6 3, i6 5], 2⟩) 0 (by kernel_rfl) ⟨_, _, rfl, rfl, ⟨_, _, rfl, rfl, rfl⟩⟩ (Nat.le_of_ble_eq_true rfl) (fun I1 hi1 hr1 => ?_)
 refine RL.freezeL (d := (Ty.int .i64)) (xs := [4, 7]) (b := ⟨nx0 + 1, [i6 4, i6 7], 2⟩) 0 (by kernel_rfl) ⟨_, _, rfl, rfl, ⟨_, _, rfl, rfl, rfl⟩⟩ (Nat.le_of_ble_eq_true rfl) (fun I2 hi2 hr2 => ?_)
 refine RL.freezeL (d := (Ty.slice (Ty.int .i64))) (xs := [[3, 5], [4, 7]]) (b := ⟨nx0 + 2, [.slice (some ⟨nx0, 0, none⟩) 2 2, .slice (some ⟨nx0 + 1, 0, none⟩) 2 2], 24⟩) 0 (by kernel_rfl) ⟨_, _, rfl, ⟨_, _, rfl, (Nat.le_of_ble_eq_true rfl), (Rd.ext hi2 hr1)⟩, ⟨_, _, rfl, ⟨_, _, rfl, (Nat.le_of_ble_eq_true rfl), hr2⟩, rfl⟩⟩ (Nat.le_of_ble_eq_true rfl) (fun I3 hi3 hr3 => ?_)
 obtain ⟨t1, hA1, H⟩ := bnd H
 refine RL.callP 14 [.slice (some ⟨nx0 + 2, 0, none⟩) 2 2] (some 24) (fun w => assign_Solve.Post I3 w t1) (by kernel_rfl) (by kernel_rfl) (fun w hs => assign_Solve.calls k I3 [[3, 5], [4, 7]] (some ⟨nx0 + 2, 0, none⟩) 2 w hs.im (Nat.le_of_ble_eq_true rfl) hr3 t1 hA1) ?_
 rintro w v w' hs ⟨I4, A1, c1, cs1, A2, c2, cs2, A3, c3, cs3, rfl, hg, hp1, hp2, hp3⟩
 have hi4 := hg.le
 refine RL.resume (X' := [orow 3 1 A1 t1.1.length c1 cs1, orow 2 1 A2 t1.2.f0.length c2 cs2, orow 2 1 A3 t1.2.f1.length c3 cs3]) rfl (hs.call hg) ?_
 clear hs hg
 generalize w'.heap.size = nx1
 clear w w'
 refine RL.freeze (e := 2) (sz := 1) (S := A2) (n := t1.2.f0.length) (cap := c2) 1 (by kernel_rfl) hp2 rfl (fun I5 hi5 hl1 hr4 => ?_)
 skip
 refine RL.freeze (e := 2) (sz := 1) (S := A3) (n := t1.2.f1.length) (cap := c3) 1 (by kernel_rfl) (Reps.ext hi5 hp3) rfl (fun I6 hi6 hl2 hr5 => ?_)
 skip
 refine RL.simP (K' := [(2, .slice A1 t1.1.length c1), (3, pt nx1 0), (1, .slice (some ⟨nx0 + 2, 0, none⟩) 2 2)]) (nx' := nx1 + 1) (L' := [⟨nx1, [.slice A2 t1.2.f0.length c2, .slice A3 t1.2.f1.length c3], 26⟩]) [] (RFacts.nil _ _ _) 6 [.no, .no, .no, .no, .no, .l 0] (by kernel_rfl) (by kernel_rfl) ?_
 refine RL.nt ?_
 refine OK.sr ?_
 refine RL.spt 4 [(4, .slice (some ⟨nx1 + 3, 0, none⟩) 2 2), (2, .slice A1 t1.1.length c1), (3, pt nx1 0), (1, .slice (some ⟨nx0 + 2, 0, none⟩) 2 2)] (nx1 + 4) [⟨nx1, [.slice A2 t1.2.f0.length c2, .slice A3 t1.2.f1.length c3], 26⟩, ⟨nx1 + 1, [i6 5], 2⟩, ⟨nx1 + 2, [i6 7], 2⟩, ⟨nx1 + 3, [.slice (some ⟨nx1 + 1, 0, none⟩) 1 1, .slice (some ⟨nx1 + 2, 0, none⟩) 1 1], 24⟩] ?_
 refine OK.sr ?_
 refine RL.s 1 [(31, .slice (some ⟨nx1 + 3, 0, none⟩) 2 2), (2, .slice A1 t1.1.length c1), (3, pt nx1 0), (1, .slice (some ⟨nx0 + 2, 0, none⟩) 2 2)] ?_
 refine RL.freezeL (d := (Ty.int .i64)) (xs := [5]) (b := ⟨nx1 + 1, [i6 5], 2⟩) 1 (by kernel_rfl) ⟨_, _, rfl, rfl, rfl⟩ (Nat.le_of_ble_eq_true rfl) (fun I7 hi7 hr6 => ?_)
 refine RL.freezeL (d := (Ty.int .i64)) (xs := [7]) (b := ⟨nx1 + 2, [i6 7], 2⟩) 1 (by kernel_rfl) ⟨_, _, rfl, rfl, rfl⟩ (Nat.le_of_ble_eq_true rfl) (fun I8 hi8 hr7 => ?_)
 refine RL.freezeL (d := (Ty.slice (Ty.int .i64))) (xs := [[5], [7]]) (b := ⟨nx1 + 3, [.slice (some ⟨nx1 + 1, 0, none⟩) 1 1, .slice (some ⟨nx1 + 2, 0, none⟩) 1 1], 24⟩) 1 (by kernel_rfl) ⟨_, _, rfl, ⟨_, _, rfl, (Nat.le_of_ble_eq_true rfl), (Rd.ext hi8 hr6)⟩, ⟨_, _, rfl, ⟨_, _, rfl, (Nat.le_of_ble_eq_true rfl), hr7⟩, rfl⟩⟩ (Nat.le_of_ble_eq_true rfl) (fun I9 hi9 hr8 => ?_)
 obtain ⟨t2, hA2, H⟩ := bnd H
 refine RL.callP 14 [.slice (some ⟨nx1 + 3, 0, none⟩) 2 2] (some 32) (fun w => assign_Solve.Post I9 w t2) (by kernel_rfl) (by kernel_rfl) (fun w hs => assign_Solve.calls k I9 [[5], [7]] (some ⟨nx1 + 3, 0, none⟩) 2 w hs.im (Nat.le_of_ble_eq_true rfl) hr8 t2 hA2) ?_
 rintro w v w' hs ⟨I10, A4, c4, cs4, A5, c5, cs5, A6, c6, cs6, rfl, hg, hp4, hp5, hp6⟩
 have hi10 := hg.le
 refine RL.resume (X' := [orow 3 1 A1 t1.1.length c1 cs1, orow 3 1 A4 t2.1.length c4 cs4, orow 2 1 A5 t2.2.f0.length c5 cs5, orow 2 1 A6 t2.2.f1.length c6 cs6]) rfl (hs.call hg) ?_
 clear hs hg
 generalize w'.heap.size = nx2
 clear w w'
 refine RL.freeze (e := 2) (sz := 1) (S := A5) (n := t2.2.f0.length) (cap := c5) 2 (by kernel_rfl) hp5 rfl (fun I11 hi11 hl3 hr9 => ?_)
 skip
 refine RL.freeze (e := 2) (sz := 1) (S := A6) (n := t2.2.f1.length) (cap := c6) 2 (by kernel_rfl) (Reps.ext hi11 hp6) rfl (fun I12 hi12 hl4 hr10 => ?_)
 skip
 refine RL.simP (K' := [(5, .slice A4 t2.1.length c4), (2, .slice A1 t1.1.length c1), (3, pt nx1 0), (1, .slice (some ⟨nx0 + 2, 0, none⟩) 2 2)]) (nx' := nx2 + 1) (L' := [⟨nx1, [.slice A2 t1.2.f0.length c2, .slice A3 t1.2.f1.length c3], 26⟩, ⟨nx2, [.slice A5 t2.2.f0.length c5, .slice A6 t2.2.f1.length c6], 26⟩]) [] (RFacts.nil _ _ _) 6 [.no, .no, .no, .no, .no, .l 1] (by kernel_rfl) (by kernel_rfl) ?_
 refine RL.nt ?_
 refine OK.sr ?_
 refine RL.sp 3 [(38, .slice (some ⟨nx2 + 3, 0, none⟩) 2 2), (5, .slice A4 t2.1.length c4), (2, .slice A1 t1.1.length c1), (3, pt nx1 0), (1, .slice (some ⟨nx0 + 2, 0, none⟩) 2 2)] (nx2 + 4) [⟨nx1, [.slice A2 t1.2.f0.length c2, .slice A3 t1.2.f1.length c3], 26⟩, ⟨nx2, [.slice A5 t2.2.f0.length c5, .slice A6 t2.2.f1.length c6], 26⟩, ⟨nx2 + 1, [i6 0, i6 0], 2⟩, ⟨nx2 + 2, [i6 0, i6 0], 2⟩, ⟨nx2 + 3, [.slice (some ⟨nx2 + 1, 0, none⟩) 2 2, .slice (some ⟨nx2 + 2, 0, none⟩) 2 2], 24⟩] ?_
 refine RL.freezeL (d := (Ty.int .i64)) (xs := [0, 0]) (b := ⟨nx2 + 1, [i6 0, i6 0], 2⟩) 2 (by kernel_rfl) ⟨_, _, rfl, rfl, ⟨_, _, rfl, rfl, rfl⟩⟩ (Nat.le_of_ble_eq_true rfl) (fun I13 hi13 hr11 => ?_)
 refine RL.freezeL (d := (Ty.int .i64)) (xs := [0, 0]) (b := ⟨nx2 + 2, [i6 0, i6 0], 2⟩) 2 (by kernel_rfl) ⟨_, _, rfl, rfl, ⟨_, _, rfl, rfl, rfl⟩⟩ (Nat.le_of_ble_eq_true rfl) (fun I14 hi14 hr12 => ?_)
 refine RL.freezeL (d := (Ty.slice (Ty.int .i64))) (xs := [[0, 0], [0, 0]]) (b := ⟨nx2 + 3, [.slice (some ⟨nx2 + 1, 0, none⟩) 2 2, .slice (some ⟨nx2 + 2, 0, none⟩) 2 2], 24⟩) 2 (by kernel_rfl) ⟨_, _, rfl, ⟨_, _, rfl, (Nat.le_of_ble_eq_true rfl), (Rd.ext hi14 hr11)⟩, ⟨_, _, rfl, ⟨_, _, rfl, (Nat.le_of_ble_eq_true rfl), hr12⟩, rfl⟩⟩ (Nat.le_of_ble_eq_true rfl) (fun I15 hi15 hr13 => ?_)
 obtain ⟨t3, hA3, H⟩ := bnd H
 refine RL.callP 14 [.slice (some ⟨nx2 + 3, 0, none⟩) 2 2] (some 39) (fun w => assign_Solve.Post I15 w t3) (by kernel_rfl) (by kernel_rfl) (fun w hs => assign_Solve.calls k I15 [[0, 0], [0, 0]] (some ⟨nx2 + 3, 0, none⟩) 2 w hs.im (Nat.le_of_ble_eq_true rfl) hr13 t3 hA3) ?_
 rintro w v w' hs ⟨I16, A7, c7, cs7, A8, c8, cs8, A9, c9, cs9, rfl, hg, hp7, hp8, hp9⟩
 have hi16 := hg.le
 refine RL.resume (X' := [orow 3 1 A1 t1.1.length c1 cs1, orow 3 1 A4 t2.1.length c4 cs4, orow 3 1 A7 t3.1.length c7 cs7, orow 2 1 A8 t3.2.f0.length c8 cs8, orow 2 1 A9 t3.2.f1.length c9 cs9]) rfl (hs.call hg) ?_
 clear hs hg
 generalize w'.heap.size = nx3
 clear w w'
 refine RL.freeze (e := 2) (sz := 1) (S := A8) (n := t3.2.f0.length) (cap := c8) 3 (by kernel_rfl) hp8 rfl (fun I17 hi17 hl5 hr14 => ?_)
 skip
 refine RL.freeze (e := 2) (sz := 1) (S := A9) (n := t3.2.f1.length) (cap := c9) 3 (by kernel_rfl) (Reps.ext hi17 hp9) rfl (fun I18 hi18 hl6 hr15 => ?_)
 skip
 refine RL.simP (K' := [(7, .slice A7 t3.1.length c7), (5, .slice A4 t2.1.length c4), (2, .slice A1 t1.1.length c1), (3, pt nx1 0), (1, .slice (some ⟨nx0 + 2, 0, none⟩) 2 2)]) (nx' := nx3 + 1) (L' := [⟨nx1, [.slice A2 t1.2.f0.length c2, .slice A3 t1.2.f1.length c3], 26⟩, ⟨nx2, [.slice A5 t2.2.f0.length c5, .slice A6 t2.2.f1.length c6], 26⟩, ⟨nx3, [.slice A8 t3.2.f0.length c8, .slice A9 t3.2.f1.length c9], 26⟩]) [] (RFacts.nil _ _ _) 6 [.no, .no, .no, .no, .no, .l 2] (by kernel_rfl) (by kernel_rfl) ?_
 refine RL.nt ?_
 refine OK.sr ?_
 obtain ⟨t4, hA4, H⟩ := bnd H
 refine RL.callP 14 [.slice none 0 0] (some 43) (fun w => assign_Solve.Post I18 w t4) (by kernel_rfl) (by kernel_rfl) (fun w hs => assign_Solve.calls k I18 [] none 0 w hs.im (Nat.le_refl _) (Rd.nil _ _ _) t4 hA4) ?_
 rintro w v w' hs ⟨I19, A10, c10, cs10, A11, c11, cs11, A12, c12, cs12, rfl, hg, hp10, hp11, hp12⟩
 have hi19 := hg.le
 refine RL.resume (X' := [orow 3 1 A1 t1.1.length c1 cs1, orow 3 1 A4 t2.1.length c4 cs4, orow 3 1 A7 t3.1.length c7 cs7, orow 3 1 A10 t4.1.length c10 cs10, orow 2 1 A11 t4.2.f0.length c11 cs11, orow 2 1 A12 t4.2.f1.length c12 cs12]) rfl (hs.call hg) ?_
 clear hs hg
 generalize w'.heap.size = nx4
 clear w w'
 refine RL.freeze (e := 2) (sz := 1) (S := A11) (n := t4.2.f0.length) (cap := c11) 4 (by kernel_rfl) hp11 rfl (fun I20 hi20 hl7 hr16 => ?_)
 skip
 refine RL.freeze (e := 2) (sz := 1) (S := A12) (n := t4.2.f1.length) (cap := c12) 4 (by kernel_rfl) (Reps.ext hi20 hp12) rfl (fun I21 hi21 hl8 hr17 => ?_)
 skip
 refine RL.simP (K' := [(9, .slice A10 t4.1.length c10), (10, pt nx4 0), (7, .slice A7 t3.1.length c7), (5, .slice A4 t2.1.length c4), (2, .slice A1 t1.1.length c1), (3, pt nx1 0), (1, .slice (some ⟨nx0 + 2, 0, none⟩) 2 2)]) (nx' := nx4 + 1) (L' := [⟨nx1, [.slice A2 t1.2.f0.length c2, .slice A3 t1.2.f1.length c3], 26⟩, ⟨nx2, [.slice A5 t2.2.f0.length c5, .slice A6 t2.2.f1.length c6], 26⟩, ⟨nx3, [.slice A8 t3.2.f0.length c8, .slice A9 t3.2.f1.length c9], 26⟩, ⟨nx4, [.slice A11 t4.2.f0.length c11, .slice A12 t4.2.f1.length c12], 26⟩]) [] (RFacts.nil _ _ _) 6 [.no, .no, .no, .no, .no, .l 3] (by kernel_rfl) (by kernel_rfl) ?_
 refine RL.nt ?_
 refine OK.sr ?_
 refine RL.sp 2 [(48, .slice (some ⟨nx4 + 1, 0, none⟩) 2 2), (47, .slice (some ⟨nx0 + 2, 0, none⟩) 2 2), (9, .slice A10 t4.1.length c10), (10, pt nx4 0), (7, .slice A7 t3.1.length c7), (5, .slice A4 t2.1.length c4), (2, .slice A1 t1.1.length c1), (3, pt nx1 0), (1, .slice (some ⟨nx0 + 2, 0, none⟩) 2 2)] (nx4 + 2) [⟨nx1, [.slice A2 t1.2.f0.length c2, .slice A3 t1.2.f1.length c3], 26⟩, ⟨nx2, [.slice A5 t2.2.f0.length c5, .slice A6 t2.2.f1.length c6], 26⟩, ⟨nx3, [.slice A8 t3.2.f0.length c8, .slice A9 t3.2.f1.length c9], 26⟩, ⟨nx4, [.slice A11 t4.2.f0.length c11, .slice A12 t4.2.f1.length c12], 26⟩, ⟨nx4 + 1, [i6 1, i6 0], 3⟩] ?_
 refine RL.freezeL (d := (Ty.int .i64)) (xs := [1, 0]) (b := ⟨nx4 + 1, [i6 1, i6 0], 3⟩) 4 (by kernel_rfl) ⟨_, _, rfl, rfl, ⟨_, _, rfl, rfl, rfl⟩⟩ (Nat.le_of_ble_eq_true rfl) (fun I22 hi22 hr18 => ?_)
 obtain ⟨t5, hA5, H⟩ := bnd H
 refine RL.callP 15 [.slice (some ⟨nx0 + 2, 0, none⟩) 2 2, .slice (some ⟨nx4 + 1, 0, none⟩) 2 2] (some 49) (fun w => assign_Value.Post I22 w t5) (by kernel_rfl) (by kernel_rfl) (fun w hs => assign_Value.calls k I22 [[3, 5], [4, 7]] (some ⟨nx0 + 2, 0, none⟩) 2 [1, 0] (some ⟨nx4 + 1, 0, none⟩) 2 w hs.im (Nat.le_of_ble_eq_true rfl) (Rd.ext (Imm.le_trans (Imm.le_trans (Imm.le_trans (Imm.le_trans (Imm.le_trans (Imm.le_trans (Imm.le_trans (Imm.le_trans (Imm.le_trans (Imm.le_trans (Imm.le_trans (Imm.le_trans (Imm.le_trans (Imm.le_trans (Imm.le_trans (Imm.le_trans (Imm.le_trans (Imm.le_trans hi4 hi5) hi6) hi7) hi8) hi9) hi10) hi11) hi12) hi13) hi14) hi15) hi16) hi17) hi18) hi19) hi20) hi21) hi22) hr3) (Nat.le_of_ble_eq_true rfl) hr18 t5 hA5) ?_
 rintro w v w' hs ⟨I23, rfl, hg⟩
 have hi23 := hg.le
 refine RL.resume (X' := [orow 3 1 A1 t1.1.length c1 cs1, orow 3 1 A4 t2.1.length c4 cs4, orow 3 1 A7 t3.1.length c7 cs7, orow 3 1 A10 t4.1.length c10 cs10]) rfl (hs.call hg) ?_
 clear hs hg
 generalize w'.heap.size = nx5
 clear w w'
 refine RL.st 5 [(12, .bool t5.2), (11, i6 t5.1), (9, .slice A10 t4.1.length c10), (10, pt nx4 0), (7, .slice A7 t3.1.length c7), (5, .slice A4 t2.1.length c4), (2, .slice A1 t1.1.length c1), (3, pt nx1 0), (1, .slice (some ⟨nx0 + 2, 0, none⟩) 2 2)] ?_
 refine OK.sr ?_
 refine RL.sp 2 [(54, .slice (some ⟨nx5, 0, none⟩) 2 2), (53, .slice (some ⟨nx0 + 2, 0, none⟩) 2 2), (12, .bool t5.2), (11, i6 t5.1), (9, .slice A10 t4.1.length c10), (10, pt nx4 0), (7, .slice A7 t3.1.length c7), (5, .slice A4 t2.1.length c4), (2, .slice A1 t1.1.length c1), (3, pt nx1 0), (1, .slice (some ⟨nx0 + 2, 0, none⟩) 2 2)] (nx5 + 1) [⟨nx1, [.slice A2 t1.2.f0.length c2, .slice A3 t1.2.f1.length c3], 26⟩, ⟨nx2, [.slice A5 t2.2.f0.length c5, .slice A6 t2.2.f1.length c6], 26⟩, ⟨nx3, [.slice A8 t3.2.f0.length c8, .slice A9 t3.2.f1.length c9], 26⟩, ⟨nx4, [.slice A11 t4.2.f0.length c11, .slice A12 t4.2.f1.length c12], 26⟩, ⟨nx5, [i6 (-1), i6 1], 3⟩] ?_
 refine RL.freezeL (d := (Ty.int .i64)) (xs := [(-1), 1]) (b := ⟨nx5, [i6 (-1), i6 1], 3⟩) 4 (by kernel_rfl) ⟨_, _, rfl, rfl, ⟨_, _, rfl, rfl, rfl⟩⟩ (Nat.le_of_ble_eq_true rfl) (fun I24 hi24 hr19 => ?_)
 obtain ⟨t6, hA6, H⟩ := bnd H
 refine RL.callP 15 [.slice (some ⟨nx0 + 2, 0, none⟩) 2 2, .slice (some ⟨nx5, 0, none⟩) 2 2] (some 55) (fun w => assign_Value.Post I24 w t6) (by kernel_rfl) (by kernel_rfl) (fun w hs => assign_Value.calls k I24 [[3, 5], [4, 7]] (some ⟨nx0 + 2, 0, none⟩) 2 [(-1), 1] (some ⟨nx5, 0, none⟩) 2 w hs.im (Nat.le_of_ble_eq_true rfl) (Rd.ext (Imm.le_trans (Imm.le_trans (Imm.le_trans (Imm.le_trans (Imm.le_trans (Imm.le_trans (Imm.le_trans (Imm.le_trans (Imm.le_trans (Imm.le_trans (Imm.le_trans (Imm.le_trans (Imm.le_trans (Imm.le_trans (Imm.le_trans (Imm.le_trans (Imm.le_trans (Imm.le_trans (Imm.le_trans (Imm.le_trans hi4 hi5) hi6) hi7) hi8) hi9) hi10) hi11) hi12) hi13) hi14) hi15) hi16) hi17) hi18) hi19) hi20) hi21) hi22) hi23) hi24) hr3) (Nat.le_of_ble_eq_true rfl) hr19 t6 hA6) ?_
 rintro w v w' hs ⟨I25, rfl, hg⟩
 have hi25 := hg.le
 refine RL.resume (X' := [orow 3 1 A1 t1.1.length c1 cs1, orow 3 1 A4 t2.1.length c4 cs4, orow 3 1 A7 t3.1.length c7 cs7, orow 3 1 A10 t4.1.length c10 cs10]) rfl (hs.call hg) ?_
 clear hs hg
 generalize w'.heap.size = nx6
 clear w w'
 refine RL.st 5 [(14, .bool t6.2), (13, i6 t6.1), (12, .bool t5.2), (11, i6 t5.1), (9, .slice A10 t4.1.length c10), (10, pt nx4 0), (7, .slice A7 t3.1.length c7), (5, .slice A4 t2.1.length c4), (2, .slice A1 t1.1.length c1), (3, pt nx1 0), (1, .slice (some ⟨nx0 + 2, 0, none⟩) 2 2)] ?_
 refine OK.sr ?_
 refine RL.sp 2 [(60, .slice (some ⟨nx6, 0, none⟩) 2 2), (59, .slice (some ⟨nx0 + 2, 0, none⟩) 2 2), (14, .bool t6.2), (13, i6 t6.1), (12, .bool t5.2), (11, i6 t5.1), (9, .slice A10 t4.1.length c10), (10, pt nx4 0), (7, .slice A7 t3.1.length c7), (5, .slice A4 t2.1.length c4), (2, .slice A1 t1.1.length c1), (3, pt nx1 0), (1, .slice (some ⟨nx0 + 2, 0, none⟩) 2 2)] (nx6 + 1) [⟨nx1, [.slice A2 t1.2.f0.length c2, .slice A3 t1.2.f1.length c3], 26⟩, ⟨nx2, [.slice A5 t2.2.f0.length c5, .slice A6 t2.2.f1.length c6], 26⟩, ⟨nx3, [.slice A8 t3.2.f0.length c8, .slice A9 t3.2.f1.length c9], 26⟩, ⟨nx4, [.slice A11 t4.2.f0.length c11, .slice A12 t4.2.f1.length c12], 26⟩, ⟨nx6, [i6 1, i6 1], 3⟩] ?_
 refine RL.freezeL (d := (Ty.int .i64)) (xs := [1, 1]) (b := ⟨nx6, [i6 1, i6 1], 3⟩) 4 (by kernel_rfl) ⟨_, _, rfl, rfl, ⟨_, _, rfl, rfl, rfl⟩⟩ (Nat.le_of_ble_eq_true rfl) (fun I26 hi26 hr20 => ?_)
 obtain ⟨t7, hA7, H⟩ := bnd H
 refine RL.callP 15 [.slice (some ⟨nx0 + 2, 0, none⟩) 2 2, .slice (some ⟨nx6, 0, none⟩) 2 2] (some 61) (fun w => assign_Value.Post I26 w t7) (by kernel_rfl) (by kernel_rfl) (fun w hs => assign_Value.calls k I26 [[3, 5], [4, 7]] (some ⟨nx0 + 2, 0, none⟩) 2 [1, 1] (some ⟨nx6, 0, none⟩) 2 w hs.im (Nat.le_of_ble_eq_true rfl) (Rd.ext (Imm.le_trans (Imm.le_trans (Imm.le_trans (Imm.le_trans (Imm.le_trans (Imm.le_trans (Imm.le_trans (Imm.le_trans (Imm.le_trans (Imm.le_trans (Imm.le_trans (Imm.le_trans (Imm.le_trans (Imm.le_trans (Imm.le_trans (Imm.le_trans (Imm.le_trans (Imm.le_trans (Imm.le_trans (Imm.le_trans (Imm.le_trans (Imm.le_trans hi4 hi5) hi6) hi7) hi8) hi9) hi10) hi11) hi12) hi13) hi14) hi15) hi16) hi17) hi18) hi19) hi20) hi21) hi22) hi23) hi24) hi25) hi26) hr3) (Nat.le_of_ble_eq_true rfl) hr20 t7 hA7) ?_
 rintro w v w' hs ⟨I27, rfl, hg⟩
 have hi27 := hg.le
 refine RL.resume (X' := [orow 3 1 A1 t1.1.length c1 cs1, orow 3 1 A4 t2.1.length c4 cs4, orow 3 1 A7 t3.1.length c7 cs7, orow 3 1 A10 t4.1.length c10 cs10]) rfl (hs.call hg) ?_
 clear hs hg
 generalize w'.heap.size = nx7
 clear w w'
 refine RL.st 5 [(16, .bool t7.2), (14, .bool t6.2), (13, i6 t6.1), (12, .bool t5.2), (11, i6 t5.1), (9, .slice A10 t4.1.length c10), (10, pt nx4 0), (7, .slice A7 t3.1.length c7), (5, .slice A4 t2.1.length c4), (2, .slice A1 t1.1.length c1), (3, pt nx1 0), (1, .slice (some ⟨nx0 + 2, 0, none⟩) 2 2)] ?_
 refine OK.sr ?_
 refine RL.sp 2 [(66, .slice (some ⟨nx7, 0, none⟩) 1 1), (65, .slice (some ⟨nx0 + 2, 0, none⟩) 2 2), (16, .bool t7.2), (14, .bool t6.2), (13, i6 t6.1), (12, .bool t5.2), (11, i6 t5.1), (9, .slice A10 t4.1.length c10), (10, pt nx4 0), (7, .slice A7 t3.1.length c7), (5, .slice A4 t2.1.length c4), (2, .slice A1 t1.1.length c1), (3, pt nx1 0), (1, .slice (some ⟨nx0 + 2, 0, none⟩) 2 2)] (nx7 + 1) [⟨nx1, [.slice A2 t1.2.f0.length c2, .slice A3 t1.2.f1.length c3], 26⟩, ⟨nx2, [.slice A5 t2.2.f0.length c5, .slice A6 t2.2.f1.length c6], 26⟩, ⟨nx3, [.slice A8 t3.2.f0.length c8, .slice A9 t3.2.f1.length c9], 26⟩, ⟨nx4, [.slice A11 t4.2.f0.length c11, .slice A12 t4.2.f1.length c12], 26⟩, ⟨nx7, [i6 1], 3⟩] ?_
 refine RL.freezeL (d := (Ty.int .i64)) (xs := [1]) (b := ⟨nx7, [i6 1], 3⟩) 4 (by kernel_rfl) ⟨_, _, rfl, rfl, rfl⟩ (Nat.le_of_ble_eq_true rfl) (fun I28 hi28 hr21 => ?_)
 obtain ⟨t8, hA8, H⟩ := bnd H
 refine RL.callP 15 [.slice (some ⟨nx0 + 2, 0, none⟩) 2 2, .slice (some ⟨nx7, 0, none⟩) 1 1] (some 67) (fun w => assign_Value.Post I28 w t8) (by kernel_rfl) (by kernel_rfl) (fun w hs => assign_Value.calls k I28 [[3, 5], [4, 7]] (some ⟨nx0 + 2, 0, none⟩) 2 [1] (some ⟨nx7, 0, none⟩) 1 w hs.im (Nat.le_of_ble_eq_true rfl) (Rd.ext (Imm.le_trans (Imm.le_trans (Imm.le_trans (Imm.le_trans (Imm.le_trans (Imm.le_trans (Imm.le_trans (Imm.le_trans (Imm.le_trans (Imm.le_trans (Imm.le_trans (Imm.le_trans (Imm.le_trans (Imm.le_trans (Imm.le_trans (Imm.le_trans (Imm.le_trans (Imm.le_trans (Imm.le_trans (Imm.le_trans (Imm.le_trans (Imm.le_trans (Imm.le_trans (Imm.le_trans hi4 hi5) hi6) hi7) hi8) hi9) hi10) hi11) hi12) hi13) hi14) hi15) hi16) hi17) hi18) hi19) hi20) hi21) hi22) hi23) hi24) hi25) hi26) hi27) hi28) hr3) (Nat.le_of_ble_eq_true rfl) hr21 t8 hA8) ?_
 rintro w v w' hs ⟨I29, rfl, hg⟩
 have hi29 := hg.le
 refine RL.resume (X' := [orow 3 1 A1 t1.1.length c1 cs1, orow 3 1 A4 t2.1.length c4 cs4, orow 3 1 A7 t3.1.length c7 cs7, orow 3 1 A10 t4.1.length c10 cs10]) rfl (hs.call hg) ?_
 clear hs hg
 generalize w'.heap.size = nx8
 clear w w'
 refine RL.st 5 [(18, .bool t8.2), (16, .bool t7.2), (14, .bool t6.2), (13, i6 t6.1), (12, .bool t5.2), (11, i6 t5.1), (9, .slice A10 t4.1.length c10), (10, pt nx4 0), (7, .slice A7 t3.1.length c7), (5, .slice A4 t2.1.length c4), (2, .slice A1 t1.1.length c1), (3, pt nx1 0), (1, .slice (some ⟨nx0 + 2, 0, none⟩) 2 2)] ?_
 refine OK.sq ?_
 refine OK.join (fun K' I' _ L' X' => ∃ (x1 : Bool), K' = [(0, .bool x1)] ∧ L' = [⟨nx1, [.slice A2 t1.2.f0.length c2, .slice A3 t1.2.f1.length c3], 26⟩, ⟨nx2, [.slice A5 t2.2.f0.length c5, .slice A6 t2.2.f1.length c6], 26⟩, ⟨nx3, [.slice A8 t3.2.f0.length c8, .slice A9 t3.2.f1.length c9], 26⟩, ⟨nx4, [.slice A11 t4.2.f0.length c11, .slice A12 t4.2.f1.length c12], 26⟩] ∧ X' = [] ∧ Imm.le I29 I' ∧ armillarylaw22_sanity.k1 x1 = some r) ?_ ?_
 ·rintro _ I30 nx9 _ _ ⟨x1, rfl, rfl, rfl, hi30, H⟩
  rw [armillarylaw22_sanity.k1] at H
  refine QN.then_ ?_
  refine OK.re ?_
  obtain rfl := Option.some.inj H
  refine QN.body rfl [] (RFacts.nil _ _ _) (.no) (.bool x1) (by kernel_rfl) (by kernel_rfl) (by kernel_rfl) ?_ _ (.inr rfl)
  exact fun w' hs' => ⟨_, rfl, I30, rfl, hs'.got _ .slnil⟩
 ·intro Q_1 hJ1 hQ1
  obtain ⟨y1, H, HK1⟩ := bnd H
  refine OK.rg ?_
  refine RL.sp 2 [(71, .slice (some ⟨nx8, 0, none⟩) 2 2), (70, .slice A1 t1.1.length c1), (18, .bool t8.2), (16, .bool t7.2), (14, .bool t6.2), (13, i6 t6.1), (12, .bool t5.2), (11, i6 t5.1), (9, .slice A10 t4.1.length c10), (10, pt nx4 0), (7, .slice A7 t3.1.length c7), (5, .slice A4 t2.1.length c4), (2, .slice A1 t1.1.length c1), (3, pt nx1 0), (1, .slice (some ⟨nx0 + 2, 0, none⟩) 2 2)] (nx8 + 1) [⟨nx1, [.slice A2 t1.2.f0.length c2, .slice A3 t1.2.f1.length c3], 26⟩, ⟨nx2, [.slice A5 t2.2.f0.length c5, .slice A6 t2.2.f1.length c6], 26⟩, ⟨nx3, [.slice A8 t3.2.f0.length c8, .slice A9 t3.2.f1.length c9], 26⟩, ⟨nx4, [.slice A11 t4.2.f0.length c11, .slice A12 t4.2.f1.length c12], 26⟩, ⟨nx8, [i6 0, i6 1], 3⟩] ?_
  refine RL.freezeL (d := (Ty.int .i64)) (xs := [0, 1]) (b := ⟨nx8, [i6 0, i6 1], 3⟩) 4 (by kernel_rfl) ⟨_, _, rfl, rfl, ⟨_, _, rfl, rfl, rfl⟩⟩ (Nat.le_of_ble_eq_true rfl) (fun I31 hi31 hr22 => ?_)
  obtain ⟨t9, hA9, H⟩ := bnd H
  refine RL.callP 17 [.slice A1 t1.1.length c1, .slice (some ⟨nx8, 0, none⟩) 2 2] (some 72) (fun w v w' => ∃ I', Imm.le I31 I' ∧ armillaryref22_Same.Post I' w t9 v w') (by kernel_rfl) (by kernel_rfl) (fun w hs => ?_) ?_
  ·skip
   obtain ⟨JL1, hj1, hn1, hw1, hs⟩ := Sat.freeze (e := 3) (sz := 1) (S := A1) (n := t1.1.length) (cap := c1) (m := 0) hs (by kernel_rfl) (Reps.ext (Imm.le_trans (Imm.le_trans (Imm.le_trans (Imm.le_trans (Imm.le_trans (Imm.le_trans (Imm.le_trans (Imm.le_trans (Imm.le_trans (Imm.le_trans (Imm.le_trans (Imm.le_trans (Imm.le_trans (Imm.le_trans (Imm.le_trans (Imm.le_trans (Imm.le_trans (Imm.le_trans (Imm.le_trans (Imm.le_trans (Imm.le_trans (Imm.le_trans (Imm.le_trans (Imm.le_trans (Imm.le_trans hi5 hi6) hi7) hi8) hi9) hi10) hi11) hi12) hi13) hi14) hi15) hi16) hi17) hi18) hi19) hi20) hi21) hi22) hi23) hi24) hi25) hi26) hi27) hi28) hi29) hi31) hp1) rfl
   exact (armillaryref22_Same.calls k JL1 t1.1 A1 c1 [0, 1] (some ⟨nx8, 0, none⟩) 2 _ hs.im hn1 hw1 (Nat.le_of_ble_eq_true rfl) (Rd.ext hj1 hr22) t9 hA9).mono (fun e w' ⟨v, hv, hp⟩ => ⟨v, hv, JL1, hj1, hp⟩)
  rintro w v w' hs ⟨I', hle, J, rfl, hg⟩
  refine RL.resume (X' := [orow 3 1 A1 t1.1.length c1 cs1, orow 3 1 A4 t2.1.length c4 cs4, orow 3 1 A7 t3.1.length c7 cs7, orow 3 1 A10 t4.1.length c10 cs10]) rfl (hs.call (hg.back hle)) ?_
  clear hs hg hle I' J
  generalize w'.heap.size = nx10
  clear w w'
  refine RL.s 1 [(73, .bool t9), (18, .bool t8.2), (16, .bool t7.2), (14, .bool t6.2), (13, i6 t6.1), (12, .bool t5.2), (11, i6 t5.1), (9, .slice A10 t4.1.length c10), (10, pt nx4 0), (7, .slice A7 t3.1.length c7), (5, .slice A4 t2.1.length c4), (2, .slice A1 t1.1.length c1), (3, pt nx1 0), (1, .slice (some ⟨nx0 + 2, 0, none⟩) 2 2)] ?_
  refine RL.cases t9 (fun hb => ?_) (fun hb => ?_)
  ·have hc := hb
   rw [hb]
   rw [if_pos hc] at H; clear hb
   refine RL.simK (K' := [(76, .agg #[.slice A2 t1.2.f0.length c2, .slice A3 t1.2.f1.length c3]), (75, .slice A1 t1.1.length c1), (74, .slice (some ⟨nx0 + 2, 0, none⟩) 2 2), (73, .bool true), (18, .bool t8.2), (16, .bool t7.2), (14, .bool t6.2), (13, i6 t6.1), (12, .bool t5.2), (11, i6 t5.1), (9, .slice A10 t4.1.length c10), (10, pt nx4 0), (7, .slice A7 t3.1.length c7), (5, .slice A4 t2.1.length c4), (2, .slice A1 t1.1.length c1), (1, .slice (some ⟨nx0 + 2, 0, none⟩) 2 2)]) [] (RFacts.nil _ _ _) 3 [.no, .no, .l 0] (by kernel_rfl) (by kernel_rfl) ?_
   obtain ⟨t10, hA10, H⟩ := bnd H
   refine RL.callP 20 [.slice (some ⟨nx0 + 2, 0, none⟩) 2 2, .slice A1 t1.1.length c1, .agg #[.slice A2 t1.2.f0.length c2, .slice A3 t1.2.f1.length c3]] (some 77) (fun w v w' => ∃ I', Imm.le I31 I' ∧ assign_VerifyDuals.Post I' w t10 v w') (by kernel_rfl) (by kernel_rfl) (fun w hs => ?_) ?_
   ·skip
    obtain ⟨JL2, hj2, hn2, hw2, hs⟩ := Sat.freeze (e := 3) (sz := 1) (S := A1) (n := t1.1.length) (cap := c1) (m := 0) hs (by kernel_rfl) (Reps.ext (Imm.le_trans (Imm.le_trans (Imm.le_trans (Imm.le_trans (Imm.le_trans (Imm.le_trans (Imm.le_trans (Imm.le_trans (Imm.le_trans (Imm.le_trans (Imm.le_trans (Imm.le_trans (Imm.le_trans (Imm.le_trans (Imm.le_trans (Imm.le_trans (Imm.le_trans (Imm.le_trans (Imm.le_trans (Imm.le_trans (Imm.le_trans (Imm.le_trans (Imm.le_trans (Imm.le_trans (Imm.le_trans hi5 hi6) hi7) hi8) hi9) hi10) hi11) hi12) hi13) hi14) hi15) hi16) hi17) hi18) hi19) hi20) hi21) hi22) hi23) hi24) hi25) hi26) hi27) hi28) hi29) hi31) hp1) rfl
    exact (assign_VerifyDuals.calls k JL2 [[3, 5], [4, 7]] (some ⟨nx0 + 2, 0, none⟩) 2 t1.1 A1 c1 t1.2 A2 c2 A3 c3 _ hs.im (Nat.le_of_ble_eq_true rfl) (Rd.ext hj2 (Rd.ext (Imm.le_trans (Imm.le_trans (Imm.le_trans (Imm.le_trans (Imm.le_trans (Imm.le_trans (Imm.le_trans (Imm.le_trans (Imm.le_trans (Imm.le_trans (Imm.le_trans (Imm.le_trans (Imm.le_trans (Imm.le_trans (Imm.le_trans (Imm.le_trans (Imm.le_trans (Imm.le_trans (Imm.le_trans (Imm.le_trans (Imm.le_trans (Imm.le_trans (Imm.le_trans (Imm.le_trans (Imm.le_trans (Imm.le_trans hi4 hi5) hi6) hi7) hi8) hi9) hi10) hi11) hi12) hi13) hi14) hi15) hi16) hi17) hi18) hi19) hi20) hi21) hi22) hi23) hi24) hi25) hi26) hi27) hi28) hi29) hi31) hr3)) hn2 hw2 hl1 (Rd.ext hj2 (Rd.ext (Imm.le_trans (Imm.le_trans (Imm.le_trans (Imm.le_trans (Imm.le_trans (Imm.le_trans (Imm.le_trans (Imm.le_trans (Imm.le_trans (Imm.le_trans (Imm.le_trans (Imm.le_trans (Imm.le_trans (Imm.le_trans (Imm.le_trans (Imm.le_trans (Imm.le_trans (Imm.le_trans (Imm.le_trans (Imm.le_trans (Imm.le_trans (Imm.le_trans (Imm.le_trans (Imm.le_trans hi6 hi7) hi8) hi9) hi10) hi11) hi12) hi13) hi14) hi15) hi16) hi17) hi18) hi19) hi20) hi21) hi22) hi23) hi24) hi25) hi26) hi27) hi28) hi29) hi31) hr4)) hl2 (Rd.ext hj2 (Rd.ext (Imm.le_trans (Imm.le_trans (Imm.le_trans (Imm.le_trans (Imm.le_trans (Imm.le_trans (Imm.le_trans (Imm.le_trans (Imm.le_trans (Imm.le_trans (Imm.le_trans (Imm.le_trans (Imm.le_trans (Imm.le_trans (Imm.le_trans (Imm.le_trans (Imm.le_trans (Imm.le_trans (Imm.le_trans (Imm.le_trans (Imm.le_trans (Imm.le_trans (Imm.le_trans hi7 hi8) hi9) hi10) hi11) hi12) hi13) hi14) hi15) hi16) hi17) hi18) hi19) hi20) hi21) hi22) hi23) hi24) hi25) hi26) hi27) hi28) hi29) hi31) hr5)) t10 hA10).mono (fun e w' ⟨v, hv, hp⟩ => ⟨v, hv, JL2, hj2, hp⟩)
   rintro w v w' hs ⟨I', hle, J, rfl, hg⟩
   refine RL.resume (X' := [orow 3 1 A1 t1.1.length c1 cs1, orow 3 1 A4 t2.1.length c4 cs4, orow 3 1 A7 t3.1.length c7 cs7, orow 3 1 A10 t4.1.length c10 cs10]) rfl (hs.call (hg.back hle)) ?_
   clear hs hg hle I' J
   generalize w'.heap.size = nx11
   clear w w'
   refine RL.s 2 [(79, .bool t10), (18, .bool t8.2), (16, .bool t7.2), (14, .bool t6.2), (13, i6 t6.1), (12, .bool t5.2), (11, i6 t5.1), (9, .slice A10 t4.1.length c10), (10, pt nx4 0), (7, .slice A7 t3.1.length c7), (5, .slice A4 t2.1.length c4), (2, .slice A1 t1.1.length c1), (1, .slice (some ⟨nx0 + 2, 0, none⟩) 2 2)] ?_
   refine RL.cases t10 (fun hb => ?_) (fun hb => ?_)
   ·have hc := hb
    rw [hb]
    rw [if_pos hc] at H; clear hb
    refine RL.sp 2 [(81, .slice (some ⟨nx11, 0, none⟩) 2 2), (80, .slice A4 t2.1.length c4), (79, .bool true), (18, .bool t8.2), (16, .bool t7.2), (14, .bool t6.2), (13, i6 t6.1), (12, .bool t5.2), (11, i6 t5.1), (9, .slice A10 t4.1.length c10), (10, pt nx4 0), (7, .slice A7 t3.1.length c7), (2, .slice A1 t1.1.length c1), (1, .slice (some ⟨nx0 + 2, 0, none⟩) 2 2)] (nx11 + 1) [⟨nx1, [.slice A2 t1.2.f0.length c2, .slice A3 t1.2.f1.length c3], 26⟩, ⟨nx2, [.slice A5 t2.2.f0.length c5, .slice A6 t2.2.f1.length c6], 26⟩, ⟨nx3, [.slice A8 t3.2.f0.length c8, .slice A9 t3.2.f1.length c9], 26⟩, ⟨nx4, [.slice A11 t4.2.f0.length c11, .slice A12 t4.2.f1.length c12], 26⟩, ⟨nx11, [i6 (-1), i6 0], 3⟩] ?_
    refine RL.freezeL (d := (Ty.int .i64)) (xs := [(-1), 0]) (b := ⟨nx11, [i6 (-1), i6 0], 3⟩) 4 (by kernel_rfl) ⟨_, _, rfl, rfl, ⟨_, _, rfl, rfl, rfl⟩⟩ (Nat.le_of_ble_eq_true rfl) (fun I32 hi32 hr23 => ?_)
    obtain ⟨t11, hA11, H⟩ := bnd H
    refine RL.callP 17 [.slice A4 t2.1.length c4, .slice (some ⟨nx11, 0, none⟩) 2 2] (some 82) (fun w v w' => ∃ I', Imm.le I32 I' ∧ armillaryref22_Same.Post I' w t11 v w') (by kernel_rfl) (by kernel_rfl) (fun w hs => ?_) ?_
    ·skip
     obtain ⟨JL3, hj3, hn3, hw3, hs⟩ := Sat.freeze (e := 3) (sz := 1) (S := A4) (n := t2.1.length) (cap := c4) (m := 1) hs (by kernel_rfl) (Reps.ext (Imm.le_trans (Imm.le_trans (Imm.le_trans (Imm.le_trans (Imm.le_trans (Imm.le_trans (Imm.le_trans (Imm.le_trans (Imm.le_trans (Imm.le_trans (Imm.le_trans (Imm.le_trans (Imm.le_trans (Imm.le_trans (Imm.le_trans (Imm.le_trans (Imm.le_trans (Imm.le_trans (Imm.le_trans (Imm.le_trans hi11 hi12) hi13) hi14) hi15) hi16) hi17) hi18) hi19) hi20) hi21) hi22) hi23) hi24) hi25) hi26) hi27) hi28) hi29) hi31) hi32) hp4) rfl
     exact (armillaryref22_Same.calls k JL3 t2.1 A4 c4 [(-1), 0] (some ⟨nx11, 0, none⟩) 2 _ hs.im hn3 hw3 (Nat.le_of_ble_eq_true rfl) (Rd.ext hj3 hr23) t11 hA11).mono (fun e w' ⟨v, hv, hp⟩ => ⟨v, hv, JL3, hj3, hp⟩)
    rintro w v w' hs ⟨I', hle, J, rfl, hg⟩
    refine RL.resume (X' := [orow 3 1 A1 t1.1.length c1 cs1, orow 3 1 A4 t2.1.length c4 cs4, orow 3 1 A7 t3.1.length c7 cs7, orow 3 1 A10 t4.1.length c10 cs10]) rfl (hs.call (hg.back hle)) ?_
    clear hs hg hle I' J
    generalize w'.heap.size = nx12
    clear w w'
    refine RL.s 2 [(84, .bool t11), (18, .bool t8.2), (16, .bool t7.2), (14, .bool t6.2), (13, i6 t6.1), (12, .bool t5.2), (11, i6 t5.1), (9, .slice A10 t4.1.length c10), (10, pt nx4 0), (7, .slice A7 t3.1.length c7), (2, .slice A1 t1.1.length c1), (1, .slice (some ⟨nx0 + 2, 0, none⟩) 2 2)] ?_
    refine RL.cases t11 (fun hb => ?_) (fun hb => ?_)
    ·have hc := hb
     rw [hb]
     rw [if_pos hc] at H; clear hb
     refine RL.sp 2 [(86, .slice (some ⟨nx12, 0, none⟩) 2 2), (85, .slice A7 t3.1.length c7), (84, .bool true), (18, .bool t8.2), (16, .bool t7.2), (14, .bool t6.2), (13, i6 t6.1), (12, .bool t5.2), (11, i6 t5.1), (9, .slice A10 t4.1.length c10), (10, pt nx4 0), (2, .slice A1 t1.1.length c1), (1, .slice (some ⟨nx0 + 2, 0, none⟩) 2 2)] (nx12 + 1) [⟨nx1, [.slice A2 t1.2.f0.length c2, .slice A3 t1.2.f1.length c3], 26⟩, ⟨nx2, [.slice A5 t2.2.f0.length c5, .slice A6 t2.2.f1.length c6], 26⟩, ⟨nx3, [.slice A8 t3.2.f0.length c8, .slice A9 t3.2.f1.length c9], 26⟩, ⟨nx4, [.slice A11 t4.2.f0.length c11, .slice A12 t4.2.f1.length c12], 26⟩, ⟨nx12, [i6 0, i6 1], 3⟩] ?_
     refine RL.freezeL (d := (Ty.int .i64)) (xs := [0, 1]) (b := ⟨nx12, [i6 0, i6 1], 3⟩) 4 (by kernel_rfl) ⟨_, _, rfl, rfl, ⟨_, _, rfl, rfl, rfl⟩⟩ (Nat.le_of_ble_eq_true rfl) (fun I33 hi33 hr24 => ?_)
     obtain ⟨t12, hA12, H⟩ := bnd H
     refine RL.callP 17 [.slice A7 t3.1.length c7, .slice (some ⟨nx12, 0, none⟩) 2 2] (some 87) (fun w v w' => ∃ I', Imm.le I33 I' ∧ armillaryref22_Same.Post I' w t12 v w') (by kernel_rfl) (by kernel_rfl) (fun w hs => ?_) ?_
     ·skip
      obtain ⟨JL4, hj4, hn4, hw4, hs⟩ := Sat.freeze (e := 3) (sz := 1) (S := A7) (n := t3.1.length) (cap := c7) (m := 2) hs (by kernel_rfl) (Reps.ext (Imm.le_trans (Imm.le_trans (Imm.le_trans (Imm.le_trans (Imm.le_trans (Imm.le_trans (Imm.le_trans (Imm.le_trans (Imm.le_trans (Imm.le_trans (Imm.le_trans (Imm.le_trans (Imm.le_trans (Imm.le_trans (Imm.le_trans hi17 hi18) hi19) hi20) hi21) hi22) hi23) hi24) hi25) hi26) hi27) hi28) hi29) hi31) hi32) hi33) hp7) rfl
      exact (armillaryref22_Same.calls k JL4 t3.1 A7 c7 [0, 1] (some ⟨nx12, 0, none⟩) 2 _ hs.im hn4 hw4 (Nat.le_of_ble_eq_true rfl) (Rd.ext hj4 hr24) t12 hA12).mono (fun e w' ⟨v, hv, hp⟩ => ⟨v, hv, JL4, hj4, hp⟩)
     rintro w v w' hs ⟨I', hle, J, rfl, hg⟩
     refine RL.resume (X' := [orow 3 1 A1 t1.1.length c1 cs1, orow 3 1 A4 t2.1.length c4 cs4, orow 3 1 A7 t3.1.length c7 cs7, orow 3 1 A10 t4.1.length c10 cs10]) rfl (hs.call (hg.back hle)) ?_
     clear hs hg hle I' J
     generalize w'.heap.size = nx13
     clear w w'
     refine RL.s 2 [(89, .bool t12), (18, .bool t8.2), (16, .bool t7.2), (14, .bool t6.2), (13, i6 t6.1), (12, .bool t5.2), (11, i6 t5.1), (9, .slice A10 t4.1.length c10), (10, pt nx4 0), (2, .slice A1 t1.1.length c1), (1, .slice (some ⟨nx0 + 2, 0, none⟩) 2 2)] ?_
     refine RL.cases t12 (fun hb => ?_) (fun hb => ?_)
     ·have hc := hb
      rw [hb]
      rw [if_pos hc] at H; clear hb
      refine RL.simK (K' := [(102, .bool ((W .i64 ((W .i64 ((t4.1.length : Int) + (t4.2.f0.length : Int))) + (t4.2.f1.length : Int))) == 0)), (18, .bool t8.2), (16, .bool t7.2), (14, .bool t6.2), (13, i6 t6.1), (12, .bool t5.2), (11, i6 t5.1), (2, .slice A1 t1.1.length c1), (1, .slice (some ⟨nx0 + 2, 0, none⟩) 2 2)]) [] (RFacts.nil _ _ _) 13 [.no, .no, .no, .l 3, .no, .no, .no, .l 3, .no, .no, .no, .no, .no] (by kernel_rfl) (by kernel_rfl) ?_
      refine RL.cases ((W .i64 ((W .i64 ((t4.1.length : Int) + (t4.2.f0.length : Int))) + (t4.2.f1.length : Int))) == 0) (fun hb => ?_) (fun hb => ?_)
      ·have hc := (beq_iff_eq.1 hb)
       rw [hb]
       rw [if_pos hc] at H; clear hb
       refine RL.s 4 [(106, .bool (t5.1 == 9)), (18, .bool t8.2), (16, .bool t7.2), (14, .bool t6.2), (13, i6 t6.1), (12, .bool t5.2), (2, .slice A1 t1.1.length c1), (1, .slice (some ⟨nx0 + 2, 0, none⟩) 2 2)] ?_
       refine RL.cases (t5.1 == 9) (fun hb => ?_) (fun hb => ?_)
       ·have hc := (beq_iff_eq.1 hb)
        rw [hb]
        rw [if_pos hc] at H; clear hb
        refine RL.s 3 [(109, .bool t5.2), (18, .bool t8.2), (16, .bool t7.2), (14, .bool t6.2), (13, i6 t6.1), (2, .slice A1 t1.1.length c1), (1, .slice (some ⟨nx0 + 2, 0, none⟩) 2 2)] ?_
        refine RL.cases t5.2 (fun hb => ?_) (fun hb => ?_)
        ·have hc := hb
         rw [hb]
         rw [if_pos hc] at H; clear hb
         refine RL.s 4 [(113, .bool (t6.1 == 7)), (18, .bool t8.2), (16, .bool t7.2), (14, .bool t6.2), (2, .slice A1 t1.1.length c1), (1, .slice (some ⟨nx0 + 2, 0, none⟩) 2 2)] ?_
         refine RL.cases (t6.1 == 7) (fun hb => ?_) (fun hb => ?_)
         ·have hc := (beq_iff_eq.1 hb)
          rw [hb]
          rw [if_pos hc] at H; clear hb
          refine RL.s 3 [(116, .bool t6.2), (18, .bool t8.2), (16, .bool t7.2), (2, .slice A1 t1.1.length c1), (1, .slice (some ⟨nx0 + 2, 0, none⟩) 2 2)] ?_
          refine RL.cases t6.2 (fun hb => ?_) (fun hb => ?_)
          ·have hc := hb
           rw [hb]
           rw [if_pos hc] at H; clear hb
           refine RL.s 4 [(120, .bool (!t7.2)), (18, .bool t8.2), (2, .slice A1 t1.1.length c1), (1, .slice (some ⟨nx0 + 2, 0, none⟩) 2 2)] ?_
           refine RL.cases t7.2 (fun hb => ?_) (fun hb => ?_)
           ·have hc := hb
            rw [hb]
            rw [if_pos hc] at H; clear hb
            refine RL.simK (K' := [(0, .bool false)]) [] (RFacts.nil _ _ _) 59 (.no :: .no :: .no :: .no :: .no :: .no :: .no :: .no :: .no :: .no :: .no :: .no :: .no :: .no :: .no :: .no :: .no :: .no :: .no :: .no :: .no :: .no :: .no :: .no :: .no :: .no :: .no :: .no :: .no :: .no :: .no :: .no :: .no :: .no :: .no :: .no :: .no :: .no :: .no :: .no :: .no :: .no :: .no :: .no :: .no :: .no :: .no :: .no :: .no :: .no :: .no :: .no :: .no :: .no :: .no :: .no :: .no :: .no :: .no :: []) (by kernel_rfl) (by kernel_rfl) ?_
            refine RL.nil (by kernel_rfl) ?_
            obtain rfl := Option.some.inj H
            refine QN.sel (K' := [(0, .bool false)]) (L' := [⟨nx1, [.slice A2 t1.2.f0.length c2, .slice A3 t1.2.f1.length c3], 26⟩, ⟨nx2, [.slice A5 t2.2.f0.length c5, .slice A6 t2.2.f1.length c6], 26⟩, ⟨nx3, [.slice A8 t3.2.f0.length c8, .slice A9 t3.2.f1.length c9], 26⟩, ⟨nx4, [.slice A11 t4.2.f0.length c11, .slice A12 t4.2.f1.length c12], 26⟩]) [] (by kernel_rfl) (by kernel_rfl) (.cons_cons _ (.cons_cons _ (.cons_cons _ (.cons_cons _ .slnil)))) ?_
            refine QN.norm (X' := []) rfl rfl rfl (by kernel_rfl) ?_
            exact hJ1 _ _ _ _ _ ⟨false, rfl, rfl, rfl, (Imm.le_trans (Imm.le_trans hi31 hi32) hi33), HK1⟩
           ·have hc := (Bool.eq_false_iff.1 hb)
            rw [hb]
            rw [if_neg hc] at H; clear hb
            refine RL.s 4 [(124, .bool (!t8.2)), (2, .slice A1 t1.1.length c1), (1, .slice (some ⟨nx0 + 2, 0, none⟩) 2 2)] ?_
            refine RL.cases t8.2 (fun hb => ?_) (fun hb => ?_)
            ·have hc := hb
             rw [hb]
             rw [if_pos hc] at H; clear hb
             refine RL.simK (K' := [(0, .bool false)]) [] (RFacts.nil _ _ _) 55 (.no :: .no :: .no :: .no :: .no :: .no :: .no :: .no :: .no :: .no :: .no :: .no :: .no :: .no :: .no :: .no :: .no :: .no :: .no :: .no :: .no :: .no :: .no :: .no :: .no :: .no :: .no :: .no :: .no :: .no :: .no :: .no :: .no :: .no :: .no :: .no :: .no :: .no :: .no :: .no :: .no :: .no :: .no :: .no :: .no :: .no :: .no :: .no :: .no :: .no :: .no :: .no :: .no :: .no :: .no :: []) (by kernel_rfl) (by kernel_rfl) ?_
             refine RL.nil (by kernel_rfl) ?_
             obtain rfl := Option.some.inj H
             refine QN.sel (K' := [(0, .bool false)]) (L' := [⟨nx1, [.slice A2 t1.2.f0.length c2, .slice A3 t1.2.f1.length c3], 26⟩, ⟨nx2, [.slice A5 t2.2.f0.length c5, .slice A6 t2.2.f1.length c6], 26⟩, ⟨nx3, [.slice A8 t3.2.f0.length c8, .slice A9 t3.2.f1.length c9], 26⟩, ⟨nx4, [.slice A11 t4.2.f0.length c11, .slice A12 t4.2.f1.length c12], 26⟩]) [] (by kernel_rfl) (by kernel_rfl) (.cons_cons _ (.cons_cons _ (.cons_cons _ (.cons_cons _ .slnil)))) ?_
             refine QN.norm (X' := []) rfl rfl rfl (by kernel_rfl) ?_
             exact hJ1 _ _ _ _ _ ⟨false, rfl, rfl, rfl, (Imm.le_trans (Imm.le_trans hi31 hi32) hi33), HK1⟩
            ·have hc := (Bool.eq_false_iff.1 hb)
             rw [hb]
             rw [if_neg hc] at H; clear hb
             refine RL.sp 5 [(129, .agg #[.slice (some ⟨nx13, 0, none⟩) 2 2, .slice (some ⟨nx13 + 1, 0, none⟩) 2 2]), (126, .slice A1 t1.1.length c1), (125, .slice (some ⟨nx0 + 2, 0, none⟩) 2 2), (124, .bool true), (2, .slice A1 t1.1.length c1), (1, .slice (some ⟨nx0 + 2, 0, none⟩) 2 2)] (nx13 + 2) [⟨nx1, [.slice A2 t1.2.f0.length c2, .slice A3 t1.2.f1.length c3], 26⟩, ⟨nx2, [.slice A5 t2.2.f0.length c5, .slice A6 t2.2.f1.length c6], 26⟩, ⟨nx3, [.slice A8 t3.2.f0.length c8, .slice A9 t3.2.f1.length c9], 26⟩, ⟨nx4, [.slice A11 t4.2.f0.length c11, .slice A12 t4.2.f1.length c12], 26⟩, ⟨nx13, [i6 3, i6 5], 2⟩, ⟨nx13 + 1, [i6 0, i6 2], 2⟩] ?_
             refine RL.freezeL (d := (Ty.int .i64)) (xs := [3, 5]) (b := ⟨nx13, [i6 3, i6 5], 2⟩) 4 (by kernel_rfl) ⟨_, _, rfl, rfl, ⟨_, _, rfl, rfl, rfl⟩⟩ (Nat.le_of_ble_eq_true rfl) (fun I34 hi34 hr25 => ?_)
             refine RL.freezeL (d := (Ty.int .i64)) (xs := [0, 2]) (b := ⟨nx13 + 1, [i6 0, i6 2], 2⟩) 4 (by kernel_rfl) ⟨_, _, rfl, rfl, ⟨_, _, rfl, rfl, rfl⟩⟩ (Nat.le_of_ble_eq_true rfl) (fun I35 hi35 hr26 => ?_)
             obtain ⟨t13, hA13, H⟩ := bnd H
             refine RL.callP 20 [.slice (some ⟨nx0 + 2, 0, none⟩) 2 2, .slice A1 t1.1.length c1, .agg #[.slice (some ⟨nx13, 0, none⟩) 2 2, .slice (some ⟨nx13 + 1, 0, none⟩) 2 2]] (some 130) (fun w v w' => ∃ I', Imm.le I35 I' ∧ assign_VerifyDuals.Post I' w t13 v w') (by kernel_rfl) (by kernel_rfl) (fun w hs => ?_) ?_
             ·skip
              obtain ⟨JL5, hj5, hn5, hw5, hs⟩ := Sat.freeze (e := 3) (sz := 1) (S := A1) (n := t1.1.length) (cap := c1) (m := 0) hs (by kernel_rfl) (Reps.ext (Imm.le_trans (Imm.le_trans (Imm.le_trans (Imm.le_trans (Imm.le_trans (Imm.le_trans (Imm.le_trans (Imm.le_trans (Imm.le_trans (Imm.le_trans (Imm.le_trans (Imm.le_trans (Imm.le_trans (Imm.le_trans (Imm.le_trans (Imm.le_trans (Imm.le_trans (Imm.le_trans (Imm.le_trans (Imm.le_trans (Imm.le_trans (Imm.le_trans (Imm.le_trans (Imm.le_trans (Imm.le_trans (Imm.le_trans (Imm.le_trans (Imm.le_trans (Imm.le_trans hi5 hi6) hi7) hi8) hi9) hi10) hi11) hi12) hi13) hi14) hi15) hi16) hi17) hi18) hi19) hi20) hi21) hi22) hi23) hi24) hi25) hi26) hi27) hi28) hi29) hi31) hi32) hi33) hi34) hi35) hp1) rfl
              exact (assign_VerifyDuals.calls k JL5 [[3, 5], [4, 7]] (some ⟨nx0 + 2, 0, none⟩) 2 t1.1 A1 c1 (⟨[3, 5], [0, 2]⟩ : S26) (some ⟨nx13, 0, none⟩) 2 (some ⟨nx13 + 1, 0, none⟩) 2 _ hs.im (Nat.le_of_ble_eq_true rfl) (Rd.ext hj5 (Rd.ext (Imm.le_trans (Imm.le_trans (Imm.le_trans (Imm.le_trans (Imm.le_trans (Imm.le_trans (Imm.le_trans (Imm.le_trans (Imm.le_trans (Imm.le_trans (Imm.le_trans (Imm.le_trans (Imm.le_trans (Imm.le_trans (Imm.le_trans (Imm.le_trans (Imm.le_trans (Imm.le_trans (Imm.le_trans (Imm.le_trans (Imm.le_trans (Imm.le_trans (Imm.le_trans (Imm.le_trans (Imm.le_trans (Imm.le_trans (Imm.le_trans (Imm.le_trans (Imm.le_trans (Imm.le_trans hi4 hi5) hi6) hi7) hi8) hi9) hi10) hi11) hi12) hi13) hi14) hi15) hi16) hi17) hi18) hi19) hi20) hi21) hi22) hi23) hi24) hi25) hi26) hi27) hi28) hi29) hi31) hi32) hi33) hi34) hi35) hr3)) hn5 hw5 (Nat.le_of_ble_eq_true rfl) (Rd.ext hj5 (Rd.ext hi35 hr25)) (Nat.le_of_ble_eq_true rfl) (Rd.ext hj5 hr26) t13 hA13).mono (fun e w' ⟨v, hv, hp⟩ => ⟨v, hv, JL5, hj5, hp⟩)
             rintro w v w' hs ⟨I', hle, J, rfl, hg⟩
             refine RL.resume (X' := [orow 3 1 A1 t1.1.length c1 cs1, orow 3 1 A4 t2.1.length c4 cs4, orow 3 1 A7 t3.1.length c7 cs7, orow 3 1 A10 t4.1.length c10 cs10]) rfl (hs.call (hg.back hle)) ?_
             clear hs hg hle I' J
             generalize w'.heap.size = nx14
             clear w w'
             refine RL.s 2 [(132, .bool t13), (2, .slice A1 t1.1.length c1), (1, .slice (some ⟨nx0 + 2, 0, none⟩) 2 2)] ?_
             refine RL.cases t13 (fun hb => ?_) (fun hb => ?_)
             ·have hc := hb
              rw [hb]
              rw [if_pos hc] at H; clear hb
              refine RL.sp 5 [(137, .agg #[.slice (some ⟨nx14, 0, none⟩) 2 2, .slice (some ⟨nx14 + 1, 0, none⟩) 2 2]), (134, .slice A1 t1.1.length c1), (133, .slice (some ⟨nx0 + 2, 0, none⟩) 2 2), (132, .bool true), (2, .slice A1 t1.1.length c1), (1, .slice (some ⟨nx0 + 2, 0, none⟩) 2 2)] (nx14 + 2) [⟨nx1, [.slice A2 t1.2.f0.length c2, .slice A3 t1.2.f1.length c3], 26⟩, ⟨nx2, [.slice A5 t2.2.f0.length c5, .slice A6 t2.2.f1.length c6], 26⟩, ⟨nx3, [.slice A8 t3.2.f0.length c8, .slice A9 t3.2.f1.length c9], 26⟩, ⟨nx4, [.slice A11 t4.2.f0.length c11, .slice A12 t4.2.f1.length c12], 26⟩, ⟨nx14, [i6 3, i6 5], 2⟩, ⟨nx14 + 1, [i6 0, i6 1], 2⟩] ?_
              refine RL.freezeL (d := (Ty.int .i64)) (xs := [3, 5]) (b := ⟨nx14, [i6 3, i6 5], 2⟩) 4 (by kernel_rfl) ⟨_, _, rfl, rfl, ⟨_, _, rfl, rfl, rfl⟩⟩ (Nat.le_of_ble_eq_true rfl) (fun I36 hi36 hr27 => ?_)
              refine RL.freezeL (d := (Ty.int .i64)) (xs := [0, 1]) (b := ⟨nx14 + 1, [i6 0, i6 1], 2⟩) 4 (by kernel_rfl) ⟨_, _, rfl, rfl, ⟨_, _, rfl, rfl, rfl⟩⟩ (Nat.le_of_ble_eq_true rfl) (fun I37 hi37 hr28 => ?_)
              obtain ⟨t14, hA14, H⟩ := bnd H
              refine RL.callP 20 [.slice (some ⟨nx0 + 2, 0, none⟩) 2 2, .slice A1 t1.1.length c1, .agg #[.slice (some ⟨nx14, 0, none⟩) 2 2, .slice (some ⟨nx14 + 1, 0, none⟩) 2 2]] (some 138) (fun w v w' => ∃ I', Imm.le I37 I' ∧ assign_VerifyDuals.Post I' w t14 v w') (by kernel_rfl) (by kernel_rfl) (fun w hs => ?_) ?_
              ·skip
               obtain ⟨JL6, hj6, hn6, hw6, hs⟩ := Sat.freeze (e := 3) (sz := 1) (S := A1) (n := t1.1.length) (cap := c1) (m := 0) hs (by kernel_rfl) (Reps.ext (Imm.le_trans (Imm.le_trans (Imm.le_trans (Imm.le_trans (Imm.le_trans (Imm.le_trans (Imm.le_trans (Imm.le_trans (Imm.le_trans (Imm.le_trans (Imm.le_trans (Imm.le_trans (Imm.le_trans (Imm.le_trans (Imm.le_trans (Imm.le_trans (Imm.le_trans (Imm.le_trans (Imm.le_trans (Imm.le_trans (Imm.le_trans (Imm.le_trans (Imm.le_trans (Imm.le_trans (Imm.le_trans (Imm.le_trans (Imm.le_trans (Imm.le_trans (Imm.le_trans (Imm.le_trans (Imm.le_trans hi5 hi6) hi7) hi8) hi9) hi10) hi11) hi12) hi13) hi14) hi15) hi16) hi17) hi18) hi19) hi20) hi21) hi22) hi23) hi24) hi25) hi26) hi27) hi28) hi29) hi31) hi32) hi33) hi34) hi35) hi36) hi37) hp1) rfl
               exact (assign_VerifyDuals.calls k JL6 [[3, 5], [4, 7]] (some ⟨nx0 + 2, 0, none⟩) 2 t1.1 A1 c1 (⟨[3, 5], [0, 1]⟩ : S26) (some ⟨nx14, 0, none⟩) 2 (some ⟨nx14 + 1, 0, none⟩) 2 _ hs.im (Nat.le_of_ble_eq_true rfl) (Rd.ext hj6 (Rd.ext (Imm.le_trans (Imm.le_trans (Imm.le_trans (Imm.le_trans (Imm.le_trans (Imm.le_trans (Imm.le_trans (Imm.le_trans (Imm.le_trans (Imm.le_trans (Imm.le_trans (Imm.le_trans (Imm.le_trans (Imm.le_trans (Imm.le_trans (Imm.le_trans (Imm.le_trans (Imm.le_trans (Imm.le_trans (Imm.le_trans (Imm.le_trans (Imm.le_trans (Imm.le_trans (Imm.le_trans (Imm.le_trans (Imm.le_trans (Imm.le_trans (Imm.le_trans (Imm.le_trans (Imm.le_trans (Imm.le_trans (Imm.le_trans hi4 hi5) hi6) hi7) hi8) hi9) hi10) hi11) hi12) hi13) hi14) hi15) hi16) hi17) hi18) hi19) hi20) hi21) hi22) hi23) hi24) hi25) hi26) hi27) hi28) hi29) hi31) hi32) hi33) hi34) hi35) hi36) hi37) hr3)) hn6 hw6 (Nat.le_of_ble_eq_true rfl) (Rd.ext hj6 (Rd.ext hi37 hr27)) (Nat.le_of_ble_eq_true rfl) (Rd.ext hj6 hr28) t14 hA14).mono (fun e w' ⟨v, hv, hp⟩ => ⟨v, hv, JL6, hj6, hp⟩)
              rintro w v w' hs ⟨I', hle, J, rfl, hg⟩
              refine RL.resume (X' := [orow 3 1 A1 t1.1.length c1 cs1, orow 3 1 A4 t2.1.length c4 cs4, orow 3 1 A7 t3.1.length c7 cs7, orow 3 1 A10 t4.1.length c10 cs10]) rfl (hs.call (hg.back hle)) ?_
              clear hs hg hle I' J
              generalize w'.heap.size = nx15
              clear w w'
              refine RL.s 3 [(141, .bool (!t14)), (2, .slice A1 t1.1.length c1), (1, .slice (some ⟨nx0 + 2, 0, none⟩) 2 2)] ?_
              refine RL.cases t14 (fun hb => ?_) (fun hb => ?_)
              ·have hc := hb
               rw [hb]
               rw [if_pos hc] at H; clear hb
               refine RL.simK (K' := [(0, .bool false)]) [] (RFacts.nil _ _ _) 38 (.no :: .no :: .no :: .no :: .no :: .no :: .no :: .no :: .no :: .no :: .no :: .no :: .no :: .no :: .no :: .no :: .no :: .no :: .no :: .no :: .no :: .no :: .no :: .no :: .no :: .no :: .no :: .no :: .no :: .no :: .no :: .no :: .no :: .no :: .no :: .no :: .no :: .no :: []) (by kernel_rfl) (by kernel_rfl) ?_
               refine RL.nil (by kernel_rfl) ?_
               obtain rfl := Option.some.inj H
               refine QN.sel (K' := [(0, .bool false)]) (L' := [⟨nx1, [.slice A2 t1.2.f0.length c2, .slice A3 t1.2.f1.length c3], 26⟩, ⟨nx2, [.slice A5 t2.2.f0.length c5, .slice A6 t2.2.f1.length c6], 26⟩, ⟨nx3, [.slice A8 t3.2.f0.length c8, .slice A9 t3.2.f1.length c9], 26⟩, ⟨nx4, [.slice A11 t4.2.f0.length c11, .slice A12 t4.2.f1.length c12], 26⟩]) [] (by kernel_rfl) (by kernel_rfl) (.cons_cons _ (.cons_cons _ (.cons_cons _ (.cons_cons _ .slnil)))) ?_
               refine QN.norm (X' := []) rfl rfl rfl (by kernel_rfl) ?_
               exact hJ1 _ _ _ _ _ ⟨false, rfl, rfl, rfl, (Imm.le_trans (Imm.le_trans (Imm.le_trans (Imm.le_trans (Imm.le_trans (Imm.le_trans hi31 hi32) hi33) hi34) hi35) hi36) hi37), HK1⟩
              ·have hc := (Bool.eq_false_iff.1 hb)
               rw [hb]
               rw [if_neg hc] at H; clear hb
               refine RL.sp 5 [(146, .agg #[.slice (some ⟨nx15, 0, none⟩) 2 2, .slice (some ⟨nx15 + 1, 0, none⟩) 2 2]), (143, .slice A1 t1.1.length c1), (142, .slice (some ⟨nx0 + 2, 0, none⟩) 2 2), (141, .bool true), (1, .slice (some ⟨nx0 + 2, 0, none⟩) 2 2)] (nx15 + 2) [⟨nx1, [.slice A2 t1.2.f0.length c2, .slice A3 t1.2.f1.length c3], 26⟩, ⟨nx2, [.slice A5 t2.2.f0.length c5, .slice A6 t2.2.f1.length c6], 26⟩, ⟨nx3, [.slice A8 t3.2.f0.length c8, .slice A9 t3.2.f1.length c9], 26⟩, ⟨nx4, [.slice A11 t4.2.f0.length c11, .slice A12 t4.2.f1.length c12], 26⟩, ⟨nx15, [i6 4, i6 5], 2⟩, ⟨nx15 + 1, [i6 0, i6 2], 2⟩] ?_
               refine RL.freezeL (d := (Ty.int .i64)) (xs := [4, 5]) (b := ⟨nx15, [i6 4, i6 5], 2⟩) 4 (by kernel_rfl) ⟨_, _, rfl, rfl, ⟨_, _, rfl, rfl, rfl⟩⟩ (Nat.le_of_ble_eq_true rfl) (fun I38 hi38 hr29 => ?_)
               refine RL.freezeL (d := (Ty.int .i64)) (xs := [0, 2]) (b := ⟨nx15 + 1, [i6 0, i6 2], 2⟩) 4 (by kernel_rfl) ⟨_, _, rfl, rfl, ⟨_, _, rfl, rfl, rfl⟩⟩ (Nat.le_of_ble_eq_true rfl) (fun I39 hi39 hr30 => ?_)
               obtain ⟨t15, hA15, H⟩ := bnd H
               refine RL.callP 20 [.slice (some ⟨nx0 + 2, 0, none⟩) 2 2, .slice A1 t1.1.length c1, .agg #[.slice (some ⟨nx15, 0, none⟩) 2 2, .slice (some ⟨nx15 + 1, 0, none⟩) 2 2]] (some 147) (fun w v w' => ∃ I', Imm.le I39 I' ∧ assign_VerifyDuals.Post I' w t15 v w') (by kernel_rfl) (by kernel_rfl) (fun w hs => ?_) ?_
               ·skip
                obtain ⟨JL7, hj7, hn7, hw7, hs⟩ := Sat.freeze (e := 3) (sz := 1) (S := A1) (n := t1.1.length) (cap := c1) (m := 0) hs (by kernel_rfl) (Reps.ext (Imm.le_trans (Imm.le_trans (Imm.le_trans (Imm.le_trans (Imm.le_trans (Imm.le_trans (Imm.le_trans (Imm.le_trans (Imm.le_trans (Imm.le_trans (Imm.le_trans (Imm.le_trans (Imm.le_trans (Imm.le_trans (Imm.le_trans (Imm.le_trans (Imm.le_trans (Imm.le_trans (Imm.le_trans (Imm.le_trans (Imm.le_trans (Imm.le_trans (Imm.le_trans (Imm.le_trans (Imm.le_trans (Imm.le_trans (Imm.le_trans (Imm.le_trans (Imm.le_trans (Imm.le_trans (Imm.le_trans (Imm.le_trans (Imm.le_trans hi5 hi6) hi7) hi8) hi9) hi10) hi11) hi12) hi13) hi14) hi15) hi16) hi17) hi18) hi19) hi20) hi21) hi22) hi23) hi24) hi25) hi26) hi27) hi28) hi29) hi31) hi32) hi33) hi34) hi35) hi36) hi37) hi38) hi39) hp1) rfl
                exact (assign_VerifyDuals.calls k JL7 [[3, 5], [4, 7]] (some ⟨nx0 + 2, 0, none⟩) 2 t1.1 A1 c1 (⟨[4, 5], [0, 2]⟩ : S26) (some ⟨nx15, 0, none⟩) 2 (some ⟨nx15 + 1, 0, none⟩) 2 _ hs.im (Nat.le_of_ble_eq_true rfl) (Rd.ext hj7 (Rd.ext (Imm.le_trans (Imm.le_trans (Imm.le_trans (Imm.le_trans (Imm.le_trans (Imm.le_trans (Imm.le_trans (Imm.le_trans (Imm.le_trans (Imm.le_trans (Imm.le_trans (Imm.le_trans (Imm.le_trans (Imm.le_trans (Imm.le_trans (Imm.le_trans (Imm.le_trans (Imm.le_trans (Imm.le_trans (Imm.le_trans (Imm.le_trans (Imm.le_trans (Imm.le_trans (Imm.le_trans (Imm.le_trans (Imm.le_trans (Imm.le_trans (Imm.le_trans (Imm.le_trans (Imm.le_trans (Imm.le_trans (Imm.le_trans (Imm.le_trans (Imm.le_trans hi4 hi5) hi6) hi7) hi8) hi9) hi10) hi11) hi12) hi13) hi14) hi15) hi16) hi17) hi18) hi19) hi20) hi21) hi22) hi23) hi24) hi25) hi26) hi27) hi28) hi29) hi31) hi32) hi33) hi34) hi35) hi36) hi37) hi38) hi39) hr3)) hn7 hw7 (Nat.le_of_ble_eq_true rfl) (Rd.ext hj7 (Rd.ext hi39 hr29)) (Nat.le_of_ble_eq_true rfl) (Rd.ext hj7 hr30) t15 hA15).mono (fun e w' ⟨v, hv, hp⟩ => ⟨v, hv, JL7, hj7, hp⟩)
               rintro w v w' hs ⟨I', hle, J, rfl, hg⟩
               refine RL.resume (X' := [orow 3 1 A1 t1.1.length c1 cs1, orow 3 1 A4 t2.1.length c4 cs4, orow 3 1 A7 t3.1.length c7 cs7, orow 3 1 A10 t4.1.length c10 cs10]) rfl (hs.call (hg.back hle)) ?_
               clear hs hg hle I' J
               generalize w'.heap.size = nx16
               clear w w'
               refine RL.s 3 [(150, .bool (!t15)), (1, .slice (some ⟨nx0 + 2, 0, none⟩) 2 2)] ?_
               refine RL.cases t15 (fun hb => ?_) (fun hb => ?_)
               ·have hc := hb
                rw [hb]
                rw [if_pos hc] at H; clear hb
                refine RL.simK (K' := [(0, .bool false)]) [] (RFacts.nil _ _ _) 29 (.no :: .no :: .no :: .no :: .no :: .no :: .no :: .no :: .no :: .no :: .no :: .no :: .no :: .no :: .no :: .no :: .no :: .no :: .no :: .no :: .no :: .no :: .no :: .no :: .no :: .no :: .no :: .no :: .no :: []) (by kernel_rfl) (by kernel_rfl) ?_
                refine RL.nil (by kernel_rfl) ?_
                obtain rfl := Option.some.inj H
                refine QN.sel (K' := [(0, .bool false)]) (L' := [⟨nx1, [.slice A2 t1.2.f0.length c2, .slice A3 t1.2.f1.length c3], 26⟩, ⟨nx2, [.slice A5 t2.2.f0.length c5, .slice A6 t2.2.f1.length c6], 26⟩, ⟨nx3, [.slice A8 t3.2.f0.length c8, .slice A9 t3.2.f1.length c9], 26⟩, ⟨nx4, [.slice A11 t4.2.f0.length c11, .slice A12 t4.2.f1.length c12], 26⟩]) [] (by kernel_rfl) (by kernel_rfl) (.cons_cons _ (.cons_cons _ (.cons_cons _ (.cons_cons _ .slnil)))) ?_
                refine QN.norm (X' := []) rfl rfl rfl (by kernel_rfl) ?_
                exact hJ1 _ _ _ _ _ ⟨false, rfl, rfl, rfl, (Imm.le_trans (Imm.le_trans (Imm.le_trans (Imm.le_trans (Imm.le_trans (Imm.le_trans (Imm.le_trans (Imm.le_trans hi31 hi32) hi33) hi34) hi35) hi36) hi37) hi38) hi39), HK1⟩
               ·have hc := (Bool.eq_false_iff.1 hb)
                rw [hb]
                rw [if_neg hc] at H; clear hb
                refine RL.sp 5 [(155, .agg #[.slice (some ⟨nx16 + 1, 0, none⟩) 2 2, .slice (some ⟨nx16 + 2, 0, none⟩) 2 2]), (152, .slice (some ⟨nx16, 0, none⟩) 2 2), (151, .slice (some ⟨nx0 + 2, 0, none⟩) 2 2), (150, .bool true), (1, .slice (some ⟨nx0 + 2, 0, none⟩) 2 2)] (nx16 + 3) [⟨nx1, [.slice A2 t1.2.f0.length c2, .slice A3 t1.2.f1.length c3], 26⟩, ⟨nx2, [.slice A5 t2.2.f0.length c5, .slice A6 t2.2.f1.length c6], 26⟩, ⟨nx3, [.slice A8 t3.2.f0.length c8, .slice A9 t3.2.f1.length c9], 26⟩, ⟨nx4, [.slice A11 t4.2.f0.length c11, .slice A12 t4.2.f1.length c12], 26⟩, ⟨nx16, [i6 1, i6 0], 3⟩, ⟨nx16 + 1, [i6 3, i6 5], 2⟩, ⟨nx16 + 2, [i6 0, i6 2], 2⟩] ?_
                refine RL.freezeL (d := (Ty.int .i64)) (xs := [1, 0]) (b := ⟨nx16, [i6 1, i6 0], 3⟩) 4 (by kernel_rfl) ⟨_, _, rfl, rfl, ⟨_, _, rfl, rfl, rfl⟩⟩ (Nat.le_of_ble_eq_true rfl) (fun I40 hi40 hr31 => ?_)
                refine RL.freezeL (d := (Ty.int .i64)) (xs := [3, 5]) (b := ⟨nx16 + 1, [i6 3, i6 5], 2⟩) 4 (by kernel_rfl) ⟨_, _, rfl, rfl, ⟨_, _, rfl, rfl, rfl⟩⟩ (Nat.le_of_ble_eq_true rfl) (fun I41 hi41 hr32 => ?_)
                refine RL.freezeL (d := (Ty.int .i64)) (xs := [0, 2]) (b := ⟨nx16 + 2, [i6 0, i6 2], 2⟩) 4 (by kernel_rfl) ⟨_, _, rfl, rfl, ⟨_, _, rfl, rfl, rfl⟩⟩ (Nat.le_of_ble_eq_true rfl) (fun I42 hi42 hr33 => ?_)
                obtain ⟨t16, hA16, H⟩ := bnd H
                refine RL.callP 20 [.slice (some ⟨nx0 + 2, 0, none⟩) 2 2, .slice (some ⟨nx16, 0, none⟩) 2 2, .agg #[.slice (some ⟨nx16 + 1, 0, none⟩) 2 2, .slice (some ⟨nx16 + 2, 0, none⟩) 2 2]] (some 156) (fun w => assign_VerifyDuals.Post I42 w t16) (by kernel_rfl) (by kernel_rfl) (fun w hs => assign_VerifyDuals.calls k I42 [[3, 5], [4, 7]] (some ⟨nx0 + 2, 0, none⟩) 2 [1, 0] (some ⟨nx16, 0, none⟩) 2 (⟨[3, 5], [0, 2]⟩ : S26) (some ⟨nx16 + 1, 0, none⟩) 2 (some ⟨nx16 + 2, 0, none⟩) 2 w hs.im (Nat.le_of_ble_eq_true rfl) (Rd.ext (Imm.le_trans (Imm.le_trans (Imm.le_trans (Imm.le_trans (Imm.le_trans (Imm.le_trans (Imm.le_trans (Imm.le_trans (Imm.le_trans (Imm.le_trans (Imm.le_trans (Imm.le_trans (Imm.le_trans (Imm.le_trans (Imm.le_trans (Imm.le_trans (Imm.le_trans (Imm.le_trans (Imm.le_trans (Imm.le_trans (Imm.le_trans (Imm.le_trans (Imm.le_trans (Imm.le_trans (Imm.le_trans (Imm.le_trans (Imm.le_trans (Imm.le_trans (Imm.le_trans (Imm.le_trans (Imm.le_trans (Imm.le_trans (Imm.le_trans (Imm.le_trans (Imm.le_trans (Imm.le_trans (Imm.le_trans hi4 hi5) hi6) hi7) hi8) hi9) hi10) hi11) hi12) hi13) hi14) hi15) hi16) hi17) hi18) hi19) hi20) hi21) hi22) hi23) hi24) hi25) hi26) hi27) hi28) hi29) hi31) hi32) hi33) hi34) hi35) hi36) hi37) hi38) hi39) hi40) hi41) hi42) hr3) (Nat.le_of_ble_eq_true rfl) (Rd.ext (Imm.le_trans hi41 hi42) hr31) (Nat.le_of_ble_eq_true rfl) (Rd.ext hi42 hr32) (Nat.le_of_ble_eq_true rfl) hr33 t16 hA16) ?_
                rintro w v w' hs ⟨I43, rfl, hg⟩
                have hi43 := hg.le
                refine RL.resume (X' := [orow 3 1 A1 t1.1.length c1 cs1, orow 3 1 A4 t2.1.length c4 cs4, orow 3 1 A7 t3.1.length c7 cs7, orow 3 1 A10 t4.1.length c10 cs10]) rfl (hs.call hg) ?_
                clear hs hg
                generalize w'.heap.size = nx17
                clear w w'
                refine RL.s 3 [(159, .bool (!t16)), (1, .slice (some ⟨nx0 + 2, 0, none⟩) 2 2)] ?_
                refine RL.cases t16 (fun hb => ?_) (fun hb => ?_)
                ·have hc := hb
                 rw [hb]
                 rw [if_pos hc] at H; clear hb
                 refine RL.s 20 [(0, .bool false)] ?_
                 refine RL.nil (by kernel_rfl) ?_
                 obtain rfl := Option.some.inj H
                 refine QN.sel (K' := [(0, .bool false)]) (L' := [⟨nx1, [.slice A2 t1.2.f0.length c2, .slice A3 t1.2.f1.length c3], 26⟩, ⟨nx2, [.slice A5 t2.2.f0.length c5, .slice A6 t2.2.f1.length c6], 26⟩, ⟨nx3, [.slice A8 t3.2.f0.length c8, .slice A9 t3.2.f1.length c9], 26⟩, ⟨nx4, [.slice A11 t4.2.f0.length c11, .slice A12 t4.2.f1.length c12], 26⟩]) [] (by kernel_rfl) (by kernel_rfl) (.cons_cons _ (.cons_cons _ (.cons_cons _ (.cons_cons _ .slnil)))) ?_
                 refine QN.norm (X' := []) rfl rfl rfl (by kernel_rfl) ?_
                 exact hJ1 _ _ _ _ _ ⟨false, rfl, rfl, rfl, (Imm.le_trans (Imm.le_trans (Imm.le_trans (Imm.le_trans (Imm.le_trans (Imm.le_trans (Imm.le_trans (Imm.le_trans (Imm.le_trans (Imm.le_trans (Imm.le_trans (Imm.le_trans hi31 hi32) hi33) hi34) hi35) hi36) hi37) hi38) hi39) hi40) hi41) hi42) hi43), HK1⟩
                ·have hc := (Bool.eq_false_iff.1 hb)
                 rw [hb]
                 rw [if_neg hc] at H; clear hb
                 refine RL.s 1 [(160, .slice (some ⟨nx0 + 2, 0, none⟩) 2 2), (159, .bool true)] ?_
                 obtain ⟨t17, hA17, H⟩ := bnd H
                 refine RL.callP 11 [.slice (some ⟨nx0 + 2, 0, none⟩) 2 2] (some 161) (fun w => assign_Valid.Post I43 w t17) (by kernel_rfl) (by kernel_rfl) (fun w hs => assign_Valid.calls k I43 [[3, 5], [4, 7]] (some ⟨nx0 + 2, 0, none⟩) 2 w hs.im (Nat.le_of_ble_eq_true rfl) (Rd.ext (Imm.le_trans (Imm.le_trans (Imm.le_trans (Imm.le_trans (Imm.le_trans (Imm.le_trans (Imm.le_trans (Imm.le_trans (Imm.le_trans (Imm.le_trans (Imm.le_trans (Imm.le_trans (Imm.le_trans (Imm.le_trans (Imm.le_trans (Imm.le_trans (Imm.le_trans (Imm.le_trans (Imm.le_trans (Imm.le_trans (Imm.le_trans (Imm.le_trans (Imm.le_trans (Imm.le_trans (Imm.le_trans (Imm.le_trans (Imm.le_trans (Imm.le_trans (Imm.le_trans (Imm.le_trans (Imm.le_trans (Imm.le_trans (Imm.le_trans (Imm.le_trans (Imm.le_trans (Imm.le_trans (Imm.le_trans (Imm.le_trans hi4 hi5) hi6) hi7) hi8) hi9) hi10) hi11) hi12) hi13) hi14) hi15) hi16) hi17) hi18) hi19) hi20) hi21) hi22) hi23) hi24) hi25) hi26) hi27) hi28) hi29) hi31) hi32) hi33) hi34) hi35) hi36) hi37) hi38) hi39) hi40) hi41) hi42) hi43) hr3) t17 hA17) ?_
                 rintro w v w' hs ⟨I44, rfl, hg⟩
                 have hi44 := hg.le
                 refine RL.resume (X' := [orow 3 1 A1 t1.1.length c1 cs1, orow 3 1 A4 t2.1.length c4 cs4, orow 3 1 A7 t3.1.length c7 cs7, orow 3 1 A10 t4.1.length c10 cs10]) rfl (hs.call hg) ?_
                 clear hs hg
                 generalize w'.heap.size = nx18
                 clear w w'
                 refine RL.s 2 [(163, .bool t17)] ?_
                 refine RL.cases t17 (fun hb => ?_) (fun hb => ?_)
                 ·have hc := hb
                  rw [hb]
                  rw [if_pos hc] at H; clear hb
                  obtain ⟨t18, hA18, H⟩ := bnd H
                  refine RL.callP 11 [.slice none 0 0] (some 164) (fun w => assign_Valid.Post I44 w t18) (by kernel_rfl) (by kernel_rfl) (fun w hs => assign_Valid.calls k I44 [] none 0 w hs.im (Nat.le_refl _) (Rd.nil _ _ _) t18 hA18) ?_
                  rintro w v w' hs ⟨I45, rfl, hg⟩
                  have hi45 := hg.le
                  refine RL.resume (X' := [orow 3 1 A1 t1.1.length c1 cs1, orow 3 1 A4 t2.1.length c4 cs4, orow 3 1 A7 t3.1.length c7 cs7, orow 3 1 A10 t4.1.length c10 cs10]) rfl (hs.call hg) ?_
                  clear hs hg
                  generalize w'.heap.size = nx19
                  clear w w'
                  refine RL.s 2 [(166, .bool t18)] ?_
                  refine RL.cases t18 (fun hb => ?_) (fun hb => ?_)
                  ·have hc := hb
                   rw [hb]
                   rw [if_pos hc] at H; clear hb
                   refine RL.sp 3 [(169, .slice (some ⟨nx19 + 2, 0, none⟩) 2 2), (166, .bool true)] (nx19 + 3) [⟨nx1, [.slice A2 t1.2.f0.length c2, .slice A3 t1.2.f1.length c3], 26⟩, ⟨nx2, [.slice A5 t2.2.f0.length c5, .slice A6 t2.2.f1.length c6], 26⟩, ⟨nx3, [.slice A8 t3.2.f0.length c8, .slice A9 t3.2.f1.length c9], 26⟩, ⟨nx4, [.slice A11 t4.2.f0.length c11, .slice A12 t4.2.f1.length c12], 26⟩, ⟨nx19, [i6 1], 2⟩, ⟨nx19 + 1, [], 2⟩, ⟨nx19 + 2, [.slice (some ⟨nx19, 0, none⟩) 1 1, .slice (some ⟨nx19 + 1, 0, none⟩) 0 0], 24⟩] ?_
                   refine RL.freezeL (d := (Ty.int .i64)) (xs := [1]) (b := ⟨nx19, [i6 1], 2⟩) 4 (by kernel_rfl) ⟨_, _, rfl, rfl, rfl⟩ (Nat.le_of_ble_eq_true rfl) (fun I46 hi46 hr34 => ?_)
                   refine RL.freezeL (d := (Ty.int .i64)) (xs := []) (b := ⟨nx19 + 1, [], 2⟩) 4 (by kernel_rfl) rfl (Nat.le_of_ble_eq_true rfl) (fun I47 hi47 hr35 => ?_)
                   refine RL.freezeL (d := (Ty.slice (Ty.int .i64))) (xs := [[1], []]) (b := ⟨nx19 + 2, [.slice (some ⟨nx19, 0, none⟩) 1 1, .slice (some ⟨nx19 + 1, 0, none⟩) 0 0], 24⟩) 4 (by kernel_rfl) ⟨_, _, rfl, ⟨_, _, rfl, (Nat.le_of_ble_eq_true rfl), (Rd.ext hi47 hr34)⟩, ⟨_, _, rfl, ⟨_, _, rfl, (Nat.le_of_ble_eq_true rfl), hr35⟩, rfl⟩⟩ (Nat.le_of_ble_eq_true rfl) (fun I48 hi48 hr36 => ?_)
                   obtain ⟨t19, hA19, H⟩ := bnd H
                   refine RL.callP 11 [.slice (some ⟨nx19 + 2, 0, none⟩) 2 2] (some 170) (fun w => assign_Valid.Post I48 w t19) (by kernel_rfl) (by kernel_rfl) (fun w hs => assign_Valid.calls k I48 [[1], []] (some ⟨nx19 + 2, 0, none⟩) 2 w hs.im (Nat.le_of_ble_eq_true rfl) hr36 t19 hA19) ?_
                   rintro w v w' hs ⟨I49, rfl, hg⟩
                   have hi49 := hg.le
                   refine RL.resume (X' := [orow 3 1 A1 t1.1.length c1 cs1, orow 3 1 A4 t2.1.length c4 cs4, orow 3 1 A7 t3.1.length c7 cs7, orow 3 1 A10 t4.1.length c10 cs10]) rfl (hs.call hg) ?_
                   clear hs hg
                   generalize w'.heap.size = nx20
                   clear w w'
                   refine RL.s 3 [(173, .bool (!t19))] ?_
                   refine RL.cases t19 (fun hb => ?_) (fun hb => ?_)
                   ·have hc := hb
                    rw [hb]
                    rw [if_pos hc] at H; clear hb
                    refine RL.s 6 [(0, .bool false)] ?_
                    refine RL.nil (by kernel_rfl) ?_
                    obtain rfl := Option.some.inj H
                    refine QN.sel (K' := [(0, .bool false)]) (L' := [⟨nx1, [.slice A2 t1.2.f0.length c2, .slice A3 t1.2.f1.length c3], 26⟩, ⟨nx2, [.slice A5 t2.2.f0.length c5, .slice A6 t2.2.f1.length c6], 26⟩, ⟨nx3, [.slice A8 t3.2.f0.length c8, .slice A9 t3.2.f1.length c9], 26⟩, ⟨nx4, [.slice A11 t4.2.f0.length c11, .slice A12 t4.2.f1.length c12], 26⟩]) [] (by kernel_rfl) (by kernel_rfl) (.cons_cons _ (.cons_cons _ (.cons_cons _ (.cons_cons _ .slnil)))) ?_
                    refine QN.norm (X' := []) rfl rfl rfl (by kernel_rfl) ?_
                    exact hJ1 _ _ _ _ _ ⟨false, rfl, rfl, rfl, (Imm.le_trans (Imm.le_trans (Imm.le_trans (Imm.le_trans (Imm.le_trans (Imm.le_trans (Imm.le_trans (Imm.le_trans (Imm.le_trans (Imm.le_trans (Imm.le_trans (Imm.le_trans (Imm.le_trans (Imm.le_trans (Imm.le_trans (Imm.le_trans (Imm.le_trans (Imm.le_trans hi31 hi32) hi33) hi34) hi35) hi36) hi37) hi38) hi39) hi40) hi41) hi42) hi43) hi44) hi45) hi46) hi47) hi48) hi49), HK1⟩
                   ·have hc := (Bool.eq_false_iff.1 hb)
                    rw [hb]
                    rw [if_neg hc] at H; clear hb
                    refine RL.sp 2 [(175, .slice (some ⟨nx20 + 1, 0, none⟩) 1 1), (173, .bool true)] (nx20 + 2) [⟨nx1, [.slice A2 t1.2.f0.length c2, .slice A3 t1.2.f1.length c3], 26⟩, ⟨nx2, [.slice A5 t2.2.f0.length c5, .slice A6 t2.2.f1.length c6], 26⟩, ⟨nx3, [.slice A8 t3.2.f0.length c8, .slice A9 t3.2.f1.length c9], 26⟩, ⟨nx4, [.slice A11 t4.2.f0.length c11, .slice A12 t4.2.f1.length c12], 26⟩, ⟨nx20, [i6 (-1)], 2⟩, ⟨nx20 + 1, [.slice (some ⟨nx20, 0, none⟩) 1 1], 24⟩] ?_
                    refine RL.freezeL (d := (Ty.int .i64)) (xs := [(-1)]) (b := ⟨nx20, [i6 (-1)], 2⟩) 4 (by kernel_rfl) ⟨_, _, rfl, rfl, rfl⟩ (Nat.le_of_ble_eq_true rfl) (fun I50 hi50 hr37 => ?_)
                    refine RL.freezeL (d := (Ty.slice (Ty.int .i64))) (xs := [[(-1)]]) (b := ⟨nx20 + 1, [.slice (some ⟨nx20, 0, none⟩) 1 1], 24⟩) 4 (by kernel_rfl) ⟨_, _, rfl, ⟨_, _, rfl, (Nat.le_of_ble_eq_true rfl), hr37⟩, rfl⟩ (Nat.le_of_ble_eq_true rfl) (fun I51 hi51 hr38 => ?_)
                    obtain ⟨t20, hA20, H⟩ := bnd H
                    refine RL.callP 11 [.slice (some ⟨nx20 + 1, 0, none⟩) 1 1] (some 176) (fun w => assign_Valid.Post I51 w t20) (by kernel_rfl) (by kernel_rfl) (fun w hs => assign_Valid.calls k I51 [[(-1)]] (some ⟨nx20 + 1, 0, none⟩) 1 w hs.im (Nat.le_of_ble_eq_true rfl) hr38 t20 hA20) ?_
                    rintro w v w' hs ⟨I52, rfl, hg⟩
                    have hi52 := hg.le
                    refine RL.resume (X' := [orow 3 1 A1 t1.1.length c1 cs1, orow 3 1 A4 t2.1.length c4 cs4, orow 3 1 A7 t3.1.length c7 cs7, orow 3 1 A10 t4.1.length c10 cs10]) rfl (hs.call hg) ?_
                    clear hs hg
                    generalize w'.heap.size = nx21
                    clear w w'
                    refine RL.s 3 [(0, .bool (!t20))] ?_
                    refine RL.nil (by kernel_rfl) ?_
                    obtain rfl := Option.some.inj H
                    refine QN.sel (K' := [(0, .bool (!t20))]) (L' := [⟨nx1, [.slice A2 t1.2.f0.length c2, .slice A3 t1.2.f1.length c3], 26⟩, ⟨nx2, [.slice A5 t2.2.f0.length c5, .slice A6 t2.2.f1.length c6], 26⟩, ⟨nx3, [.slice A8 t3.2.f0.length c8, .slice A9 t3.2.f1.length c9], 26⟩, ⟨nx4, [.slice A11 t4.2.f0.length c11, .slice A12 t4.2.f1.length c12], 26⟩]) [] (by kernel_rfl) (by kernel_rfl) (.cons_cons _ (.cons_cons _ (.cons_cons _ (.cons_cons _ .slnil)))) ?_
                    refine QN.norm (X' := []) rfl rfl rfl (by kernel_rfl) ?_
                    exact hJ1 _ _ _ _ _ ⟨(!t20), rfl, rfl, rfl, (Imm.le_trans (Imm.le_trans (Imm.le_trans (Imm.le_trans (Imm.le_trans (Imm.le_trans (Imm.le_trans (Imm.le_trans (Imm.le_trans (Imm.le_trans (Imm.le_trans (Imm.le_trans (Imm.le_trans (Imm.le_trans (Imm.le_trans (Imm.le_trans (Imm.le_trans (Imm.le_trans (Imm.le_trans (Imm.le_trans (Imm.le_trans hi31 hi32) hi33) hi34) hi35) hi36) hi37) hi38) hi39) hi40) hi41) hi42) hi43) hi44) hi45) hi46) hi47) hi48) hi49) hi50) hi51) hi52), HK1⟩
                  ·have hc := (Bool.eq_false_iff.1 hb)
                   rw [hb]
                   rw [if_neg hc] at H; clear hb
                   refine RL.s 13 [(0, .bool false)] ?_
                   refine RL.nil (by kernel_rfl) ?_
                   obtain rfl := Option.some.inj H
                   refine QN.sel (K' := [(0, .bool false)]) (L' := [⟨nx1, [.slice A2 t1.2.f0.length c2, .slice A3 t1.2.f1.length c3], 26⟩, ⟨nx2, [.slice A5 t2.2.f0.length c5, .slice A6 t2.2.f1.length c6], 26⟩, ⟨nx3, [.slice A8 t3.2.f0.length c8, .slice A9 t3.2.f1.length c9], 26⟩, ⟨nx4, [.slice A11 t4.2.f0.length c11, .slice A12 t4.2.f1.length c12], 26⟩]) [] (by kernel_rfl) (by kernel_rfl) (.cons_cons _ (.cons_cons _ (.cons_cons _ (.cons_cons _ .slnil)))) ?_
                   refine QN.norm (X' := []) rfl rfl rfl (by kernel_rfl) ?_
                   exact hJ1 _ _ _ _ _ ⟨false, rfl, rfl, rfl, (Imm.le_trans (Imm.le_trans (Imm.le_trans (Imm.le_trans (Imm.le_trans (Imm.le_trans (Imm.le_trans (Imm.le_trans (Imm.le_trans (Imm.le_trans (Imm.le_trans (Imm.le_trans (Imm.le_trans (Imm.le_trans hi31 hi32) hi33) hi34) hi35) hi36) hi37) hi38) hi39) hi40) hi41) hi42) hi43) hi44) hi45), HK1⟩
                 ·have hc := (Bool.eq_false_iff.1 hb)
                  rw [hb]
                  rw [if_neg hc] at H; clear hb
                  refine RL.s 16 [(0, .bool false)] ?_
                  refine RL.nil (by kernel_rfl) ?_
                  obtain rfl := Option.some.inj H
                  refine QN.sel (K' := [(0, .bool false)]) (L' := [⟨nx1, [.slice A2 t1.2.f0.length c2, .slice A3 t1.2.f1.length c3], 26⟩, ⟨nx2, [.slice A5 t2.2.f0.length c5, .slice A6 t2.2.f1.length c6], 26⟩, ⟨nx3, [.slice A8 t3.2.f0.length c8, .slice A9 t3.2.f1.length c9], 26⟩, ⟨nx4, [.slice A11 t4.2.f0.length c11, .slice A12 t4.2.f1.length c12], 26⟩]) [] (by kernel_rfl) (by kernel_rfl) (.cons_cons _ (.cons_cons _ (.cons_cons _ (.cons_cons _ .slnil)))) ?_
                  refine QN.norm (X' := []) rfl rfl rfl (by kernel_rfl) ?_
                  exact hJ1 _ _ _ _ _ ⟨false, rfl, rfl, rfl, (Imm.le_trans (Imm.le_trans (Imm.le_trans (Imm.le_trans (Imm.le_trans (Imm.le_trans (Imm.le_trans (Imm.le_trans (Imm.le_trans (Imm.le_trans (Imm.le_trans (Imm.le_trans (Imm.le_trans hi31 hi32) hi33) hi34) hi35) hi36) hi37) hi38) hi39) hi40) hi41) hi42) hi43) hi44), HK1⟩
             ·have hc := (Bool.eq_false_iff.1 hb)
              rw [hb]
              rw [if_neg hc] at H; clear hb
              refine RL.simK (K' := [(0, .bool false)]) [] (RFacts.nil _ _ _) 47 (.no :: .no :: .no :: .no :: .no :: .no :: .no :: .no :: .no :: .no :: .no :: .no :: .no :: .no :: .no :: .no :: .no :: .no :: .no :: .no :: .no :: .no :: .no :: .no :: .no :: .no :: .no :: .no :: .no :: .no :: .no :: .no :: .no :: .no :: .no :: .no :: .no :: .no :: .no :: .no :: .no :: .no :: .no :: .no :: .no :: .no :: .no :: []) (by kernel_rfl) (by kernel_rfl) ?_
              refine RL.nil (by kernel_rfl) ?_
              obtain rfl := Option.some.inj H
              refine QN.sel (K' := [(0, .bool false)]) (L' := [⟨nx1, [.slice A2 t1.2.f0.length c2, .slice A3 t1.2.f1.length c3], 26⟩, ⟨nx2, [.slice A5 t2.2.f0.length c5, .slice A6 t2.2.f1.length c6], 26⟩, ⟨nx3, [.slice A8 t3.2.f0.length c8, .slice A9 t3.2.f1.length c9], 26⟩, ⟨nx4, [.slice A11 t4.2.f0.length c11, .slice A12 t4.2.f1.length c12], 26⟩]) [] (by kernel_rfl) (by kernel_rfl) (.cons_cons _ (.cons_cons _ (.cons_cons _ (.cons_cons _ .slnil)))) ?_
              refine QN.norm (X' := []) rfl rfl rfl (by kernel_rfl) ?_
              exact hJ1 _ _ _ _ _ ⟨false, rfl, rfl, rfl, (Imm.le_trans (Imm.le_trans (Imm.le_trans (Imm.le_trans hi31 hi32) hi33) hi34) hi35), HK1⟩
          ·have hc := (Bool.eq_false_iff.1 hb)
           rw [hb]
           rw [if_neg hc] at H; clear hb
           refine RL.simK (K' := [(0, .bool false)]) [] (RFacts.nil _ _ _) 63 (.no :: .no :: .no :: .no :: .no :: .no :: .no :: .no :: .no :: .no :: .no :: .no :: .no :: .no :: .no :: .no :: .no :: .no :: .no :: .no :: .no :: .no :: .no :: .no :: .no :: .no :: .no :: .no :: .no :: .no :: .no :: .no :: .no :: .no :: .no :: .no :: .no :: .no :: .no :: .no :: .no :: .no :: .no :: .no :: .no :: .no :: .no :: .no :: .no :: .no :: .no :: .no :: .no :: .no :: .no :: .no :: .no :: .no :: .no :: .no :: .no :: .no :: .no :: []) (by kernel_rfl) (by kernel_rfl) ?_
           refine RL.nil (by kernel_rfl) ?_
           obtain rfl := Option.some.inj H
           refine QN.sel (K' := [(0, .bool false)]) (L' := [⟨nx1, [.slice A2 t1.2.f0.length c2, .slice A3 t1.2.f1.length c3], 26⟩, ⟨nx2, [.slice A5 t2.2.f0.length c5, .slice A6 t2.2.f1.length c6], 26⟩, ⟨nx3, [.slice A8 t3.2.f0.length c8, .slice A9 t3.2.f1.length c9], 26⟩, ⟨nx4, [.slice A11 t4.2.f0.length c11, .slice A12 t4.2.f1.length c12], 26⟩]) [] (by kernel_rfl) (by kernel_rfl) (.cons_cons _ (.cons_cons _ (.cons_cons _ (.cons_cons _ .slnil)))) ?_
           refine QN.norm (X' := []) rfl rfl rfl (by kernel_rfl) ?_
           exact hJ1 _ _ _ _ _ ⟨false, rfl, rfl, rfl, (Imm.le_trans (Imm.le_trans hi31 hi32) hi33), HK1⟩
         ·have hc := (beq_eq_false_iff_ne.1 hb)
          rw [hb]
          rw [if_neg hc] at H; clear hb
          refine RL.simK (K' := [(0, .bool false)]) [] (RFacts.nil _ _ _) 66 (.no :: .no :: .no :: .no :: .no :: .no :: .no :: .no :: .no :: .no :: .no :: .no :: .no :: .no :: .no :: .no :: .no :: .no :: .no :: .no :: .no :: .no :: .no :: .no :: .no :: .no :: .no :: .no :: .no :: .no :: .no :: .no :: .no :: .no :: .no :: .no :: .no :: .no :: .no :: .no :: .no :: .no :: .no :: .no :: .no :: .no :: .no :: .no :: .no :: .no :: .no :: .no :: .no :: .no :: .no :: .no :: .no :: .no :: .no :: .no :: .no :: .no :: .no :: .no :: .no :: .no :: []) (by kernel_rfl) (by kernel_rfl) ?_
          refine RL.nil (by kernel_rfl) ?_
          obtain rfl := Option.some.inj H
          refine QN.sel (K' := [(0, .bool false)]) (L' := [⟨nx1, [.slice A2 t1.2.f0.length c2, .slice A3 t1.2.f1.length c3], 26⟩, ⟨nx2, [.slice A5 t2.2.f0.length c5, .slice A6 t2.2.f1.length c6], 26⟩, ⟨nx3, [.slice A8 t3.2.f0.length c8, .slice A9 t3.2.f1.length c9], 26⟩, ⟨nx4, [.slice A11 t4.2.f0.length c11, .slice A12 t4.2.f1.length c12], 26⟩]) [] (by kernel_rfl) (by kernel_rfl) (.cons_cons _ (.cons_cons _ (.cons_cons _ (.cons_cons _ .slnil)))) ?_
          refine QN.norm (X' := []) rfl rfl rfl (by kernel_rfl) ?_
          exact hJ1 _ _ _ _ _ ⟨false, rfl, rfl, rfl, (Imm.le_trans (Imm.le_trans hi31 hi32) hi33), HK1⟩
        ·have hc := (Bool.eq_false_iff.1 hb)
         rw [hb]
         rw [if_neg hc] at H; clear hb
         refine RL.simK (K' := [(0, .bool false)]) [] (RFacts.nil _ _ _) 70 (.no :: .no :: .no :: .no :: .no :: .no :: .no :: .no :: .no :: .no :: .no :: .no :: .no :: .no :: .no :: .no :: .no :: .no :: .no :: .no :: .no :: .no :: .no :: .no :: .no :: .no :: .no :: .no :: .no :: .no :: .no :: .no :: .no :: .no :: .no :: .no :: .no :: .no :: .no :: .no :: .no :: .no :: .no :: .no :: .no :: .no :: .no :: .no :: .no :: .no :: .no :: .no :: .no :: .no :: .no :: .no :: .no :: .no :: .no :: .no :: .no :: .no :: .no :: .no :: .no :: .no :: .no :: .no :: .no :: .no :: []) (by kernel_rfl) (by kernel_rfl) ?_
         refine RL.nil (by kernel_rfl) ?_
         obtain rfl := Option.some.inj H
         refine QN.sel (K' := [(0, .bool false)]) (L' := [⟨nx1, [.slice A2 t1.2.f0.length c2, .slice A3 t1.2.f1.length c3], 26⟩, ⟨nx2, [.slice A5 t2.2.f0.length c5, .slice A6 t2.2.f1.length c6], 26⟩, ⟨nx3, [.slice A8 t3.2.f0.length c8, .slice A9 t3.2.f1.length c9], 26⟩, ⟨nx4, [.slice A11 t4.2.f0.length c11, .slice A12 t4.2.f1.length c12], 26⟩]) [] (by kernel_rfl) (by kernel_rfl) (.cons_cons _ (.cons_cons _ (.cons_cons _ (.cons_cons _ .slnil)))) ?_
         refine QN.norm (X' := []) rfl rfl rfl (by kernel_rfl) ?_
         exact hJ1 _ _ _ _ _ ⟨false, rfl, rfl, rfl, (Imm.le_trans (Imm.le_trans hi31 hi32) hi33), HK1⟩
       ·have hc := (beq_eq_false_iff_ne.1 hb)
        rw [hb]
        rw [if_neg hc] at H; clear hb
        refine RL.simK (K' := [(0, .bool false)]) [] (RFacts.nil _ _ _) 73 (.no :: .no :: .no :: .no :: .no :: .no :: .no :: .no :: .no :: .no :: .no :: .no :: .no :: .no :: .no :: .no :: .no :: .no :: .no :: .no :: .no :: .no :: .no :: .no :: .no :: .no :: .no :: .no :: .no :: .no :: .no :: .no :: .no :: .no :: .no :: .no :: .no :: .no :: .no :: .no :: .no :: .no :: .no :: .no :: .no :: .no :: .no :: .no :: .no :: .no :: .no :: .no :: .no :: .no :: .no :: .no :: .no :: .no :: .no :: .no :: .no :: .no :: .no :: .no :: .no :: .no :: .no :: .no :: .no :: .no :: .no :: .no :: .no :: []) (by kernel_rfl) (by kernel_rfl) ?_
        refine RL.nil (by kernel_rfl) ?_
        obtain rfl := Option.some.inj H
        refine QN.sel (K' := [(0, .bool false)]) (L' := [⟨nx1, [.slice A2 t1.2.f0.length c2, .slice A3 t1.2.f1.length c3], 26⟩, ⟨nx2, [.slice A5 t2.2.f0.length c5, .slice A6 t2.2.f1.length c6], 26⟩, ⟨nx3, [.slice A8 t3.2.f0.length c8, .slice A9 t3.2.f1.length c9], 26⟩, ⟨nx4, [.slice A11 t4.2.f0.length c11, .slice A12 t4.2.f1.length c12], 26⟩]) [] (by kernel_rfl) (by kernel_rfl) (.cons_cons _ (.cons_cons _ (.cons_cons _ (.cons_cons _ .slnil)))) ?_
        refine QN.norm (X' := []) rfl rfl rfl (by kernel_rfl) ?_
        exact hJ1 _ _ _ _ _ ⟨false, rfl, rfl, rfl, (Imm.le_trans (Imm.le_trans hi31 hi32) hi33), HK1⟩
      ·have hc := (beq_eq_false_iff_ne.1 hb)
       rw [hb]
       rw [if_neg hc] at H; clear hb
       refine RL.simK (K' := [(0, .bool false)]) [] (RFacts.nil _ _ _) 77 (.no :: .no :: .no :: .no :: .no :: .no :: .no :: .no :: .no :: .no :: .no :: .no :: .no :: .no :: .no :: .no :: .no :: .no :: .no :: .no :: .no :: .no :: .no :: .no :: .no :: .no :: .no :: .no :: .no :: .no :: .no :: .no :: .no :: .no :: .no :: .no :: .no :: .no :: .no :: .no :: .no :: .no :: .no :: .no :: .no :: .no :: .no :: .no :: .no :: .no :: .no :: .no :: .no :: .no :: .no :: .no :: .no :: .no :: .no :: .no :: .no :: .no :: .no :: .no :: .no :: .no :: .no :: .no :: .no :: .no :: .no :: .no :: .no :: .no :: .no :: .no :: .no :: []) (by kernel_rfl) (by kernel_rfl) ?_
       refine RL.nil (by kernel_rfl) ?_
       obtain rfl := Option.some.inj H
       refine QN.sel (K' := [(0, .bool false)]) (L' := [⟨nx1, [.slice A2 t1.2.f0.length c2, .slice A3 t1.2.f1.length c3], 26⟩, ⟨nx2, [.slice A5 t2.2.f0.length c5, .slice A6 t2.2.f1.length c6], 26⟩, ⟨nx3, [.slice A8 t3.2.f0.length c8, .slice A9 t3.2.f1.length c9], 26⟩, ⟨nx4, [.slice A11 t4.2.f0.length c11, .slice A12 t4.2.f1.length c12], 26⟩]) [] (by kernel_rfl) (by kernel_rfl) (.cons_cons _ (.cons_cons _ (.cons_cons _ (.cons_cons _ .slnil)))) ?_
       refine QN.norm (X' := []) rfl rfl rfl (by kernel_rfl) ?_
       exact hJ1 _ _ _ _ _ ⟨false, rfl, rfl, rfl, (Imm.le_trans (Imm.le_trans hi31 hi32) hi33), HK1⟩
     ·have hc := (Bool.eq_false_iff.1 hb)
      rw [hb]
      rw [if_neg hc] at H; clear hb
      refine RL.simK (K' := [(0, .bool false)]) [] (RFacts.nil _ _ _) 90 (.no :: .no :: .no :: .no :: .no :: .no :: .no :: .no :: .no :: .no :: .no :: .no :: .no :: .no :: .no :: .no :: .no :: .no :: .no :: .no :: .no :: .no :: .no :: .no :: .no :: .no :: .no :: .no :: .no :: .no :: .no :: .no :: .no :: .no :: .no :: .no :: .no :: .no :: .no :: .no :: .no :: .no :: .no :: .no :: .no :: .no :: .no :: .no :: .no :: .no :: .no :: .no :: .no :: .no :: .no :: .no :: .no :: .no :: .no :: .no :: .no :: .no :: .no :: .no :: .no :: .no :: .no :: .no :: .no :: .no :: .no :: .no :: .no :: .no :: .no :: .no :: .no :: .no :: .no :: .no :: .no :: .no :: .no :: .no :: .no :: .no :: .no :: .no :: .no :: .no :: []) (by kernel_rfl) (by kernel_rfl) ?_
      refine RL.nil (by kernel_rfl) ?_
      obtain rfl := Option.some.inj H
      refine QN.sel (K' := [(0, .bool false)]) (L' := [⟨nx1, [.slice A2 t1.2.f0.length c2, .slice A3 t1.2.f1.length c3], 26⟩, ⟨nx2, [.slice A5 t2.2.f0.length c5, .slice A6 t2.2.f1.length c6], 26⟩, ⟨nx3, [.slice A8 t3.2.f0.length c8, .slice A9 t3.2.f1.length c9], 26⟩, ⟨nx4, [.slice A11 t4.2.f0.length c11, .slice A12 t4.2.f1.length c12], 26⟩]) [] (by kernel_rfl) (by kernel_rfl) (.cons_cons _ (.cons_cons _ (.cons_cons _ (.cons_cons _ .slnil)))) ?_
      refine QN.norm (X' := []) rfl rfl rfl (by kernel_rfl) ?_
      exact hJ1 _ _ _ _ _ ⟨false, rfl, rfl, rfl, (Imm.le_trans (Imm.le_trans hi31 hi32) hi33), HK1⟩
    ·have hc := (Bool.eq_false_iff.1 hb)
     rw [hb]
     rw [if_neg hc] at H; clear hb
     refine RL.simK (K' := [(0, .bool false)]) [] (RFacts.nil _ _ _) 95 (.no :: .no :: .no :: .no :: .no :: .no :: .no :: .no :: .no :: .no :: .no :: .no :: .no :: .no :: .no :: .no :: .no :: .no :: .no :: .no :: .no :: .no :: .no :: .no :: .no :: .no :: .no :: .no :: .no :: .no :: .no :: .no :: .no :: .no :: .no :: .no :: .no :: .no :: .no :: .no :: .no :: .no :: .no :: .no :: .no :: .no :: .no :: .no :: .no :: .no :: .no :: .no :: .no :: .no :: .no :: .no :: .no :: .no :: .no :: .no :: .no :: .no :: .no :: .no :: .no :: .no :: .no :: .no :: .no :: .no :: .no :: .no :: .no :: .no :: .no :: .no :: .no :: .no :: .no :: .no :: .no :: .no :: .no :: .no :: .no :: .no :: .no :: .no :: .no :: .no :: .no :: .no :: .no :: .no :: .no :: []) (by kernel_rfl) (by kernel_rfl) ?_
     refine RL.nil (by kernel_rfl) ?_
     obtain rfl := Option.some.inj H
     refine QN.sel (K' := [(0, .bool false)]) (L' := [⟨nx1, [.slice A2 t1.2.f0.length c2, .slice A3 t1.2.f1.length c3], 26⟩, ⟨nx2, [.slice A5 t2.2.f0.length c5, .slice A6 t2.2.f1.length c6], 26⟩, ⟨nx3, [.slice A8 t3.2.f0.length c8, .slice A9 t3.2.f1.length c9], 26⟩, ⟨nx4, [.slice A11 t4.2.f0.length c11, .slice A12 t4.2.f1.length c12], 26⟩]) [] (by kernel_rfl) (by kernel_rfl) (.cons_cons _ (.cons_cons _ (.cons_cons _ (.cons_cons _ .slnil)))) ?_
     refine QN.norm (X' := []) rfl rfl rfl (by kernel_rfl) ?_
     exact hJ1 _ _ _ _ _ ⟨false, rfl, rfl, rfl, (Imm.le_trans hi31 hi32), HK1⟩
   ·have hc := (Bool.eq_false_iff.1 hb)
    rw [hb]
    rw [if_neg hc] at H; clear hb
    refine RL.simK (K' := [(0, .bool false)]) [] (RFacts.nil _ _ _) 100 (.no :: .no :: .no :: .no :: .no :: .no :: .no :: .no :: .no :: .no :: .no :: .no :: .no :: .no :: .no :: .no :: .no :: .no :: .no :: .no :: .no :: .no :: .no :: .no :: .no :: .no :: .no :: .no :: .no :: .no :: .no :: .no :: .no :: .no :: .no :: .no :: .no :: .no :: .no :: .no :: .no :: .no :: .no :: .no :: .no :: .no :: .no :: .no :: .no :: .no :: .no :: .no :: .no :: .no :: .no :: .no :: .no :: .no :: .no :: .no :: .no :: .no :: .no :: .no :: .no :: .no :: .no :: .no :: .no :: .no :: .no :: .no :: .no :: .no :: .no :: .no :: .no :: .no :: .no :: .no :: .no :: .no :: .no :: .no :: .no :: .no :: .no :: .no :: .no :: .no :: .no :: .no :: .no :: .no :: .no :: .no :: .no :: .no :: .no :: .no :: []) (by kernel_rfl) (by kernel_rfl) ?_
    refine RL.nil (by kernel_rfl) ?_
    obtain rfl := Option.some.inj H
    refine QN.sel (K' := [(0, .bool false)]) (L' := [⟨nx1, [.slice A2 t1.2.f0.length c2, .slice A3 t1.2.f1.length c3], 26⟩, ⟨nx2, [.slice A5 t2.2.f0.length c5, .slice A6 t2.2.f1.length c6], 26⟩, ⟨nx3, [.slice A8 t3.2.f0.length c8, .slice A9 t3.2.f1.length c9], 26⟩, ⟨nx4, [.slice A11 t4.2.f0.length c11, .slice A12 t4.2.f1.length c12], 26⟩]) [] (by kernel_rfl) (by kernel_rfl) (.cons_cons _ (.cons_cons _ (.cons_cons _ (.cons_cons _ .slnil)))) ?_
    refine QN.norm (X' := []) rfl rfl rfl (by kernel_rfl) ?_
    exact hJ1 _ _ _ _ _ ⟨false, rfl, rfl, rfl, hi31, HK1⟩
  ·have hc := (Bool.eq_false_iff.1 hb)
   rw [hb]
   rw [if_neg hc] at H; clear hb
   refine RL.simK (K' := [(0, .bool false)]) [] (RFacts.nil _ _ _) 106 (.no :: .no :: .no :: .no :: .no :: .no :: .no :: .no :: .no :: .no :: .no :: .no :: .no :: .no :: .no :: .no :: .no :: .no :: .no :: .no :: .no :: .no :: .no :: .no :: .no :: .no :: .no :: .no :: .no :: .no :: .no :: .no :: .no :: .no :: .no :: .no :: .no :: .no :: .no :: .no :: .no :: .no :: .no :: .no :: .no :: .no :: .no :: .no :: .no :: .no :: .no :: .no :: .no :: .no :: .no :: .no :: .no :: .no :: .no :: .no :: .no :: .no :: .no :: .no :: .no :: .no :: .no :: .no :: .no :: .no :: .no :: .no :: .no :: .no :: .no :: .no :: .no :: .no :: .no :: .no :: .no :: .no :: .no :: .no :: .no :: .no :: .no :: .no :: .no :: .no :: .no :: .no :: .no :: .no :: .no :: .no :: .no :: .no :: .no :: .no :: .no :: .no :: .no :: .no :: .no :: .no :: []) (by kernel_rfl) (by kernel_rfl) ?_
   refine RL.nil (by kernel_rfl) ?_
   obtain rfl := Option.some.inj H
   refine QN.sel (K' := [(0, .bool false)]) (L' := [⟨nx1, [.slice A2 t1.2.f0.length c2, .slice A3 t1.2.f1.length c3], 26⟩, ⟨nx2, [.slice A5 t2.2.f0.length c5, .slice A6 t2.2.f1.length c6], 26⟩, ⟨nx3, [.slice A8 t3.2.f0.length c8, .slice A9 t3.2.f1.length c9], 26⟩, ⟨nx4, [.slice A11 t4.2.f0.length c11, .slice A12 t4.2.f1.length c12], 26⟩]) [] (by kernel_rfl) (by kernel_rfl) (.cons_cons _ (.cons_cons _ (.cons_cons _ (.cons_cons _ .slnil)))) ?_
   refine QN.norm (X' := []) rfl rfl rfl (by kernel_rfl) ?_
   exact hJ1 _ _ _ _ _ ⟨false, rfl, rfl, rfl, hi31, HK1⟩

end Go.Proofs.Ytdmhbcgmimfjcaa
namespace Go.Proofs.Ytdmhbcgmimfjcaa.hun
open Go Go.Proofs.Ytdmhbcgmimfjcaa Go.Proofs.Ytdmhbcgmimfjcaa.RW
set_option maxRecDepth 1000000
theorem sane (k : Nat) : armillarylaw22_sanity.f (k + 60) = some true := by kernel_rfl
end Go.Proofs.Ytdmhbcgmimfjcaa.hun
