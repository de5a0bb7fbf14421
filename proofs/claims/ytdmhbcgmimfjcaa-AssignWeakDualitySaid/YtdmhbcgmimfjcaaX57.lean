/- Words of the walk, the functions' walks and plain laws, joined; no conditions beyond those that the theorems name. -/
import Derived.Test.YtdmhbcgmimfjcaaX52
import Derived.Test.YtdmhbcgmimfjcaaX56
import Derived.Test.YtdmhbcgmimfjcaaX55
namespace Go.Proofs.Ytdmhbcgmimfjcaa
open Go Go.Proofs.Ytdmhbcgmimfjcaa.RW
set_option linter.unusedVariables false
set_option maxRecDepth 100000
set_option maxHeartbeats 8000000

/-! ### armillaryref22_Assignment: function 22, armillary/armillaryref22.Assignment -/
noncomputable def K22_0 : Code := cBody Try.f22
noncomputable def K22_1 : Code := cL K22_0
noncomputable def O22_1 : List Oper := cOps K22_1
noncomputable def K22_3 : Code := cR K22_0
noncomputable def K22_4 : Code := cL K22_3
noncomputable def O22_4 : List Oper := cOps K22_4
noncomputable def K22_6 : Code := cR K22_3
noncomputable def K22_7 : Code := cL K22_6
noncomputable def K22_8 : Code := cL K22_7
noncomputable def O22_8 : List Oper := cOps K22_8
noncomputable def K22_10 : Code := cR K22_7
noncomputable def K22_11 : Code := cL K22_10
noncomputable def K22_12 : Code := cL K22_11
noncomputable def K22_13 : Code := cL K22_12
noncomputable def K22_14 : Code := cL K22_13
noncomputable def O22_14 : List Oper := cOps K22_14
noncomputable def K22_16 : Code := cR K22_13
noncomputable def K22_17 : Code := cL K22_16
noncomputable def K22_18 : Code := cR K22_16
noncomputable def K22_19 : Code := cR K22_12
noncomputable def K22_20 : Code := cL K22_19
noncomputable def K22_21 : Code := cL K22_20
noncomputable def K22_22 : Code := cL K22_21
noncomputable def O22_22 : List Oper := cOps K22_22
noncomputable def K22_24 : Code := cR K22_21
noncomputable def K22_25 : Code := cL K22_24
noncomputable def K22_26 : Code := cL K22_25
noncomputable def O22_26 : List Oper := cOps K22_26
noncomputable def K22_28 : Code := cR K22_25
noncomputable def K22_29 : Code := cL K22_28
noncomputable def K22_30 : Code := cL K22_29
noncomputable def O22_30 : List Oper := cOps K22_30
noncomputable def K22_32 : Code := cR K22_29
noncomputable def O22_32 : List Oper := cOps K22_32
noncomputable def K22_34 : Code := cR K22_28
noncomputable def K22_35 : Code := cR K22_24
noncomputable def O22_35 : List Oper := cOps K22_35
noncomputable def K22_37 : Code := cR K22_19
noncomputable def O22_37 : List Oper := cOps K22_37
noncomputable def K22_39 : Code := cR K22_6
noncomputable def K22_40 : Code := cL K22_39
noncomputable def O22_40 : List Oper := cOps K22_40
noncomputable def K22_42 : Code := cR K22_39
def armillaryref22_Assignment.k1  (x1 : List Int) : Option (List Int) := (some x1)
def armillaryref22_Assignment.l1 (a0 : List (List Int)) (a1 : List Int) : Nat → (List Int) → (List Bool) → Int → Option (List Int)
 | 0, _, _, _ => none
 | k + 1, x2, x3, x4 => (if x4 < (a0.length : Int) then ((if x4 < (a1.length : Int) then (if (x3.length : Int) > 0 then (if 0 ≤ x4 then (if x4 < (a1.length : Int) then (if ((a1.getD (x4).toNat 0).tmod 8) < 7 then (if 0 ≤ x4 then (if x4 < (a1.length : Int) then (if (x3.length : Int) = 0 then none else (if 0 ≤ ((W .i64 (W .u8 ((a1.getD (x4).toNat 0).tdiv 8))).tmod (x3.length : Int)) then (if ((W .i64 (W .u8 ((a1.getD (x4).toNat 0).tdiv 8))).tmod (x3.length : Int)) < (x3.length : Int) then (some (!(x3.getD ((W .i64 (W .u8 ((a1.getD (x4).toNat 0).tdiv 8))).tmod (x3.length : Int)).toNat false))) else none) else none)) else none) else none) else (some false)) else none) else none) else (some false)) else (some false)).bind (fun x5 => ((if x5 = true then (if 0 ≤ x4 then (if x4 < (a1.length : Int) then (if (x3.length : Int) = 0 then none else (if 0 ≤ ((W .i64 (W .u8 ((a1.getD (x4).toNat 0).tdiv 8))).tmod (x3.length : Int)) then (if ((W .i64 (W .u8 ((a1.getD (x4).toNat 0).tdiv 8))).tmod (x3.length : Int)) < (x3.length : Int) then (some (x3.set ((W .i64 (W .u8 ((a1.getD (x4).toNat 0).tdiv 8))).tmod (x3.length : Int)).toNat true, (W .i64 (W .u8 ((a1.getD (x4).toNat 0).tdiv 8))).tmod (x3.length : Int))) else none) else none)) else none) else none) else (some (x3, (-1)))).bind (fun (x6, x7) => (if (x2.length + [x7].length) * 8 ≤ 140737488355328 then (armillaryref22_Assignment.l1 a0 a1 k (x2 ++ [x7]) x6 (W .i64 (x4 + 1))) else none))))) else (some x2))
def armillaryref22_Assignment.f (k : Nat) (a0 : List (List Int)) (a1 : List Int) : Option (List Int) := ((armillaryref22_Columns.f a0).bind fun t1 => (if 0 ≤ t1 then (if t1 ≤ 281474976710656 then ((armillaryref22_Assignment.l1 a0 a1 k ([] : List Int) (List.replicate (t1).toNat (false : Bool)) 0).bind (armillaryref22_Assignment.k1)) else none) else none))
def armillaryref22_Assignment.Post (I : Imm) (w : World) (r : List Int) (v : Value) (w' : World) : Prop :=
 ∃ (J : Imm) (A0 : Option Addr) (c0 : Nat) (cs0 : List Value), v = .slice A0 r.length c0 ∧ Got w w' I J [orow 3 1 A0 r.length c0 cs0] ∧ Reps (Ty.int .i64) J r cs0
noncomputable def a22_4n : List Nat := [0, 0, 2, 6, 7, 31]
theorem a22_4 : ancs O22_4 [] = a22_4n := by kernel_rfl
theorem a22_4o : drawOk O22_4 a22_4n 5 = true := by kernel_rfl
noncomputable def u22d1l (t1 : Int) : List Ld :=
 [⟨0, fun x => .slice (some ⟨(x 0).2.1, 0, none⟩) 0 0, fun x => [RW.kblk (x 0).2.1 3 []], fun x J => True, fun x J J' h f => trivial⟩,
  ⟨2, fun x => .int .i64 t1, fun x => [], fun x J => True, fun x J J' h f => trivial⟩,
  ⟨3, fun x => .slice ((x 0).1) ((List.replicate (t1).toNat (false : Bool)).length) ((x 0).2.1), fun x => [orow 4 1 (x 0).1 (List.replicate (t1).toNat (false : Bool)).length (x 0).2.1 (x 0).2.2], fun x J => Reps Ty.bool J (List.replicate (t1).toNat (false : Bool)) (x 0).2.2 ∧ True, fun x J J' h f => ⟨Reps.ext h f.1, trivial⟩⟩]
noncomputable def u22d1g  : List (Nat × ((Nat → Wt) → Value)) := []
noncomputable def u22d1q (a0 : List (List Int)) (Ap0 : Option Addr) (cp0 : Nat) (a1 : List Int) (Ap1 : Option Addr) (cp1 : Nat) (t1 : Int) (u : Nat → Wt) : Option (List Value × List (Nat × Value) × List (Nat × Nat)) := qSim Try.prog [] [] O22_4 ⟨68, []⟩ (Ld.vl (u22d1l t1)) u22d1g u [.no, .no, .no, .no, .no] 0 (O22_4.take 5) [(0, .slice Ap0 a0.length cp0), (1, .slice Ap1 a1.length cp1)]
noncomputable def u22d1s (a0 : List (List Int)) (Ap0 : Option Addr) (cp0 : Nat) (t1 : Int) (u : Nat → Wt) : List Value := [.slice (some ⟨(u 0 0).2.1, 0, none⟩) 0 0, .slice Ap0 a0.length cp0, .int .i64 t1, .slice ((u 3 0).1) ((List.replicate (t1).toNat (false : Bool)).length) ((u 3 0).2.1), .slice (some ⟨(u 0 0).2.1, 0, none⟩) 0 0]
noncomputable def u22d1f (a0 : List (List Int)) (Ap0 : Option Addr) (cp0 : Nat) (a1 : List Int) (Ap1 : Option Addr) (cp1 : Nat) (t1 : Int) (i : Nat) (u : Nat → Wt) : List (Nat × Value) := foldPut ⟨68, []⟩ [(0, .slice Ap0 a0.length cp0), (1, .slice Ap1 a1.length cp1)] (O22_4.take i) (((u22d1s a0 Ap0 cp0 t1) u).take i)
theorem u22d1v (a0 : List (List Int)) (Ap0 : Option Addr) (cp0 : Nat) (a1 : List Int) (Ap1 : Option Addr) (cp1 : Nat) (t1 : Int) (u : Nat → Wt) : (u22d1q a0 Ap0 cp0 a1 Ap1 cp1 t1 u).map (fun x => (x.1, x.2.1)) = some ((u22d1s a0 Ap0 cp0 t1) u, (u22d1f a0 Ap0 cp0 a1 Ap1 cp1 t1 5) u) := by kernel_rfl
theorem u22d1e (a0 : List (List Int)) (Ap0 : Option Addr) (cp0 : Nat) (a1 : List Int) (Ap1 : Option Addr) (cp1 : Nat) (t1 : Int) (u : Nat → Wt) : (u22d1q a0 Ap0 cp0 a1 Ap1 cp1 t1 u).map (fun x => x.2.2.map (·.1)) = (u22d1q a0 Ap0 cp0 a1 Ap1 cp1 t1 u).map (fun x => x.2.2.map (·.2)) := by kernel_rfl
theorem armillaryref22_Assignment.calls (k : Nat) (I0 : Imm) (a0 : List (List Int)) (Ap0 : Option Addr) (cp0 : Nat) (a1 : List Int) (Ap1 : Option Addr) (cp1 : Nat) (w : World) (hI : I0.at_ w) (hlp0 : a0.length ≤ cp0) (hrp0 : Rd (Ty.slice (Ty.int .i64)) I0 Ap0 a0) (hlp1 : a1.length ≤ cp1) (hrp1 : Rd (Ty.int .u8) I0 Ap1 a1) (r : List Int) (h : armillaryref22_Assignment.f k a0 a1 = some r) :
  Calls Try.prog 22 [.slice Ap0 a0.length cp0, .slice Ap1 a1.length cp1].toArray w fun e w' => ∃ v, e = .returned v ∧ armillaryref22_Assignment.Post I0 w r v w' := by
 have H : ((armillaryref22_Columns.f a0).bind fun t1 => (if 0 ≤ t1 then (if t1 ≤ 281474976710656 then ((armillaryref22_Assignment.l1 a0 a1 k ([] : List Int) (List.replicate (t1).toNat (false : Bool)) 0).bind (armillaryref22_Assignment.k1)) else none) else none)) = some r := h
 clear h
 refine calls_body Try.func22 (by kernel_rfl) 68 (by kernel_rfl) (by kernel_rfl) ⟨w, fun _ => False, I0⟩ I0 [] [(0, .slice Ap0 a0.length cp0), (1, .slice Ap1 a1.length cp1)] (by kernel_rfl) (Sat.start w _ I0 hI) ?_
 generalize w.heap.size = nx0
 show OK _ K22_0 _ _ _ _ _ _ _ _
 refine OK.seq K22_1 K22_3 (by kernel_rfl) ?_
 refine OK.region 0 O22_1 (by kernel_rfl) ?_
 refine RL.simK (K' := [(0, .slice Ap0 a0.length cp0), (1, .slice Ap1 a1.length cp1)]) [] (RFacts.nil _ _ _) 1 [.no] (by kernel_rfl) (by kernel_rfl) ?_
 refine RL.nil (by kernel_rfl) ?_
 refine QN.then_ ?_
 refine OK.seq K22_4 K22_6 (by kernel_rfl) ?_
 obtain ⟨t1, hA1, H⟩ := Option.bind_eq_some_iff.mp H
 by_cases hm1 : 0 ≤ t1
 case neg => rw [if_neg hm1] at H; cases H
 rw [if_pos hm1] at H
 by_cases hm2 : t1 ≤ 281474976710656
 case neg => rw [if_neg hm2] at H; cases H
 rw [if_pos hm2] at H
 refine OK.drawnC 1 5 O22_4 a22_4n (by kernel_rfl) (by kernel_rfl) (u22d1l t1) u22d1g [] (RI.nil _) [.no, .no, .no, .no, .no] a22_4 a22_4o (by kernel_rfl) (by kernel_rfl) (u22d1s a0 Ap0 cp0 t1) (u22d1f a0 Ap0 cp0 a1 Ap1 cp1 t1 5) (u22d1v a0 Ap0 cp0 a1 Ap1 cp1 t1) (u22d1e a0 Ap0 cp0 a1 Ap1 cp1 t1) [u22d1f a0 Ap0 cp0 a1 Ap1 cp1 t1 0, u22d1f a0 Ap0 cp0 a1 Ap1 cp1 t1 2, u22d1f a0 Ap0 cp0 a1 Ap1 cp1 t1 3] (framesOk.cons (fun u => rfl) (framesOk.cons (fun u => rfl) (framesOk.cons (fun u => rfl) framesOk.nil))) ?_ [] framesOk.nil ?_ ?_
 ·refine LoudsG.cons ?_ (LoudsG.cons ?_ (LoudsG.cons ?_ (LoudsG.nil)))
  ·intro D u J w hp hJ hs hF
   refine (Does.make hs.im (fun n_ => .slice (some ⟨n_, 0, none⟩) 0 0) (cs := []) (ty := 3) (fun n_ => by kernel_rfl)).mono ?_
   rintro v w' ⟨rfl, hg⟩
   exact ⟨fun _ => (none, w.heap.size, []), J, rfl, hg, trivial⟩
  ·intro D u J w hp hJ hs hF
   refine Does.call 21 [.slice Ap0 a0.length cp0] (by kernel_rfl) ((armillaryref22_Columns.calls J a0 Ap0 cp0 w hs.im hlp0 (Rd.ext hJ hrp0) t1 hA1).mono ?_)
   rintro e w' ⟨v, rfl, J2, rfl, hg⟩
   exact ⟨_, rfl, fun _ => (none, 0, []), J2, rfl, hg, trivial⟩
  ·intro D u J w hp hJ hs hF
   refine (Does.makeL (T := 51) (e := 4) hs.im t1 .i64 .i64 (.bool false) (false) Ty.bool 1 (by kernel_rfl) (by kernel_rfl) (by kernel_rfl) (by kernel_rfl) rfl hm1 (by omega) (by omega)).mono ?_
   rintro v w' ⟨rfl, hg, hp⟩
   exact ⟨fun _ => (_, _, _), J, rfl, hg, hp, trivial⟩
 ·refine Givens.nil
 intro u I1 nx1 hi1 hF
 have hf1 := ((hF.2.2.1 rfl).1)
 clear hF
 refine RL.norm (K' := [(5, .slice (some ⟨(u 0 0).2.1, 0, none⟩) 0 0), (12, .slice ((u 3 0).1) ((List.replicate (t1).toNat (false : Bool)).length) ((u 3 0).2.1)), (11, .int .i64 t1), (10, .slice Ap0 a0.length cp0), (9, .slice (some ⟨(u 0 0).2.1, 0, none⟩) 0 0), (0, .slice Ap0 a0.length cp0), (1, .slice Ap1 a1.length cp1)]) (X' := [RW.kblk (u 0 0).2.1 3 [], orow 4 1 (u 3 0).1 ((List.replicate (t1).toNat (false : Bool)).length) (u 3 0).2.1 (u 3 0).2.2]) (by kernel_rfl) rfl rfl rfl ?_
 revert hf1
 generalize (u 0 0).1 = A1
 generalize (u 0 0).2.1 = c1
 generalize (u 0 0).2.2 = cs1
 generalize (u 3 0).1 = A2
 generalize (u 3 0).2.1 = c2
 generalize (u 3 0).2.2 = cs2
 intro hf1
 clear u
 refine RL.kblk (g := c1) (ty := 3) (cs := []) 0 (by kernel_rfl) ?_
 show RL _ _ _ 5 _ [(5, .slice (some ⟨c1, 0, none⟩) 0 0), (12, .slice A2 ((List.replicate (t1).toNat (false : Bool)).length) c2), (11, .int .i64 t1), (10, .slice Ap0 a0.length cp0), (9, .slice (some ⟨c1, 0, none⟩) 0 0), (0, .slice Ap0 a0.length cp0), (1, .slice Ap1 a1.length cp1)] _ _ _ [⟨c1, [], 3⟩] [orow 4 1 A2 ((List.replicate (t1).toNat (false : Bool)).length) c2 cs2]
 refine RL.simK (K' := [(6, .slice A2 ((List.replicate (t1).toNat (false : Bool)).length) c2), (5, .slice (some ⟨c1, 0, none⟩) 0 0), (0, .slice Ap0 a0.length cp0), (1, .slice Ap1 a1.length cp1)]) [] (RFacts.nil _ _ _) 1 [.no] (by kernel_rfl) (by kernel_rfl) ?_
 refine RL.nil (by kernel_rfl) ?_
 refine QN.then_ ?_
 refine OK.seq K22_7 K22_39 (by kernel_rfl) ?_
 refine OK.seq K22_8 K22_10 (by kernel_rfl) ?_
 refine OK.region 2 O22_8 (by kernel_rfl) ?_
 refine RL.simK (K' := [(7, .int .i64 0), (6, .slice A2 ((List.replicate (t1).toNat (false : Bool)).length) c2), (5, .slice (some ⟨c1, 0, none⟩) 0 0), (0, .slice Ap0 a0.length cp0), (1, .slice Ap1 a1.length cp1)]) [] (RFacts.nil _ _ _) 1 [.no] (by kernel_rfl) (by kernel_rfl) ?_
 refine RL.nil (by kernel_rfl) ?_
 refine QN.then_ ?_
 refine OK.join (fun K' I' _ L' X' => ∃ (x1 : List Int) (A3 : Option Addr) (c3 : Nat) (cs3 : List Value), K' = [(5, .slice A3 x1.length c3)] ∧ L' = [] ∧ X' = [orow 3 1 A3 x1.length c3 cs3] ∧ Imm.le I1 I' ∧ Reps (Ty.int .i64) I' x1 cs3 ∧ armillaryref22_Assignment.k1 x1 = some r) ?_ ?_
 ·rintro _ I2 nx2 _ _ ⟨x1, A3, c3, cs3, rfl, rfl, rfl, hi2, hp1, H⟩
  replace H : (some x1) = some r := H
  refine QN.then_ ?_
  refine OK.seq K22_40 K22_42 (by kernel_rfl) ?_
  refine OK.region 10 O22_40 (by kernel_rfl) ?_
  refine RL.simK (K' := [(4, .slice A3 x1.length c3)]) [] (RFacts.nil _ _ _) 2 [.no, .no] (by kernel_rfl) (by kernel_rfl) ?_
  refine RL.nil (by kernel_rfl) ?_
  refine QN.then_ ?_
  refine OK.ret (by kernel_rfl) ?_
  obtain rfl := Option.some.inj H
  refine QN.body rfl [] (RFacts.nil _ _ _) (.no) (.slice A3 x1.length c3) (by kernel_rfl) (by kernel_rfl) (by kernel_rfl) ?_ _ (.inr rfl)
  exact fun w' hs' => ⟨_, rfl, I2, A3, c3, cs3, rfl, hs'.got _ (.cons_cons _ .slnil), hp1⟩
 ·intro Q_1 hJ1 hQ1
  obtain ⟨y1, H, HK1⟩ := Option.bind_eq_some_iff.mp H
  refine OK.block 0 K22_11 (by kernel_rfl) ?_
  refine OK.toRow (b := ⟨c1, [], 3⟩) 0 0 1 (by kernel_rfl) (by kernel_rfl) (by decide) ?_
  have hp7 : Reps (Ty.int .i64) I1 ([] : List Int) [] := rfl
  refine OK.norm (L' := []) (X' := [orow 4 1 A2 ((List.replicate (t1).toNat (false : Bool)).length) c2 cs2, orow 3 1 (some ⟨c1, 0, none⟩) (([] : List Int).length) 0 []]) rfl rfl (by kernel_rfl) (by kernel_rfl) ?_
  refine OK.sel (K' := [(0, .slice Ap0 a0.length cp0), (1, .slice Ap1 a1.length cp1), (5, .slice (some ⟨c1, 0, none⟩) 0 0), (6, .slice A2 ((List.replicate (t1).toNat (false : Bool)).length) c2), (7, .int .i64 0)]) (L' := []) [1, 0] (by kernel_rfl) (by kernel_rfl) .slnil ?_
  refine OK.norm (X' := [orow 3 1 (some ⟨c1, 0, none⟩) (([] : List Int).length) 0 [], orow 4 1 A2 ((List.replicate (t1).toNat (false : Bool)).length) c2 cs2]) rfl rfl rfl (by kernel_rfl) ?_
  refine OK.loopInv K22_12 (by kernel_rfl) (fun n_ K' I' _ L' X' => ∃ (x2 : List Int) (x3 : List Bool) (x4 : Int) (A4 : Option Addr) (c4 : Nat) (cs4 : List Value) (A5 : Option Addr) (c5 : Nat) (cs5 : List Value), K' = [(0, .slice Ap0 a0.length cp0), (1, .slice Ap1 a1.length cp1), (5, .slice A4 x2.length c4), (6, .slice A5 x3.length c5), (7, .int .i64 x4)] ∧ L' = [] ∧ X' = [orow 3 1 A4 x2.length c4 cs4, orow 4 1 A5 x3.length c5 cs5] ∧ Imm.le I1 I' ∧ Reps (Ty.int .i64) I' x2 cs4 ∧ Reps Ty.bool I' x3 cs5 ∧ armillaryref22_Assignment.l1 a0 a1 n_ x2 x3 x4 = some y1) k ⟨([] : List Int), (List.replicate (t1).toNat (false : Bool)), 0, (some ⟨c1, 0, none⟩), 0, [], A2, c2, cs2, rfl, rfl, rfl, (Imm.le_refl _), hp7, hf1, H⟩ ?_ ?_
  ·rintro _ _ _ _ _ ⟨x2, x3, x4, A4, c4, cs4, A5, c5, cs5, rfl, rfl, rfl, _, hp2, hp3, H⟩
   cases H
  ·rintro kq1 _ I3 nx3 _ _ ⟨x2, x3, x4, A4, c4, cs4, A5, c5, cs5, rfl, rfl, rfl, hi3, hp2, hp3, H⟩ Q_l1 hJ2 hQ2
   replace H : (if x4 < (a0.length : Int) then ((if x4 < (a1.length : Int) then (if (x3.length : Int) > 0 then (if 0 ≤ x4 then (if x4 < (a1.length : Int) then (if ((a1.getD (x4).toNat 0).tmod 8) < 7 then (if 0 ≤ x4 then (if x4 < (a1.length : Int) then (if (x3.length : Int) = 0 then none else (if 0 ≤ ((W .i64 (W .u8 ((a1.getD (x4).toNat 0).tdiv 8))).tmod (x3.length : Int)) then (if ((W .i64 (W .u8 ((a1.getD (x4).toNat 0).tdiv 8))).tmod (x3.length : Int)) < (x3.length : Int) then (some (!(x3.getD ((W .i64 (W .u8 ((a1.getD (x4).toNat 0).tdiv 8))).tmod (x3.length : Int)).toNat false))) else none) else none)) else none) else none) else (some false)) else none) else none) else (some false)) else (some false)).bind (fun x5 => ((if x5 = true then (if 0 ≤ x4 then (if x4 < (a1.length : Int) then (if (x3.length : Int) = 0 then none else (if 0 ≤ ((W .i64 (W .u8 ((a1.getD (x4).toNat 0).tdiv 8))).tmod (x3.length : Int)) then (if ((W .i64 (W .u8 ((a1.getD (x4).toNat 0).tdiv 8))).tmod (x3.length : Int)) < (x3.length : Int) then (some (x3.set ((W .i64 (W .u8 ((a1.getD (x4).toNat 0).tdiv 8))).tmod (x3.length : Int)).toNat true, (W .i64 (W .u8 ((a1.getD (x4).toNat 0).tdiv 8))).tmod (x3.length : Int))) else none) else none)) else none) else none) else (some (x3, (-1)))).bind (fun (x6, x7) => (if (x2.length + [x7].length) * 8 ≤ 140737488355328 then (armillaryref22_Assignment.l1 a0 a1 kq1 (x2 ++ [x7]) x6 (W .i64 (x4 + 1))) else none))))) else (some x2)) = some y1 := H
   refine OK.seq K22_13 K22_19 (by kernel_rfl) ?_
   refine OK.seq K22_14 K22_16 (by kernel_rfl) ?_
   refine OK.region 3 O22_14 (by kernel_rfl) ?_
   refine RL.simK (K' := [(16, .bool (decide (x4 < (a0.length : Int)))), (0, .slice Ap0 a0.length cp0), (1, .slice Ap1 a1.length cp1), (5, .slice A4 x2.length c4), (6, .slice A5 x3.length c5), (7, .int .i64 x4)]) [] (RFacts.nil _ _ _) 4 [.no, .no, .no, .no] (by kernel_rfl) (by kernel_rfl) ?_
   refine RL.nil (by kernel_rfl) ?_
   refine QN.then_ ?_
   refine OK.cond (.tmp 16) K22_17 K22_18 (decide (x4 < (a0.length : Int))) (by kernel_rfl) (by kernel_rfl) (by kernel_rfl) (fun hb => ?_) (fun hb => ?_)
   ·skip
    have hc := (of_decide_eq_true hb)
    rw [if_pos hc] at H
    clear hb
    refine OK.skip (by kernel_rfl) ?_
    refine QN.then_ ?_
    refine OK.seq K22_20 K22_37 (by kernel_rfl) ?_
    refine OK.block 1 K22_21 (by kernel_rfl) ?_
    refine OK.seq K22_22 K22_24 (by kernel_rfl) ?_
    refine OK.region 5 O22_22 (by kernel_rfl) ?_
    refine RL.simK (K' := [(8, .int .i64 (-1)), (0, .slice Ap0 a0.length cp0), (1, .slice Ap1 a1.length cp1), (5, .slice A4 x2.length c4), (6, .slice A5 x3.length c5), (7, .int .i64 x4)]) [] (RFacts.nil _ _ _) 1 [.no] (by kernel_rfl) (by kernel_rfl) ?_
    refine RL.nil (by kernel_rfl) ?_
    refine QN.then_ ?_
    refine OK.seq K22_25 K22_35 (by kernel_rfl) ?_
    refine OK.seq K22_26 K22_28 (by kernel_rfl) ?_
    refine OK.join (fun K' I' _ L' X' => ∃ (x5 : Bool), K' = [(0, .slice Ap0 a0.length cp0), (1, .slice Ap1 a1.length cp1), (5, .slice A4 x2.length c4), (6, .slice A5 x3.length c5), (7, .int .i64 x4), (8, .int .i64 (-1)), (50, .bool x5)] ∧ L' = [] ∧ X' = [orow 3 1 A4 x2.length c4 cs4, orow 4 1 A5 x3.length c5 cs5] ∧ Imm.le I3 I' ∧ ((if x5 = true then (if 0 ≤ x4 then (if x4 < (a1.length : Int) then (if (x3.length : Int) = 0 then none else (if 0 ≤ ((W .i64 (W .u8 ((a1.getD (x4).toNat 0).tdiv 8))).tmod (x3.length : Int)) then (if ((W .i64 (W .u8 ((a1.getD (x4).toNat 0).tdiv 8))).tmod (x3.length : Int)) < (x3.length : Int) then (some (x3.set ((W .i64 (W .u8 ((a1.getD (x4).toNat 0).tdiv 8))).tmod (x3.length : Int)).toNat true, (W .i64 (W .u8 ((a1.getD (x4).toNat 0).tdiv 8))).tmod (x3.length : Int))) else none) else none)) else none) else none) else (some (x3, (-1)))).bind (fun (x6, x7) => (if (x2.length + [x7].length) * 8 ≤ 140737488355328 then (armillaryref22_Assignment.l1 a0 a1 kq1 (x2 ++ [x7]) x6 (W .i64 (x4 + 1))) else none))) = some y1) ?_ ?_
    ·rintro _ I4 nx4 _ _ ⟨x5, rfl, rfl, rfl, hi4, H⟩
     replace H : ((if x5 = true then (if 0 ≤ x4 then (if x4 < (a1.length : Int) then (if (x3.length : Int) = 0 then none else (if 0 ≤ ((W .i64 (W .u8 ((a1.getD (x4).toNat 0).tdiv 8))).tmod (x3.length : Int)) then (if ((W .i64 (W .u8 ((a1.getD (x4).toNat 0).tdiv 8))).tmod (x3.length : Int)) < (x3.length : Int) then (some (x3.set ((W .i64 (W .u8 ((a1.getD (x4).toNat 0).tdiv 8))).tmod (x3.length : Int)).toNat true, (W .i64 (W .u8 ((a1.getD (x4).toNat 0).tdiv 8))).tmod (x3.length : Int))) else none) else none)) else none) else none) else (some (x3, (-1)))).bind (fun (x6, x7) => (if (x2.length + [x7].length) * 8 ≤ 140737488355328 then (armillaryref22_Assignment.l1 a0 a1 kq1 (x2 ++ [x7]) x6 (W .i64 (x4 + 1))) else none))) = some y1 := H
     refine QN.then_ ?_
     refine OK.join (fun K' I' _ L' X' => ∃ (x6 : List Bool) (x7 : Int) (A6 : Option Addr) (c6 : Nat) (cs6 : List Value), K' = [(0, .slice Ap0 a0.length cp0), (1, .slice Ap1 a1.length cp1), (5, .slice A4 x2.length c4), (6, .slice A6 x6.length c6), (7, .int .i64 x4), (8, .int .i64 x7)] ∧ L' = [] ∧ X' = [orow 3 1 A4 x2.length c4 cs4, orow 4 1 A6 x6.length c6 cs6] ∧ Imm.le I4 I' ∧ Reps Ty.bool I' x6 cs6 ∧ (if (x2.length + [x7].length) * 8 ≤ 140737488355328 then (armillaryref22_Assignment.l1 a0 a1 kq1 (x2 ++ [x7]) x6 (W .i64 (x4 + 1))) else none) = some y1) ?_ ?_
     ·rintro _ I5 nx5 _ _ ⟨x6, x7, A6, c6, cs6, rfl, rfl, rfl, hi5, hp4, H⟩
      replace H : (if (x2.length + [x7].length) * 8 ≤ 140737488355328 then (armillaryref22_Assignment.l1 a0 a1 kq1 (x2 ++ [x7]) x6 (W .i64 (x4 + 1))) else none) = some y1 := H
      refine QN.then_ ?_
      refine OK.region 9 O22_35 (by kernel_rfl) ?_
      refine RL.simP (K' := [(65, .slice (some ⟨nx5, 0, none⟩) 1 1), (63, .slice A4 x2.length c4), (0, .slice Ap0 a0.length cp0), (1, .slice Ap1 a1.length cp1), (5, .slice A4 x2.length c4), (6, .slice A6 x6.length c6), (7, .int .i64 x4)]) (nx' := nx5 + 1) (L' := [⟨nx5, [.int .i64 x7], 3⟩]) [] (RFacts.nil _ _ _) 3 [.no, .no, .no] (by kernel_rfl) (by kernel_rfl) ?_
      by_cases hz1 : (x2.length + [x7].length) * 8 ≤ 140737488355328
      case neg => rw [if_neg hz1] at H; cases H
      rw [if_pos hz1] at H
      refine RL.appendB (T := 23) (e := 3) (S := A4) 1 8 23 c4 0 1 nx5 3 cs4 [.int .i64 x7] (Ty.int .i64) x2 [x7] 0 (some 66) (by kernel_rfl) (by kernel_rfl) (by kernel_rfl) (by kernel_rfl) (by kernel_rfl) (by decide) (by kernel_rfl) (Reps.ext (Imm.le_trans hi4 hi5) hp2) (by kernel_rfl) ⟨_, _, rfl, rfl, rfl⟩ hz1 (by omega) (fun A7 c7 nx6 cs7 hp5 => ?_)
      refine RL.sub (K' := [(66, .slice A7 ((x2 ++ [x7]).length) c7), (65, .slice (some ⟨nx5, 0, none⟩) 1 1), (0, .slice Ap0 a0.length cp0), (1, .slice Ap1 a1.length cp1), (6, .slice A6 x6.length c6), (7, .int .i64 x4)]) (L' := [⟨nx5, [.int .i64 x7], 3⟩]) (X' := [orow 3 1 A7 ((x2 ++ [x7]).length) c7 cs7, orow 4 1 A6 x6.length c6 cs6]) (by kernel_rfl) (.refl _) (.refl _) ?_
      refine RL.simK (K' := [(5, .slice A7 ((x2 ++ [x7]).length) c7), (0, .slice Ap0 a0.length cp0), (1, .slice Ap1 a1.length cp1), (6, .slice A6 x6.length c6), (7, .int .i64 x4)]) [] (RFacts.nil _ _ _) 1 [.no] (by kernel_rfl) (by kernel_rfl) ?_
      refine RL.nil (by kernel_rfl) ?_
      refine QN.blkN ?_
      refine QN.then_ ?_
      refine OK.region 4 O22_37 (by kernel_rfl) ?_
      refine RL.simK (K' := [(7, .int .i64 (W .i64 (x4 + 1))), (5, .slice A7 ((x2 ++ [x7]).length) c7), (0, .slice Ap0 a0.length cp0), (1, .slice Ap1 a1.length cp1), (6, .slice A6 x6.length c6)]) [] (RFacts.nil _ _ _) 3 [.no, .no, .no] (by kernel_rfl) (by kernel_rfl) ?_
      refine RL.nil (by kernel_rfl) ?_
      refine QN.sub (K' := [(0, .slice Ap0 a0.length cp0), (1, .slice Ap1 a1.length cp1), (5, .slice A7 ((x2 ++ [x7]).length) c7), (6, .slice A6 x6.length c6), (7, .int .i64 (W .i64 (x4 + 1)))]) (L' := []) (by kernel_rfl) (.cons _ .slnil) (.refl _) ?_
      exact hJ2 _ _ _ _ _ ⟨(x2 ++ [x7]), x6, W .i64 (x4 + 1), A7, c7, cs7, A6, c6, cs6, rfl, rfl, rfl, (Imm.le_trans (Imm.le_trans hi3 hi4) hi5), hp5, hp4, H⟩
     ·intro Q_2 hJ4 hQ4
      obtain ⟨y3, H, HK3⟩ := Option.bind_eq_some_iff.mp H
      refine OK.cond (.tmp 50) K22_29 K22_34 x5 (by kernel_rfl) (by kernel_rfl) (by kernel_rfl) (fun hb => ?_) (fun hb => ?_)
      ·skip
       have hc := hb
       rw [if_pos hc] at H
       clear hb
       refine OK.seq K22_30 K22_32 (by kernel_rfl) ?_
       refine OK.region 7 O22_30 (by kernel_rfl) ?_
       refine RL.simK (K' := [(52, .int .i64 x4), (51, .slice Ap1 a1.length cp1), (0, .slice Ap0 a0.length cp0), (1, .slice Ap1 a1.length cp1), (5, .slice A4 x2.length c4), (6, .slice A5 x3.length c5), (7, .int .i64 x4), (8, .int .i64 (-1))]) [] (RFacts.nil _ _ _) 2 [.no, .no] (by kernel_rfl) (by kernel_rfl) ?_
       by_cases hib0 : 0 ≤ x4
       case neg => rw [if_neg hib0] at H; cases H
       rw [if_pos hib0] at H
       by_cases hib1 : x4 < (a1.length : Int)
       case neg => rw [if_neg hib1] at H; cases H
       rw [if_pos hib1] at H
       obtain ⟨g1_, o1_, hA1_, hc1_⟩ := Ty.int_at (Rd.ext (Imm.le_trans (Imm.le_trans hi1 hi3) hi4) hrp1) x4 hib0 hib1
       refine RL.idx 1 .i64 x4 hA1_ a1.length cp1 (some 53) (by kernel_rfl) (by kernel_rfl) (T := 38) (e := 5) (by kernel_rfl) (by kernel_rfl) hib0 hib1 (K' := [(53, .pointer (some ⟨g1_, o1_ + (x4).toNat * 1, none⟩)), (52, .int .i64 x4), (51, .slice Ap1 a1.length cp1), (0, .slice Ap0 a0.length cp0), (1, .slice Ap1 a1.length cp1), (5, .slice A4 x2.length c4), (6, .slice A5 x3.length c5), (7, .int .i64 x4), (8, .int .i64 (-1))]) (by kernel_rfl) ?_
       refine RL.simK (K' := [(58, .int .i64 (x3.length : Int)), (56, .int .i64 (W .i64 (W .u8 ((a1.getD (x4).toNat 0).tdiv 8)))), (0, .slice Ap0 a0.length cp0), (1, .slice Ap1 a1.length cp1), (5, .slice A4 x2.length c4), (6, .slice A5 x3.length c5), (7, .int .i64 x4), (8, .int .i64 (-1))]) [(⟨g1_, o1_ + (x4).toNat * 1, none⟩, .int .u8 (a1.getD (x4).toNat 0))] (RFacts.imm (hc1_ 0 _ rfl) (RFacts.nil _ _ _)) 5 [.r 0, .no, .no, .no, .no] (by kernel_rfl) (by kernel_rfl) ?_
       by_cases hc : (x3.length : Int) = 0
       ·rw [if_pos hc] at H; cases H
       rw [if_neg hc] at H
       refine RL.rem .i64 (W .i64 (W .u8 ((a1.getD (x4).toNat 0).tdiv 8))) (x3.length : Int) (some 59) (by kernel_rfl) (by kernel_rfl) hc (K' := [(59, .int .i64 ((W .i64 (W .u8 ((a1.getD (x4).toNat 0).tdiv 8))).tmod (x3.length : Int))), (58, .int .i64 (x3.length : Int)), (56, .int .i64 (W .i64 (W .u8 ((a1.getD (x4).toNat 0).tdiv 8)))), (0, .slice Ap0 a0.length cp0), (1, .slice Ap1 a1.length cp1), (5, .slice A4 x2.length c4), (6, .slice A5 x3.length c5), (7, .int .i64 x4), (8, .int .i64 (-1))]) (by kernel_rfl) ?_
       refine RL.simK (K' := [(8, .int .i64 ((W .i64 (W .u8 ((a1.getD (x4).toNat 0).tdiv 8))).tmod (x3.length : Int))), (0, .slice Ap0 a0.length cp0), (1, .slice Ap1 a1.length cp1), (5, .slice A4 x2.length c4), (6, .slice A5 x3.length c5), (7, .int .i64 x4)]) [] (RFacts.nil _ _ _) 1 [.no] (by kernel_rfl) (by kernel_rfl) ?_
       refine RL.nil (by kernel_rfl) ?_
       refine QN.then_ ?_
       refine OK.region 8 O22_32 (by kernel_rfl) ?_
       refine RL.simK (K' := [(61, .int .i64 ((W .i64 (W .u8 ((a1.getD (x4).toNat 0).tdiv 8))).tmod (x3.length : Int))), (60, .slice A5 x3.length c5), (8, .int .i64 ((W .i64 (W .u8 ((a1.getD (x4).toNat 0).tdiv 8))).tmod (x3.length : Int))), (0, .slice Ap0 a0.length cp0), (1, .slice Ap1 a1.length cp1), (5, .slice A4 x2.length c4), (6, .slice A5 x3.length c5), (7, .int .i64 x4)]) [] (RFacts.nil _ _ _) 2 [.no, .no] (by kernel_rfl) (by kernel_rfl) ?_
       by_cases hib0 : 0 ≤ ((W .i64 (W .u8 ((a1.getD (x4).toNat 0).tdiv 8))).tmod (x3.length : Int))
       case neg => rw [if_neg hib0] at H; cases H
       rw [if_pos hib0] at H
       by_cases hib1 : ((W .i64 (W .u8 ((a1.getD (x4).toNat 0).tdiv 8))).tmod (x3.length : Int)) < (x3.length : Int)
       case neg => rw [if_neg hib1] at H; cases H
       rw [if_pos hib1] at H
       have hx02_ := hib0; have hx12_ := hib1
       refine RL.ownAddr (e := 4) (sz := 1) (S := A5) (n := x3.length) (cap := c5) (cs := cs5) 1 (by kernel_rfl) (by omega) (fun g2_ hA2_ => ?_)
       have hc2_ := Ty.bool_own (Reps.ext hi4 hp3) ((W .i64 (W .u8 ((a1.getD (x4).toNat 0).tdiv 8))).tmod (x3.length : Int)) hib0 hib1
       refine RL.idx 1 .i64 ((W .i64 (W .u8 ((a1.getD (x4).toNat 0).tdiv 8))).tmod (x3.length : Int)) hA2_ x3.length c5 (some 62) (by kernel_rfl) (by kernel_rfl) (T := 51) (e := 4) (by kernel_rfl) (by kernel_rfl) hib0 hib1 (K' := [(62, .pointer (some ⟨g2_, 0 + ((W .i64 (W .u8 ((a1.getD (x4).toNat 0).tdiv 8))).tmod (x3.length : Int)).toNat * 1, none⟩)), (61, .int .i64 ((W .i64 (W .u8 ((a1.getD (x4).toNat 0).tdiv 8))).tmod (x3.length : Int))), (60, .slice A5 x3.length c5), (8, .int .i64 ((W .i64 (W .u8 ((a1.getD (x4).toNat 0).tdiv 8))).tmod (x3.length : Int))), (0, .slice Ap0 a0.length cp0), (1, .slice Ap1 a1.length cp1), (5, .slice A4 x2.length c4), (6, .slice A5 x3.length c5), (7, .int .i64 x4)]) (by kernel_rfl) ?_
       refine RL.storeL (T := 4) (e := 4) 1 1 hA2_ c5 ((W .i64 (W .u8 ((a1.getD (x4).toNat 0).tdiv 8))).tmod (x3.length : Int)) cs5 [.bool true] (.bool true) Ty.bool x3 true (by kernel_rfl) (by kernel_rfl) (by kernel_rfl) (by kernel_rfl) (by kernel_rfl) rfl (by kernel_rfl) (Reps.ext hi4 hp3) hx02_ hx12_ (fun cs8 hp6 => ?_)
       refine RL.sub (K' := [(61, .int .i64 ((W .i64 (W .u8 ((a1.getD (x4).toNat 0).tdiv 8))).tmod (x3.length : Int))), (60, .slice A5 x3.length c5), (8, .int .i64 ((W .i64 (W .u8 ((a1.getD (x4).toNat 0).tdiv 8))).tmod (x3.length : Int))), (0, .slice Ap0 a0.length cp0), (1, .slice Ap1 a1.length cp1), (5, .slice A4 x2.length c4), (6, .slice A5 x3.length c5), (7, .int .i64 x4)]) (L' := []) (X' := [orow 3 1 A4 x2.length c4 cs4, orow 4 1 A5 ((x3.set ((W .i64 (W .u8 ((a1.getD (x4).toNat 0).tdiv 8))).tmod (x3.length : Int)).toNat true).length) c5 cs8]) (by kernel_rfl) (.refl _) (.refl _) ?_
       refine RL.norm (K' := [(61, .int .i64 ((W .i64 (W .u8 ((a1.getD (x4).toNat 0).tdiv 8))).tmod (x3.length : Int))), (60, .slice A5 ((x3.set ((W .i64 (W .u8 ((a1.getD (x4).toNat 0).tdiv 8))).tmod (x3.length : Int)).toNat true).length) c5), (8, .int .i64 ((W .i64 (W .u8 ((a1.getD (x4).toNat 0).tdiv 8))).tmod (x3.length : Int))), (0, .slice Ap0 a0.length cp0), (1, .slice Ap1 a1.length cp1), (5, .slice A4 x2.length c4), (6, .slice A5 ((x3.set ((W .i64 (W .u8 ((a1.getD (x4).toNat 0).tdiv 8))).tmod (x3.length : Int)).toNat true).length) c5), (7, .int .i64 x4)]) (L' := []) (by simp only [List.length_set]) rfl (by first | rfl | simp only [List.length_set]) rfl ?_
       refine RL.nil (by kernel_rfl) ?_
       refine QN.sub (K' := [(8, .int .i64 ((W .i64 (W .u8 ((a1.getD (x4).toNat 0).tdiv 8))).tmod (x3.length : Int))), (0, .slice Ap0 a0.length cp0), (1, .slice Ap1 a1.length cp1), (5, .slice A4 x2.length c4), (6, .slice A5 ((x3.set ((W .i64 (W .u8 ((a1.getD (x4).toNat 0).tdiv 8))).tmod (x3.length : Int)).toNat true).length) c5), (7, .int .i64 x4)]) (L' := []) (by kernel_rfl) .slnil (.refl _) ?_
       obtain rfl := Option.some.inj H
       refine QN.sub (K' := [(0, .slice Ap0 a0.length cp0), (1, .slice Ap1 a1.length cp1), (5, .slice A4 x2.length c4), (6, .slice A5 ((x3.set ((W .i64 (W .u8 ((a1.getD (x4).toNat 0).tdiv 8))).tmod (x3.length : Int)).toNat true).length) c5), (7, .int .i64 x4), (8, .int .i64 ((W .i64 (W .u8 ((a1.getD (x4).toNat 0).tdiv 8))).tmod (x3.length : Int)))]) (L' := []) (by kernel_rfl) .slnil (.refl _) ?_
       exact hJ4 _ _ _ _ _ ⟨x3.set ((W .i64 (W .u8 ((a1.getD (x4).toNat 0).tdiv 8))).tmod (x3.length : Int)).toNat true, (W .i64 (W .u8 ((a1.getD (x4).toNat 0).tdiv 8))).tmod (x3.length : Int), A5, c5, cs8, rfl, rfl, rfl, (Imm.le_refl _), hp6, HK3⟩
      ·skip
       have hc := (Bool.eq_false_iff.1 hb)
       rw [if_neg hc] at H
       clear hb
       refine OK.skip (by kernel_rfl) ?_
       obtain rfl := Option.some.inj H
       refine QN.sub (K' := [(0, .slice Ap0 a0.length cp0), (1, .slice Ap1 a1.length cp1), (5, .slice A4 x2.length c4), (6, .slice A5 x3.length c5), (7, .int .i64 x4), (8, .int .i64 (-1))]) (L' := []) (by kernel_rfl) .slnil (.refl _) ?_
       exact hJ4 _ _ _ _ _ ⟨x3, (-1), A5, c5, cs5, rfl, rfl, rfl, (Imm.le_refl _), (Reps.ext hi4 hp3), HK3⟩
    ·intro Q_3 hJ3 hQ3
     obtain ⟨y2, H, HK2⟩ := Option.bind_eq_some_iff.mp H
     refine OK.region 6 O22_26 (by kernel_rfl) ?_
     refine RL.simK (K' := [(23, .bool (decide (x4 < (a1.length : Int)))), (8, .int .i64 (-1)), (0, .slice Ap0 a0.length cp0), (1, .slice Ap1 a1.length cp1), (5, .slice A4 x2.length c4), (6, .slice A5 x3.length c5), (7, .int .i64 x4)]) [] (RFacts.nil _ _ _) 5 [.no, .no, .no, .no, .no] (by kernel_rfl) (by kernel_rfl) ?_
     refine RL.cases (decide (x4 < (a1.length : Int))) (fun hb => ?_) (fun hb => ?_)
     ·have hc := (of_decide_eq_true hb)
      rw [hb]
      rw [if_pos hc] at H; clear hb
      refine RL.simK (K' := [(28, .bool (decide ((x3.length : Int) > 0))), (8, .int .i64 (-1)), (0, .slice Ap0 a0.length cp0), (1, .slice Ap1 a1.length cp1), (5, .slice A4 x2.length c4), (6, .slice A5 x3.length c5), (7, .int .i64 x4)]) [] (RFacts.nil _ _ _) 5 [.no, .no, .no, .no, .no] (by kernel_rfl) (by kernel_rfl) ?_
      refine RL.cases (decide ((x3.length : Int) > 0)) (fun hb => ?_) (fun hb => ?_)
      ·have hc := (of_decide_eq_true hb)
       rw [hb]
       rw [if_pos hc] at H; clear hb
       refine RL.simK (K' := [(30, .int .i64 x4), (29, .slice Ap1 a1.length cp1), (28, .bool true), (8, .int .i64 (-1)), (0, .slice Ap0 a0.length cp0), (1, .slice Ap1 a1.length cp1), (5, .slice A4 x2.length c4), (6, .slice A5 x3.length c5), (7, .int .i64 x4)]) [] (RFacts.nil _ _ _) 2 [.no, .no] (by kernel_rfl) (by kernel_rfl) ?_
       by_cases hib0 : 0 ≤ x4
       case neg => rw [if_neg hib0] at H; cases H
       rw [if_pos hib0] at H
       by_cases hib1 : x4 < (a1.length : Int)
       case neg => rw [if_neg hib1] at H; cases H
       rw [if_pos hib1] at H
       obtain ⟨g3_, o3_, hA3_, hc3_⟩ := Ty.int_at (Rd.ext (Imm.le_trans hi1 hi3) hrp1) x4 hib0 hib1
       refine RL.idx 1 .i64 x4 hA3_ a1.length cp1 (some 31) (by kernel_rfl) (by kernel_rfl) (T := 38) (e := 5) (by kernel_rfl) (by kernel_rfl) hib0 hib1 (K' := [(31, .pointer (some ⟨g3_, o3_ + (x4).toNat * 1, none⟩)), (30, .int .i64 x4), (29, .slice Ap1 a1.length cp1), (28, .bool true), (8, .int .i64 (-1)), (0, .slice Ap0 a0.length cp0), (1, .slice Ap1 a1.length cp1), (5, .slice A4 x2.length c4), (6, .slice A5 x3.length c5), (7, .int .i64 x4)]) (by kernel_rfl) ?_
       refine RL.simK (K' := [(36, .bool (decide (((a1.getD (x4).toNat 0).tmod 8) < 7))), (8, .int .i64 (-1)), (0, .slice Ap0 a0.length cp0), (1, .slice Ap1 a1.length cp1), (5, .slice A4 x2.length c4), (6, .slice A5 x3.length c5), (7, .int .i64 x4)]) [(⟨g3_, o3_ + (x4).toNat * 1, none⟩, .int .u8 (a1.getD (x4).toNat 0))] (RFacts.imm (hc3_ 0 _ rfl) (RFacts.nil _ _ _)) 5 [.r 0, .no, .no, .no, .no] (by kernel_rfl) (by kernel_rfl) ?_
       refine RL.cases (decide (((a1.getD (x4).toNat 0).tmod 8) < 7)) (fun hb => ?_) (fun hb => ?_)
       ·have hc := (of_decide_eq_true hb)
        rw [hb]
        rw [if_pos hc] at H; clear hb
        refine RL.simK (K' := [(39, .int .i64 x4), (38, .slice Ap1 a1.length cp1), (37, .slice A5 x3.length c5), (36, .bool true), (8, .int .i64 (-1)), (0, .slice Ap0 a0.length cp0), (1, .slice Ap1 a1.length cp1), (5, .slice A4 x2.length c4), (6, .slice A5 x3.length c5), (7, .int .i64 x4)]) [] (RFacts.nil _ _ _) 3 [.no, .no, .no] (by kernel_rfl) (by kernel_rfl) ?_
        by_cases hib0 : 0 ≤ x4
        case neg => rw [if_neg hib0] at H; cases H
        rw [if_pos hib0] at H
        by_cases hib1 : x4 < (a1.length : Int)
        case neg => rw [if_neg hib1] at H; cases H
        rw [if_pos hib1] at H
        obtain ⟨g4_, o4_, hA4_, hc4_⟩ := Ty.int_at (Rd.ext (Imm.le_trans hi1 hi3) hrp1) x4 hib0 hib1
        refine RL.idx 1 .i64 x4 hA4_ a1.length cp1 (some 40) (by kernel_rfl) (by kernel_rfl) (T := 38) (e := 5) (by kernel_rfl) (by kernel_rfl) hib0 hib1 (K' := [(40, .pointer (some ⟨g4_, o4_ + (x4).toNat * 1, none⟩)), (39, .int .i64 x4), (38, .slice Ap1 a1.length cp1), (37, .slice A5 x3.length c5), (36, .bool true), (8, .int .i64 (-1)), (0, .slice Ap0 a0.length cp0), (1, .slice Ap1 a1.length cp1), (5, .slice A4 x2.length c4), (6, .slice A5 x3.length c5), (7, .int .i64 x4)]) (by kernel_rfl) ?_
        refine RL.simK (K' := [(45, .int .i64 (x3.length : Int)), (43, .int .i64 (W .i64 (W .u8 ((a1.getD (x4).toNat 0).tdiv 8)))), (37, .slice A5 x3.length c5), (36, .bool true), (8, .int .i64 (-1)), (0, .slice Ap0 a0.length cp0), (1, .slice Ap1 a1.length cp1), (5, .slice A4 x2.length c4), (6, .slice A5 x3.length c5), (7, .int .i64 x4)]) [(⟨g4_, o4_ + (x4).toNat * 1, none⟩, .int .u8 (a1.getD (x4).toNat 0))] (RFacts.imm (hc4_ 0 _ rfl) (RFacts.nil _ _ _)) 5 [.r 0, .no, .no, .no, .no] (by kernel_rfl) (by kernel_rfl) ?_
        by_cases hc : (x3.length : Int) = 0
        ·rw [if_pos hc] at H; cases H
        rw [if_neg hc] at H
        refine RL.rem .i64 (W .i64 (W .u8 ((a1.getD (x4).toNat 0).tdiv 8))) (x3.length : Int) (some 46) (by kernel_rfl) (by kernel_rfl) hc (K' := [(46, .int .i64 ((W .i64 (W .u8 ((a1.getD (x4).toNat 0).tdiv 8))).tmod (x3.length : Int))), (45, .int .i64 (x3.length : Int)), (43, .int .i64 (W .i64 (W .u8 ((a1.getD (x4).toNat 0).tdiv 8)))), (37, .slice A5 x3.length c5), (36, .bool true), (8, .int .i64 (-1)), (0, .slice Ap0 a0.length cp0), (1, .slice Ap1 a1.length cp1), (5, .slice A4 x2.length c4), (6, .slice A5 x3.length c5), (7, .int .i64 x4)]) (by kernel_rfl) ?_
        by_cases hib0 : 0 ≤ ((W .i64 (W .u8 ((a1.getD (x4).toNat 0).tdiv 8))).tmod (x3.length : Int))
        case neg => rw [if_neg hib0] at H; cases H
        rw [if_pos hib0] at H
        by_cases hib1 : ((W .i64 (W .u8 ((a1.getD (x4).toNat 0).tdiv 8))).tmod (x3.length : Int)) < (x3.length : Int)
        case neg => rw [if_neg hib1] at H; cases H
        rw [if_pos hib1] at H
        have hx05_ := hib0; have hx15_ := hib1
        refine RL.ownAddr (e := 4) (sz := 1) (S := A5) (n := x3.length) (cap := c5) (cs := cs5) 1 (by kernel_rfl) (by omega) (fun g5_ hA5_ => ?_)
        have hc5_ := Ty.bool_own hp3 ((W .i64 (W .u8 ((a1.getD (x4).toNat 0).tdiv 8))).tmod (x3.length : Int)) hib0 hib1
        refine RL.idx 1 .i64 ((W .i64 (W .u8 ((a1.getD (x4).toNat 0).tdiv 8))).tmod (x3.length : Int)) hA5_ x3.length c5 (some 47) (by kernel_rfl) (by kernel_rfl) (T := 51) (e := 4) (by kernel_rfl) (by kernel_rfl) hib0 hib1 (K' := [(47, .pointer (some ⟨g5_, 0 + ((W .i64 (W .u8 ((a1.getD (x4).toNat 0).tdiv 8))).tmod (x3.length : Int)).toNat * 1, none⟩)), (46, .int .i64 ((W .i64 (W .u8 ((a1.getD (x4).toNat 0).tdiv 8))).tmod (x3.length : Int))), (45, .int .i64 (x3.length : Int)), (43, .int .i64 (W .i64 (W .u8 ((a1.getD (x4).toNat 0).tdiv 8)))), (37, .slice A5 x3.length c5), (36, .bool true), (8, .int .i64 (-1)), (0, .slice Ap0 a0.length cp0), (1, .slice Ap1 a1.length cp1), (5, .slice A4 x2.length c4), (6, .slice A5 x3.length c5), (7, .int .i64 x4)]) (by kernel_rfl) ?_
        refine RL.simK (K' := [(50, .bool (!(x3.getD ((W .i64 (W .u8 ((a1.getD (x4).toNat 0).tdiv 8))).tmod (x3.length : Int)).toNat false))), (8, .int .i64 (-1)), (0, .slice Ap0 a0.length cp0), (1, .slice Ap1 a1.length cp1), (5, .slice A4 x2.length c4), (6, .slice A5 x3.length c5), (7, .int .i64 x4)]) [(⟨g5_, 0 + ((W .i64 (W .u8 ((a1.getD (x4).toNat 0).tdiv 8))).tmod (x3.length : Int)).toNat * 1, none⟩, .bool (x3.getD ((W .i64 (W .u8 ((a1.getD (x4).toNat 0).tdiv 8))).tmod (x3.length : Int)).toNat false))] (RFacts.ownQ (e := 4) (sz := 1) (S := A5) (n := x3.length) (cap := c5) (cs := cs5) 1 (by kernel_rfl) hA5_ (0 + ((W .i64 (W .u8 ((a1.getD (x4).toNat 0).tdiv 8))).tmod (x3.length : Int)).toNat * 1) (((W .i64 (W .u8 ((a1.getD (x4).toNat 0).tdiv 8))).tmod (x3.length : Int)).toNat * 1 + 0) (by omega) (hc5_ 0 _ rfl) (RFacts.nil _ _ _)) 3 [.r 0, .no, .no] (by kernel_rfl) (by kernel_rfl) ?_
        refine RL.nil (by kernel_rfl) ?_
        obtain rfl := Option.some.inj H
        refine QN.sub (K' := [(0, .slice Ap0 a0.length cp0), (1, .slice Ap1 a1.length cp1), (5, .slice A4 x2.length c4), (6, .slice A5 x3.length c5), (7, .int .i64 x4), (8, .int .i64 (-1)), (50, .bool (!(x3.getD ((W .i64 (W .u8 ((a1.getD (x4).toNat 0).tdiv 8))).tmod (x3.length : Int)).toNat false)))]) (L' := []) (by kernel_rfl) .slnil (.refl _) ?_
        exact hJ3 _ _ _ _ _ ⟨(!(x3.getD ((W .i64 (W .u8 ((a1.getD (x4).toNat 0).tdiv 8))).tmod (x3.length : Int)).toNat false)), rfl, rfl, rfl, (Imm.le_refl _), HK2⟩
       ·have hc := (of_decide_eq_false hb)
        rw [hb]
        rw [if_neg hc] at H; clear hb
        refine RL.simK (K' := [(50, .bool false), (8, .int .i64 (-1)), (0, .slice Ap0 a0.length cp0), (1, .slice Ap1 a1.length cp1), (5, .slice A4 x2.length c4), (6, .slice A5 x3.length c5), (7, .int .i64 x4)]) [] (RFacts.nil _ _ _) 14 [.no, .no, .no, .no, .no, .no, .no, .no, .no, .no, .no, .no, .no, .no] (by kernel_rfl) (by kernel_rfl) ?_
        refine RL.nil (by kernel_rfl) ?_
        obtain rfl := Option.some.inj H
        refine QN.sub (K' := [(0, .slice Ap0 a0.length cp0), (1, .slice Ap1 a1.length cp1), (5, .slice A4 x2.length c4), (6, .slice A5 x3.length c5), (7, .int .i64 x4), (8, .int .i64 (-1)), (50, .bool false)]) (L' := []) (by kernel_rfl) .slnil (.refl _) ?_
        exact hJ3 _ _ _ _ _ ⟨false, rfl, rfl, rfl, (Imm.le_refl _), HK2⟩
      ·have hc := (of_decide_eq_false hb)
       rw [hb]
       rw [if_neg hc] at H; clear hb
       refine RL.simK (K' := [(50, .bool false), (8, .int .i64 (-1)), (0, .slice Ap0 a0.length cp0), (1, .slice Ap1 a1.length cp1), (5, .slice A4 x2.length c4), (6, .slice A5 x3.length c5), (7, .int .i64 x4)]) [] (RFacts.nil _ _ _) 22 [.no, .no, .no, .no, .no, .no, .no, .no, .no, .no, .no, .no, .no, .no, .no, .no, .no, .no, .no, .no, .no, .no] (by kernel_rfl) (by kernel_rfl) ?_
       refine RL.nil (by kernel_rfl) ?_
       obtain rfl := Option.some.inj H
       refine QN.sub (K' := [(0, .slice Ap0 a0.length cp0), (1, .slice Ap1 a1.length cp1), (5, .slice A4 x2.length c4), (6, .slice A5 x3.length c5), (7, .int .i64 x4), (8, .int .i64 (-1)), (50, .bool false)]) (L' := []) (by kernel_rfl) .slnil (.refl _) ?_
       exact hJ3 _ _ _ _ _ ⟨false, rfl, rfl, rfl, (Imm.le_refl _), HK2⟩
     ·have hc := (of_decide_eq_false hb)
      rw [hb]
      rw [if_neg hc] at H; clear hb
      refine RL.simK (K' := [(50, .bool false), (8, .int .i64 (-1)), (0, .slice Ap0 a0.length cp0), (1, .slice Ap1 a1.length cp1), (5, .slice A4 x2.length c4), (6, .slice A5 x3.length c5), (7, .int .i64 x4)]) [] (RFacts.nil _ _ _) 27 [.no, .no, .no, .no, .no, .no, .no, .no, .no, .no, .no, .no, .no, .no, .no, .no, .no, .no, .no, .no, .no, .no, .no, .no, .no, .no, .no] (by kernel_rfl) (by kernel_rfl) ?_
      refine RL.nil (by kernel_rfl) ?_
      obtain rfl := Option.some.inj H
      refine QN.sub (K' := [(0, .slice Ap0 a0.length cp0), (1, .slice Ap1 a1.length cp1), (5, .slice A4 x2.length c4), (6, .slice A5 x3.length c5), (7, .int .i64 x4), (8, .int .i64 (-1)), (50, .bool false)]) (L' := []) (by kernel_rfl) .slnil (.refl _) ?_
      exact hJ3 _ _ _ _ _ ⟨false, rfl, rfl, rfl, (Imm.le_refl _), HK2⟩
   ·skip
    have hc := (of_decide_eq_false hb)
    rw [if_neg hc] at H
    clear hb
    refine OK.exit 0 (by kernel_rfl) ?_
    refine QN.thenE ?_
    refine QN.outE hQ2 ?_
    refine QN.blkE ?_
    obtain rfl := Option.some.inj H
    refine QN.sel (K' := [(5, .slice A4 x2.length c4)]) (L' := []) [0] (by kernel_rfl) (by kernel_rfl) .slnil ?_
    refine QN.norm (X' := [orow 3 1 A4 x2.length c4 cs4]) rfl rfl rfl (by kernel_rfl) ?_
    exact hJ1 _ _ _ _ _ ⟨x2, A4, c4, cs4, rfl, rfl, rfl, hi3, hp2, HK1⟩

end Go.Proofs.Ytdmhbcgmimfjcaa
namespace Go.Proofs.Ytdmhbcgmimfjcaa.hun
open Go Go.Proofs.Ytdmhbcgmimfjcaa Go.Proofs.Ytdmhbcgmimfjcaa.RW
set_option linter.unusedVariables false
set_option maxRecDepth 100000
set_option maxHeartbeats 4000000
theorem Wu8 (x : Int) : 0 ≤ W .u8 x ∧ W .u8 x ≤ 255 := by
  have e : W .u8 x = x % 256 := by simp [W, IntKind.wrap, IntKind.bits, IntKind.signed]
  rw [e]; omega
theorem Wu32 (x : Int) : 0 ≤ W .u32 x ∧ W .u32 x ≤ 4294967295 := by
  have e : W .u32 x = x % 4294967296 := by simp [W, IntKind.wrap, IntKind.bits, IntKind.signed]
  rw [e]; omega
/-- the column that is drawn for row n -/
def drawn (a1 : List Int) (m : Nat) (n : Nat) : Int := (W .i64 (W .u8 ((a1.getD n 0).tdiv 8))).tmod (m : Int)
theorem drawn_b (a1 : List Int) {m : Nat} (hm : 0 < m) (n : Nat) : 0 ≤ drawn a1 m n ∧ drawn a1 m n < (m : Int) := by
  have h := Wu8 ((a1.getD n 0).tdiv 8)
  unfold drawn
  rw [W64 (by omega) (by omega)]
  exact ⟨Int.tmod_nonneg _ h.1, Int.tmod_lt_of_pos _ (by omega)⟩
section
variable {w : List (List Int)} {m : Nat}
theorem assigned_loop (h : Vw w m) (a1 : List Int) : ∀ (d k n : Nat) (l : List Int) (used : List Bool), d + n = w.length → d < k → l.length = n → used.length = m → (∀ j, j < m → gb used j = taken (g l) n j) → (∀ i, i < n → g l i = -1 ∨ (0 ≤ g l i ∧ g l i < (m : Int) ∧ taken (g l) i (g l i).toNat = false)) →
    ∃ l', armillaryref22_Assignment.l1 w a1 k l used (n : Int) = some l' ∧ valid w m l' := by
  have hn12 := h.nr
  have hm12 := h.mr
  intro d
  induction d with
  | zero =>
    intro k n l used hd hk hl hu ht hv
    obtain ⟨k, rfl⟩ : ∃ m, k = m + 1 := ⟨k - 1, by omega⟩
    obtain rfl : n = w.length := by omega
    refine ⟨l, ?_, hl, hv⟩
    simp only [armillaryref22_Assignment.l1]
    rw [if_neg (by omega)]
  | succ d ih =>
    intro k n l used hd hk hl hu ht hv
    obtain ⟨k, rfl⟩ : ∃ m, k = m + 1 := ⟨k - 1, by omega⟩
    have hn : n < w.length := by omega
    have step : ∀ (used' : List Bool) (c : Int), used'.length = m → (c = -1 ∧ used' = used ∨ (0 ≤ c ∧ c < (m : Int) ∧ gb used c.toNat = false ∧ used' = used.set c.toNat true)) → ∃ l', armillaryref22_Assignment.l1 w a1 k (l ++ [c]) used' (W .i64 ((n : Int) + 1)) = some l' ∧ valid w m l' := by
      intro used' c hu' hc
      rw [Wn (by omega)]
      have heq : ∀ i', i' < n → g l i' = g (l ++ [c]) i' := fun i' hi' => by rw [gapp, if_pos (by omega)]
      have hgn : g (l ++ [c]) n = c := by rw [gapp, if_neg (by omega), if_pos hl.symm]
      refine ih k (n + 1) (l ++ [c]) used' (by omega) (by omega) (by simp [hl]) hu' (fun j hj => ?_) (fun i hi => ?_)
      · rw [taken_succ, hgn, ← taken_congr heq j, ← ht j hj]
        rcases hc with ⟨h1, h2⟩ | ⟨h1, h2, h3, h4⟩
        · rw [h2, beq_eq_false_iff_ne.2 (by omega : c ≠ (j : Int)), Bool.or_false]
        · rw [h4, gbset (by omega)]
          by_cases e2 : j = c.toNat
          · rw [if_pos e2, beq_iff_eq.2 (by omega : c = (j : Int)), Bool.or_true]
          · rw [if_neg e2, beq_eq_false_iff_ne.2 (by omega : c ≠ (j : Int)), Bool.or_false]
      · by_cases e : i = n
        · subst e
          rw [hgn]
          rcases hc with ⟨h1, h2⟩ | ⟨h1, h2, h3, h4⟩
          · exact .inl h1
          · exact .inr ⟨h1, h2, by rw [← taken_congr heq, ← ht _ (by omega)]; exact h3⟩
        · rw [← heq i (by omega), ← taken_congr (fun i' hi' => heq i' (by omega))]
          exact hv i (by omega)
    have neg : ∃ l', armillaryref22_Assignment.l1 w a1 k (l ++ [(-1 : Int)]) used (W .i64 ((n : Int) + 1)) = some l' ∧ valid w m l' := step used (-1) hu (.inl ⟨rfl, rfl⟩)
    have hlen : ∀ c : Int, (l.length + [c].length) * 8 ≤ 140737488355328 := fun c => by simp only [List.length_cons, List.length_nil]; omega
    simp only [armillaryref22_Assignment.l1, tn]
    rw [if_pos (by omega)]
    by_cases h1 : (n : Int) < (a1.length : Int)
    · simp only [if_pos h1]
      by_cases h2 : (used.length : Int) > 0
      · have hd0 := drawn_b a1 (m := m) (by omega) n
        have hdd : ∀ z, W .i64 (W .u8 z) = W .i64 (W .u8 z) := fun _ => rfl
        rw [if_pos h2, if_pos (by omega)]
        by_cases h3 : (a1.getD n 0).tmod 8 < 7
        · rw [if_pos h3, if_pos (by omega), if_neg (by omega), hu, show (W .i64 (W .u8 ((a1.getD n 0).tdiv 8))).tmod (m : Int) = drawn a1 m n from rfl]
          rw [if_pos hd0.1, if_pos hd0.2, Option.bind_some]
          by_cases h4 : gb used (drawn a1 m n).toNat = true
          · rw [if_neg (by rw [show used.getD (drawn a1 m n).toNat false = true from h4]; decide), Option.bind_some]
            rw [if_pos (hlen _)]
            exact neg
          · have h5 : gb used (drawn a1 m n).toNat = false := by revert h4; cases gb used (drawn a1 m n).toNat <;> simp
            rw [if_pos (by rw [show used.getD (drawn a1 m n).toNat false = false from h5]; rfl), if_pos (by omega), if_neg (by omega), if_pos hd0.1, if_pos hd0.2, Option.bind_some]
            rw [if_pos (hlen _)]
            exact step _ _ (by rw [List.length_set]; exact hu) (.inr ⟨hd0.1, hd0.2, h5, rfl⟩)
        · rw [if_neg h3, if_pos (by omega), Option.bind_some, if_neg (by decide), Option.bind_some, if_pos (hlen _)]
          exact neg
      · rw [if_neg h2, Option.bind_some, if_neg (by decide), Option.bind_some, if_pos (hlen _)]
        exact neg
    · rw [if_neg h1, Option.bind_some, if_neg (by decide), Option.bind_some, if_pos (hlen _)]
      exact neg
theorem assigned (h : Vw w m) (a1 : List Int) {k : Nat} (hk : 20 ≤ k) : ∃ l, armillaryref22_Assignment.f k w a1 = some l ∧ valid w m l := by
  have hm := h.mr
  have hn := h.nr
  obtain ⟨l, e, hv⟩ := assigned_loop h a1 w.length k 0 [] (List.replicate m false) (by omega) (by omega) rfl (by simp) (fun j hj => by rw [gbrep hj]; symm; simp [taken]) (fun i hi => absurd hi (by omega))
  refine ⟨l, ?_, hv⟩
  unfold armillaryref22_Assignment.f
  rw [columnsR h, Option.bind_some, if_pos (by omega), if_pos (by omega), tn, show armillaryref22_Assignment.l1 w a1 k [] (List.replicate m false) 0 = some l from e]
  rfl
end
end Go.Proofs.Ytdmhbcgmimfjcaa.hun
namespace Go.Proofs.Ytdmhbcgmimfjcaa
open Go Go.Proofs.Ytdmhbcgmimfjcaa.RW
set_option linter.unusedVariables false
set_option maxRecDepth 100000
set_option maxHeartbeats 8000000

/-! ### assign_Valid_1: function 28, armillary/assign.Valid$1 -/
noncomputable def K28_0 : Code := cBody Try.f28
noncomputable def K28_1 : Code := cL K28_0
noncomputable def O28_1 : List Oper := cOps K28_1
noncomputable def K28_3 : Code := cR K28_0
noncomputable def K28_4 : Code := cL K28_3
noncomputable def O28_4 : List Oper := cOps K28_4
noncomputable def K28_6 : Code := cR K28_3
def assign_Valid_1.k1  (x1 : Bool) : Option (Bool) := (some x1)
def assign_Valid_1.f (a0 : Int) : Option (Bool) := ((if a0 < 0 then (some true) else (some (decide (a0 > 1073741824)))).bind (assign_Valid_1.k1))
def assign_Valid_1.Post (I : Imm) (w : World) (r : Bool) (v : Value) (w' : World) : Prop :=
 ∃ (J : Imm), v = .bool r ∧ Got w w' I J []
theorem assign_Valid_1.calls (I0 : Imm) (a0 : Int) (w : World) (hI : I0.at_ w)  (r : Bool) (h : assign_Valid_1.f a0 = some r) :
  Calls Try.prog 28 [.int .i64 a0].toArray w fun e w' => ∃ v, e = .returned v ∧ assign_Valid_1.Post I0 w r v w' := by
 have H : ((if a0 < 0 then (some true) else (some (decide (a0 > 1073741824)))).bind (assign_Valid_1.k1)) = some r := h
 clear h
 refine calls_body Try.func28 (by kernel_rfl) 9 (by kernel_rfl) (by kernel_rfl) ⟨w, fun _ => False, I0⟩ I0 [] [(0, .int .i64 a0)] (by kernel_rfl) (Sat.start w _ I0 hI) ?_
 generalize w.heap.size = nx0
 show OK _ K28_0 _ _ _ _ _ _ _ _
 refine OK.seq K28_1 K28_3 (by kernel_rfl) ?_
 refine OK.region 0 O28_1 (by kernel_rfl) ?_
 refine RL.simK (K' := [(0, .int .i64 a0)]) [] (RFacts.nil _ _ _) 1 [.no] (by kernel_rfl) (by kernel_rfl) ?_
 refine RL.nil (by kernel_rfl) ?_
 refine QN.then_ ?_
 refine OK.seq K28_4 K28_6 (by kernel_rfl) ?_
 refine OK.join (fun K' I' _ L' X' => ∃ (x1 : Bool), K' = [(2, .bool x1)] ∧ L' = [] ∧ X' = [] ∧ Imm.le I0 I' ∧ assign_Valid_1.k1 x1 = some r) ?_ ?_
 ·rintro _ I1 nx1 _ _ ⟨x1, rfl, rfl, rfl, hi1, H⟩
  replace H : (some x1) = some r := H
  refine QN.then_ ?_
  refine OK.ret (by kernel_rfl) ?_
  obtain rfl := Option.some.inj H
  refine QN.body rfl [] (RFacts.nil _ _ _) (.no) (.bool x1) (by kernel_rfl) (by kernel_rfl) (by kernel_rfl) ?_ _ (.inr rfl)
  exact fun w' hs' => ⟨_, rfl, I1, rfl, hs'.got _ .slnil⟩
 ·intro Q_1 hJ1 hQ1
  obtain ⟨y1, H, HK1⟩ := Option.bind_eq_some_iff.mp H
  refine OK.region 1 O28_4 (by kernel_rfl) ?_
  refine RL.simK (K' := [(5, .bool (decide (a0 < 0))), (0, .int .i64 a0)]) [] (RFacts.nil _ _ _) 3 [.no, .no, .no] (by kernel_rfl) (by kernel_rfl) ?_
  refine RL.cases (decide (a0 < 0)) (fun hb => ?_) (fun hb => ?_)
  ·have hc := (of_decide_eq_true hb)
   rw [hb]
   rw [if_pos hc] at H; clear hb
   refine RL.simK (K' := [(2, .bool true)]) [] (RFacts.nil _ _ _) 4 [.no, .no, .no, .no] (by kernel_rfl) (by kernel_rfl) ?_
   refine RL.nil (by kernel_rfl) ?_
   obtain rfl := Option.some.inj H
   refine QN.sub (K' := [(2, .bool true)]) (L' := []) (by kernel_rfl) .slnil (.refl _) ?_
   exact hJ1 _ _ _ _ _ ⟨true, rfl, rfl, rfl, (Imm.le_refl _), HK1⟩
  ·have hc := (of_decide_eq_false hb)
   rw [hb]
   rw [if_neg hc] at H; clear hb
   refine RL.simK (K' := [(2, .bool (decide (a0 > 1073741824)))]) [] (RFacts.nil _ _ _) 4 [.no, .no, .no, .no] (by kernel_rfl) (by kernel_rfl) ?_
   refine RL.nil (by kernel_rfl) ?_
   obtain rfl := Option.some.inj H
   refine QN.sub (K' := [(2, .bool (decide (a0 > 1073741824)))]) (L' := []) (by kernel_rfl) .slnil (.refl _) ?_
   exact hJ1 _ _ _ _ _ ⟨(decide (a0 > 1073741824)), rfl, rfl, rfl, (Imm.le_refl _), HK1⟩

end Go.Proofs.Ytdmhbcgmimfjcaa
namespace Go.Proofs.Ytdmhbcgmimfjcaa
open Go Go.Proofs.Ytdmhbcgmimfjcaa.RW
set_option linter.unusedVariables false
set_option maxRecDepth 100000
set_option maxHeartbeats 8000000

/-! ### slices_IndexFunc_int64_int64s0: function 36, slices.IndexFunc[[]int64,int64] -/
noncomputable def K36s0_0 : Code := cBody Try.f36
noncomputable def K36s0_1 : Code := cL K36s0_0
noncomputable def O36s0_1 : List Oper := cOps K36s0_1
noncomputable def K36s0_3 : Code := cR K36s0_0
noncomputable def K36s0_4 : Code := cL K36s0_3
noncomputable def K36s0_5 : Code := cL K36s0_4
noncomputable def O36s0_5 : List Oper := cOps K36s0_5
noncomputable def K36s0_7 : Code := cR K36s0_4
noncomputable def K36s0_8 : Code := cL K36s0_7
noncomputable def K36s0_9 : Code := cL K36s0_8
noncomputable def K36s0_10 : Code := cL K36s0_9
noncomputable def O36s0_10 : List Oper := cOps K36s0_10
noncomputable def K36s0_12 : Code := cR K36s0_9
noncomputable def K36s0_13 : Code := cL K36s0_12
noncomputable def K36s0_14 : Code := cL K36s0_13
noncomputable def K36s0_15 : Code := cR K36s0_13
noncomputable def K36s0_16 : Code := cR K36s0_12
noncomputable def K36s0_17 : Code := cL K36s0_16
noncomputable def K36s0_18 : Code := cL K36s0_17
noncomputable def K36s0_19 : Code := cL K36s0_18
noncomputable def O36s0_19 : List Oper := cOps K36s0_19
noncomputable def K36s0_21 : Code := cR K36s0_18
noncomputable def K36s0_22 : Code := cL K36s0_21
noncomputable def O36s0_22 : List Oper := cOps K36s0_22
noncomputable def K36s0_24 : Code := cR K36s0_21
noncomputable def K36s0_25 : Code := cL K36s0_24
noncomputable def K36s0_26 : Code := cL K36s0_25
noncomputable def O36s0_26 : List Oper := cOps K36s0_26
noncomputable def K36s0_28 : Code := cR K36s0_25
noncomputable def K36s0_29 : Code := cR K36s0_24
noncomputable def K36s0_30 : Code := cR K36s0_16
noncomputable def O36s0_30 : List Oper := cOps K36s0_30
noncomputable def K36s0_32 : Code := cR K36s0_3
noncomputable def K36s0_33 : Code := cL K36s0_32
noncomputable def O36s0_33 : List Oper := cOps K36s0_33
noncomputable def K36s0_35 : Code := cR K36s0_32
def slices_IndexFunc_int64_int64s0.k1  : (Unit) ⊕ (Int) → Option (Int)
 | .inl () => (some (-1))
 | .inr r_ => some r_
def slices_IndexFunc_int64_int64s0.l1 (a0 : List Int) : Nat → Int → Option ((Unit) ⊕ (Int))
 | 0, _ => none
 | k + 1, x1 => (if x1 < (a0.length : Int) then (if 0 ≤ x1 then (if x1 < (a0.length : Int) then ((assign_Valid_1.f (a0.getD (x1).toNat 0)).bind fun t1 => (if t1 = true then (some (Sum.inr x1)) else (slices_IndexFunc_int64_int64s0.l1 a0 k (W .i64 (x1 + 1))))) else none) else none) else (some (Sum.inl ())))
def slices_IndexFunc_int64_int64s0.f (k : Nat) (a0 : List Int) : Option (Int) := ((slices_IndexFunc_int64_int64s0.l1 a0 k 0).bind (slices_IndexFunc_int64_int64s0.k1))
def slices_IndexFunc_int64_int64s0.Post (S : Nat → Prop) (a0 : List Int) (Aa0 : Option Addr) (ca0 : Nat) (I : Imm) (w : World) (r : Int) (v : Value) (w' : World) : Prop :=
 ∃ (J : Imm), v = .int .i64 r ∧ Sat ⟨w, S, I⟩ J w'.heap.size [] [] w'
theorem slices_IndexFunc_int64_int64s0.calls (k : Nat) (I0 : Imm) (a0 : List Int) (Aa0 : Option Addr) (ca0 : Nat) (w : World) (hs : Sat ⟨w, SM [] [], I0⟩ I0 w.heap.size [] [] w) (hla0 : a0.length ≤ ca0) (hra0 : Rd (Ty.int .i64) I0 Aa0 a0) (r : Int) (h : slices_IndexFunc_int64_int64s0.f k a0 = some r) :
  Calls Try.prog 36 [.slice Aa0 a0.length ca0, .func (.func 28) #[] #[]].toArray w fun e w' => ∃ v, e = .returned v ∧ slices_IndexFunc_int64_int64s0.Post (SM [] []) a0 Aa0 ca0 I0 w r v w' := by
 have H : ((slices_IndexFunc_int64_int64s0.l1 a0 k 0).bind (slices_IndexFunc_int64_int64s0.k1)) = some r := h
 clear h
 refine calls_bodyL Try.func36 (by kernel_rfl) 19 (by kernel_rfl) (by kernel_rfl) ⟨w, SM [] [], I0⟩ I0 [] [] [(0, .slice Aa0 a0.length ca0), (1, .func (.func 28) #[] #[])] (by kernel_rfl) hs ?_
 generalize w.heap.size = nx0
 show OK _ K36s0_0 _ _ _ _ _ _ _ _
 refine OK.seq K36s0_1 K36s0_3 (by kernel_rfl) ?_
 refine OK.region 0 O36s0_1 (by kernel_rfl) ?_
 refine RL.simK (K' := [(0, .slice Aa0 a0.length ca0), (1, .func (.func 28) #[] #[])]) [] (RFacts.nil _ _ _) 1 [.no] (by kernel_rfl) (by kernel_rfl) ?_
 refine RL.nil (by kernel_rfl) ?_
 refine QN.then_ ?_
 refine OK.seq K36s0_4 K36s0_32 (by kernel_rfl) ?_
 refine OK.seq K36s0_5 K36s0_7 (by kernel_rfl) ?_
 refine OK.region 1 O36s0_5 (by kernel_rfl) ?_
 refine RL.simK (K' := [(8, .int .i64 0), (7, .int .i64 (a0.length : Int)), (0, .slice Aa0 a0.length ca0), (1, .func (.func 28) #[] #[])]) [] (RFacts.nil _ _ _) 3 [.no, .no, .no] (by kernel_rfl) (by kernel_rfl) ?_
 refine RL.nil (by kernel_rfl) ?_
 refine QN.then_ ?_
 refine OK.join (fun K' I' _ L' X' => K' = [] ∧ L' = [] ∧ X' = [] ∧ Imm.le I0 I' ∧ slices_IndexFunc_int64_int64s0.k1 (Sum.inl ()) = some r) ?_ ?_
 ·rintro _ I1 nx1 _ _ ⟨rfl, rfl, rfl, hi1, H⟩
  replace H : (some (-1)) = some r := H
  refine QN.then_ ?_
  refine OK.seq K36s0_33 K36s0_35 (by kernel_rfl) ?_
  refine OK.region 7 O36s0_33 (by kernel_rfl) ?_
  refine RL.simK (K' := [(4, .int .i64 (-1))]) [] (RFacts.nil _ _ _) 1 [.no] (by kernel_rfl) (by kernel_rfl) ?_
  refine RL.nil (by kernel_rfl) ?_
  refine QN.then_ ?_
  refine OK.ret (by kernel_rfl) ?_
  obtain rfl := Option.some.inj H
  refine QN.body rfl [] (RFacts.nil _ _ _) (.no) (.int .i64 (-1)) (by kernel_rfl) (by kernel_rfl) (by kernel_rfl) ?_ _ (.inr rfl)
  exact fun w' hs' => ⟨_, rfl, I1, rfl, ((hs'.fin.selB [] (by kernel_rfl)).sel [] (by kernel_rfl))⟩
 ·intro Q_1 hJ1 hQ1
  obtain ⟨y1, H, HK1⟩ := Option.bind_eq_some_iff.mp H
  refine OK.block 0 K36s0_8 (by kernel_rfl) ?_
  refine OK.sub (K' := [(0, .slice Aa0 a0.length ca0), (1, .func (.func 28) #[] #[]), (7, .int .i64 (a0.length : Int)), (8, .int .i64 0)]) (L' := []) (by kernel_rfl) .slnil (.refl _) ?_
  refine OK.loopInv K36s0_9 (by kernel_rfl) (fun n_ K' I' _ L' X' => ∃ (x1 : Int), K' = [(0, .slice Aa0 a0.length ca0), (1, .func (.func 28) #[] #[]), (7, .int .i64 (a0.length : Int)), (8, .int .i64 x1)] ∧ L' = [] ∧ X' = [] ∧ Imm.le I0 I' ∧ slices_IndexFunc_int64_int64s0.l1 a0 n_ x1 = some y1) k ⟨0, rfl, rfl, rfl, (Imm.le_refl _), H⟩ ?_ ?_
  ·rintro _ _ _ _ _ ⟨x1, rfl, rfl, rfl, _, H⟩
   cases H
  ·rintro kq1 _ I2 nx2 _ _ ⟨x1, rfl, rfl, rfl, hi2, H⟩ Q_l1 hJ2 hQ2
   replace H : (if x1 < (a0.length : Int) then (if 0 ≤ x1 then (if x1 < (a0.length : Int) then ((assign_Valid_1.f (a0.getD (x1).toNat 0)).bind fun t1 => (if t1 = true then (some (Sum.inr x1)) else (slices_IndexFunc_int64_int64s0.l1 a0 kq1 (W .i64 (x1 + 1))))) else none) else none) else (some (Sum.inl ()))) = some y1 := H
   refine OK.seq K36s0_10 K36s0_12 (by kernel_rfl) ?_
   refine OK.region 2 O36s0_10 (by kernel_rfl) ?_
   refine RL.simK (K' := [(9, .bool (decide (x1 < (a0.length : Int)))), (0, .slice Aa0 a0.length ca0), (1, .func (.func 28) #[] #[]), (7, .int .i64 (a0.length : Int)), (8, .int .i64 x1)]) [] (RFacts.nil _ _ _) 1 [.no] (by kernel_rfl) (by kernel_rfl) ?_
   refine RL.nil (by kernel_rfl) ?_
   refine QN.then_ ?_
   refine OK.seq K36s0_13 K36s0_16 (by kernel_rfl) ?_
   refine OK.cond (.tmp 9) K36s0_14 K36s0_15 (decide (x1 < (a0.length : Int))) (by kernel_rfl) (by kernel_rfl) (by kernel_rfl) (fun hb => ?_) (fun hb => ?_)
   ·skip
    have hc := (of_decide_eq_true hb)
    rw [if_pos hc] at H
    clear hb
    refine OK.skip (by kernel_rfl) ?_
    refine QN.then_ ?_
    refine OK.seq K36s0_17 K36s0_30 (by kernel_rfl) ?_
    refine OK.block 1 K36s0_18 (by kernel_rfl) ?_
    refine OK.seq K36s0_19 K36s0_21 (by kernel_rfl) ?_
    refine OK.region 3 O36s0_19 (by kernel_rfl) ?_
    refine RL.simK (K' := [(5, .int .i64 x1), (0, .slice Aa0 a0.length ca0), (1, .func (.func 28) #[] #[]), (7, .int .i64 (a0.length : Int)), (8, .int .i64 x1)]) [] (RFacts.nil _ _ _) 2 [.no, .no] (by kernel_rfl) (by kernel_rfl) ?_
    refine RL.nil (by kernel_rfl) ?_
    refine QN.then_ ?_
    refine OK.seq K36s0_22 K36s0_24 (by kernel_rfl) ?_
    refine OK.region 4 O36s0_22 (by kernel_rfl) ?_
    refine RL.simK (K' := [(13, .int .i64 x1), (12, .slice Aa0 a0.length ca0), (11, .func (.func 28) #[] #[]), (5, .int .i64 x1), (0, .slice Aa0 a0.length ca0), (1, .func (.func 28) #[] #[]), (7, .int .i64 (a0.length : Int)), (8, .int .i64 x1)]) [] (RFacts.nil _ _ _) 3 [.no, .no, .no] (by kernel_rfl) (by kernel_rfl) ?_
    by_cases hib0 : 0 ≤ x1
    case neg => rw [if_neg hib0] at H; cases H
    rw [if_pos hib0] at H
    by_cases hib1 : x1 < (a0.length : Int)
    case neg => rw [if_neg hib1] at H; cases H
    rw [if_pos hib1] at H
    obtain ⟨g1_, o1_, hA1_, hc1_⟩ := Ty.int_at (Rd.ext hi2 hra0) x1 hib0 hib1
    refine RL.idx 1 .i64 x1 hA1_ a0.length ca0 (some 14) (by kernel_rfl) (by kernel_rfl) (T := 24) (e := 2) (by kernel_rfl) (by kernel_rfl) hib0 hib1 (K' := [(14, .pointer (some ⟨g1_, o1_ + (x1).toNat * 1, none⟩)), (13, .int .i64 x1), (12, .slice Aa0 a0.length ca0), (11, .func (.func 28) #[] #[]), (5, .int .i64 x1), (0, .slice Aa0 a0.length ca0), (1, .func (.func 28) #[] #[]), (7, .int .i64 (a0.length : Int)), (8, .int .i64 x1)]) (by kernel_rfl) ?_
    refine RL.simK (K' := [(15, .int .i64 (a0.getD (x1).toNat 0)), (11, .func (.func 28) #[] #[]), (5, .int .i64 x1), (0, .slice Aa0 a0.length ca0), (1, .func (.func 28) #[] #[]), (7, .int .i64 (a0.length : Int)), (8, .int .i64 x1)]) [(⟨g1_, o1_ + (x1).toNat * 1, none⟩, .int .i64 (a0.getD (x1).toNat 0))] (RFacts.imm (hc1_ 0 _ rfl) (RFacts.nil _ _ _)) 1 [.r 0] (by kernel_rfl) (by kernel_rfl) ?_
    obtain ⟨t1, hA1, H⟩ := Option.bind_eq_some_iff.mp H
    refine RL.callP 28 [.int .i64 (a0.getD (x1).toNat 0)] (some 16) (fun w => assign_Valid_1.Post I2 w t1) (by kernel_rfl) (by kernel_rfl) (fun w hs => assign_Valid_1.calls I2 (a0.getD (x1).toNat 0) w hs.im  t1 hA1) ?_
    rintro w v w' hs ⟨I3, rfl, hg⟩
    have hi3 := hg.le
    refine RL.resume (X' := []) rfl (hs.call hg) ?_
    clear hs hg
    generalize w'.heap.size = nx3
    clear w w'
    refine RL.nil (by kernel_rfl) ?_
    refine QN.sub (K' := [(16, .bool t1), (5, .int .i64 x1), (0, .slice Aa0 a0.length ca0), (1, .func (.func 28) #[] #[]), (7, .int .i64 (a0.length : Int)), (8, .int .i64 x1)]) (L' := []) (by kernel_rfl) .slnil (.refl _) ?_
    refine QN.then_ ?_
    refine OK.cond (.tmp 16) K36s0_25 K36s0_29 t1 (by kernel_rfl) (by kernel_rfl) (by kernel_rfl) (fun hb => ?_) (fun hb => ?_)
    ·skip
     have hc := hb
     rw [if_pos hc] at H
     clear hb
     refine OK.seq K36s0_26 K36s0_28 (by kernel_rfl) ?_
     refine OK.region 5 O36s0_26 (by kernel_rfl) ?_
     refine RL.simK (K' := [(4, .int .i64 x1)]) [] (RFacts.nil _ _ _) 2 [.no, .no] (by kernel_rfl) (by kernel_rfl) ?_
     refine RL.nil (by kernel_rfl) ?_
     refine QN.then_ ?_
     refine OK.ret (by kernel_rfl) ?_
     refine QN.blkR ?_
     refine QN.thenR ?_
     refine QN.outR hQ2 ?_
     refine QN.blkR ?_
     refine QN.outR hQ1 ?_
     refine QN.thenR ?_
     obtain rfl := Option.some.inj H
     replace H : some x1 = some r := HK1
     obtain rfl := Option.some.inj H
     refine QN.body rfl [] (RFacts.nil _ _ _) (.no) (.int .i64 x1) (by kernel_rfl) (by kernel_rfl) (by kernel_rfl) ?_ _ (.inr rfl)
     exact fun w' hs' => ⟨_, rfl, I3, rfl, ((hs'.fin.selB [] (by kernel_rfl)).sel [] (by kernel_rfl))⟩
    ·skip
     have hc := (Bool.eq_false_iff.1 hb)
     rw [if_neg hc] at H
     clear hb
     refine OK.skip (by kernel_rfl) ?_
     refine QN.blkN ?_
     refine QN.then_ ?_
     refine OK.region 6 O36s0_30 (by kernel_rfl) ?_
     refine RL.simK (K' := [(8, .int .i64 (W .i64 (x1 + 1))), (0, .slice Aa0 a0.length ca0), (1, .func (.func 28) #[] #[]), (7, .int .i64 (a0.length : Int))]) [] (RFacts.nil _ _ _) 2 [.no, .no] (by kernel_rfl) (by kernel_rfl) ?_
     refine RL.nil (by kernel_rfl) ?_
     refine QN.sub (K' := [(0, .slice Aa0 a0.length ca0), (1, .func (.func 28) #[] #[]), (7, .int .i64 (a0.length : Int)), (8, .int .i64 (W .i64 (x1 + 1)))]) (L' := []) (by kernel_rfl) .slnil (.refl _) ?_
     exact hJ2 _ _ _ _ _ ⟨W .i64 (x1 + 1), rfl, rfl, rfl, (Imm.le_trans hi2 hi3), H⟩
   ·skip
    have hc := (of_decide_eq_false hb)
    rw [if_neg hc] at H
    clear hb
    refine OK.exit 0 (by kernel_rfl) ?_
    refine QN.thenE ?_
    refine QN.outE hQ2 ?_
    refine QN.blkE ?_
    obtain rfl := Option.some.inj H
    refine QN.sub (K' := []) (L' := []) (by kernel_rfl) .slnil (.refl _) ?_
    exact hJ1 _ _ _ _ _ ⟨rfl, rfl, rfl, hi2, HK1⟩

end Go.Proofs.Ytdmhbcgmimfjcaa
namespace Go.Proofs.Ytdmhbcgmimfjcaa
open Go Go.Proofs.Ytdmhbcgmimfjcaa.RW
set_option linter.unusedVariables false
set_option maxRecDepth 100000
set_option maxHeartbeats 8000000

/-! ### slices_ContainsFunc_int64_int64s0: function 27, slices.ContainsFunc[[]int64,int64] -/
noncomputable def K27s0_0 : Code := cBody Try.f27
noncomputable def K27s0_1 : Code := cL K27s0_0
noncomputable def O27s0_1 : List Oper := cOps K27s0_1
noncomputable def K27s0_3 : Code := cR K27s0_0
noncomputable def K27s0_4 : Code := cL K27s0_3
noncomputable def O27s0_4 : List Oper := cOps K27s0_4
noncomputable def K27s0_6 : Code := cR K27s0_3
def slices_ContainsFunc_int64_int64s0.f (k : Nat) (a0 : List Int) : Option (Bool) := ((slices_IndexFunc_int64_int64s0.f k a0).bind fun t1 => (some (decide (t1 ≥ 0))))
def slices_ContainsFunc_int64_int64s0.Post (S : Nat → Prop) (a0 : List Int) (Aa0 : Option Addr) (ca0 : Nat) (I : Imm) (w : World) (r : Bool) (v : Value) (w' : World) : Prop :=
 ∃ (J : Imm), v = .bool r ∧ Sat ⟨w, S, I⟩ J w'.heap.size [] [] w'
theorem slices_ContainsFunc_int64_int64s0.calls (k : Nat) (I0 : Imm) (a0 : List Int) (Aa0 : Option Addr) (ca0 : Nat) (w : World) (hs : Sat ⟨w, SM [] [], I0⟩ I0 w.heap.size [] [] w) (hla0 : a0.length ≤ ca0) (hra0 : Rd (Ty.int .i64) I0 Aa0 a0) (r : Bool) (h : slices_ContainsFunc_int64_int64s0.f k a0 = some r) :
  Calls Try.prog 27 [.slice Aa0 a0.length ca0, .func (.func 28) #[] #[]].toArray w fun e w' => ∃ v, e = .returned v ∧ slices_ContainsFunc_int64_int64s0.Post (SM [] []) a0 Aa0 ca0 I0 w r v w' := by
 have H : ((slices_IndexFunc_int64_int64s0.f k a0).bind fun t1 => (some (decide (t1 ≥ 0)))) = some r := h
 clear h
 refine calls_bodyL Try.func27 (by kernel_rfl) 9 (by kernel_rfl) (by kernel_rfl) ⟨w, SM [] [], I0⟩ I0 [] [] [(0, .slice Aa0 a0.length ca0), (1, .func (.func 28) #[] #[])] (by kernel_rfl) hs ?_
 generalize w.heap.size = nx0
 show OK _ K27s0_0 _ _ _ _ _ _ _ _
 refine OK.seq K27s0_1 K27s0_3 (by kernel_rfl) ?_
 refine OK.region 0 O27s0_1 (by kernel_rfl) ?_
 refine RL.simK (K' := [(0, .slice Aa0 a0.length ca0), (1, .func (.func 28) #[] #[])]) [] (RFacts.nil _ _ _) 1 [.no] (by kernel_rfl) (by kernel_rfl) ?_
 refine RL.nil (by kernel_rfl) ?_
 refine QN.then_ ?_
 refine OK.seq K27s0_4 K27s0_6 (by kernel_rfl) ?_
 refine OK.region 1 O27s0_4 (by kernel_rfl) ?_
 refine RL.simK (K' := [(6, .func (.func 28) #[] #[]), (5, .slice Aa0 a0.length ca0)]) [] (RFacts.nil _ _ _) 2 [.no, .no] (by kernel_rfl) (by kernel_rfl) ?_
 obtain ⟨t1, hA1, H⟩ := Option.bind_eq_some_iff.mp H
 refine RL.callM (L1 := []) (L2 := []) (X1 := []) (X2 := []) rfl rfl 36 [.slice Aa0 a0.length ca0, .func (.func 28) #[] #[]] (some 7) (fun w => slices_IndexFunc_int64_int64s0.Post (SM [] []) a0 Aa0 ca0 I0 w t1) (by kernel_rfl) (by kernel_rfl) (fun w hs => slices_IndexFunc_int64_int64s0.calls k I0 a0 Aa0 ca0 w hs hla0 hra0 t1 hA1) ?_
 rintro w v w' hs ⟨I1, rfl, hg⟩
 have hi1 : Imm.le I0 I1 := hg.le
 refine RL.resume (L' := []) (X' := []) rfl (hs.outof hg) ?_
 clear hs hg
 generalize w'.heap.size = nx1
 clear w w'
 refine RL.simK (K' := [(4, .bool (decide (t1 ≥ 0)))]) [] (RFacts.nil _ _ _) 2 [.no, .no] (by kernel_rfl) (by kernel_rfl) ?_
 refine RL.nil (by kernel_rfl) ?_
 refine QN.then_ ?_
 refine OK.ret (by kernel_rfl) ?_
 obtain rfl := Option.some.inj H
 refine QN.body rfl [] (RFacts.nil _ _ _) (.no) (.bool (decide (t1 ≥ 0))) (by kernel_rfl) (by kernel_rfl) (by kernel_rfl) ?_ _ (.inr rfl)
 exact fun w' hs' => ⟨_, rfl, I1, rfl, ((hs'.fin.selB [] (by kernel_rfl)).sel [] (by kernel_rfl))⟩

end Go.Proofs.Ytdmhbcgmimfjcaa
namespace Go.Proofs.Ytdmhbcgmimfjcaa
open Go Go.Proofs.Ytdmhbcgmimfjcaa.RW
set_option linter.unusedVariables false
set_option maxRecDepth 100000
set_option maxHeartbeats 8000000

/-! ### assign_Valid: function 11, armillary/assign.Valid -/
noncomputable def K11_0 : Code := cBody Try.f11
noncomputable def K11_1 : Code := cL K11_0
noncomputable def O11_1 : List Oper := cOps K11_1
noncomputable def K11_3 : Code := cR K11_0
noncomputable def K11_4 : Code := cL K11_3
noncomputable def K11_5 : Code := cL K11_4
noncomputable def O11_5 : List Oper := cOps K11_5
noncomputable def K11_7 : Code := cR K11_4
noncomputable def K11_8 : Code := cL K11_7
noncomputable def K11_9 : Code := cL K11_8
noncomputable def O11_9 : List Oper := cOps K11_9
noncomputable def K11_11 : Code := cR K11_8
noncomputable def K11_12 : Code := cR K11_7
noncomputable def K11_13 : Code := cR K11_3
noncomputable def K11_14 : Code := cL K11_13
noncomputable def K11_15 : Code := cL K11_14
noncomputable def O11_15 : List Oper := cOps K11_15
noncomputable def K11_17 : Code := cR K11_14
noncomputable def K11_18 : Code := cL K11_17
noncomputable def K11_19 : Code := cL K11_18
noncomputable def K11_20 : Code := cL K11_19
noncomputable def O11_20 : List Oper := cOps K11_20
noncomputable def K11_22 : Code := cR K11_19
noncomputable def K11_23 : Code := cL K11_22
noncomputable def K11_24 : Code := cL K11_23
noncomputable def K11_25 : Code := cR K11_23
noncomputable def K11_26 : Code := cR K11_22
noncomputable def K11_27 : Code := cL K11_26
noncomputable def K11_28 : Code := cL K11_27
noncomputable def K11_29 : Code := cL K11_28
noncomputable def O11_29 : List Oper := cOps K11_29
noncomputable def K11_31 : Code := cR K11_28
noncomputable def K11_32 : Code := cL K11_31
noncomputable def O11_32 : List Oper := cOps K11_32
noncomputable def K11_34 : Code := cR K11_31
noncomputable def K11_35 : Code := cL K11_34
noncomputable def K11_36 : Code := cL K11_35
noncomputable def O11_36 : List Oper := cOps K11_36
noncomputable def K11_38 : Code := cR K11_35
noncomputable def K11_39 : Code := cR K11_34
noncomputable def K11_40 : Code := cR K11_26
noncomputable def O11_40 : List Oper := cOps K11_40
noncomputable def K11_42 : Code := cR K11_13
noncomputable def K11_43 : Code := cL K11_42
noncomputable def O11_43 : List Oper := cOps K11_43
noncomputable def K11_45 : Code := cR K11_42
def assign_Valid.k1  : (Unit) ⊕ (Bool) → Option (Bool)
 | .inl () => (some true)
 | .inr r_ => some r_
def assign_Valid.l1 (a0 : List (List Int)) : Nat → Int → Option ((Unit) ⊕ (Bool))
 | 0, _ => none
 | k + 1, x1 => (if x1 < (a0.length : Int) then (if 0 ≤ x1 then (if x1 < (a0.length : Int) then ((if 0 < (a0.length : Int) then (if ((a0.getD (x1).toNat []).length : Int) ≠ ((a0.getD (0 : Int).toNat []).length : Int) then (some true) else (if ((a0.getD (x1).toNat []).length : Int) > 12 then (some true) else ((slices_ContainsFunc_int64_int64s0.f k (a0.getD (x1).toNat [])).bind fun t1 => (some t1)))) else none).bind (fun x2 => (if x2 = true then (some (Sum.inr false)) else (assign_Valid.l1 a0 k (W .i64 (x1 + 1)))))) else none) else none) else (some (Sum.inl ())))
def assign_Valid.f (k : Nat) (a0 : List (List Int)) : Option (Bool) := (if (a0.length : Int) > 12 then (some false) else ((assign_Valid.l1 a0 k 0).bind (assign_Valid.k1)))
def assign_Valid.Post (I : Imm) (w : World) (r : Bool) (v : Value) (w' : World) : Prop :=
 ∃ (J : Imm), v = .bool r ∧ Got w w' I J []
theorem assign_Valid.calls (k : Nat) (I0 : Imm) (a0 : List (List Int)) (Ap0 : Option Addr) (cp0 : Nat) (w : World) (hI : I0.at_ w) (hlp0 : a0.length ≤ cp0) (hrp0 : Rd (Ty.slice (Ty.int .i64)) I0 Ap0 a0) (r : Bool) (h : assign_Valid.f k a0 = some r) :
  Calls Try.prog 11 [.slice Ap0 a0.length cp0].toArray w fun e w' => ∃ v, e = .returned v ∧ assign_Valid.Post I0 w r v w' := by
 have H : (if (a0.length : Int) > 12 then (some false) else ((assign_Valid.l1 a0 k 0).bind (assign_Valid.k1))) = some r := h
 clear h
 refine calls_body Try.func11 (by kernel_rfl) 31 (by kernel_rfl) (by kernel_rfl) ⟨w, fun _ => False, I0⟩ I0 [] [(0, .slice Ap0 a0.length cp0)] (by kernel_rfl) (Sat.start w _ I0 hI) ?_
 generalize w.heap.size = nx0
 show OK _ K11_0 _ _ _ _ _ _ _ _
 refine OK.seq K11_1 K11_3 (by kernel_rfl) ?_
 refine OK.region 0 O11_1 (by kernel_rfl) ?_
 refine RL.simK (K' := [(0, .slice Ap0 a0.length cp0)]) [] (RFacts.nil _ _ _) 1 [.no] (by kernel_rfl) (by kernel_rfl) ?_
 refine RL.nil (by kernel_rfl) ?_
 refine QN.then_ ?_
 refine OK.seq K11_4 K11_13 (by kernel_rfl) ?_
 refine OK.seq K11_5 K11_7 (by kernel_rfl) ?_
 refine OK.region 1 O11_5 (by kernel_rfl) ?_
 refine RL.simK (K' := [(7, .bool (decide ((a0.length : Int) > 12))), (0, .slice Ap0 a0.length cp0)]) [] (RFacts.nil _ _ _) 3 [.no, .no, .no] (by kernel_rfl) (by kernel_rfl) ?_
 refine RL.nil (by kernel_rfl) ?_
 refine QN.then_ ?_
 refine OK.cond (.tmp 7) K11_8 K11_12 (decide ((a0.length : Int) > 12)) (by kernel_rfl) (by kernel_rfl) (by kernel_rfl) (fun hb => ?_) (fun hb => ?_)
 ·skip
  have hc := (of_decide_eq_true hb)
  rw [if_pos hc] at H
  clear hb
  refine OK.seq K11_9 K11_11 (by kernel_rfl) ?_
  refine OK.region 2 O11_9 (by kernel_rfl) ?_
  refine RL.simK (K' := [(2, .bool false)]) [] (RFacts.nil _ _ _) 1 [.no] (by kernel_rfl) (by kernel_rfl) ?_
  refine RL.nil (by kernel_rfl) ?_
  refine QN.then_ ?_
  refine OK.ret (by kernel_rfl) ?_
  refine QN.thenR ?_
  obtain rfl := Option.some.inj H
  refine QN.body rfl [] (RFacts.nil _ _ _) (.no) (.bool false) (by kernel_rfl) (by kernel_rfl) (by kernel_rfl) ?_ _ (.inr rfl)
  exact fun w' hs' => ⟨_, rfl, I0, rfl, hs'.got _ .slnil⟩
 ·skip
  have hc := (of_decide_eq_false hb)
  rw [if_neg hc] at H
  clear hb
  refine OK.skip (by kernel_rfl) ?_
  refine QN.then_ ?_
  refine OK.seq K11_14 K11_42 (by kernel_rfl) ?_
  refine OK.seq K11_15 K11_17 (by kernel_rfl) ?_
  refine OK.region 3 O11_15 (by kernel_rfl) ?_
  refine RL.simK (K' := [(10, .int .i64 0), (9, .int .i64 (a0.length : Int)), (8, .slice Ap0 a0.length cp0), (0, .slice Ap0 a0.length cp0)]) [] (RFacts.nil _ _ _) 3 [.no, .no, .no] (by kernel_rfl) (by kernel_rfl) ?_
  refine RL.nil (by kernel_rfl) ?_
  refine QN.then_ ?_
  refine OK.join (fun K' I' _ L' X' => K' = [] ∧ L' = [] ∧ X' = [] ∧ Imm.le I0 I' ∧ assign_Valid.k1 (Sum.inl ()) = some r) ?_ ?_
  ·rintro _ I1 nx1 _ _ ⟨rfl, rfl, rfl, hi1, H⟩
   replace H : (some true) = some r := H
   refine QN.then_ ?_
   refine OK.seq K11_43 K11_45 (by kernel_rfl) ?_
   refine OK.region 9 O11_43 (by kernel_rfl) ?_
   refine RL.simK (K' := [(2, .bool true)]) [] (RFacts.nil _ _ _) 1 [.no] (by kernel_rfl) (by kernel_rfl) ?_
   refine RL.nil (by kernel_rfl) ?_
   refine QN.then_ ?_
   refine OK.ret (by kernel_rfl) ?_
   obtain rfl := Option.some.inj H
   refine QN.body rfl [] (RFacts.nil _ _ _) (.no) (.bool true) (by kernel_rfl) (by kernel_rfl) (by kernel_rfl) ?_ _ (.inr rfl)
   exact fun w' hs' => ⟨_, rfl, I1, rfl, hs'.got _ .slnil⟩
  ·intro Q_1 hJ1 hQ1
   obtain ⟨y1, H, HK1⟩ := Option.bind_eq_some_iff.mp H
   refine OK.block 0 K11_18 (by kernel_rfl) ?_
   refine OK.sub (K' := [(0, .slice Ap0 a0.length cp0), (8, .slice Ap0 a0.length cp0), (9, .int .i64 (a0.length : Int)), (10, .int .i64 0)]) (L' := []) (by kernel_rfl) .slnil (.refl _) ?_
   refine OK.loopInv K11_19 (by kernel_rfl) (fun n_ K' I' _ L' X' => ∃ (x1 : Int), K' = [(0, .slice Ap0 a0.length cp0), (8, .slice Ap0 a0.length cp0), (9, .int .i64 (a0.length : Int)), (10, .int .i64 x1)] ∧ L' = [] ∧ X' = [] ∧ Imm.le I0 I' ∧ assign_Valid.l1 a0 n_ x1 = some y1) k ⟨0, rfl, rfl, rfl, (Imm.le_refl _), H⟩ ?_ ?_
   ·rintro _ _ _ _ _ ⟨x1, rfl, rfl, rfl, _, H⟩
    cases H
   ·rintro kq1 _ I2 nx2 _ _ ⟨x1, rfl, rfl, rfl, hi2, H⟩ Q_l1 hJ2 hQ2
    replace H : (if x1 < (a0.length : Int) then (if 0 ≤ x1 then (if x1 < (a0.length : Int) then ((if 0 < (a0.length : Int) then (if ((a0.getD (x1).toNat []).length : Int) ≠ ((a0.getD (0 : Int).toNat []).length : Int) then (some true) else (if ((a0.getD (x1).toNat []).length : Int) > 12 then (some true) else ((slices_ContainsFunc_int64_int64s0.f kq1 (a0.getD (x1).toNat [])).bind fun t1 => (some t1)))) else none).bind (fun x2 => (if x2 = true then (some (Sum.inr false)) else (assign_Valid.l1 a0 kq1 (W .i64 (x1 + 1)))))) else none) else none) else (some (Sum.inl ()))) = some y1 := H
    refine OK.seq K11_20 K11_22 (by kernel_rfl) ?_
    refine OK.region 4 O11_20 (by kernel_rfl) ?_
    refine RL.simK (K' := [(11, .bool (decide (x1 < (a0.length : Int)))), (0, .slice Ap0 a0.length cp0), (8, .slice Ap0 a0.length cp0), (9, .int .i64 (a0.length : Int)), (10, .int .i64 x1)]) [] (RFacts.nil _ _ _) 1 [.no] (by kernel_rfl) (by kernel_rfl) ?_
    refine RL.nil (by kernel_rfl) ?_
    refine QN.then_ ?_
    refine OK.seq K11_23 K11_26 (by kernel_rfl) ?_
    refine OK.cond (.tmp 11) K11_24 K11_25 (decide (x1 < (a0.length : Int))) (by kernel_rfl) (by kernel_rfl) (by kernel_rfl) (fun hb => ?_) (fun hb => ?_)
    ·skip
     have hc := (of_decide_eq_true hb)
     rw [if_pos hc] at H
     clear hb
     refine OK.skip (by kernel_rfl) ?_
     refine QN.then_ ?_
     refine OK.seq K11_27 K11_40 (by kernel_rfl) ?_
     refine OK.block 1 K11_28 (by kernel_rfl) ?_
     refine OK.seq K11_29 K11_31 (by kernel_rfl) ?_
     refine OK.region 5 O11_29 (by kernel_rfl) ?_
     by_cases hib0 : 0 ≤ x1
     case neg => rw [if_neg hib0] at H; cases H
     rw [if_pos hib0] at H
     by_cases hib1 : x1 < (a0.length : Int)
     case neg => rw [if_neg hib1] at H; cases H
     rw [if_pos hib1] at H
     obtain ⟨g1_, o1_, hA1_, A1_, c1_, hl1_, hr1_, hc1_⟩ := Ty.slice_at (Rd.ext hi2 hrp0) x1 hib0 hib1
     refine RL.idx 1 .i64 x1 hA1_ a0.length cp0 (some 12) (by kernel_rfl) (by kernel_rfl) (T := 22) (e := 24) (by kernel_rfl) (by kernel_rfl) hib0 hib1 (K' := [(12, .pointer (some ⟨g1_, o1_ + (x1).toNat * 1, none⟩)), (11, .bool (decide (x1 < (a0.length : Int)))), (0, .slice Ap0 a0.length cp0), (8, .slice Ap0 a0.length cp0), (9, .int .i64 (a0.length : Int)), (10, .int .i64 x1)]) (by kernel_rfl) ?_
     refine RL.simK (K' := [(4, .slice A1_ ((a0.getD (x1).toNat []).length) c1_), (0, .slice Ap0 a0.length cp0), (8, .slice Ap0 a0.length cp0), (9, .int .i64 (a0.length : Int)), (10, .int .i64 x1)]) [(⟨g1_, o1_ + (x1).toNat * 1, none⟩, .slice A1_ ((a0.getD (x1).toNat []).length) c1_)] (RFacts.imm (hc1_ 0 _ rfl) (RFacts.nil _ _ _)) 2 [.r 0, .no] (by kernel_rfl) (by kernel_rfl) ?_
     refine RL.nil (by kernel_rfl) ?_
     refine QN.then_ ?_
     refine OK.seq K11_32 K11_34 (by kernel_rfl) ?_
     refine OK.join (fun K' I' _ L' X' => ∃ (x2 : Bool), K' = [(0, .slice Ap0 a0.length cp0), (8, .slice Ap0 a0.length cp0), (9, .int .i64 (a0.length : Int)), (10, .int .i64 x1), (29, .bool x2)] ∧ L' = [] ∧ X' = [] ∧ Imm.le I2 I' ∧ (if x2 = true then (some (Sum.inr false)) else (assign_Valid.l1 a0 kq1 (W .i64 (x1 + 1)))) = some y1) ?_ ?_
     ·rintro _ I3 nx3 _ _ ⟨x2, rfl, rfl, rfl, hi3, H⟩
      replace H : (if x2 = true then (some (Sum.inr false)) else (assign_Valid.l1 a0 kq1 (W .i64 (x1 + 1)))) = some y1 := H
      refine QN.then_ ?_
      refine OK.cond (.tmp 29) K11_35 K11_39 x2 (by kernel_rfl) (by kernel_rfl) (by kernel_rfl) (fun hb => ?_) (fun hb => ?_)
      ·skip
       have hc := hb
       rw [if_pos hc] at H
       clear hb
       refine OK.seq K11_36 K11_38 (by kernel_rfl) ?_
       refine OK.region 7 O11_36 (by kernel_rfl) ?_
       refine RL.simK (K' := [(2, .bool false)]) [] (RFacts.nil _ _ _) 1 [.no] (by kernel_rfl) (by kernel_rfl) ?_
       refine RL.nil (by kernel_rfl) ?_
       refine QN.then_ ?_
       refine OK.ret (by kernel_rfl) ?_
       refine QN.blkR ?_
       refine QN.thenR ?_
       refine QN.outR hQ2 ?_
       refine QN.blkR ?_
       refine QN.outR hQ1 ?_
       refine QN.thenR ?_
       obtain rfl := Option.some.inj H
       replace H : some false = some r := HK1
       obtain rfl := Option.some.inj H
       refine QN.body rfl [] (RFacts.nil _ _ _) (.no) (.bool false) (by kernel_rfl) (by kernel_rfl) (by kernel_rfl) ?_ _ (.inr rfl)
       exact fun w' hs' => ⟨_, rfl, I3, rfl, hs'.got _ .slnil⟩
      ·skip
       have hc := (Bool.eq_false_iff.1 hb)
       rw [if_neg hc] at H
       clear hb
       refine OK.skip (by kernel_rfl) ?_
       refine QN.blkN ?_
       refine QN.then_ ?_
       refine OK.region 8 O11_40 (by kernel_rfl) ?_
       refine RL.simK (K' := [(10, .int .i64 (W .i64 (x1 + 1))), (0, .slice Ap0 a0.length cp0), (8, .slice Ap0 a0.length cp0), (9, .int .i64 (a0.length : Int))]) [] (RFacts.nil _ _ _) 2 [.no, .no] (by kernel_rfl) (by kernel_rfl) ?_
       refine RL.nil (by kernel_rfl) ?_
       refine QN.sub (K' := [(0, .slice Ap0 a0.length cp0), (8, .slice Ap0 a0.length cp0), (9, .int .i64 (a0.length : Int)), (10, .int .i64 (W .i64 (x1 + 1)))]) (L' := []) (by kernel_rfl) .slnil (.refl _) ?_
       exact hJ2 _ _ _ _ _ ⟨W .i64 (x1 + 1), rfl, rfl, rfl, (Imm.le_trans hi2 hi3), H⟩
     ·intro Q_2 hJ3 hQ3
      obtain ⟨y2, H, HK2⟩ := Option.bind_eq_some_iff.mp H
      refine OK.region 6 O11_32 (by kernel_rfl) ?_
      refine RL.simK (K' := [(16, .slice Ap0 a0.length cp0), (15, .int .i64 ((a0.getD (x1).toNat []).length : Int)), (4, .slice A1_ ((a0.getD (x1).toNat []).length) c1_), (0, .slice Ap0 a0.length cp0), (8, .slice Ap0 a0.length cp0), (9, .int .i64 (a0.length : Int)), (10, .int .i64 x1)]) [] (RFacts.nil _ _ _) 3 [.no, .no, .no] (by kernel_rfl) (by kernel_rfl) ?_
      have hib0 : (0 : Int) ≤ 0 := by decide
      by_cases hib1 : 0 < (a0.length : Int)
      case neg => rw [if_neg hib1] at H; cases H
      rw [if_pos hib1] at H
      obtain ⟨g2_, o2_, hA2_, A2_, c2_, hl2_, hr2_, hc2_⟩ := Ty.slice_at (Rd.ext hi2 hrp0) 0 hib0 hib1
      refine RL.idx 1 .i64 0 hA2_ a0.length cp0 (some 17) (by kernel_rfl) (by kernel_rfl) (T := 22) (e := 24) (by kernel_rfl) (by kernel_rfl) hib0 hib1 (K' := [(17, .pointer (some ⟨g2_, o2_ + (0 : Int).toNat * 1, none⟩)), (16, .slice Ap0 a0.length cp0), (15, .int .i64 ((a0.getD (x1).toNat []).length : Int)), (4, .slice A1_ ((a0.getD (x1).toNat []).length) c1_), (0, .slice Ap0 a0.length cp0), (8, .slice Ap0 a0.length cp0), (9, .int .i64 (a0.length : Int)), (10, .int .i64 x1)]) (by kernel_rfl) ?_
      refine RL.simK (K' := [(21, .bool (((a0.getD (x1).toNat []).length : Int) != ((a0.getD (0 : Int).toNat []).length : Int))), (4, .slice A1_ ((a0.getD (x1).toNat []).length) c1_), (0, .slice Ap0 a0.length cp0), (8, .slice Ap0 a0.length cp0), (9, .int .i64 (a0.length : Int)), (10, .int .i64 x1)]) [(⟨g2_, o2_ + (0 : Int).toNat * 1, none⟩, .slice A2_ ((a0.getD (0 : Int).toNat []).length) c2_)] (RFacts.imm (hc2_ 0 _ rfl) (RFacts.nil _ _ _)) 4 [.r 0, .no, .no, .no] (by kernel_rfl) (by kernel_rfl) ?_
      refine RL.cases (((a0.getD (x1).toNat []).length : Int) != ((a0.getD (0 : Int).toNat []).length : Int)) (fun hb => ?_) (fun hb => ?_)
      ·have hc := (bne_iff_ne.1 hb)
       rw [hb]
       rw [if_pos hc] at H; clear hb
       refine RL.simK (K' := [(29, .bool true), (0, .slice Ap0 a0.length cp0), (8, .slice Ap0 a0.length cp0), (9, .int .i64 (a0.length : Int)), (10, .int .i64 x1)]) [] (RFacts.nil _ _ _) 8 [.no, .no, .no, .no, .no, .no, .no, .no] (by kernel_rfl) (by kernel_rfl) ?_
       refine RL.nil (by kernel_rfl) ?_
       obtain rfl := Option.some.inj H
       refine QN.sub (K' := [(0, .slice Ap0 a0.length cp0), (8, .slice Ap0 a0.length cp0), (9, .int .i64 (a0.length : Int)), (10, .int .i64 x1), (29, .bool true)]) (L' := []) (by kernel_rfl) .slnil (.refl _) ?_
       exact hJ3 _ _ _ _ _ ⟨true, rfl, rfl, rfl, (Imm.le_refl _), HK2⟩
      ·have hc := (not_not_intro (bne_eq_false_iff_eq.1 hb))
       rw [hb]
       rw [if_neg hc] at H; clear hb
       refine RL.simK (K' := [(26, .bool (decide (((a0.getD (x1).toNat []).length : Int) > 12))), (4, .slice A1_ ((a0.getD (x1).toNat []).length) c1_), (0, .slice Ap0 a0.length cp0), (8, .slice Ap0 a0.length cp0), (9, .int .i64 (a0.length : Int)), (10, .int .i64 x1)]) [] (RFacts.nil _ _ _) 5 [.no, .no, .no, .no, .no] (by kernel_rfl) (by kernel_rfl) ?_
       refine RL.cases (decide (((a0.getD (x1).toNat []).length : Int) > 12)) (fun hb => ?_) (fun hb => ?_)
       ·have hc := (of_decide_eq_true hb)
        rw [hb]
        rw [if_pos hc] at H; clear hb
        refine RL.simK (K' := [(29, .bool true), (0, .slice Ap0 a0.length cp0), (8, .slice Ap0 a0.length cp0), (9, .int .i64 (a0.length : Int)), (10, .int .i64 x1)]) [] (RFacts.nil _ _ _) 3 [.no, .no, .no] (by kernel_rfl) (by kernel_rfl) ?_
        refine RL.nil (by kernel_rfl) ?_
        obtain rfl := Option.some.inj H
        refine QN.sub (K' := [(0, .slice Ap0 a0.length cp0), (8, .slice Ap0 a0.length cp0), (9, .int .i64 (a0.length : Int)), (10, .int .i64 x1), (29, .bool true)]) (L' := []) (by kernel_rfl) .slnil (.refl _) ?_
        exact hJ3 _ _ _ _ _ ⟨true, rfl, rfl, rfl, (Imm.le_refl _), HK2⟩
       ·have hc := (of_decide_eq_false hb)
        rw [hb]
        rw [if_neg hc] at H; clear hb
        refine RL.simK (K' := [(27, .slice A1_ ((a0.getD (x1).toNat []).length) c1_), (26, .bool false), (0, .slice Ap0 a0.length cp0), (8, .slice Ap0 a0.length cp0), (9, .int .i64 (a0.length : Int)), (10, .int .i64 x1)]) [] (RFacts.nil _ _ _) 1 [.no] (by kernel_rfl) (by kernel_rfl) ?_
        obtain ⟨t1, hA1, H⟩ := Option.bind_eq_some_iff.mp H
        refine RL.callM (L1 := []) (L2 := []) (X1 := []) (X2 := []) rfl rfl 27 [.slice A1_ ((a0.getD (x1).toNat []).length) c1_, .func (.func 28) #[] #[]] (some 28) (fun w => slices_ContainsFunc_int64_int64s0.Post (SM [] []) (a0.getD (x1).toNat []) A1_ c1_ I2 w t1) (by kernel_rfl) (by kernel_rfl) (fun w hs => slices_ContainsFunc_int64_int64s0.calls kq1 I2 (a0.getD (x1).toNat []) A1_ c1_ w hs hl1_ hr1_ t1 hA1) ?_
        rintro w v w' hs ⟨I4, rfl, hg⟩
        have hi4 : Imm.le I2 I4 := hg.le
        refine RL.resume (L' := []) (X' := []) rfl (hs.outof hg) ?_
        clear hs hg
        generalize w'.heap.size = nx4
        clear w w'
        refine RL.simK (K' := [(29, .bool t1), (0, .slice Ap0 a0.length cp0), (8, .slice Ap0 a0.length cp0), (9, .int .i64 (a0.length : Int)), (10, .int .i64 x1)]) [] (RFacts.nil _ _ _) 1 [.no] (by kernel_rfl) (by kernel_rfl) ?_
        refine RL.nil (by kernel_rfl) ?_
        obtain rfl := Option.some.inj H
        refine QN.sub (K' := [(0, .slice Ap0 a0.length cp0), (8, .slice Ap0 a0.length cp0), (9, .int .i64 (a0.length : Int)), (10, .int .i64 x1), (29, .bool t1)]) (L' := []) (by kernel_rfl) .slnil (.refl _) ?_
        exact hJ3 _ _ _ _ _ ⟨t1, rfl, rfl, rfl, hi4, HK2⟩
    ·skip
     have hc := (of_decide_eq_false hb)
     rw [if_neg hc] at H
     clear hb
     refine OK.exit 0 (by kernel_rfl) ?_
     refine QN.thenE ?_
     refine QN.outE hQ2 ?_
     refine QN.blkE ?_
     obtain rfl := Option.some.inj H
     refine QN.sub (K' := []) (L' := []) (by kernel_rfl) .slnil (.refl _) ?_
     exact hJ1 _ _ _ _ _ ⟨rfl, rfl, rfl, hi2, HK1⟩

end Go.Proofs.Ytdmhbcgmimfjcaa
namespace Go.Proofs.Ytdmhbcgmimfjcaa
open Go Go.Proofs.Ytdmhbcgmimfjcaa.RW
set_option linter.unusedVariables false
set_option maxRecDepth 100000
set_option maxHeartbeats 8000000

/-! ### armillaryref22_Same: function 17, armillary/armillaryref22.Same -/
noncomputable def K17_0 : Code := cBody Try.f17
noncomputable def K17_1 : Code := cL K17_0
noncomputable def O17_1 : List Oper := cOps K17_1
noncomputable def K17_3 : Code := cR K17_0
noncomputable def K17_4 : Code := cL K17_3
noncomputable def K17_5 : Code := cL K17_4
noncomputable def O17_5 : List Oper := cOps K17_5
noncomputable def K17_7 : Code := cR K17_4
noncomputable def K17_8 : Code := cL K17_7
noncomputable def K17_9 : Code := cL K17_8
noncomputable def O17_9 : List Oper := cOps K17_9
noncomputable def K17_11 : Code := cR K17_8
noncomputable def K17_12 : Code := cR K17_7
noncomputable def K17_13 : Code := cR K17_3
noncomputable def K17_14 : Code := cL K17_13
noncomputable def K17_15 : Code := cL K17_14
noncomputable def O17_15 : List Oper := cOps K17_15
noncomputable def K17_17 : Code := cR K17_14
noncomputable def K17_18 : Code := cL K17_17
noncomputable def K17_19 : Code := cL K17_18
noncomputable def K17_20 : Code := cL K17_19
noncomputable def K17_21 : Code := cL K17_20
noncomputable def O17_21 : List Oper := cOps K17_21
noncomputable def K17_23 : Code := cR K17_20
noncomputable def K17_24 : Code := cL K17_23
noncomputable def K17_25 : Code := cR K17_23
noncomputable def K17_26 : Code := cR K17_19
noncomputable def K17_27 : Code := cL K17_26
noncomputable def K17_28 : Code := cL K17_27
noncomputable def K17_29 : Code := cL K17_28
noncomputable def O17_29 : List Oper := cOps K17_29
noncomputable def K17_31 : Code := cR K17_28
noncomputable def K17_32 : Code := cL K17_31
noncomputable def K17_33 : Code := cL K17_32
noncomputable def O17_33 : List Oper := cOps K17_33
noncomputable def K17_35 : Code := cR K17_32
noncomputable def K17_36 : Code := cR K17_31
noncomputable def K17_37 : Code := cR K17_26
noncomputable def O17_37 : List Oper := cOps K17_37
noncomputable def K17_39 : Code := cR K17_13
noncomputable def K17_40 : Code := cL K17_39
noncomputable def O17_40 : List Oper := cOps K17_40
noncomputable def K17_42 : Code := cR K17_39
def armillaryref22_Same.k1  : (Unit) ⊕ (Bool) → Option (Bool)
 | .inl () => (some true)
 | .inr r_ => some r_
def armillaryref22_Same.l1 (a0 : List Int) (a1 : List Int) : Nat → Int → Option ((Unit) ⊕ (Bool))
 | 0, _ => none
 | k + 1, x1 => (if x1 < (a0.length : Int) then (if 0 ≤ x1 then (if x1 < (a0.length : Int) then (if 0 ≤ x1 then (if x1 < (a1.length : Int) then (if (a0.getD (x1).toNat 0) ≠ (a1.getD (x1).toNat 0) then (some (Sum.inr false)) else (armillaryref22_Same.l1 a0 a1 k (W .i64 (x1 + 1)))) else none) else none) else none) else none) else (some (Sum.inl ())))
def armillaryref22_Same.f (k : Nat) (a0 : List Int) (a1 : List Int) : Option (Bool) := (if (a0.length : Int) ≠ (a1.length : Int) then (some false) else ((armillaryref22_Same.l1 a0 a1 k 0).bind (armillaryref22_Same.k1)))
def armillaryref22_Same.Post (I : Imm) (w : World) (r : Bool) (v : Value) (w' : World) : Prop :=
 ∃ (J : Imm), v = .bool r ∧ Got w w' I J []
noncomputable def a17_29n : List Nat := [0, 0, 3, 7, 0, 0, 48, 112, 255]
theorem a17_29 : ancs O17_29 [] = a17_29n := by kernel_rfl
theorem a17_29o : drawOk O17_29 a17_29n 8 = true := by kernel_rfl
noncomputable def u17d1l  : List Ld :=
 []
noncomputable def u17d1g (x1 : Int) (g1_ : Nat) (o1_ : Nat) (g2_ : Nat) (o2_ : Nat) : List (Nat × ((Nat → Wt) → Value)) := [(2, fun u => .pointer (some ⟨g1_, o1_ + (x1).toNat * 1, none⟩)), (6, fun u => .pointer (some ⟨g2_, o2_ + (x1).toNat * 1, none⟩))]
noncomputable def u17d1q (a0 : List Int) (Ap0 : Option Addr) (cp0 : Nat) (a1 : List Int) (Ap1 : Option Addr) (cp1 : Nat) (x1 : Int) (g1_ : Nat) (o1_ : Nat) (g2_ : Nat) (o2_ : Nat) (u : Nat → Wt) : Option (List Value × List (Nat × Value) × List (Nat × Nat)) := qSim Try.prog [(⟨g1_, o1_ + (x1).toNat * 1, none⟩, .int .i64 (a0.getD (x1).toNat 0)), (⟨g2_, o2_ + (x1).toNat * 1, none⟩, .int .i64 (a1.getD (x1).toNat 0))] [] O17_29 ⟨26, []⟩ (Ld.vl u17d1l) (u17d1g x1 g1_ o1_ g2_ o2_) u [.no, .no, .no, .r 0, .no, .no, .no, .r 1] 0 (O17_29.take 8) [(14, .bool (decide (x1 < (a0.length : Int)))), (0, .slice Ap0 a0.length cp0), (1, .slice Ap1 a1.length cp1), (5, .int .i64 x1)]
noncomputable def u17d1s (a0 : List Int) (Ap0 : Option Addr) (cp0 : Nat) (a1 : List Int) (Ap1 : Option Addr) (cp1 : Nat) (x1 : Int) (g1_ : Nat) (o1_ : Nat) (g2_ : Nat) (o2_ : Nat) (u : Nat → Wt) : List Value := [.slice Ap0 a0.length cp0, .int .i64 x1, .pointer (some ⟨g1_, o1_ + (x1).toNat * 1, none⟩), .int .i64 (a0.getD (x1).toNat 0), .slice Ap1 a1.length cp1, .int .i64 x1, .pointer (some ⟨g2_, o2_ + (x1).toNat * 1, none⟩), .int .i64 (a1.getD (x1).toNat 0)]
noncomputable def u17d1f (a0 : List Int) (Ap0 : Option Addr) (cp0 : Nat) (a1 : List Int) (Ap1 : Option Addr) (cp1 : Nat) (x1 : Int) (g1_ : Nat) (o1_ : Nat) (g2_ : Nat) (o2_ : Nat) (i : Nat) (u : Nat → Wt) : List (Nat × Value) := foldPut ⟨26, []⟩ [(14, .bool (decide (x1 < (a0.length : Int)))), (0, .slice Ap0 a0.length cp0), (1, .slice Ap1 a1.length cp1), (5, .int .i64 x1)] (O17_29.take i) (((u17d1s a0 Ap0 cp0 a1 Ap1 cp1 x1 g1_ o1_ g2_ o2_) u).take i)
theorem u17d1v (a0 : List Int) (Ap0 : Option Addr) (cp0 : Nat) (a1 : List Int) (Ap1 : Option Addr) (cp1 : Nat) (x1 : Int) (g1_ : Nat) (o1_ : Nat) (g2_ : Nat) (o2_ : Nat) (u : Nat → Wt) : (u17d1q a0 Ap0 cp0 a1 Ap1 cp1 x1 g1_ o1_ g2_ o2_ u).map (fun x => (x.1, x.2.1)) = some ((u17d1s a0 Ap0 cp0 a1 Ap1 cp1 x1 g1_ o1_ g2_ o2_) u, (u17d1f a0 Ap0 cp0 a1 Ap1 cp1 x1 g1_ o1_ g2_ o2_ 8) u) := by kernel_rfl
theorem u17d1e (a0 : List Int) (Ap0 : Option Addr) (cp0 : Nat) (a1 : List Int) (Ap1 : Option Addr) (cp1 : Nat) (x1 : Int) (g1_ : Nat) (o1_ : Nat) (g2_ : Nat) (o2_ : Nat) (u : Nat → Wt) : (u17d1q a0 Ap0 cp0 a1 Ap1 cp1 x1 g1_ o1_ g2_ o2_ u).map (fun x => x.2.2.map (·.1)) = (u17d1q a0 Ap0 cp0 a1 Ap1 cp1 x1 g1_ o1_ g2_ o2_ u).map (fun x => x.2.2.map (·.2)) := by kernel_rfl
theorem armillaryref22_Same.calls (k : Nat) (I0 : Imm) (a0 : List Int) (Ap0 : Option Addr) (cp0 : Nat) (a1 : List Int) (Ap1 : Option Addr) (cp1 : Nat) (w : World) (hI : I0.at_ w) (hlp0 : a0.length ≤ cp0) (hrp0 : Rd (Ty.int .i64) I0 Ap0 a0) (hlp1 : a1.length ≤ cp1) (hrp1 : Rd (Ty.int .i64) I0 Ap1 a1) (r : Bool) (h : armillaryref22_Same.f k a0 a1 = some r) :
  Calls Try.prog 17 [.slice Ap0 a0.length cp0, .slice Ap1 a1.length cp1].toArray w fun e w' => ∃ v, e = .returned v ∧ armillaryref22_Same.Post I0 w r v w' := by
 have H : (if (a0.length : Int) ≠ (a1.length : Int) then (some false) else ((armillaryref22_Same.l1 a0 a1 k 0).bind (armillaryref22_Same.k1))) = some r := h
 clear h
 refine calls_body Try.func17 (by kernel_rfl) 26 (by kernel_rfl) (by kernel_rfl) ⟨w, fun _ => False, I0⟩ I0 [] [(0, .slice Ap0 a0.length cp0), (1, .slice Ap1 a1.length cp1)] (by kernel_rfl) (Sat.start w _ I0 hI) ?_
 generalize w.heap.size = nx0
 show OK _ K17_0 _ _ _ _ _ _ _ _
 refine OK.seq K17_1 K17_3 (by kernel_rfl) ?_
 refine OK.region 0 O17_1 (by kernel_rfl) ?_
 refine RL.simK (K' := [(0, .slice Ap0 a0.length cp0), (1, .slice Ap1 a1.length cp1)]) [] (RFacts.nil _ _ _) 1 [.no] (by kernel_rfl) (by kernel_rfl) ?_
 refine RL.nil (by kernel_rfl) ?_
 refine QN.then_ ?_
 refine OK.seq K17_4 K17_13 (by kernel_rfl) ?_
 refine OK.seq K17_5 K17_7 (by kernel_rfl) ?_
 refine OK.region 1 O17_5 (by kernel_rfl) ?_
 refine RL.simK (K' := [(10, .bool ((a0.length : Int) != (a1.length : Int))), (0, .slice Ap0 a0.length cp0), (1, .slice Ap1 a1.length cp1)]) [] (RFacts.nil _ _ _) 5 [.no, .no, .no, .no, .no] (by kernel_rfl) (by kernel_rfl) ?_
 refine RL.nil (by kernel_rfl) ?_
 refine QN.then_ ?_
 refine OK.cond (.tmp 10) K17_8 K17_12 ((a0.length : Int) != (a1.length : Int)) (by kernel_rfl) (by kernel_rfl) (by kernel_rfl) (fun hb => ?_) (fun hb => ?_)
 ·skip
  have hc := (bne_iff_ne.1 hb)
  rw [if_pos hc] at H
  clear hb
  refine OK.seq K17_9 K17_11 (by kernel_rfl) ?_
  refine OK.region 2 O17_9 (by kernel_rfl) ?_
  refine RL.simK (K' := [(4, .bool false)]) [] (RFacts.nil _ _ _) 1 [.no] (by kernel_rfl) (by kernel_rfl) ?_
  refine RL.nil (by kernel_rfl) ?_
  refine QN.then_ ?_
  refine OK.ret (by kernel_rfl) ?_
  refine QN.thenR ?_
  obtain rfl := Option.some.inj H
  refine QN.body rfl [] (RFacts.nil _ _ _) (.no) (.bool false) (by kernel_rfl) (by kernel_rfl) (by kernel_rfl) ?_ _ (.inr rfl)
  exact fun w' hs' => ⟨_, rfl, I0, rfl, hs'.got _ .slnil⟩
 ·skip
  have hc := (not_not_intro (bne_eq_false_iff_eq.1 hb))
  rw [if_neg hc] at H
  clear hb
  refine OK.skip (by kernel_rfl) ?_
  refine QN.then_ ?_
  refine OK.seq K17_14 K17_39 (by kernel_rfl) ?_
  refine OK.seq K17_15 K17_17 (by kernel_rfl) ?_
  refine OK.region 3 O17_15 (by kernel_rfl) ?_
  refine RL.simK (K' := [(5, .int .i64 0), (0, .slice Ap0 a0.length cp0), (1, .slice Ap1 a1.length cp1)]) [] (RFacts.nil _ _ _) 1 [.no] (by kernel_rfl) (by kernel_rfl) ?_
  refine RL.nil (by kernel_rfl) ?_
  refine QN.then_ ?_
  refine OK.join (fun K' I' _ L' X' => K' = [] ∧ L' = [] ∧ X' = [] ∧ Imm.le I0 I' ∧ armillaryref22_Same.k1 (Sum.inl ()) = some r) ?_ ?_
  ·rintro _ I1 nx1 _ _ ⟨rfl, rfl, rfl, hi1, H⟩
   replace H : (some true) = some r := H
   refine QN.then_ ?_
   refine OK.seq K17_40 K17_42 (by kernel_rfl) ?_
   refine OK.region 8 O17_40 (by kernel_rfl) ?_
   refine RL.simK (K' := [(4, .bool true)]) [] (RFacts.nil _ _ _) 1 [.no] (by kernel_rfl) (by kernel_rfl) ?_
   refine RL.nil (by kernel_rfl) ?_
   refine QN.then_ ?_
   refine OK.ret (by kernel_rfl) ?_
   obtain rfl := Option.some.inj H
   refine QN.body rfl [] (RFacts.nil _ _ _) (.no) (.bool true) (by kernel_rfl) (by kernel_rfl) (by kernel_rfl) ?_ _ (.inr rfl)
   exact fun w' hs' => ⟨_, rfl, I1, rfl, hs'.got _ .slnil⟩
  ·intro Q_1 hJ1 hQ1
   obtain ⟨y1, H, HK1⟩ := Option.bind_eq_some_iff.mp H
   refine OK.block 0 K17_18 (by kernel_rfl) ?_
   refine OK.sub (K' := [(0, .slice Ap0 a0.length cp0), (1, .slice Ap1 a1.length cp1), (5, .int .i64 0)]) (L' := []) (by kernel_rfl) .slnil (.refl _) ?_
   refine OK.loopInv K17_19 (by kernel_rfl) (fun n_ K' I' _ L' X' => ∃ (x1 : Int), K' = [(0, .slice Ap0 a0.length cp0), (1, .slice Ap1 a1.length cp1), (5, .int .i64 x1)] ∧ L' = [] ∧ X' = [] ∧ Imm.le I0 I' ∧ armillaryref22_Same.l1 a0 a1 n_ x1 = some y1) k ⟨0, rfl, rfl, rfl, (Imm.le_refl _), H⟩ ?_ ?_
   ·rintro _ _ _ _ _ ⟨x1, rfl, rfl, rfl, _, H⟩
    cases H
   ·rintro kq1 _ I2 nx2 _ _ ⟨x1, rfl, rfl, rfl, hi2, H⟩ Q_l1 hJ2 hQ2
    replace H : (if x1 < (a0.length : Int) then (if 0 ≤ x1 then (if x1 < (a0.length : Int) then (if 0 ≤ x1 then (if x1 < (a1.length : Int) then (if (a0.getD (x1).toNat 0) ≠ (a1.getD (x1).toNat 0) then (some (Sum.inr false)) else (armillaryref22_Same.l1 a0 a1 kq1 (W .i64 (x1 + 1)))) else none) else none) else none) else none) else (some (Sum.inl ()))) = some y1 := H
    refine OK.seq K17_20 K17_26 (by kernel_rfl) ?_
    refine OK.seq K17_21 K17_23 (by kernel_rfl) ?_
    refine OK.region 4 O17_21 (by kernel_rfl) ?_
    refine RL.simK (K' := [(14, .bool (decide (x1 < (a0.length : Int)))), (0, .slice Ap0 a0.length cp0), (1, .slice Ap1 a1.length cp1), (5, .int .i64 x1)]) [] (RFacts.nil _ _ _) 4 [.no, .no, .no, .no] (by kernel_rfl) (by kernel_rfl) ?_
    refine RL.nil (by kernel_rfl) ?_
    refine QN.then_ ?_
    refine OK.cond (.tmp 14) K17_24 K17_25 (decide (x1 < (a0.length : Int))) (by kernel_rfl) (by kernel_rfl) (by kernel_rfl) (fun hb => ?_) (fun hb => ?_)
    ·skip
     have hc := (of_decide_eq_true hb)
     rw [if_pos hc] at H
     clear hb
     refine OK.skip (by kernel_rfl) ?_
     refine QN.then_ ?_
     refine OK.seq K17_27 K17_37 (by kernel_rfl) ?_
     refine OK.block 1 K17_28 (by kernel_rfl) ?_
     refine OK.seq K17_29 K17_31 (by kernel_rfl) ?_
     by_cases hi0_1 : 0 ≤ x1
     case neg => rw [if_neg hi0_1] at H; cases H
     rw [if_pos hi0_1] at H
     by_cases hi1_1 : x1 < (a0.length : Int)
     case neg => rw [if_neg hi1_1] at H; cases H
     rw [if_pos hi1_1] at H
     obtain ⟨g1_, o1_, hA1_, hc1_⟩ := Ty.int_at (Rd.ext hi2 hrp0) x1 hi0_1 hi1_1
     by_cases hi0_2 : 0 ≤ x1
     case neg => rw [if_neg hi0_2] at H; cases H
     rw [if_pos hi0_2] at H
     by_cases hi1_2 : x1 < (a1.length : Int)
     case neg => rw [if_neg hi1_2] at H; cases H
     rw [if_pos hi1_2] at H
     obtain ⟨g2_, o2_, hA2_, hc2_⟩ := Ty.int_at (Rd.ext hi2 hrp1) x1 hi0_2 hi1_2
     refine OK.drawnC 6 8 O17_29 a17_29n (by kernel_rfl) (by kernel_rfl) u17d1l (u17d1g x1 g1_ o1_ g2_ o2_) [(⟨g1_, o1_ + (x1).toNat * 1, none⟩, .int .i64 (a0.getD (x1).toNat 0)), (⟨g2_, o2_ + (x1).toNat * 1, none⟩, .int .i64 (a1.getD (x1).toNat 0))] (RI.cons (hc1_ 0 _ rfl) (RI.cons (hc2_ 0 _ rfl) (RI.nil _))) [.no, .no, .no, .r 0, .no, .no, .no, .r 1] a17_29 a17_29o (by kernel_rfl) (by kernel_rfl) (u17d1s a0 Ap0 cp0 a1 Ap1 cp1 x1 g1_ o1_ g2_ o2_) (u17d1f a0 Ap0 cp0 a1 Ap1 cp1 x1 g1_ o1_ g2_ o2_ 8) (u17d1v a0 Ap0 cp0 a1 Ap1 cp1 x1 g1_ o1_ g2_ o2_) (u17d1e a0 Ap0 cp0 a1 Ap1 cp1 x1 g1_ o1_ g2_ o2_) [] framesOk.nil ?_ [u17d1f a0 Ap0 cp0 a1 Ap1 cp1 x1 g1_ o1_ g2_ o2_ 2, u17d1f a0 Ap0 cp0 a1 Ap1 cp1 x1 g1_ o1_ g2_ o2_ 6] (framesOk.cons (fun u => rfl) (framesOk.cons (fun u => rfl) framesOk.nil)) ?_ ?_
     ·refine LoudsG.nil
     ·refine Givens.cons (fun u w =>  ?_) (fun _ _ _ => rfl) (Givens.cons (fun u w =>  ?_) (fun _ _ _ => rfl) (Givens.nil))
      ·exact giv_idx (T := 23) (e := 3) 1 .i64 x1 hA1_ a0.length cp0 (by kernel_rfl) (by kernel_rfl) (by kernel_rfl) hi0_1 hi1_1 w
      ·exact giv_idx (T := 23) (e := 3) 1 .i64 x1 hA2_ a1.length cp1 (by kernel_rfl) (by kernel_rfl) (by kernel_rfl) hi0_2 hi1_2 w
     intro u I3 nx3 hi3 hF
     clear hF
     refine RL.norm (K' := [(24, .int .i64 (a1.getD (x1).toNat 0)), (23, .pointer (some ⟨g2_, o2_ + (x1).toNat * 1, none⟩)), (22, .int .i64 x1), (21, .slice Ap1 a1.length cp1), (20, .int .i64 (a0.getD (x1).toNat 0)), (19, .pointer (some ⟨g1_, o1_ + (x1).toNat * 1, none⟩)), (18, .int .i64 x1), (17, .slice Ap0 a0.length cp0), (14, .bool (decide (x1 < (a0.length : Int)))), (0, .slice Ap0 a0.length cp0), (1, .slice Ap1 a1.length cp1), (5, .int .i64 x1)]) (X' := []) (by kernel_rfl) rfl rfl rfl ?_
     refine RL.simK (K' := [(25, .bool ((a0.getD (x1).toNat 0) != (a1.getD (x1).toNat 0))), (0, .slice Ap0 a0.length cp0), (1, .slice Ap1 a1.length cp1), (5, .int .i64 x1)]) [] (RFacts.nil _ _ _) 1 [.no] (by kernel_rfl) (by kernel_rfl) ?_
     refine RL.nil (by kernel_rfl) ?_
     refine QN.then_ ?_
     refine OK.cond (.tmp 25) K17_32 K17_36 ((a0.getD (x1).toNat 0) != (a1.getD (x1).toNat 0)) (by kernel_rfl) (by kernel_rfl) (by kernel_rfl) (fun hb => ?_) (fun hb => ?_)
     ·skip
      have hc := (bne_iff_ne.1 hb)
      rw [if_pos hc] at H
      clear hb
      refine OK.seq K17_33 K17_35 (by kernel_rfl) ?_
      refine OK.region 7 O17_33 (by kernel_rfl) ?_
      refine RL.simK (K' := [(4, .bool false)]) [] (RFacts.nil _ _ _) 1 [.no] (by kernel_rfl) (by kernel_rfl) ?_
      refine RL.nil (by kernel_rfl) ?_
      refine QN.then_ ?_
      refine OK.ret (by kernel_rfl) ?_
      refine QN.blkR ?_
      refine QN.thenR ?_
      refine QN.outR hQ2 ?_
      refine QN.blkR ?_
      refine QN.outR hQ1 ?_
      refine QN.thenR ?_
      obtain rfl := Option.some.inj H
      replace H : some false = some r := HK1
      obtain rfl := Option.some.inj H
      refine QN.body rfl [] (RFacts.nil _ _ _) (.no) (.bool false) (by kernel_rfl) (by kernel_rfl) (by kernel_rfl) ?_ _ (.inr rfl)
      exact fun w' hs' => ⟨_, rfl, I3, rfl, hs'.got _ .slnil⟩
     ·skip
      have hc := (not_not_intro (bne_eq_false_iff_eq.1 hb))
      rw [if_neg hc] at H
      clear hb
      refine OK.skip (by kernel_rfl) ?_
      refine QN.blkN ?_
      refine QN.then_ ?_
      refine OK.region 5 O17_37 (by kernel_rfl) ?_
      refine RL.simK (K' := [(5, .int .i64 (W .i64 (x1 + 1))), (0, .slice Ap0 a0.length cp0), (1, .slice Ap1 a1.length cp1)]) [] (RFacts.nil _ _ _) 3 [.no, .no, .no] (by kernel_rfl) (by kernel_rfl) ?_
      refine RL.nil (by kernel_rfl) ?_
      refine QN.sub (K' := [(0, .slice Ap0 a0.length cp0), (1, .slice Ap1 a1.length cp1), (5, .int .i64 (W .i64 (x1 + 1)))]) (L' := []) (by kernel_rfl) .slnil (.refl _) ?_
      exact hJ2 _ _ _ _ _ ⟨W .i64 (x1 + 1), rfl, rfl, rfl, (Imm.le_trans hi2 hi3), H⟩
    ·skip
     have hc := (of_decide_eq_false hb)
     rw [if_neg hc] at H
     clear hb
     refine OK.exit 0 (by kernel_rfl) ?_
     refine QN.thenE ?_
     refine QN.outE hQ2 ?_
     refine QN.blkE ?_
     obtain rfl := Option.some.inj H
     refine QN.sub (K' := []) (L' := []) (by kernel_rfl) .slnil (.refl _) ?_
     exact hJ1 _ _ _ _ _ ⟨rfl, rfl, rfl, hi2, HK1⟩

end Go.Proofs.Ytdmhbcgmimfjcaa
namespace Go.Proofs.Ytdmhbcgmimfjcaa
open Go Go.Proofs.Ytdmhbcgmimfjcaa.RW
set_option linter.unusedVariables false
set_option maxRecDepth 100000
set_option maxHeartbeats 8000000

/-! ### armillarylaw22_sanity: function 10, armillary/armillarylaw22.sanity -/
noncomputable def K10_0 : Code := cBody Try.f10
noncomputable def K10_1 : Code := cL K10_0
noncomputable def O10_1 : List Oper := cOps K10_1
noncomputable def K10_3 : Code := cR K10_0
noncomputable def K10_4 : Code := cL K10_3
noncomputable def O10_4 : List Oper := cOps K10_4
noncomputable def K10_6 : Code := cR K10_3
noncomputable def K10_7 : Code := cL K10_6
noncomputable def O10_7 : List Oper := cOps K10_7
noncomputable def K10_9 : Code := cR K10_6
noncomputable def K10_10 : Code := cL K10_9
noncomputable def O10_10 : List Oper := cOps K10_10
noncomputable def K10_12 : Code := cR K10_9
noncomputable def K10_13 : Code := cL K10_12
noncomputable def O10_13 : List Oper := cOps K10_13
noncomputable def K10_15 : Code := cR K10_12
noncomputable def K10_16 : Code := cL K10_15
noncomputable def O10_16 : List Oper := cOps K10_16
noncomputable def K10_18 : Code := cR K10_15
noncomputable def K10_19 : Code := cL K10_18
noncomputable def O10_19 : List Oper := cOps K10_19
noncomputable def K10_21 : Code := cR K10_18
noncomputable def K10_22 : Code := cL K10_21
noncomputable def O10_22 : List Oper := cOps K10_22
noncomputable def K10_24 : Code := cR K10_21
noncomputable def K10_25 : Code := cL K10_24
noncomputable def O10_25 : List Oper := cOps K10_25
noncomputable def K10_27 : Code := cR K10_24
noncomputable def K10_28 : Code := cL K10_27
noncomputable def O10_28 : List Oper := cOps K10_28
noncomputable def K10_30 : Code := cR K10_27
noncomputable def K10_31 : Code := cL K10_30
noncomputable def O10_31 : List Oper := cOps K10_31
noncomputable def K10_33 : Code := cR K10_30
noncomputable def K10_34 : Code := cL K10_33
noncomputable def O10_34 : List Oper := cOps K10_34
noncomputable def K10_36 : Code := cR K10_33
def armillarylaw22_sanity.k1  (x1 : Bool) : Option (Bool) := (some x1)
def armillarylaw22_sanity.f (k : Nat)  : Option (Bool) := ((assign_Solve.f k [[3, 5], [4, 7]]).bind fun t1 => ((assign_Solve.f k [[5], [7]]).bind fun t2 => ((assign_Solve.f k [[0, 0], [0, 0]]).bind fun t3 => ((assign_Solve.f k []).bind fun t4 => ((assign_Value.f k [[3, 5], [4, 7]] [1, 0]).bind fun t5 => ((assign_Value.f k [[3, 5], [4, 7]] [(-1), 1]).bind fun t6 => ((assign_Value.f k [[3, 5], [4, 7]] [1, 1]).bind fun t7 => ((assign_Value.f k [[3, 5], [4, 7]] [1]).bind fun t8 => (((armillaryref22_Same.f k t1.1 [0, 1]).bind fun t9 => (if t9 = true then ((assign_VerifyDuals.f k [[3, 5], [4, 7]] t1.1 t1.2).bind fun t10 => (if t10 = true then ((armillaryref22_Same.f k t2.1 [(-1), 0]).bind fun t11 => (if t11 = true then ((armillaryref22_Same.f k t3.1 [0, 1]).bind fun t12 => (if t12 = true then (if (W .i64 ((W .i64 ((t4.1.length : Int) + (t4.2.f0.length : Int))) + (t4.2.f1.length : Int))) = 0 then (if t5.1 = 9 then (if t5.2 = true then (if t6.1 = 7 then (if t6.2 = true then (if t7.2 = true then (some false) else (if t8.2 = true then (some false) else ((assign_VerifyDuals.f k [[3, 5], [4, 7]] t1.1 (⟨[3, 5], [0, 2]⟩ : S26)).bind fun t13 => (if t13 = true then ((assign_VerifyDuals.f k [[3, 5], [4, 7]] t1.1 (⟨[3, 5], [0, 1]⟩ : S26)).bind fun t14 => (if t14 = true then (some false) else ((assign_VerifyDuals.f k [[3, 5], [4, 7]] t1.1 (⟨[4, 5], [0, 2]⟩ : S26)).bind fun t15 => (if t15 = true then (some false) else ((assign_VerifyDuals.f k [[3, 5], [4, 7]] [1, 0] (⟨[3, 5], [0, 2]⟩ : S26)).bind fun t16 => (if t16 = true then (some false) else ((assign_Valid.f k [[3, 5], [4, 7]]).bind fun t17 => (if t17 = true then ((assign_Valid.f k []).bind fun t18 => (if t18 = true then ((assign_Valid.f k [[1], []]).bind fun t19 => (if t19 = true then (some false) else ((assign_Valid.f k [[(-1)]]).bind fun t20 => (some (!t20))))) else (some false))) else (some false))))))))) else (some false))))) else (some false)) else (some false)) else (some false)) else (some false)) else (some false)) else (some false))) else (some false))) else (some false))) else (some false))).bind (armillarylaw22_sanity.k1))))))))))
def armillarylaw22_sanity.Post (I : Imm) (w : World) (r : Bool) (v : Value) (w' : World) : Prop :=
 ∃ (J : Imm), v = .bool r ∧ Got w w' I J []
theorem armillarylaw22_sanity.calls (k : Nat) (I0 : Imm)  (w : World) (hI : I0.at_ w)  (r : Bool) (h : armillarylaw22_sanity.f k  = some r) :
  Calls Try.prog 10 [].toArray w fun e w' => ∃ v, e = .returned v ∧ armillarylaw22_sanity.Post I0 w r v w' := by
 have H : ((assign_Solve.f k [[3, 5], [4, 7]]).bind fun t1 => ((assign_Solve.f k [[5], [7]]).bind fun t2 => ((assign_Solve.f k [[0, 0], [0, 0]]).bind fun t3 => ((assign_Solve.f k []).bind fun t4 => ((assign_Value.f k [[3, 5], [4, 7]] [1, 0]).bind fun t5 => ((assign_Value.f k [[3, 5], [4, 7]] [(-1), 1]).bind fun t6 => ((assign_Value.f k [[3, 5], [4, 7]] [1, 1]).bind fun t7 => ((assign_Value.f k [[3, 5], [4, 7]] [1]).bind fun t8 => (((armillaryref22_Same.f k t1.1 [0, 1]).bind fun t9 => (if t9 = true then ((assign_VerifyDuals.f k [[3, 5], [4, 7]] t1.1 t1.2).bind fun t10 => (if t10 = true then ((armillaryref22_Same.f k t2.1 [(-1), 0]).bind fun t11 => (if t11 = true then ((armillaryref22_Same.f k t3.1 [0, 1]).bind fun t12 => (if t12 = true then (if (W .i64 ((W .i64 ((t4.1.length : Int) + (t4.2.f0.length : Int))) + (t4.2.f1.length : Int))) = 0 then (if t5.1 = 9 then (if t5.2 = true then (if t6.1 = 7 then (if t6.2 = true then (if t7.2 = true then (some false) else (if t8.2 = true then (some false) else ((assign_VerifyDuals.f k [[3, 5], [4, 7]] t1.1 (⟨[3, 5], [0, 2]⟩ : S26)).bind fun t13 => (if t13 = true then ((assign_VerifyDuals.f k [[3, 5], [4, 7]] t1.1 (⟨[3, 5], [0, 1]⟩ : S26)).bind fun t14 => (if t14 = true then (some false) else ((assign_VerifyDuals.f k [[3, 5], [4, 7]] t1.1 (⟨[4, 5], [0, 2]⟩ : S26)).bind fun t15 => (if t15 = true then (some false) else ((assign_VerifyDuals.f k [[3, 5], [4, 7]] [1, 0] (⟨[3, 5], [0, 2]⟩ : S26)).bind fun t16 => (if t16 = true then (some false) else ((assign_Valid.f k [[3, 5], [4, 7]]).bind fun t17 => (if t17 = true then ((assign_Valid.f k []).bind fun t18 => (if t18 = true then ((assign_Valid.f k [[1], []]).bind fun t19 => (if t19 = true then (some false) else ((assign_Valid.f k [[(-1)]]).bind fun t20 => (some (!t20))))) else (some false))) else (some false))))))))) else (some false))))) else (some false)) else (some false)) else (some false)) else (some false)) else (some false)) else (some false))) else (some false))) else (some false))) else (some false))).bind (armillarylaw22_sanity.k1)))))))))) = some r := h
 clear h
 refine calls_body Try.func10 (by kernel_rfl) 179 (by kernel_rfl) (by kernel_rfl) ⟨w, fun _ => False, I0⟩ I0 [] [] (by kernel_rfl) (Sat.start w _ I0 hI) ?_
 generalize w.heap.size = nx0
 show OK _ K10_0 _ _ _ _ _ _ _ _
 refine OK.seq K10_1 K10_3 (by kernel_rfl) ?_
 refine OK.region 0 O10_1 (by kernel_rfl) ?_
 refine RL.simK (K' := []) [] (RFacts.nil _ _ _) 1 [.no] (by kernel_rfl) (by kernel_rfl) ?_
 refine RL.nil (by kernel_rfl) ?_
 refine QN.then_ ?_
 refine OK.seq K10_4 K10_6 (by kernel_rfl) ?_
 refine OK.region 1 O10_4 (by kernel_rfl) ?_
 refine RL.simP (K' := [(1, .slice (some ⟨nx0 + 2, 0, none⟩) 2 2)]) (nx' := nx0 + 3) (L' := [⟨nx0, [.int .i64 3, .int .i64 5], 2⟩, ⟨nx0 + 1, [.int .i64 4, .int .i64 7], 2⟩, ⟨nx0 + 2, [.slice (some ⟨nx0, 0, none⟩) 2 2, .slice (some ⟨nx0 + 1, 0, none⟩) 2 2], 24⟩]) [] (RFacts.nil _ _ _) 4 [.no, .no, .no, .no] (by kernel_rfl) (by kernel_rfl) ?_
 refine RL.nil (by kernel_rfl) ?_
 refine QN.then_ ?_
 refine OK.seq K10_7 K10_9 (by kernel_rfl) ?_
 refine OK.region 2 O10_7 (by kernel_rfl) ?_
 refine RL.simK (K' := [(23, .slice (some ⟨nx0 + 2, 0, none⟩) 2 2), (1, .slice (some ⟨nx0 + 2, 0, none⟩) 2 2)]) [] (RFacts.nil _ _ _) 1 [.no] (by kernel_rfl) (by kernel_rfl) ?_
 refine RL.freezeL (d := (Ty.int .i64)) (xs := [3, 5]) (b := ⟨nx0, [.int .i64 3, .int .i64 5], 2⟩) 0 (by kernel_rfl) ⟨_, _, rfl, rfl, ⟨_, _, rfl, rfl, rfl⟩⟩ (Nat.le_of_ble_eq_true rfl) (fun I1 hi1 hr1 => ?_)
 refine RL.freezeL (d := (Ty.int .i64)) (xs := [4, 7]) (b := ⟨nx0 + 1, [.int .i64 4, .int .i64 7], 2⟩) 0 (by kernel_rfl) ⟨_, _, rfl, rfl, ⟨_, _, rfl, rfl, rfl⟩⟩ (Nat.le_of_ble_eq_true rfl) (fun I2 hi2 hr2 => ?_)
 refine RL.freezeL (d := (Ty.slice (Ty.int .i64))) (xs := [[3, 5], [4, 7]]) (b := ⟨nx0 + 2, [.slice (some ⟨nx0, 0, none⟩) 2 2, .slice (some ⟨nx0 + 1, 0, none⟩) 2 2], 24⟩) 0 (by kernel_rfl) ⟨_, _, rfl, ⟨_, _, rfl, (Nat.le_of_ble_eq_true rfl), (Rd.ext hi2 hr1)⟩, ⟨_, _, rfl, ⟨_, _, rfl, (Nat.le_of_ble_eq_true rfl), hr2⟩, rfl⟩⟩ (Nat.le_of_ble_eq_true rfl) (fun I3 hi3 hr3 => ?_)
 obtain ⟨t1, hA1, H⟩ := Option.bind_eq_some_iff.mp H
 refine RL.callP 14 [.slice (some ⟨nx0 + 2, 0, none⟩) 2 2] (some 24) (fun w => assign_Solve.Post I3 w t1) (by kernel_rfl) (by kernel_rfl) (fun w hs => assign_Solve.calls k I3 [[3, 5], [4, 7]] (some ⟨nx0 + 2, 0, none⟩) 2 w hs.im (Nat.le_of_ble_eq_true rfl) hr3 t1 hA1) ?_
 rintro w v w' hs ⟨I4, A1, c1, cs1, A2, c2, cs2, A3, c3, cs3, rfl, hg, hp1, hp2, hp3⟩
 have hi4 := hg.le
 refine RL.resume (X' := [orow 3 1 A1 t1.1.length c1 cs1, orow 2 1 A2 t1.2.f0.length c2 cs2, orow 2 1 A3 t1.2.f1.length c3 cs3]) rfl (hs.call hg) ?_
 clear hs hg
 generalize w'.heap.size = nx1
 clear w w'
 refine RL.freeze (e := 2) (sz := 1) (S := A2) (n := t1.2.f0.length) (cap := c2) 1 (by kernel_rfl) hp2 rfl (fun I5 hi5 hl1 hr4 => ?_)
 skip
 refine RL.freeze (e := 2) (sz := 1) (S := A3) (n := t1.2.f1.length) (cap := c3) 1 (by kernel_rfl) (Reps.ext hi5 hp3) rfl (fun I6 hi6 hl2 hr5 => ?_)
 skip
 refine RL.simP (K' := [(2, .slice A1 t1.1.length c1), (3, .pointer (some ⟨nx1, 0, none⟩)), (1, .slice (some ⟨nx0 + 2, 0, none⟩) 2 2)]) (nx' := nx1 + 1) (L' := [⟨nx1, [.slice A2 t1.2.f0.length c2, .slice A3 t1.2.f1.length c3], 26⟩]) [] (RFacts.nil _ _ _) 6 [.no, .no, .no, .no, .no, .l 0] (by kernel_rfl) (by kernel_rfl) ?_
 refine RL.nil (by kernel_rfl) ?_
 refine QN.then_ ?_
 refine OK.seq K10_10 K10_12 (by kernel_rfl) ?_
 refine OK.region 3 O10_10 (by kernel_rfl) ?_
 refine RL.simP (K' := [(4, .slice (some ⟨nx1 + 3, 0, none⟩) 2 2), (2, .slice A1 t1.1.length c1), (3, .pointer (some ⟨nx1, 0, none⟩)), (1, .slice (some ⟨nx0 + 2, 0, none⟩) 2 2)]) (nx' := nx1 + 4) (L' := [⟨nx1, [.slice A2 t1.2.f0.length c2, .slice A3 t1.2.f1.length c3], 26⟩, ⟨nx1 + 1, [.int .i64 5], 2⟩, ⟨nx1 + 2, [.int .i64 7], 2⟩, ⟨nx1 + 3, [.slice (some ⟨nx1 + 1, 0, none⟩) 1 1, .slice (some ⟨nx1 + 2, 0, none⟩) 1 1], 24⟩]) [] (RFacts.nil _ _ _) 4 [.no, .no, .no, .no] (by kernel_rfl) (by kernel_rfl) ?_
 refine RL.nil (by kernel_rfl) ?_
 refine QN.then_ ?_
 refine OK.seq K10_13 K10_15 (by kernel_rfl) ?_
 refine OK.region 4 O10_13 (by kernel_rfl) ?_
 refine RL.simK (K' := [(31, .slice (some ⟨nx1 + 3, 0, none⟩) 2 2), (2, .slice A1 t1.1.length c1), (3, .pointer (some ⟨nx1, 0, none⟩)), (1, .slice (some ⟨nx0 + 2, 0, none⟩) 2 2)]) [] (RFacts.nil _ _ _) 1 [.no] (by kernel_rfl) (by kernel_rfl) ?_
 refine RL.freezeL (d := (Ty.int .i64)) (xs := [5]) (b := ⟨nx1 + 1, [.int .i64 5], 2⟩) 1 (by kernel_rfl) ⟨_, _, rfl, rfl, rfl⟩ (Nat.le_of_ble_eq_true rfl) (fun I7 hi7 hr6 => ?_)
 refine RL.freezeL (d := (Ty.int .i64)) (xs := [7]) (b := ⟨nx1 + 2, [.int .i64 7], 2⟩) 1 (by kernel_rfl) ⟨_, _, rfl, rfl, rfl⟩ (Nat.le_of_ble_eq_true rfl) (fun I8 hi8 hr7 => ?_)
 refine RL.freezeL (d := (Ty.slice (Ty.int .i64))) (xs := [[5], [7]]) (b := ⟨nx1 + 3, [.slice (some ⟨nx1 + 1, 0, none⟩) 1 1, .slice (some ⟨nx1 + 2, 0, none⟩) 1 1], 24⟩) 1 (by kernel_rfl) ⟨_, _, rfl, ⟨_, _, rfl, (Nat.le_of_ble_eq_true rfl), (Rd.ext hi8 hr6)⟩, ⟨_, _, rfl, ⟨_, _, rfl, (Nat.le_of_ble_eq_true rfl), hr7⟩, rfl⟩⟩ (Nat.le_of_ble_eq_true rfl) (fun I9 hi9 hr8 => ?_)
 obtain ⟨t2, hA2, H⟩ := Option.bind_eq_some_iff.mp H
 refine RL.callP 14 [.slice (some ⟨nx1 + 3, 0, none⟩) 2 2] (some 32) (fun w => assign_Solve.Post I9 w t2) (by kernel_rfl) (by kernel_rfl) (fun w hs => assign_Solve.calls k I9 [[5], [7]] (some ⟨nx1 + 3, 0, none⟩) 2 w hs.im (Nat.le_of_ble_eq_true rfl) hr8 t2 hA2) ?_
 rintro w v w' hs ⟨I10, A4, c4, cs4, A5, c5, cs5, A6, c6, cs6, rfl, hg, hp4, hp5, hp6⟩
 have hi10 := hg.le
 refine RL.resume (X' := [orow 3 1 A1 t1.1.length c1 cs1, orow 3 1 A4 t2.1.length c4 cs4, orow 2 1 A5 t2.2.f0.length c5 cs5, orow 2 1 A6 t2.2.f1.length c6 cs6]) rfl (hs.call hg) ?_
 clear hs hg
 generalize w'.heap.size = nx2
 clear w w'
 refine RL.freeze (e := 2) (sz := 1) (S := A5) (n := t2.2.f0.length) (cap := c5) 2 (by kernel_rfl) hp5 rfl (fun I11 hi11 hl3 hr9 => ?_)
 skip
 refine RL.freeze (e := 2) (sz := 1) (S := A6) (n := t2.2.f1.length) (cap := c6) 2 (by kernel_rfl) (Reps.ext hi11 hp6) rfl (fun I12 hi12 hl4 hr10 => ?_)
 skip
 refine RL.simP (K' := [(5, .slice A4 t2.1.length c4), (2, .slice A1 t1.1.length c1), (3, .pointer (some ⟨nx1, 0, none⟩)), (1, .slice (some ⟨nx0 + 2, 0, none⟩) 2 2)]) (nx' := nx2 + 1) (L' := [⟨nx1, [.slice A2 t1.2.f0.length c2, .slice A3 t1.2.f1.length c3], 26⟩, ⟨nx2, [.slice A5 t2.2.f0.length c5, .slice A6 t2.2.f1.length c6], 26⟩]) [] (RFacts.nil _ _ _) 6 [.no, .no, .no, .no, .no, .l 1] (by kernel_rfl) (by kernel_rfl) ?_
 refine RL.nil (by kernel_rfl) ?_
 refine QN.then_ ?_
 refine OK.seq K10_16 K10_18 (by kernel_rfl) ?_
 refine OK.region 5 O10_16 (by kernel_rfl) ?_
 refine RL.simP (K' := [(38, .slice (some ⟨nx2 + 3, 0, none⟩) 2 2), (5, .slice A4 t2.1.length c4), (2, .slice A1 t1.1.length c1), (3, .pointer (some ⟨nx1, 0, none⟩)), (1, .slice (some ⟨nx0 + 2, 0, none⟩) 2 2)]) (nx' := nx2 + 4) (L' := [⟨nx1, [.slice A2 t1.2.f0.length c2, .slice A3 t1.2.f1.length c3], 26⟩, ⟨nx2, [.slice A5 t2.2.f0.length c5, .slice A6 t2.2.f1.length c6], 26⟩, ⟨nx2 + 1, [.int .i64 0, .int .i64 0], 2⟩, ⟨nx2 + 2, [.int .i64 0, .int .i64 0], 2⟩, ⟨nx2 + 3, [.slice (some ⟨nx2 + 1, 0, none⟩) 2 2, .slice (some ⟨nx2 + 2, 0, none⟩) 2 2], 24⟩]) [] (RFacts.nil _ _ _) 3 [.no, .no, .no] (by kernel_rfl) (by kernel_rfl) ?_
 refine RL.freezeL (d := (Ty.int .i64)) (xs := [0, 0]) (b := ⟨nx2 + 1, [.int .i64 0, .int .i64 0], 2⟩) 2 (by kernel_rfl) ⟨_, _, rfl, rfl, ⟨_, _, rfl, rfl, rfl⟩⟩ (Nat.le_of_ble_eq_true rfl) (fun I13 hi13 hr11 => ?_)
 refine RL.freezeL (d := (Ty.int .i64)) (xs := [0, 0]) (b := ⟨nx2 + 2, [.int .i64 0, .int .i64 0], 2⟩) 2 (by kernel_rfl) ⟨_, _, rfl, rfl, ⟨_, _, rfl, rfl, rfl⟩⟩ (Nat.le_of_ble_eq_true rfl) (fun I14 hi14 hr12 => ?_)
 refine RL.freezeL (d := (Ty.slice (Ty.int .i64))) (xs := [[0, 0], [0, 0]]) (b := ⟨nx2 + 3, [.slice (some ⟨nx2 + 1, 0, none⟩) 2 2, .slice (some ⟨nx2 + 2, 0, none⟩) 2 2], 24⟩) 2 (by kernel_rfl) ⟨_, _, rfl, ⟨_, _, rfl, (Nat.le_of_ble_eq_true rfl), (Rd.ext hi14 hr11)⟩, ⟨_, _, rfl, ⟨_, _, rfl, (Nat.le_of_ble_eq_true rfl), hr12⟩, rfl⟩⟩ (Nat.le_of_ble_eq_true rfl) (fun I15 hi15 hr13 => ?_)
 obtain ⟨t3, hA3, H⟩ := Option.bind_eq_some_iff.mp H
 refine RL.callP 14 [.slice (some ⟨nx2 + 3, 0, none⟩) 2 2] (some 39) (fun w => assign_Solve.Post I15 w t3) (by kernel_rfl) (by kernel_rfl) (fun w hs => assign_Solve.calls k I15 [[0, 0], [0, 0]] (some ⟨nx2 + 3, 0, none⟩) 2 w hs.im (Nat.le_of_ble_eq_true rfl) hr13 t3 hA3) ?_
 rintro w v w' hs ⟨I16, A7, c7, cs7, A8, c8, cs8, A9, c9, cs9, rfl, hg, hp7, hp8, hp9⟩
 have hi16 := hg.le
 refine RL.resume (X' := [orow 3 1 A1 t1.1.length c1 cs1, orow 3 1 A4 t2.1.length c4 cs4, orow 3 1 A7 t3.1.length c7 cs7, orow 2 1 A8 t3.2.f0.length c8 cs8, orow 2 1 A9 t3.2.f1.length c9 cs9]) rfl (hs.call hg) ?_
 clear hs hg
 generalize w'.heap.size = nx3
 clear w w'
 refine RL.freeze (e := 2) (sz := 1) (S := A8) (n := t3.2.f0.length) (cap := c8) 3 (by kernel_rfl) hp8 rfl (fun I17 hi17 hl5 hr14 => ?_)
 skip
 refine RL.freeze (e := 2) (sz := 1) (S := A9) (n := t3.2.f1.length) (cap := c9) 3 (by kernel_rfl) (Reps.ext hi17 hp9) rfl (fun I18 hi18 hl6 hr15 => ?_)
 skip
 refine RL.simP (K' := [(7, .slice A7 t3.1.length c7), (5, .slice A4 t2.1.length c4), (2, .slice A1 t1.1.length c1), (3, .pointer (some ⟨nx1, 0, none⟩)), (1, .slice (some ⟨nx0 + 2, 0, none⟩) 2 2)]) (nx' := nx3 + 1) (L' := [⟨nx1, [.slice A2 t1.2.f0.length c2, .slice A3 t1.2.f1.length c3], 26⟩, ⟨nx2, [.slice A5 t2.2.f0.length c5, .slice A6 t2.2.f1.length c6], 26⟩, ⟨nx3, [.slice A8 t3.2.f0.length c8, .slice A9 t3.2.f1.length c9], 26⟩]) [] (RFacts.nil _ _ _) 6 [.no, .no, .no, .no, .no, .l 2] (by kernel_rfl) (by kernel_rfl) ?_
 refine RL.nil (by kernel_rfl) ?_
 refine QN.then_ ?_
 refine OK.seq K10_19 K10_21 (by kernel_rfl) ?_
 refine OK.region 6 O10_19 (by kernel_rfl) ?_
 obtain ⟨t4, hA4, H⟩ := Option.bind_eq_some_iff.mp H
 refine RL.callP 14 [.slice none 0 0] (some 43) (fun w => assign_Solve.Post I18 w t4) (by kernel_rfl) (by kernel_rfl) (fun w hs => assign_Solve.calls k I18 [] none 0 w hs.im (Nat.le_refl _) (Rd.nil _ _ _) t4 hA4) ?_
 rintro w v w' hs ⟨I19, A10, c10, cs10, A11, c11, cs11, A12, c12, cs12, rfl, hg, hp10, hp11, hp12⟩
 have hi19 := hg.le
 refine RL.resume (X' := [orow 3 1 A1 t1.1.length c1 cs1, orow 3 1 A4 t2.1.length c4 cs4, orow 3 1 A7 t3.1.length c7 cs7, orow 3 1 A10 t4.1.length c10 cs10, orow 2 1 A11 t4.2.f0.length c11 cs11, orow 2 1 A12 t4.2.f1.length c12 cs12]) rfl (hs.call hg) ?_
 clear hs hg
 generalize w'.heap.size = nx4
 clear w w'
 refine RL.freeze (e := 2) (sz := 1) (S := A11) (n := t4.2.f0.length) (cap := c11) 4 (by kernel_rfl) hp11 rfl (fun I20 hi20 hl7 hr16 => ?_)
 skip
 refine RL.freeze (e := 2) (sz := 1) (S := A12) (n := t4.2.f1.length) (cap := c12) 4 (by kernel_rfl) (Reps.ext hi20 hp12) rfl (fun I21 hi21 hl8 hr17 => ?_)
 skip
 refine RL.simP (K' := [(9, .slice A10 t4.1.length c10), (10, .pointer (some ⟨nx4, 0, none⟩)), (7, .slice A7 t3.1.length c7), (5, .slice A4 t2.1.length c4), (2, .slice A1 t1.1.length c1), (3, .pointer (some ⟨nx1, 0, none⟩)), (1, .slice (some ⟨nx0 + 2, 0, none⟩) 2 2)]) (nx' := nx4 + 1) (L' := [⟨nx1, [.slice A2 t1.2.f0.length c2, .slice A3 t1.2.f1.length c3], 26⟩, ⟨nx2, [.slice A5 t2.2.f0.length c5, .slice A6 t2.2.f1.length c6], 26⟩, ⟨nx3, [.slice A8 t3.2.f0.length c8, .slice A9 t3.2.f1.length c9], 26⟩, ⟨nx4, [.slice A11 t4.2.f0.length c11, .slice A12 t4.2.f1.length c12], 26⟩]) [] (RFacts.nil _ _ _) 6 [.no, .no, .no, .no, .no, .l 3] (by kernel_rfl) (by kernel_rfl) ?_
 refine RL.nil (by kernel_rfl) ?_
 refine QN.then_ ?_
 refine OK.seq K10_22 K10_24 (by kernel_rfl) ?_
 refine OK.region 7 O10_22 (by kernel_rfl) ?_
 refine RL.simP (K' := [(48, .slice (some ⟨nx4 + 1, 0, none⟩) 2 2), (47, .slice (some ⟨nx0 + 2, 0, none⟩) 2 2), (9, .slice A10 t4.1.length c10), (10, .pointer (some ⟨nx4, 0, none⟩)), (7, .slice A7 t3.1.length c7), (5, .slice A4 t2.1.length c4), (2, .slice A1 t1.1.length c1), (3, .pointer (some ⟨nx1, 0, none⟩)), (1, .slice (some ⟨nx0 + 2, 0, none⟩) 2 2)]) (nx' := nx4 + 2) (L' := [⟨nx1, [.slice A2 t1.2.f0.length c2, .slice A3 t1.2.f1.length c3], 26⟩, ⟨nx2, [.slice A5 t2.2.f0.length c5, .slice A6 t2.2.f1.length c6], 26⟩, ⟨nx3, [.slice A8 t3.2.f0.length c8, .slice A9 t3.2.f1.length c9], 26⟩, ⟨nx4, [.slice A11 t4.2.f0.length c11, .slice A12 t4.2.f1.length c12], 26⟩, ⟨nx4 + 1, [.int .i64 1, .int .i64 0], 3⟩]) [] (RFacts.nil _ _ _) 2 [.no, .no] (by kernel_rfl) (by kernel_rfl) ?_
 refine RL.freezeL (d := (Ty.int .i64)) (xs := [1, 0]) (b := ⟨nx4 + 1, [.int .i64 1, .int .i64 0], 3⟩) 4 (by kernel_rfl) ⟨_, _, rfl, rfl, ⟨_, _, rfl, rfl, rfl⟩⟩ (Nat.le_of_ble_eq_true rfl) (fun I22 hi22 hr18 => ?_)
 obtain ⟨t5, hA5, H⟩ := Option.bind_eq_some_iff.mp H
 refine RL.callP 15 [.slice (some ⟨nx0 + 2, 0, none⟩) 2 2, .slice (some ⟨nx4 + 1, 0, none⟩) 2 2] (some 49) (fun w => assign_Value.Post I22 w t5) (by kernel_rfl) (by kernel_rfl) (fun w hs => assign_Value.calls k I22 [[3, 5], [4, 7]] (some ⟨nx0 + 2, 0, none⟩) 2 [1, 0] (some ⟨nx4 + 1, 0, none⟩) 2 w hs.im (Nat.le_of_ble_eq_true rfl) (Rd.ext (Imm.le_trans (Imm.le_trans (Imm.le_trans (Imm.le_trans (Imm.le_trans (Imm.le_trans (Imm.le_trans (Imm.le_trans (Imm.le_trans (Imm.le_trans (Imm.le_trans (Imm.le_trans (Imm.le_trans (Imm.le_trans (Imm.le_trans (Imm.le_trans (Imm.le_trans (Imm.le_trans hi4 hi5) hi6) hi7) hi8) hi9) hi10) hi11) hi12) hi13) hi14) hi15) hi16) hi17) hi18) hi19) hi20) hi21) hi22) hr3) (Nat.le_of_ble_eq_true rfl) hr18 t5 hA5) ?_
 rintro w v w' hs ⟨I23, rfl, hg⟩
 have hi23 := hg.le
 refine RL.resume (X' := [orow 3 1 A1 t1.1.length c1 cs1, orow 3 1 A4 t2.1.length c4 cs4, orow 3 1 A7 t3.1.length c7 cs7, orow 3 1 A10 t4.1.length c10 cs10]) rfl (hs.call hg) ?_
 clear hs hg
 generalize w'.heap.size = nx5
 clear w w'
 refine RL.simK (K' := [(12, .bool t5.2), (11, .int .i64 t5.1), (9, .slice A10 t4.1.length c10), (10, .pointer (some ⟨nx4, 0, none⟩)), (7, .slice A7 t3.1.length c7), (5, .slice A4 t2.1.length c4), (2, .slice A1 t1.1.length c1), (3, .pointer (some ⟨nx1, 0, none⟩)), (1, .slice (some ⟨nx0 + 2, 0, none⟩) 2 2)]) [] (RFacts.nil _ _ _) 5 [.no, .no, .no, .no, .no] (by kernel_rfl) (by kernel_rfl) ?_
 refine RL.nil (by kernel_rfl) ?_
 refine QN.then_ ?_
 refine OK.seq K10_25 K10_27 (by kernel_rfl) ?_
 refine OK.region 8 O10_25 (by kernel_rfl) ?_
 refine RL.simP (K' := [(54, .slice (some ⟨nx5, 0, none⟩) 2 2), (53, .slice (some ⟨nx0 + 2, 0, none⟩) 2 2), (12, .bool t5.2), (11, .int .i64 t5.1), (9, .slice A10 t4.1.length c10), (10, .pointer (some ⟨nx4, 0, none⟩)), (7, .slice A7 t3.1.length c7), (5, .slice A4 t2.1.length c4), (2, .slice A1 t1.1.length c1), (3, .pointer (some ⟨nx1, 0, none⟩)), (1, .slice (some ⟨nx0 + 2, 0, none⟩) 2 2)]) (nx' := nx5 + 1) (L' := [⟨nx1, [.slice A2 t1.2.f0.length c2, .slice A3 t1.2.f1.length c3], 26⟩, ⟨nx2, [.slice A5 t2.2.f0.length c5, .slice A6 t2.2.f1.length c6], 26⟩, ⟨nx3, [.slice A8 t3.2.f0.length c8, .slice A9 t3.2.f1.length c9], 26⟩, ⟨nx4, [.slice A11 t4.2.f0.length c11, .slice A12 t4.2.f1.length c12], 26⟩, ⟨nx5, [.int .i64 (-1), .int .i64 1], 3⟩]) [] (RFacts.nil _ _ _) 2 [.no, .no] (by kernel_rfl) (by kernel_rfl) ?_
 refine RL.freezeL (d := (Ty.int .i64)) (xs := [(-1), 1]) (b := ⟨nx5, [.int .i64 (-1), .int .i64 1], 3⟩) 4 (by kernel_rfl) ⟨_, _, rfl, rfl, ⟨_, _, rfl, rfl, rfl⟩⟩ (Nat.le_of_ble_eq_true rfl) (fun I24 hi24 hr19 => ?_)
 obtain ⟨t6, hA6, H⟩ := Option.bind_eq_some_iff.mp H
 refine RL.callP 15 [.slice (some ⟨nx0 + 2, 0, none⟩) 2 2, .slice (some ⟨nx5, 0, none⟩) 2 2] (some 55) (fun w => assign_Value.Post I24 w t6) (by kernel_rfl) (by kernel_rfl) (fun w hs => assign_Value.calls k I24 [[3, 5], [4, 7]] (some ⟨nx0 + 2, 0, none⟩) 2 [(-1), 1] (some ⟨nx5, 0, none⟩) 2 w hs.im (Nat.le_of_ble_eq_true rfl) (Rd.ext (Imm.le_trans (Imm.le_trans (Imm.le_trans (Imm.le_trans (Imm.le_trans (Imm.le_trans (Imm.le_trans (Imm.le_trans (Imm.le_trans (Imm.le_trans (Imm.le_trans (Imm.le_trans (Imm.le_trans (Imm.le_trans (Imm.le_trans (Imm.le_trans (Imm.le_trans (Imm.le_trans (Imm.le_trans (Imm.le_trans hi4 hi5) hi6) hi7) hi8) hi9) hi10) hi11) hi12) hi13) hi14) hi15) hi16) hi17) hi18) hi19) hi20) hi21) hi22) hi23) hi24) hr3) (Nat.le_of_ble_eq_true rfl) hr19 t6 hA6) ?_
 rintro w v w' hs ⟨I25, rfl, hg⟩
 have hi25 := hg.le
 refine RL.resume (X' := [orow 3 1 A1 t1.1.length c1 cs1, orow 3 1 A4 t2.1.length c4 cs4, orow 3 1 A7 t3.1.length c7 cs7, orow 3 1 A10 t4.1.length c10 cs10]) rfl (hs.call hg) ?_
 clear hs hg
 generalize w'.heap.size = nx6
 clear w w'
 refine RL.simK (K' := [(14, .bool t6.2), (13, .int .i64 t6.1), (12, .bool t5.2), (11, .int .i64 t5.1), (9, .slice A10 t4.1.length c10), (10, .pointer (some ⟨nx4, 0, none⟩)), (7, .slice A7 t3.1.length c7), (5, .slice A4 t2.1.length c4), (2, .slice A1 t1.1.length c1), (3, .pointer (some ⟨nx1, 0, none⟩)), (1, .slice (some ⟨nx0 + 2, 0, none⟩) 2 2)]) [] (RFacts.nil _ _ _) 5 [.no, .no, .no, .no, .no] (by kernel_rfl) (by kernel_rfl) ?_
 refine RL.nil (by kernel_rfl) ?_
 refine QN.then_ ?_
 refine OK.seq K10_28 K10_30 (by kernel_rfl) ?_
 refine OK.region 9 O10_28 (by kernel_rfl) ?_
 refine RL.simP (K' := [(60, .slice (some ⟨nx6, 0, none⟩) 2 2), (59, .slice (some ⟨nx0 + 2, 0, none⟩) 2 2), (14, .bool t6.2), (13, .int .i64 t6.1), (12, .bool t5.2), (11, .int .i64 t5.1), (9, .slice A10 t4.1.length c10), (10, .pointer (some ⟨nx4, 0, none⟩)), (7, .slice A7 t3.1.length c7), (5, .slice A4 t2.1.length c4), (2, .slice A1 t1.1.length c1), (3, .pointer (some ⟨nx1, 0, none⟩)), (1, .slice (some ⟨nx0 + 2, 0, none⟩) 2 2)]) (nx' := nx6 + 1) (L' := [⟨nx1, [.slice A2 t1.2.f0.length c2, .slice A3 t1.2.f1.length c3], 26⟩, ⟨nx2, [.slice A5 t2.2.f0.length c5, .slice A6 t2.2.f1.length c6], 26⟩, ⟨nx3, [.slice A8 t3.2.f0.length c8, .slice A9 t3.2.f1.length c9], 26⟩, ⟨nx4, [.slice A11 t4.2.f0.length c11, .slice A12 t4.2.f1.length c12], 26⟩, ⟨nx6, [.int .i64 1, .int .i64 1], 3⟩]) [] (RFacts.nil _ _ _) 2 [.no, .no] (by kernel_rfl) (by kernel_rfl) ?_
 refine RL.freezeL (d := (Ty.int .i64)) (xs := [1, 1]) (b := ⟨nx6, [.int .i64 1, .int .i64 1], 3⟩) 4 (by kernel_rfl) ⟨_, _, rfl, rfl, ⟨_, _, rfl, rfl, rfl⟩⟩ (Nat.le_of_ble_eq_true rfl) (fun I26 hi26 hr20 => ?_)
 obtain ⟨t7, hA7, H⟩ := Option.bind_eq_some_iff.mp H
 refine RL.callP 15 [.slice (some ⟨nx0 + 2, 0, none⟩) 2 2, .slice (some ⟨nx6, 0, none⟩) 2 2] (some 61) (fun w => assign_Value.Post I26 w t7) (by kernel_rfl) (by kernel_rfl) (fun w hs => assign_Value.calls k I26 [[3, 5], [4, 7]] (some ⟨nx0 + 2, 0, none⟩) 2 [1, 1] (some ⟨nx6, 0, none⟩) 2 w hs.im (Nat.le_of_ble_eq_true rfl) (Rd.ext (Imm.le_trans (Imm.le_trans (Imm.le_trans (Imm.le_trans (Imm.le_trans (Imm.le_trans (Imm.le_trans (Imm.le_trans (Imm.le_trans (Imm.le_trans (Imm.le_trans (Imm.le_trans (Imm.le_trans (Imm.le_trans (Imm.le_trans (Imm.le_trans (Imm.le_trans (Imm.le_trans (Imm.le_trans (Imm.le_trans (Imm.le_trans (Imm.le_trans hi4 hi5) hi6) hi7) hi8) hi9) hi10) hi11) hi12) hi13) hi14) hi15) hi16) hi17) hi18) hi19) hi20) hi21) hi22) hi23) hi24) hi25) hi26) hr3) (Nat.le_of_ble_eq_true rfl) hr20 t7 hA7) ?_
 rintro w v w' hs ⟨I27, rfl, hg⟩
 have hi27 := hg.le
 refine RL.resume (X' := [orow 3 1 A1 t1.1.length c1 cs1, orow 3 1 A4 t2.1.length c4 cs4, orow 3 1 A7 t3.1.length c7 cs7, orow 3 1 A10 t4.1.length c10 cs10]) rfl (hs.call hg) ?_
 clear hs hg
 generalize w'.heap.size = nx7
 clear w w'
 refine RL.simK (K' := [(16, .bool t7.2), (14, .bool t6.2), (13, .int .i64 t6.1), (12, .bool t5.2), (11, .int .i64 t5.1), (9, .slice A10 t4.1.length c10), (10, .pointer (some ⟨nx4, 0, none⟩)), (7, .slice A7 t3.1.length c7), (5, .slice A4 t2.1.length c4), (2, .slice A1 t1.1.length c1), (3, .pointer (some ⟨nx1, 0, none⟩)), (1, .slice (some ⟨nx0 + 2, 0, none⟩) 2 2)]) [] (RFacts.nil _ _ _) 5 [.no, .no, .no, .no, .no] (by kernel_rfl) (by kernel_rfl) ?_
 refine RL.nil (by kernel_rfl) ?_
 refine QN.then_ ?_
 refine OK.seq K10_31 K10_33 (by kernel_rfl) ?_
 refine OK.region 10 O10_31 (by kernel_rfl) ?_
 refine RL.simP (K' := [(66, .slice (some ⟨nx7, 0, none⟩) 1 1), (65, .slice (some ⟨nx0 + 2, 0, none⟩) 2 2), (16, .bool t7.2), (14, .bool t6.2), (13, .int .i64 t6.1), (12, .bool t5.2), (11, .int .i64 t5.1), (9, .slice A10 t4.1.length c10), (10, .pointer (some ⟨nx4, 0, none⟩)), (7, .slice A7 t3.1.length c7), (5, .slice A4 t2.1.length c4), (2, .slice A1 t1.1.length c1), (3, .pointer (some ⟨nx1, 0, none⟩)), (1, .slice (some ⟨nx0 + 2, 0, none⟩) 2 2)]) (nx' := nx7 + 1) (L' := [⟨nx1, [.slice A2 t1.2.f0.length c2, .slice A3 t1.2.f1.length c3], 26⟩, ⟨nx2, [.slice A5 t2.2.f0.length c5, .slice A6 t2.2.f1.length c6], 26⟩, ⟨nx3, [.slice A8 t3.2.f0.length c8, .slice A9 t3.2.f1.length c9], 26⟩, ⟨nx4, [.slice A11 t4.2.f0.length c11, .slice A12 t4.2.f1.length c12], 26⟩, ⟨nx7, [.int .i64 1], 3⟩]) [] (RFacts.nil _ _ _) 2 [.no, .no] (by kernel_rfl) (by kernel_rfl) ?_
 refine RL.freezeL (d := (Ty.int .i64)) (xs := [1]) (b := ⟨nx7, [.int .i64 1], 3⟩) 4 (by kernel_rfl) ⟨_, _, rfl, rfl, rfl⟩ (Nat.le_of_ble_eq_true rfl) (fun I28 hi28 hr21 => ?_)
 obtain ⟨t8, hA8, H⟩ := Option.bind_eq_some_iff.mp H
 refine RL.callP 15 [.slice (some ⟨nx0 + 2, 0, none⟩) 2 2, .slice (some ⟨nx7, 0, none⟩) 1 1] (some 67) (fun w => assign_Value.Post I28 w t8) (by kernel_rfl) (by kernel_rfl) (fun w hs => assign_Value.calls k I28 [[3, 5], [4, 7]] (some ⟨nx0 + 2, 0, none⟩) 2 [1] (some ⟨nx7, 0, none⟩) 1 w hs.im (Nat.le_of_ble_eq_true rfl) (Rd.ext (Imm.le_trans (Imm.le_trans (Imm.le_trans (Imm.le_trans (Imm.le_trans (Imm.le_trans (Imm.le_trans (Imm.le_trans (Imm.le_trans (Imm.le_trans (Imm.le_trans (Imm.le_trans (Imm.le_trans (Imm.le_trans (Imm.le_trans (Imm.le_trans (Imm.le_trans (Imm.le_trans (Imm.le_trans (Imm.le_trans (Imm.le_trans (Imm.le_trans (Imm.le_trans (Imm.le_trans hi4 hi5) hi6) hi7) hi8) hi9) hi10) hi11) hi12) hi13) hi14) hi15) hi16) hi17) hi18) hi19) hi20) hi21) hi22) hi23) hi24) hi25) hi26) hi27) hi28) hr3) (Nat.le_of_ble_eq_true rfl) hr21 t8 hA8) ?_
 rintro w v w' hs ⟨I29, rfl, hg⟩
 have hi29 := hg.le
 refine RL.resume (X' := [orow 3 1 A1 t1.1.length c1 cs1, orow 3 1 A4 t2.1.length c4 cs4, orow 3 1 A7 t3.1.length c7 cs7, orow 3 1 A10 t4.1.length c10 cs10]) rfl (hs.call hg) ?_
 clear hs hg
 generalize w'.heap.size = nx8
 clear w w'
 refine RL.simK (K' := [(18, .bool t8.2), (16, .bool t7.2), (14, .bool t6.2), (13, .int .i64 t6.1), (12, .bool t5.2), (11, .int .i64 t5.1), (9, .slice A10 t4.1.length c10), (10, .pointer (some ⟨nx4, 0, none⟩)), (7, .slice A7 t3.1.length c7), (5, .slice A4 t2.1.length c4), (2, .slice A1 t1.1.length c1), (3, .pointer (some ⟨nx1, 0, none⟩)), (1, .slice (some ⟨nx0 + 2, 0, none⟩) 2 2)]) [] (RFacts.nil _ _ _) 5 [.no, .no, .no, .no, .no] (by kernel_rfl) (by kernel_rfl) ?_
 refine RL.nil (by kernel_rfl) ?_
 refine QN.then_ ?_
 refine OK.seq K10_34 K10_36 (by kernel_rfl) ?_
 refine OK.join (fun K' I' _ L' X' => ∃ (x1 : Bool), K' = [(0, .bool x1)] ∧ L' = [⟨nx1, [.slice A2 t1.2.f0.length c2, .slice A3 t1.2.f1.length c3], 26⟩, ⟨nx2, [.slice A5 t2.2.f0.length c5, .slice A6 t2.2.f1.length c6], 26⟩, ⟨nx3, [.slice A8 t3.2.f0.length c8, .slice A9 t3.2.f1.length c9], 26⟩, ⟨nx4, [.slice A11 t4.2.f0.length c11, .slice A12 t4.2.f1.length c12], 26⟩] ∧ X' = [] ∧ Imm.le I29 I' ∧ armillarylaw22_sanity.k1 x1 = some r) ?_ ?_
 ·rintro _ I30 nx9 _ _ ⟨x1, rfl, rfl, rfl, hi30, H⟩
  replace H : (some x1) = some r := H
  refine QN.then_ ?_
  refine OK.ret (by kernel_rfl) ?_
  obtain rfl := Option.some.inj H
  refine QN.body rfl [] (RFacts.nil _ _ _) (.no) (.bool x1) (by kernel_rfl) (by kernel_rfl) (by kernel_rfl) ?_ _ (.inr rfl)
  exact fun w' hs' => ⟨_, rfl, I30, rfl, hs'.got _ .slnil⟩
 ·intro Q_1 hJ1 hQ1
  obtain ⟨y1, H, HK1⟩ := Option.bind_eq_some_iff.mp H
  refine OK.region 11 O10_34 (by kernel_rfl) ?_
  refine RL.simP (K' := [(71, .slice (some ⟨nx8, 0, none⟩) 2 2), (70, .slice A1 t1.1.length c1), (18, .bool t8.2), (16, .bool t7.2), (14, .bool t6.2), (13, .int .i64 t6.1), (12, .bool t5.2), (11, .int .i64 t5.1), (9, .slice A10 t4.1.length c10), (10, .pointer (some ⟨nx4, 0, none⟩)), (7, .slice A7 t3.1.length c7), (5, .slice A4 t2.1.length c4), (2, .slice A1 t1.1.length c1), (3, .pointer (some ⟨nx1, 0, none⟩)), (1, .slice (some ⟨nx0 + 2, 0, none⟩) 2 2)]) (nx' := nx8 + 1) (L' := [⟨nx1, [.slice A2 t1.2.f0.length c2, .slice A3 t1.2.f1.length c3], 26⟩, ⟨nx2, [.slice A5 t2.2.f0.length c5, .slice A6 t2.2.f1.length c6], 26⟩, ⟨nx3, [.slice A8 t3.2.f0.length c8, .slice A9 t3.2.f1.length c9], 26⟩, ⟨nx4, [.slice A11 t4.2.f0.length c11, .slice A12 t4.2.f1.length c12], 26⟩, ⟨nx8, [.int .i64 0, .int .i64 1], 3⟩]) [] (RFacts.nil _ _ _) 2 [.no, .no] (by kernel_rfl) (by kernel_rfl) ?_
  refine RL.freezeL (d := (Ty.int .i64)) (xs := [0, 1]) (b := ⟨nx8, [.int .i64 0, .int .i64 1], 3⟩) 4 (by kernel_rfl) ⟨_, _, rfl, rfl, ⟨_, _, rfl, rfl, rfl⟩⟩ (Nat.le_of_ble_eq_true rfl) (fun I31 hi31 hr22 => ?_)
  obtain ⟨t9, hA9, H⟩ := Option.bind_eq_some_iff.mp H
  refine RL.callP 17 [.slice A1 t1.1.length c1, .slice (some ⟨nx8, 0, none⟩) 2 2] (some 72) (fun w v w' => ∃ I', Imm.le I31 I' ∧ armillaryref22_Same.Post I' w t9 v w') (by kernel_rfl) (by kernel_rfl) (fun w hs => ?_) ?_
  ·skip
   obtain ⟨JL1, hj1, hn1, hw1, hs⟩ := Sat.freeze (e := 3) (sz := 1) (S := A1) (n := t1.1.length) (cap := c1) (m := 0) hs (by kernel_rfl) (Reps.ext (Imm.le_trans (Imm.le_trans (Imm.le_trans (Imm.le_trans (Imm.le_trans (Imm.le_trans (Imm.le_trans (Imm.le_trans (Imm.le_trans (Imm.le_trans (Imm.le_trans (Imm.le_trans (Imm.le_trans (Imm.le_trans (Imm.le_trans (Imm.le_trans (Imm.le_trans (Imm.le_trans (Imm.le_trans (Imm.le_trans (Imm.le_trans (Imm.le_trans (Imm.le_trans (Imm.le_trans (Imm.le_trans hi5 hi6) hi7) hi8) hi9) hi10) hi11) hi12) hi13) hi14) hi15) hi16) hi17) hi18) hi19) hi20) hi21) hi22) hi23) hi24) hi25) hi26) hi27) hi28) hi29) hi31) hp1) rfl
   exact (armillaryref22_Same.calls k JL1 t1.1 A1 c1 [0, 1] (some ⟨nx8, 0, none⟩) 2 _ hs.im hn1 hw1 (Nat.le_of_ble_eq_true rfl) (Rd.ext hj1 hr22) t9 hA9).mono (fun e w' ⟨v, hv, hp⟩ => ⟨v, hv, JL1, hj1, hp⟩)
  rintro w v w' hs ⟨I', hle, J, rfl, hg⟩
  refine RL.resume (X' := [orow 3 1 A1 t1.1.length c1 cs1, orow 3 1 A4 t2.1.length c4 cs4, orow 3 1 A7 t3.1.length c7 cs7, orow 3 1 A10 t4.1.length c10 cs10]) rfl (hs.call (hg.back hle)) ?_
  clear hs hg hle I' J
  generalize w'.heap.size = nx10
  clear w w'
  refine RL.simK (K' := [(73, .bool t9), (18, .bool t8.2), (16, .bool t7.2), (14, .bool t6.2), (13, .int .i64 t6.1), (12, .bool t5.2), (11, .int .i64 t5.1), (9, .slice A10 t4.1.length c10), (10, .pointer (some ⟨nx4, 0, none⟩)), (7, .slice A7 t3.1.length c7), (5, .slice A4 t2.1.length c4), (2, .slice A1 t1.1.length c1), (3, .pointer (some ⟨nx1, 0, none⟩)), (1, .slice (some ⟨nx0 + 2, 0, none⟩) 2 2)]) [] (RFacts.nil _ _ _) 1 [.no] (by kernel_rfl) (by kernel_rfl) ?_
  refine RL.cases t9 (fun hb => ?_) (fun hb => ?_)
  ·have hc := hb
   rw [hb]
   rw [if_pos hc] at H; clear hb
   refine RL.simK (K' := [(76, .agg #[.slice A2 t1.2.f0.length c2, .slice A3 t1.2.f1.length c3]), (75, .slice A1 t1.1.length c1), (74, .slice (some ⟨nx0 + 2, 0, none⟩) 2 2), (73, .bool true), (18, .bool t8.2), (16, .bool t7.2), (14, .bool t6.2), (13, .int .i64 t6.1), (12, .bool t5.2), (11, .int .i64 t5.1), (9, .slice A10 t4.1.length c10), (10, .pointer (some ⟨nx4, 0, none⟩)), (7, .slice A7 t3.1.length c7), (5, .slice A4 t2.1.length c4), (2, .slice A1 t1.1.length c1), (1, .slice (some ⟨nx0 + 2, 0, none⟩) 2 2)]) [] (RFacts.nil _ _ _) 3 [.no, .no, .l 0] (by kernel_rfl) (by kernel_rfl) ?_
   obtain ⟨t10, hA10, H⟩ := Option.bind_eq_some_iff.mp H
   refine RL.callP 20 [.slice (some ⟨nx0 + 2, 0, none⟩) 2 2, .slice A1 t1.1.length c1, .agg #[.slice A2 t1.2.f0.length c2, .slice A3 t1.2.f1.length c3]] (some 77) (fun w v w' => ∃ I', Imm.le I31 I' ∧ assign_VerifyDuals.Post I' w t10 v w') (by kernel_rfl) (by kernel_rfl) (fun w hs => ?_) ?_
   ·skip
    obtain ⟨JL2, hj2, hn2, hw2, hs⟩ := Sat.freeze (e := 3) (sz := 1) (S := A1) (n := t1.1.length) (cap := c1) (m := 0) hs (by kernel_rfl) (Reps.ext (Imm.le_trans (Imm.le_trans (Imm.le_trans (Imm.le_trans (Imm.le_trans (Imm.le_trans (Imm.le_trans (Imm.le_trans (Imm.le_trans (Imm.le_trans (Imm.le_trans (Imm.le_trans (Imm.le_trans (Imm.le_trans (Imm.le_trans (Imm.le_trans (Imm.le_trans (Imm.le_trans (Imm.le_trans (Imm.le_trans (Imm.le_trans (Imm.le_trans (Imm.le_trans (Imm.le_trans (Imm.le_trans hi5 hi6) hi7) hi8) hi9) hi10) hi11) hi12) hi13) hi14) hi15) hi16) hi17) hi18) hi19) hi20) hi21) hi22) hi23) hi24) hi25) hi26) hi27) hi28) hi29) hi31) hp1) rfl
    exact (assign_VerifyDuals.calls k JL2 [[3, 5], [4, 7]] (some ⟨nx0 + 2, 0, none⟩) 2 t1.1 A1 c1 t1.2 A2 c2 A3 c3 _ hs.im (Nat.le_of_ble_eq_true rfl) (Rd.ext hj2 (Rd.ext (Imm.le_trans (Imm.le_trans (Imm.le_trans (Imm.le_trans (Imm.le_trans (Imm.le_trans (Imm.le_trans (Imm.le_trans (Imm.le_trans (Imm.le_trans (Imm.le_trans (Imm.le_trans (Imm.le_trans (Imm.le_trans (Imm.le_trans (Imm.le_trans (Imm.le_trans (Imm.le_trans (Imm.le_trans (Imm.le_trans (Imm.le_trans (Imm.le_trans (Imm.le_trans (Imm.le_trans (Imm.le_trans (Imm.le_trans hi4 hi5) hi6) hi7) hi8) hi9) hi10) hi11) hi12) hi13) hi14) hi15) hi16) hi17) hi18) hi19) hi20) hi21) hi22) hi23) hi24) hi25) hi26) hi27) hi28) hi29) hi31) hr3)) hn2 hw2 hl1 (Rd.ext hj2 (Rd.ext (Imm.le_trans (Imm.le_trans (Imm.le_trans (Imm.le_trans (Imm.le_trans (Imm.le_trans (Imm.le_trans (Imm.le_trans (Imm.le_trans (Imm.le_trans (Imm.le_trans (Imm.le_trans (Imm.le_trans (Imm.le_trans (Imm.le_trans (Imm.le_trans (Imm.le_trans (Imm.le_trans (Imm.le_trans (Imm.le_trans (Imm.le_trans (Imm.le_trans (Imm.le_trans (Imm.le_trans hi6 hi7) hi8) hi9) hi10) hi11) hi12) hi13) hi14) hi15) hi16) hi17) hi18) hi19) hi20) hi21) hi22) hi23) hi24) hi25) hi26) hi27) hi28) hi29) hi31) hr4)) hl2 (Rd.ext hj2 (Rd.ext (Imm.le_trans (Imm.le_trans (Imm.le_trans (Imm.le_trans (Imm.le_trans (Imm.le_trans (Imm.le_trans (Imm.le_trans (Imm.le_trans (Imm.le_trans (Imm.le_trans (Imm.le_trans (Imm.le_trans (Imm.le_trans (Imm.le_trans (Imm.le_trans (Imm.le_trans (Imm.le_trans (Imm.le_trans (Imm.le_trans (Imm.le_trans (Imm.le_trans (Imm.le_trans hi7 hi8) hi9) hi10) hi11) hi12) hi13) hi14) hi15) hi16) hi17) hi18) hi19) hi20) hi21) hi22) hi23) hi24) hi25) hi26) hi27) hi28) hi29) hi31) hr5)) t10 hA10).mono (fun e w' ⟨v, hv, hp⟩ => ⟨v, hv, JL2, hj2, hp⟩)
   rintro w v w' hs ⟨I', hle, J, rfl, hg⟩
   refine RL.resume (X' := [orow 3 1 A1 t1.1.length c1 cs1, orow 3 1 A4 t2.1.length c4 cs4, orow 3 1 A7 t3.1.length c7 cs7, orow 3 1 A10 t4.1.length c10 cs10]) rfl (hs.call (hg.back hle)) ?_
   clear hs hg hle I' J
   generalize w'.heap.size = nx11
   clear w w'
   refine RL.simK (K' := [(79, .bool t10), (18, .bool t8.2), (16, .bool t7.2), (14, .bool t6.2), (13, .int .i64 t6.1), (12, .bool t5.2), (11, .int .i64 t5.1), (9, .slice A10 t4.1.length c10), (10, .pointer (some ⟨nx4, 0, none⟩)), (7, .slice A7 t3.1.length c7), (5, .slice A4 t2.1.length c4), (2, .slice A1 t1.1.length c1), (1, .slice (some ⟨nx0 + 2, 0, none⟩) 2 2)]) [] (RFacts.nil _ _ _) 2 [.no, .no] (by kernel_rfl) (by kernel_rfl) ?_
   refine RL.cases t10 (fun hb => ?_) (fun hb => ?_)
   ·have hc := hb
    rw [hb]
    rw [if_pos hc] at H; clear hb
    refine RL.simP (K' := [(81, .slice (some ⟨nx11, 0, none⟩) 2 2), (80, .slice A4 t2.1.length c4), (79, .bool true), (18, .bool t8.2), (16, .bool t7.2), (14, .bool t6.2), (13, .int .i64 t6.1), (12, .bool t5.2), (11, .int .i64 t5.1), (9, .slice A10 t4.1.length c10), (10, .pointer (some ⟨nx4, 0, none⟩)), (7, .slice A7 t3.1.length c7), (2, .slice A1 t1.1.length c1), (1, .slice (some ⟨nx0 + 2, 0, none⟩) 2 2)]) (nx' := nx11 + 1) (L' := [⟨nx1, [.slice A2 t1.2.f0.length c2, .slice A3 t1.2.f1.length c3], 26⟩, ⟨nx2, [.slice A5 t2.2.f0.length c5, .slice A6 t2.2.f1.length c6], 26⟩, ⟨nx3, [.slice A8 t3.2.f0.length c8, .slice A9 t3.2.f1.length c9], 26⟩, ⟨nx4, [.slice A11 t4.2.f0.length c11, .slice A12 t4.2.f1.length c12], 26⟩, ⟨nx11, [.int .i64 (-1), .int .i64 0], 3⟩]) [] (RFacts.nil _ _ _) 2 [.no, .no] (by kernel_rfl) (by kernel_rfl) ?_
    refine RL.freezeL (d := (Ty.int .i64)) (xs := [(-1), 0]) (b := ⟨nx11, [.int .i64 (-1), .int .i64 0], 3⟩) 4 (by kernel_rfl) ⟨_, _, rfl, rfl, ⟨_, _, rfl, rfl, rfl⟩⟩ (Nat.le_of_ble_eq_true rfl) (fun I32 hi32 hr23 => ?_)
    obtain ⟨t11, hA11, H⟩ := Option.bind_eq_some_iff.mp H
    refine RL.callP 17 [.slice A4 t2.1.length c4, .slice (some ⟨nx11, 0, none⟩) 2 2] (some 82) (fun w v w' => ∃ I', Imm.le I32 I' ∧ armillaryref22_Same.Post I' w t11 v w') (by kernel_rfl) (by kernel_rfl) (fun w hs => ?_) ?_
    ·skip
     obtain ⟨JL3, hj3, hn3, hw3, hs⟩ := Sat.freeze (e := 3) (sz := 1) (S := A4) (n := t2.1.length) (cap := c4) (m := 1) hs (by kernel_rfl) (Reps.ext (Imm.le_trans (Imm.le_trans (Imm.le_trans (Imm.le_trans (Imm.le_trans (Imm.le_trans (Imm.le_trans (Imm.le_trans (Imm.le_trans (Imm.le_trans (Imm.le_trans (Imm.le_trans (Imm.le_trans (Imm.le_trans (Imm.le_trans (Imm.le_trans (Imm.le_trans (Imm.le_trans (Imm.le_trans (Imm.le_trans hi11 hi12) hi13) hi14) hi15) hi16) hi17) hi18) hi19) hi20) hi21) hi22) hi23) hi24) hi25) hi26) hi27) hi28) hi29) hi31) hi32) hp4) rfl
     exact (armillaryref22_Same.calls k JL3 t2.1 A4 c4 [(-1), 0] (some ⟨nx11, 0, none⟩) 2 _ hs.im hn3 hw3 (Nat.le_of_ble_eq_true rfl) (Rd.ext hj3 hr23) t11 hA11).mono (fun e w' ⟨v, hv, hp⟩ => ⟨v, hv, JL3, hj3, hp⟩)
    rintro w v w' hs ⟨I', hle, J, rfl, hg⟩
    refine RL.resume (X' := [orow 3 1 A1 t1.1.length c1 cs1, orow 3 1 A4 t2.1.length c4 cs4, orow 3 1 A7 t3.1.length c7 cs7, orow 3 1 A10 t4.1.length c10 cs10]) rfl (hs.call (hg.back hle)) ?_
    clear hs hg hle I' J
    generalize w'.heap.size = nx12
    clear w w'
    refine RL.simK (K' := [(84, .bool t11), (18, .bool t8.2), (16, .bool t7.2), (14, .bool t6.2), (13, .int .i64 t6.1), (12, .bool t5.2), (11, .int .i64 t5.1), (9, .slice A10 t4.1.length c10), (10, .pointer (some ⟨nx4, 0, none⟩)), (7, .slice A7 t3.1.length c7), (2, .slice A1 t1.1.length c1), (1, .slice (some ⟨nx0 + 2, 0, none⟩) 2 2)]) [] (RFacts.nil _ _ _) 2 [.no, .no] (by kernel_rfl) (by kernel_rfl) ?_
    refine RL.cases t11 (fun hb => ?_) (fun hb => ?_)
    ·have hc := hb
     rw [hb]
     rw [if_pos hc] at H; clear hb
     refine RL.simP (K' := [(86, .slice (some ⟨nx12, 0, none⟩) 2 2), (85, .slice A7 t3.1.length c7), (84, .bool true), (18, .bool t8.2), (16, .bool t7.2), (14, .bool t6.2), (13, .int .i64 t6.1), (12, .bool t5.2), (11, .int .i64 t5.1), (9, .slice A10 t4.1.length c10), (10, .pointer (some ⟨nx4, 0, none⟩)), (2, .slice A1 t1.1.length c1), (1, .slice (some ⟨nx0 + 2, 0, none⟩) 2 2)]) (nx' := nx12 + 1) (L' := [⟨nx1, [.slice A2 t1.2.f0.length c2, .slice A3 t1.2.f1.length c3], 26⟩, ⟨nx2, [.slice A5 t2.2.f0.length c5, .slice A6 t2.2.f1.length c6], 26⟩, ⟨nx3, [.slice A8 t3.2.f0.length c8, .slice A9 t3.2.f1.length c9], 26⟩, ⟨nx4, [.slice A11 t4.2.f0.length c11, .slice A12 t4.2.f1.length c12], 26⟩, ⟨nx12, [.int .i64 0, .int .i64 1], 3⟩]) [] (RFacts.nil _ _ _) 2 [.no, .no] (by kernel_rfl) (by kernel_rfl) ?_
     refine RL.freezeL (d := (Ty.int .i64)) (xs := [0, 1]) (b := ⟨nx12, [.int .i64 0, .int .i64 1], 3⟩) 4 (by kernel_rfl) ⟨_, _, rfl, rfl, ⟨_, _, rfl, rfl, rfl⟩⟩ (Nat.le_of_ble_eq_true rfl) (fun I33 hi33 hr24 => ?_)
     obtain ⟨t12, hA12, H⟩ := Option.bind_eq_some_iff.mp H
     refine RL.callP 17 [.slice A7 t3.1.length c7, .slice (some ⟨nx12, 0, none⟩) 2 2] (some 87) (fun w v w' => ∃ I', Imm.le I33 I' ∧ armillaryref22_Same.Post I' w t12 v w') (by kernel_rfl) (by kernel_rfl) (fun w hs => ?_) ?_
     ·skip
      obtain ⟨JL4, hj4, hn4, hw4, hs⟩ := Sat.freeze (e := 3) (sz := 1) (S := A7) (n := t3.1.length) (cap := c7) (m := 2) hs (by kernel_rfl) (Reps.ext (Imm.le_trans (Imm.le_trans (Imm.le_trans (Imm.le_trans (Imm.le_trans (Imm.le_trans (Imm.le_trans (Imm.le_trans (Imm.le_trans (Imm.le_trans (Imm.le_trans (Imm.le_trans (Imm.le_trans (Imm.le_trans (Imm.le_trans hi17 hi18) hi19) hi20) hi21) hi22) hi23) hi24) hi25) hi26) hi27) hi28) hi29) hi31) hi32) hi33) hp7) rfl
      exact (armillaryref22_Same.calls k JL4 t3.1 A7 c7 [0, 1] (some ⟨nx12, 0, none⟩) 2 _ hs.im hn4 hw4 (Nat.le_of_ble_eq_true rfl) (Rd.ext hj4 hr24) t12 hA12).mono (fun e w' ⟨v, hv, hp⟩ => ⟨v, hv, JL4, hj4, hp⟩)
     rintro w v w' hs ⟨I', hle, J, rfl, hg⟩
     refine RL.resume (X' := [orow 3 1 A1 t1.1.length c1 cs1, orow 3 1 A4 t2.1.length c4 cs4, orow 3 1 A7 t3.1.length c7 cs7, orow 3 1 A10 t4.1.length c10 cs10]) rfl (hs.call (hg.back hle)) ?_
     clear hs hg hle I' J
     generalize w'.heap.size = nx13
     clear w w'
     refine RL.simK (K' := [(89, .bool t12), (18, .bool t8.2), (16, .bool t7.2), (14, .bool t6.2), (13, .int .i64 t6.1), (12, .bool t5.2), (11, .int .i64 t5.1), (9, .slice A10 t4.1.length c10), (10, .pointer (some ⟨nx4, 0, none⟩)), (2, .slice A1 t1.1.length c1), (1, .slice (some ⟨nx0 + 2, 0, none⟩) 2 2)]) [] (RFacts.nil _ _ _) 2 [.no, .no] (by kernel_rfl) (by kernel_rfl) ?_
     refine RL.cases t12 (fun hb => ?_) (fun hb => ?_)
     ·have hc := hb
      rw [hb]
      rw [if_pos hc] at H; clear hb
      refine RL.simK (K' := [(102, .bool ((W .i64 ((W .i64 ((t4.1.length : Int) + (t4.2.f0.length : Int))) + (t4.2.f1.length : Int))) == 0)), (18, .bool t8.2), (16, .bool t7.2), (14, .bool t6.2), (13, .int .i64 t6.1), (12, .bool t5.2), (11, .int .i64 t5.1), (2, .slice A1 t1.1.length c1), (1, .slice (some ⟨nx0 + 2, 0, none⟩) 2 2)]) [] (RFacts.nil _ _ _) 13 [.no, .no, .no, .l 3, .no, .no, .no, .l 3, .no, .no, .no, .no, .no] (by kernel_rfl) (by kernel_rfl) ?_
      refine RL.cases ((W .i64 ((W .i64 ((t4.1.length : Int) + (t4.2.f0.length : Int))) + (t4.2.f1.length : Int))) == 0) (fun hb => ?_) (fun hb => ?_)
      ·have hc := (beq_iff_eq.1 hb)
       rw [hb]
       rw [if_pos hc] at H; clear hb
       refine RL.simK (K' := [(106, .bool (t5.1 == 9)), (18, .bool t8.2), (16, .bool t7.2), (14, .bool t6.2), (13, .int .i64 t6.1), (12, .bool t5.2), (2, .slice A1 t1.1.length c1), (1, .slice (some ⟨nx0 + 2, 0, none⟩) 2 2)]) [] (RFacts.nil _ _ _) 4 [.no, .no, .no, .no] (by kernel_rfl) (by kernel_rfl) ?_
       refine RL.cases (t5.1 == 9) (fun hb => ?_) (fun hb => ?_)
       ·have hc := (beq_iff_eq.1 hb)
        rw [hb]
        rw [if_pos hc] at H; clear hb
        refine RL.simK (K' := [(109, .bool t5.2), (18, .bool t8.2), (16, .bool t7.2), (14, .bool t6.2), (13, .int .i64 t6.1), (2, .slice A1 t1.1.length c1), (1, .slice (some ⟨nx0 + 2, 0, none⟩) 2 2)]) [] (RFacts.nil _ _ _) 3 [.no, .no, .no] (by kernel_rfl) (by kernel_rfl) ?_
        refine RL.cases t5.2 (fun hb => ?_) (fun hb => ?_)
        ·have hc := hb
         rw [hb]
         rw [if_pos hc] at H; clear hb
         refine RL.simK (K' := [(113, .bool (t6.1 == 7)), (18, .bool t8.2), (16, .bool t7.2), (14, .bool t6.2), (2, .slice A1 t1.1.length c1), (1, .slice (some ⟨nx0 + 2, 0, none⟩) 2 2)]) [] (RFacts.nil _ _ _) 4 [.no, .no, .no, .no] (by kernel_rfl) (by kernel_rfl) ?_
         refine RL.cases (t6.1 == 7) (fun hb => ?_) (fun hb => ?_)
         ·have hc := (beq_iff_eq.1 hb)
          rw [hb]
          rw [if_pos hc] at H; clear hb
          refine RL.simK (K' := [(116, .bool t6.2), (18, .bool t8.2), (16, .bool t7.2), (2, .slice A1 t1.1.length c1), (1, .slice (some ⟨nx0 + 2, 0, none⟩) 2 2)]) [] (RFacts.nil _ _ _) 3 [.no, .no, .no] (by kernel_rfl) (by kernel_rfl) ?_
          refine RL.cases t6.2 (fun hb => ?_) (fun hb => ?_)
          ·have hc := hb
           rw [hb]
           rw [if_pos hc] at H; clear hb
           refine RL.simK (K' := [(120, .bool (!t7.2)), (18, .bool t8.2), (2, .slice A1 t1.1.length c1), (1, .slice (some ⟨nx0 + 2, 0, none⟩) 2 2)]) [] (RFacts.nil _ _ _) 4 [.no, .no, .no, .no] (by kernel_rfl) (by kernel_rfl) ?_
           refine RL.cases t7.2 (fun hb => ?_) (fun hb => ?_)
           ·have hc := hb
            rw [hb]
            rw [if_pos hc] at H; clear hb
            refine RL.simK (K' := [(0, .bool false)]) [] (RFacts.nil _ _ _) 59 (.no :: .no :: .no :: .no :: .no :: .no :: .no :: .no :: .no :: .no :: .no :: .no :: .no :: .no :: .no :: .no :: .no :: .no :: .no :: .no :: .no :: .no :: .no :: .no :: .no :: .no :: .no :: .no :: .no :: .no :: .no :: .no :: .no :: .no :: .no :: .no :: .no :: .no :: .no :: .no :: .no :: .no :: .no :: .no :: .no :: .no :: .no :: .no :: .no :: .no :: .no :: .no :: .no :: .no :: .no :: .no :: .no :: .no :: .no :: []) (by kernel_rfl) (by kernel_rfl) ?_
            refine RL.nil (by kernel_rfl) ?_
            obtain rfl := Option.some.inj H
            refine QN.sel (K' := [(0, .bool false)]) (L' := [⟨nx1, [.slice A2 t1.2.f0.length c2, .slice A3 t1.2.f1.length c3], 26⟩, ⟨nx2, [.slice A5 t2.2.f0.length c5, .slice A6 t2.2.f1.length c6], 26⟩, ⟨nx3, [.slice A8 t3.2.f0.length c8, .slice A9 t3.2.f1.length c9], 26⟩, ⟨nx4, [.slice A11 t4.2.f0.length c11, .slice A12 t4.2.f1.length c12], 26⟩]) [] (by kernel_rfl) (by kernel_rfl) (.cons_cons _ (.cons_cons _ (.cons_cons _ (.cons_cons _ .slnil)))) ?_
            refine QN.norm (X' := []) rfl rfl rfl (by kernel_rfl) ?_
            exact hJ1 _ _ _ _ _ ⟨false, rfl, rfl, rfl, (Imm.le_trans (Imm.le_trans hi31 hi32) hi33), HK1⟩
           ·have hc := (Bool.eq_false_iff.1 hb)
            rw [hb]
            rw [if_neg hc] at H; clear hb
            refine RL.simK (K' := [(124, .bool (!t8.2)), (2, .slice A1 t1.1.length c1), (1, .slice (some ⟨nx0 + 2, 0, none⟩) 2 2)]) [] (RFacts.nil _ _ _) 4 [.no, .no, .no, .no] (by kernel_rfl) (by kernel_rfl) ?_
            refine RL.cases t8.2 (fun hb => ?_) (fun hb => ?_)
            ·have hc := hb
             rw [hb]
             rw [if_pos hc] at H; clear hb
             refine RL.simK (K' := [(0, .bool false)]) [] (RFacts.nil _ _ _) 55 (.no :: .no :: .no :: .no :: .no :: .no :: .no :: .no :: .no :: .no :: .no :: .no :: .no :: .no :: .no :: .no :: .no :: .no :: .no :: .no :: .no :: .no :: .no :: .no :: .no :: .no :: .no :: .no :: .no :: .no :: .no :: .no :: .no :: .no :: .no :: .no :: .no :: .no :: .no :: .no :: .no :: .no :: .no :: .no :: .no :: .no :: .no :: .no :: .no :: .no :: .no :: .no :: .no :: .no :: .no :: []) (by kernel_rfl) (by kernel_rfl) ?_
             refine RL.nil (by kernel_rfl) ?_
             obtain rfl := Option.some.inj H
             refine QN.sel (K' := [(0, .bool false)]) (L' := [⟨nx1, [.slice A2 t1.2.f0.length c2, .slice A3 t1.2.f1.length c3], 26⟩, ⟨nx2, [.slice A5 t2.2.f0.length c5, .slice A6 t2.2.f1.length c6], 26⟩, ⟨nx3, [.slice A8 t3.2.f0.length c8, .slice A9 t3.2.f1.length c9], 26⟩, ⟨nx4, [.slice A11 t4.2.f0.length c11, .slice A12 t4.2.f1.length c12], 26⟩]) [] (by kernel_rfl) (by kernel_rfl) (.cons_cons _ (.cons_cons _ (.cons_cons _ (.cons_cons _ .slnil)))) ?_
             refine QN.norm (X' := []) rfl rfl rfl (by kernel_rfl) ?_
             exact hJ1 _ _ _ _ _ ⟨false, rfl, rfl, rfl, (Imm.le_trans (Imm.le_trans hi31 hi32) hi33), HK1⟩
            ·have hc := (Bool.eq_false_iff.1 hb)
             rw [hb]
             rw [if_neg hc] at H; clear hb
             refine RL.simP (K' := [(129, .agg #[.slice (some ⟨nx13, 0, none⟩) 2 2, .slice (some ⟨nx13 + 1, 0, none⟩) 2 2]), (126, .slice A1 t1.1.length c1), (125, .slice (some ⟨nx0 + 2, 0, none⟩) 2 2), (124, .bool true), (2, .slice A1 t1.1.length c1), (1, .slice (some ⟨nx0 + 2, 0, none⟩) 2 2)]) (nx' := nx13 + 2) (L' := [⟨nx1, [.slice A2 t1.2.f0.length c2, .slice A3 t1.2.f1.length c3], 26⟩, ⟨nx2, [.slice A5 t2.2.f0.length c5, .slice A6 t2.2.f1.length c6], 26⟩, ⟨nx3, [.slice A8 t3.2.f0.length c8, .slice A9 t3.2.f1.length c9], 26⟩, ⟨nx4, [.slice A11 t4.2.f0.length c11, .slice A12 t4.2.f1.length c12], 26⟩, ⟨nx13, [.int .i64 3, .int .i64 5], 2⟩, ⟨nx13 + 1, [.int .i64 0, .int .i64 2], 2⟩]) [] (RFacts.nil _ _ _) 5 [.no, .no, .no, .no, .no] (by kernel_rfl) (by kernel_rfl) ?_
             refine RL.freezeL (d := (Ty.int .i64)) (xs := [3, 5]) (b := ⟨nx13, [.int .i64 3, .int .i64 5], 2⟩) 4 (by kernel_rfl) ⟨_, _, rfl, rfl, ⟨_, _, rfl, rfl, rfl⟩⟩ (Nat.le_of_ble_eq_true rfl) (fun I34 hi34 hr25 => ?_)
             refine RL.freezeL (d := (Ty.int .i64)) (xs := [0, 2]) (b := ⟨nx13 + 1, [.int .i64 0, .int .i64 2], 2⟩) 4 (by kernel_rfl) ⟨_, _, rfl, rfl, ⟨_, _, rfl, rfl, rfl⟩⟩ (Nat.le_of_ble_eq_true rfl) (fun I35 hi35 hr26 => ?_)
             obtain ⟨t13, hA13, H⟩ := Option.bind_eq_some_iff.mp H
             refine RL.callP 20 [.slice (some ⟨nx0 + 2, 0, none⟩) 2 2, .slice A1 t1.1.length c1, .agg #[.slice (some ⟨nx13, 0, none⟩) 2 2, .slice (some ⟨nx13 + 1, 0, none⟩) 2 2]] (some 130) (fun w v w' => ∃ I', Imm.le I35 I' ∧ assign_VerifyDuals.Post I' w t13 v w') (by kernel_rfl) (by kernel_rfl) (fun w hs => ?_) ?_
             ·skip
              obtain ⟨JL5, hj5, hn5, hw5, hs⟩ := Sat.freeze (e := 3) (sz := 1) (S := A1) (n := t1.1.length) (cap := c1) (m := 0) hs (by kernel_rfl) (Reps.ext (Imm.le_trans (Imm.le_trans (Imm.le_trans (Imm.le_trans (Imm.le_trans (Imm.le_trans (Imm.le_trans (Imm.le_trans (Imm.le_trans (Imm.le_trans (Imm.le_trans (Imm.le_trans (Imm.le_trans (Imm.le_trans (Imm.le_trans (Imm.le_trans (Imm.le_trans (Imm.le_trans (Imm.le_trans (Imm.le_trans (Imm.le_trans (Imm.le_trans (Imm.le_trans (Imm.le_trans (Imm.le_trans (Imm.le_trans (Imm.le_trans (Imm.le_trans (Imm.le_trans hi5 hi6) hi7) hi8) hi9) hi10) hi11) hi12) hi13) hi14) hi15) hi16) hi17) hi18) hi19) hi20) hi21) hi22) hi23) hi24) hi25) hi26) hi27) hi28) hi29) hi31) hi32) hi33) hi34) hi35) hp1) rfl
              exact (assign_VerifyDuals.calls k JL5 [[3, 5], [4, 7]] (some ⟨nx0 + 2, 0, none⟩) 2 t1.1 A1 c1 (⟨[3, 5], [0, 2]⟩ : S26) (some ⟨nx13, 0, none⟩) 2 (some ⟨nx13 + 1, 0, none⟩) 2 _ hs.im (Nat.le_of_ble_eq_true rfl) (Rd.ext hj5 (Rd.ext (Imm.le_trans (Imm.le_trans (Imm.le_trans (Imm.le_trans (Imm.le_trans (Imm.le_trans (Imm.le_trans (Imm.le_trans (Imm.le_trans (Imm.le_trans (Imm.le_trans (Imm.le_trans (Imm.le_trans (Imm.le_trans (Imm.le_trans (Imm.le_trans (Imm.le_trans (Imm.le_trans (Imm.le_trans (Imm.le_trans (Imm.le_trans (Imm.le_trans (Imm.le_trans (Imm.le_trans (Imm.le_trans (Imm.le_trans (Imm.le_trans (Imm.le_trans (Imm.le_trans (Imm.le_trans hi4 hi5) hi6) hi7) hi8) hi9) hi10) hi11) hi12) hi13) hi14) hi15) hi16) hi17) hi18) hi19) hi20) hi21) hi22) hi23) hi24) hi25) hi26) hi27) hi28) hi29) hi31) hi32) hi33) hi34) hi35) hr3)) hn5 hw5 (Nat.le_of_ble_eq_true rfl) (Rd.ext hj5 (Rd.ext hi35 hr25)) (Nat.le_of_ble_eq_true rfl) (Rd.ext hj5 hr26) t13 hA13).mono (fun e w' ⟨v, hv, hp⟩ => ⟨v, hv, JL5, hj5, hp⟩)
             rintro w v w' hs ⟨I', hle, J, rfl, hg⟩
             refine RL.resume (X' := [orow 3 1 A1 t1.1.length c1 cs1, orow 3 1 A4 t2.1.length c4 cs4, orow 3 1 A7 t3.1.length c7 cs7, orow 3 1 A10 t4.1.length c10 cs10]) rfl (hs.call (hg.back hle)) ?_
             clear hs hg hle I' J
             generalize w'.heap.size = nx14
             clear w w'
             refine RL.simK (K' := [(132, .bool t13), (2, .slice A1 t1.1.length c1), (1, .slice (some ⟨nx0 + 2, 0, none⟩) 2 2)]) [] (RFacts.nil _ _ _) 2 [.no, .no] (by kernel_rfl) (by kernel_rfl) ?_
             refine RL.cases t13 (fun hb => ?_) (fun hb => ?_)
             ·have hc := hb
              rw [hb]
              rw [if_pos hc] at H; clear hb
              refine RL.simP (K' := [(137, .agg #[.slice (some ⟨nx14, 0, none⟩) 2 2, .slice (some ⟨nx14 + 1, 0, none⟩) 2 2]), (134, .slice A1 t1.1.length c1), (133, .slice (some ⟨nx0 + 2, 0, none⟩) 2 2), (132, .bool true), (2, .slice A1 t1.1.length c1), (1, .slice (some ⟨nx0 + 2, 0, none⟩) 2 2)]) (nx' := nx14 + 2) (L' := [⟨nx1, [.slice A2 t1.2.f0.length c2, .slice A3 t1.2.f1.length c3], 26⟩, ⟨nx2, [.slice A5 t2.2.f0.length c5, .slice A6 t2.2.f1.length c6], 26⟩, ⟨nx3, [.slice A8 t3.2.f0.length c8, .slice A9 t3.2.f1.length c9], 26⟩, ⟨nx4, [.slice A11 t4.2.f0.length c11, .slice A12 t4.2.f1.length c12], 26⟩, ⟨nx14, [.int .i64 3, .int .i64 5], 2⟩, ⟨nx14 + 1, [.int .i64 0, .int .i64 1], 2⟩]) [] (RFacts.nil _ _ _) 5 [.no, .no, .no, .no, .no] (by kernel_rfl) (by kernel_rfl) ?_
              refine RL.freezeL (d := (Ty.int .i64)) (xs := [3, 5]) (b := ⟨nx14, [.int .i64 3, .int .i64 5], 2⟩) 4 (by kernel_rfl) ⟨_, _, rfl, rfl, ⟨_, _, rfl, rfl, rfl⟩⟩ (Nat.le_of_ble_eq_true rfl) (fun I36 hi36 hr27 => ?_)
              refine RL.freezeL (d := (Ty.int .i64)) (xs := [0, 1]) (b := ⟨nx14 + 1, [.int .i64 0, .int .i64 1], 2⟩) 4 (by kernel_rfl) ⟨_, _, rfl, rfl, ⟨_, _, rfl, rfl, rfl⟩⟩ (Nat.le_of_ble_eq_true rfl) (fun I37 hi37 hr28 => ?_)
              obtain ⟨t14, hA14, H⟩ := Option.bind_eq_some_iff.mp H
              refine RL.callP 20 [.slice (some ⟨nx0 + 2, 0, none⟩) 2 2, .slice A1 t1.1.length c1, .agg #[.slice (some ⟨nx14, 0, none⟩) 2 2, .slice (some ⟨nx14 + 1, 0, none⟩) 2 2]] (some 138) (fun w v w' => ∃ I', Imm.le I37 I' ∧ assign_VerifyDuals.Post I' w t14 v w') (by kernel_rfl) (by kernel_rfl) (fun w hs => ?_) ?_
              ·skip
               obtain ⟨JL6, hj6, hn6, hw6, hs⟩ := Sat.freeze (e := 3) (sz := 1) (S := A1) (n := t1.1.length) (cap := c1) (m := 0) hs (by kernel_rfl) (Reps.ext (Imm.le_trans (Imm.le_trans (Imm.le_trans (Imm.le_trans (Imm.le_trans (Imm.le_trans (Imm.le_trans (Imm.le_trans (Imm.le_trans (Imm.le_trans (Imm.le_trans (Imm.le_trans (Imm.le_trans (Imm.le_trans (Imm.le_trans (Imm.le_trans (Imm.le_trans (Imm.le_trans (Imm.le_trans (Imm.le_trans (Imm.le_trans (Imm.le_trans (Imm.le_trans (Imm.le_trans (Imm.le_trans (Imm.le_trans (Imm.le_trans (Imm.le_trans (Imm.le_trans (Imm.le_trans (Imm.le_trans hi5 hi6) hi7) hi8) hi9) hi10) hi11) hi12) hi13) hi14) hi15) hi16) hi17) hi18) hi19) hi20) hi21) hi22) hi23) hi24) hi25) hi26) hi27) hi28) hi29) hi31) hi32) hi33) hi34) hi35) hi36) hi37) hp1) rfl
               exact (assign_VerifyDuals.calls k JL6 [[3, 5], [4, 7]] (some ⟨nx0 + 2, 0, none⟩) 2 t1.1 A1 c1 (⟨[3, 5], [0, 1]⟩ : S26) (some ⟨nx14, 0, none⟩) 2 (some ⟨nx14 + 1, 0, none⟩) 2 _ hs.im (Nat.le_of_ble_eq_true rfl) (Rd.ext hj6 (Rd.ext (Imm.le_trans (Imm.le_trans (Imm.le_trans (Imm.le_trans (Imm.le_trans (Imm.le_trans (Imm.le_trans (Imm.le_trans (Imm.le_trans (Imm.le_trans (Imm.le_trans (Imm.le_trans (Imm.le_trans (Imm.le_trans (Imm.le_trans (Imm.le_trans (Imm.le_trans (Imm.le_trans (Imm.le_trans (Imm.le_trans (Imm.le_trans (Imm.le_trans (Imm.le_trans (Imm.le_trans (Imm.le_trans (Imm.le_trans (Imm.le_trans (Imm.le_trans (Imm.le_trans (Imm.le_trans (Imm.le_trans (Imm.le_trans hi4 hi5) hi6) hi7) hi8) hi9) hi10) hi11) hi12) hi13) hi14) hi15) hi16) hi17) hi18) hi19) hi20) hi21) hi22) hi23) hi24) hi25) hi26) hi27) hi28) hi29) hi31) hi32) hi33) hi34) hi35) hi36) hi37) hr3)) hn6 hw6 (Nat.le_of_ble_eq_true rfl) (Rd.ext hj6 (Rd.ext hi37 hr27)) (Nat.le_of_ble_eq_true rfl) (Rd.ext hj6 hr28) t14 hA14).mono (fun e w' ⟨v, hv, hp⟩ => ⟨v, hv, JL6, hj6, hp⟩)
              rintro w v w' hs ⟨I', hle, J, rfl, hg⟩
              refine RL.resume (X' := [orow 3 1 A1 t1.1.length c1 cs1, orow 3 1 A4 t2.1.length c4 cs4, orow 3 1 A7 t3.1.length c7 cs7, orow 3 1 A10 t4.1.length c10 cs10]) rfl (hs.call (hg.back hle)) ?_
              clear hs hg hle I' J
              generalize w'.heap.size = nx15
              clear w w'
              refine RL.simK (K' := [(141, .bool (!t14)), (2, .slice A1 t1.1.length c1), (1, .slice (some ⟨nx0 + 2, 0, none⟩) 2 2)]) [] (RFacts.nil _ _ _) 3 [.no, .no, .no] (by kernel_rfl) (by kernel_rfl) ?_
              refine RL.cases t14 (fun hb => ?_) (fun hb => ?_)
              ·have hc := hb
               rw [hb]
               rw [if_pos hc] at H; clear hb
               refine RL.simK (K' := [(0, .bool false)]) [] (RFacts.nil _ _ _) 38 (.no :: .no :: .no :: .no :: .no :: .no :: .no :: .no :: .no :: .no :: .no :: .no :: .no :: .no :: .no :: .no :: .no :: .no :: .no :: .no :: .no :: .no :: .no :: .no :: .no :: .no :: .no :: .no :: .no :: .no :: .no :: .no :: .no :: .no :: .no :: .no :: .no :: .no :: []) (by kernel_rfl) (by kernel_rfl) ?_
               refine RL.nil (by kernel_rfl) ?_
               obtain rfl := Option.some.inj H
               refine QN.sel (K' := [(0, .bool false)]) (L' := [⟨nx1, [.slice A2 t1.2.f0.length c2, .slice A3 t1.2.f1.length c3], 26⟩, ⟨nx2, [.slice A5 t2.2.f0.length c5, .slice A6 t2.2.f1.length c6], 26⟩, ⟨nx3, [.slice A8 t3.2.f0.length c8, .slice A9 t3.2.f1.length c9], 26⟩, ⟨nx4, [.slice A11 t4.2.f0.length c11, .slice A12 t4.2.f1.length c12], 26⟩]) [] (by kernel_rfl) (by kernel_rfl) (.cons_cons _ (.cons_cons _ (.cons_cons _ (.cons_cons _ .slnil)))) ?_
               refine QN.norm (X' := []) rfl rfl rfl (by kernel_rfl) ?_
               exact hJ1 _ _ _ _ _ ⟨false, rfl, rfl, rfl, (Imm.le_trans (Imm.le_trans (Imm.le_trans (Imm.le_trans (Imm.le_trans (Imm.le_trans hi31 hi32) hi33) hi34) hi35) hi36) hi37), HK1⟩
              ·have hc := (Bool.eq_false_iff.1 hb)
               rw [hb]
               rw [if_neg hc] at H; clear hb
               refine RL.simP (K' := [(146, .agg #[.slice (some ⟨nx15, 0, none⟩) 2 2, .slice (some ⟨nx15 + 1, 0, none⟩) 2 2]), (143, .slice A1 t1.1.length c1), (142, .slice (some ⟨nx0 + 2, 0, none⟩) 2 2), (141, .bool true), (1, .slice (some ⟨nx0 + 2, 0, none⟩) 2 2)]) (nx' := nx15 + 2) (L' := [⟨nx1, [.slice A2 t1.2.f0.length c2, .slice A3 t1.2.f1.length c3], 26⟩, ⟨nx2, [.slice A5 t2.2.f0.length c5, .slice A6 t2.2.f1.length c6], 26⟩, ⟨nx3, [.slice A8 t3.2.f0.length c8, .slice A9 t3.2.f1.length c9], 26⟩, ⟨nx4, [.slice A11 t4.2.f0.length c11, .slice A12 t4.2.f1.length c12], 26⟩, ⟨nx15, [.int .i64 4, .int .i64 5], 2⟩, ⟨nx15 + 1, [.int .i64 0, .int .i64 2], 2⟩]) [] (RFacts.nil _ _ _) 5 [.no, .no, .no, .no, .no] (by kernel_rfl) (by kernel_rfl) ?_
               refine RL.freezeL (d := (Ty.int .i64)) (xs := [4, 5]) (b := ⟨nx15, [.int .i64 4, .int .i64 5], 2⟩) 4 (by kernel_rfl) ⟨_, _, rfl, rfl, ⟨_, _, rfl, rfl, rfl⟩⟩ (Nat.le_of_ble_eq_true rfl) (fun I38 hi38 hr29 => ?_)
               refine RL.freezeL (d := (Ty.int .i64)) (xs := [0, 2]) (b := ⟨nx15 + 1, [.int .i64 0, .int .i64 2], 2⟩) 4 (by kernel_rfl) ⟨_, _, rfl, rfl, ⟨_, _, rfl, rfl, rfl⟩⟩ (Nat.le_of_ble_eq_true rfl) (fun I39 hi39 hr30 => ?_)
               obtain ⟨t15, hA15, H⟩ := Option.bind_eq_some_iff.mp H
               refine RL.callP 20 [.slice (some ⟨nx0 + 2, 0, none⟩) 2 2, .slice A1 t1.1.length c1, .agg #[.slice (some ⟨nx15, 0, none⟩) 2 2, .slice (some ⟨nx15 + 1, 0, none⟩) 2 2]] (some 147) (fun w v w' => ∃ I', Imm.le I39 I' ∧ assign_VerifyDuals.Post I' w t15 v w') (by kernel_rfl) (by kernel_rfl) (fun w hs => ?_) ?_
               ·skip
                obtain ⟨JL7, hj7, hn7, hw7, hs⟩ := Sat.freeze (e := 3) (sz := 1) (S := A1) (n := t1.1.length) (cap := c1) (m := 0) hs (by kernel_rfl) (Reps.ext (Imm.le_trans (Imm.le_trans (Imm.le_trans (Imm.le_trans (Imm.le_trans (Imm.le_trans (Imm.le_trans (Imm.le_trans (Imm.le_trans (Imm.le_trans (Imm.le_trans (Imm.le_trans (Imm.le_trans (Imm.le_trans (Imm.le_trans (Imm.le_trans (Imm.le_trans (Imm.le_trans (Imm.le_trans (Imm.le_trans (Imm.le_trans (Imm.le_trans (Imm.le_trans (Imm.le_trans (Imm.le_trans (Imm.le_trans (Imm.le_trans (Imm.le_trans (Imm.le_trans (Imm.le_trans (Imm.le_trans (Imm.le_trans (Imm.le_trans hi5 hi6) hi7) hi8) hi9) hi10) hi11) hi12) hi13) hi14) hi15) hi16) hi17) hi18) hi19) hi20) hi21) hi22) hi23) hi24) hi25) hi26) hi27) hi28) hi29) hi31) hi32) hi33) hi34) hi35) hi36) hi37) hi38) hi39) hp1) rfl
                exact (assign_VerifyDuals.calls k JL7 [[3, 5], [4, 7]] (some ⟨nx0 + 2, 0, none⟩) 2 t1.1 A1 c1 (⟨[4, 5], [0, 2]⟩ : S26) (some ⟨nx15, 0, none⟩) 2 (some ⟨nx15 + 1, 0, none⟩) 2 _ hs.im (Nat.le_of_ble_eq_true rfl) (Rd.ext hj7 (Rd.ext (Imm.le_trans (Imm.le_trans (Imm.le_trans (Imm.le_trans (Imm.le_trans (Imm.le_trans (Imm.le_trans (Imm.le_trans (Imm.le_trans (Imm.le_trans (Imm.le_trans (Imm.le_trans (Imm.le_trans (Imm.le_trans (Imm.le_trans (Imm.le_trans (Imm.le_trans (Imm.le_trans (Imm.le_trans (Imm.le_trans (Imm.le_trans (Imm.le_trans (Imm.le_trans (Imm.le_trans (Imm.le_trans (Imm.le_trans (Imm.le_trans (Imm.le_trans (Imm.le_trans (Imm.le_trans (Imm.le_trans (Imm.le_trans (Imm.le_trans (Imm.le_trans hi4 hi5) hi6) hi7) hi8) hi9) hi10) hi11) hi12) hi13) hi14) hi15) hi16) hi17) hi18) hi19) hi20) hi21) hi22) hi23) hi24) hi25) hi26) hi27) hi28) hi29) hi31) hi32) hi33) hi34) hi35) hi36) hi37) hi38) hi39) hr3)) hn7 hw7 (Nat.le_of_ble_eq_true rfl) (Rd.ext hj7 (Rd.ext hi39 hr29)) (Nat.le_of_ble_eq_true rfl) (Rd.ext hj7 hr30) t15 hA15).mono (fun e w' ⟨v, hv, hp⟩ => ⟨v, hv, JL7, hj7, hp⟩)
               rintro w v w' hs ⟨I', hle, J, rfl, hg⟩
               refine RL.resume (X' := [orow 3 1 A1 t1.1.length c1 cs1, orow 3 1 A4 t2.1.length c4 cs4, orow 3 1 A7 t3.1.length c7 cs7, orow 3 1 A10 t4.1.length c10 cs10]) rfl (hs.call (hg.back hle)) ?_
               clear hs hg hle I' J
               generalize w'.heap.size = nx16
               clear w w'
               refine RL.simK (K' := [(150, .bool (!t15)), (1, .slice (some ⟨nx0 + 2, 0, none⟩) 2 2)]) [] (RFacts.nil _ _ _) 3 [.no, .no, .no] (by kernel_rfl) (by kernel_rfl) ?_
               refine RL.cases t15 (fun hb => ?_) (fun hb => ?_)
               ·have hc := hb
                rw [hb]
                rw [if_pos hc] at H; clear hb
                refine RL.simK (K' := [(0, .bool false)]) [] (RFacts.nil _ _ _) 29 (.no :: .no :: .no :: .no :: .no :: .no :: .no :: .no :: .no :: .no :: .no :: .no :: .no :: .no :: .no :: .no :: .no :: .no :: .no :: .no :: .no :: .no :: .no :: .no :: .no :: .no :: .no :: .no :: .no :: []) (by kernel_rfl) (by kernel_rfl) ?_
                refine RL.nil (by kernel_rfl) ?_
                obtain rfl := Option.some.inj H
                refine QN.sel (K' := [(0, .bool false)]) (L' := [⟨nx1, [.slice A2 t1.2.f0.length c2, .slice A3 t1.2.f1.length c3], 26⟩, ⟨nx2, [.slice A5 t2.2.f0.length c5, .slice A6 t2.2.f1.length c6], 26⟩, ⟨nx3, [.slice A8 t3.2.f0.length c8, .slice A9 t3.2.f1.length c9], 26⟩, ⟨nx4, [.slice A11 t4.2.f0.length c11, .slice A12 t4.2.f1.length c12], 26⟩]) [] (by kernel_rfl) (by kernel_rfl) (.cons_cons _ (.cons_cons _ (.cons_cons _ (.cons_cons _ .slnil)))) ?_
                refine QN.norm (X' := []) rfl rfl rfl (by kernel_rfl) ?_
                exact hJ1 _ _ _ _ _ ⟨false, rfl, rfl, rfl, (Imm.le_trans (Imm.le_trans (Imm.le_trans (Imm.le_trans (Imm.le_trans (Imm.le_trans (Imm.le_trans (Imm.le_trans hi31 hi32) hi33) hi34) hi35) hi36) hi37) hi38) hi39), HK1⟩
               ·have hc := (Bool.eq_false_iff.1 hb)
                rw [hb]
                rw [if_neg hc] at H; clear hb
                refine RL.simP (K' := [(155, .agg #[.slice (some ⟨nx16 + 1, 0, none⟩) 2 2, .slice (some ⟨nx16 + 2, 0, none⟩) 2 2]), (152, .slice (some ⟨nx16, 0, none⟩) 2 2), (151, .slice (some ⟨nx0 + 2, 0, none⟩) 2 2), (150, .bool true), (1, .slice (some ⟨nx0 + 2, 0, none⟩) 2 2)]) (nx' := nx16 + 3) (L' := [⟨nx1, [.slice A2 t1.2.f0.length c2, .slice A3 t1.2.f1.length c3], 26⟩, ⟨nx2, [.slice A5 t2.2.f0.length c5, .slice A6 t2.2.f1.length c6], 26⟩, ⟨nx3, [.slice A8 t3.2.f0.length c8, .slice A9 t3.2.f1.length c9], 26⟩, ⟨nx4, [.slice A11 t4.2.f0.length c11, .slice A12 t4.2.f1.length c12], 26⟩, ⟨nx16, [.int .i64 1, .int .i64 0], 3⟩, ⟨nx16 + 1, [.int .i64 3, .int .i64 5], 2⟩, ⟨nx16 + 2, [.int .i64 0, .int .i64 2], 2⟩]) [] (RFacts.nil _ _ _) 5 [.no, .no, .no, .no, .no] (by kernel_rfl) (by kernel_rfl) ?_
                refine RL.freezeL (d := (Ty.int .i64)) (xs := [1, 0]) (b := ⟨nx16, [.int .i64 1, .int .i64 0], 3⟩) 4 (by kernel_rfl) ⟨_, _, rfl, rfl, ⟨_, _, rfl, rfl, rfl⟩⟩ (Nat.le_of_ble_eq_true rfl) (fun I40 hi40 hr31 => ?_)
                refine RL.freezeL (d := (Ty.int .i64)) (xs := [3, 5]) (b := ⟨nx16 + 1, [.int .i64 3, .int .i64 5], 2⟩) 4 (by kernel_rfl) ⟨_, _, rfl, rfl, ⟨_, _, rfl, rfl, rfl⟩⟩ (Nat.le_of_ble_eq_true rfl) (fun I41 hi41 hr32 => ?_)
                refine RL.freezeL (d := (Ty.int .i64)) (xs := [0, 2]) (b := ⟨nx16 + 2, [.int .i64 0, .int .i64 2], 2⟩) 4 (by kernel_rfl) ⟨_, _, rfl, rfl, ⟨_, _, rfl, rfl, rfl⟩⟩ (Nat.le_of_ble_eq_true rfl) (fun I42 hi42 hr33 => ?_)
                obtain ⟨t16, hA16, H⟩ := Option.bind_eq_some_iff.mp H
                refine RL.callP 20 [.slice (some ⟨nx0 + 2, 0, none⟩) 2 2, .slice (some ⟨nx16, 0, none⟩) 2 2, .agg #[.slice (some ⟨nx16 + 1, 0, none⟩) 2 2, .slice (some ⟨nx16 + 2, 0, none⟩) 2 2]] (some 156) (fun w => assign_VerifyDuals.Post I42 w t16) (by kernel_rfl) (by kernel_rfl) (fun w hs => assign_VerifyDuals.calls k I42 [[3, 5], [4, 7]] (some ⟨nx0 + 2, 0, none⟩) 2 [1, 0] (some ⟨nx16, 0, none⟩) 2 (⟨[3, 5], [0, 2]⟩ : S26) (some ⟨nx16 + 1, 0, none⟩) 2 (some ⟨nx16 + 2, 0, none⟩) 2 w hs.im (Nat.le_of_ble_eq_true rfl) (Rd.ext (Imm.le_trans (Imm.le_trans (Imm.le_trans (Imm.le_trans (Imm.le_trans (Imm.le_trans (Imm.le_trans (Imm.le_trans (Imm.le_trans (Imm.le_trans (Imm.le_trans (Imm.le_trans (Imm.le_trans (Imm.le_trans (Imm.le_trans (Imm.le_trans (Imm.le_trans (Imm.le_trans (Imm.le_trans (Imm.le_trans (Imm.le_trans (Imm.le_trans (Imm.le_trans (Imm.le_trans (Imm.le_trans (Imm.le_trans (Imm.le_trans (Imm.le_trans (Imm.le_trans (Imm.le_trans (Imm.le_trans (Imm.le_trans (Imm.le_trans (Imm.le_trans (Imm.le_trans (Imm.le_trans (Imm.le_trans hi4 hi5) hi6) hi7) hi8) hi9) hi10) hi11) hi12) hi13) hi14) hi15) hi16) hi17) hi18) hi19) hi20) hi21) hi22) hi23) hi24) hi25) hi26) hi27) hi28) hi29) hi31) hi32) hi33) hi34) hi35) hi36) hi37) hi38) hi39) hi40) hi41) hi42) hr3) (Nat.le_of_ble_eq_true rfl) (Rd.ext (Imm.le_trans hi41 hi42) hr31) (Nat.le_of_ble_eq_true rfl) (Rd.ext hi42 hr32) (Nat.le_of_ble_eq_true rfl) hr33 t16 hA16) ?_
                rintro w v w' hs ⟨I43, rfl, hg⟩
                have hi43 := hg.le
                refine RL.resume (X' := [orow 3 1 A1 t1.1.length c1 cs1, orow 3 1 A4 t2.1.length c4 cs4, orow 3 1 A7 t3.1.length c7 cs7, orow 3 1 A10 t4.1.length c10 cs10]) rfl (hs.call hg) ?_
                clear hs hg
                generalize w'.heap.size = nx17
                clear w w'
                refine RL.simK (K' := [(159, .bool (!t16)), (1, .slice (some ⟨nx0 + 2, 0, none⟩) 2 2)]) [] (RFacts.nil _ _ _) 3 [.no, .no, .no] (by kernel_rfl) (by kernel_rfl) ?_
                refine RL.cases t16 (fun hb => ?_) (fun hb => ?_)
                ·have hc := hb
                 rw [hb]
                 rw [if_pos hc] at H; clear hb
                 refine RL.simK (K' := [(0, .bool false)]) [] (RFacts.nil _ _ _) 20 [.no, .no, .no, .no, .no, .no, .no, .no, .no, .no, .no, .no, .no, .no, .no, .no, .no, .no, .no, .no] (by kernel_rfl) (by kernel_rfl) ?_
                 refine RL.nil (by kernel_rfl) ?_
                 obtain rfl := Option.some.inj H
                 refine QN.sel (K' := [(0, .bool false)]) (L' := [⟨nx1, [.slice A2 t1.2.f0.length c2, .slice A3 t1.2.f1.length c3], 26⟩, ⟨nx2, [.slice A5 t2.2.f0.length c5, .slice A6 t2.2.f1.length c6], 26⟩, ⟨nx3, [.slice A8 t3.2.f0.length c8, .slice A9 t3.2.f1.length c9], 26⟩, ⟨nx4, [.slice A11 t4.2.f0.length c11, .slice A12 t4.2.f1.length c12], 26⟩]) [] (by kernel_rfl) (by kernel_rfl) (.cons_cons _ (.cons_cons _ (.cons_cons _ (.cons_cons _ .slnil)))) ?_
                 refine QN.norm (X' := []) rfl rfl rfl (by kernel_rfl) ?_
                 exact hJ1 _ _ _ _ _ ⟨false, rfl, rfl, rfl, (Imm.le_trans (Imm.le_trans (Imm.le_trans (Imm.le_trans (Imm.le_trans (Imm.le_trans (Imm.le_trans (Imm.le_trans (Imm.le_trans (Imm.le_trans (Imm.le_trans (Imm.le_trans hi31 hi32) hi33) hi34) hi35) hi36) hi37) hi38) hi39) hi40) hi41) hi42) hi43), HK1⟩
                ·have hc := (Bool.eq_false_iff.1 hb)
                 rw [hb]
                 rw [if_neg hc] at H; clear hb
                 refine RL.simK (K' := [(160, .slice (some ⟨nx0 + 2, 0, none⟩) 2 2), (159, .bool true)]) [] (RFacts.nil _ _ _) 1 [.no] (by kernel_rfl) (by kernel_rfl) ?_
                 obtain ⟨t17, hA17, H⟩ := Option.bind_eq_some_iff.mp H
                 refine RL.callP 11 [.slice (some ⟨nx0 + 2, 0, none⟩) 2 2] (some 161) (fun w => assign_Valid.Post I43 w t17) (by kernel_rfl) (by kernel_rfl) (fun w hs => assign_Valid.calls k I43 [[3, 5], [4, 7]] (some ⟨nx0 + 2, 0, none⟩) 2 w hs.im (Nat.le_of_ble_eq_true rfl) (Rd.ext (Imm.le_trans (Imm.le_trans (Imm.le_trans (Imm.le_trans (Imm.le_trans (Imm.le_trans (Imm.le_trans (Imm.le_trans (Imm.le_trans (Imm.le_trans (Imm.le_trans (Imm.le_trans (Imm.le_trans (Imm.le_trans (Imm.le_trans (Imm.le_trans (Imm.le_trans (Imm.le_trans (Imm.le_trans (Imm.le_trans (Imm.le_trans (Imm.le_trans (Imm.le_trans (Imm.le_trans (Imm.le_trans (Imm.le_trans (Imm.le_trans (Imm.le_trans (Imm.le_trans (Imm.le_trans (Imm.le_trans (Imm.le_trans (Imm.le_trans (Imm.le_trans (Imm.le_trans (Imm.le_trans (Imm.le_trans (Imm.le_trans hi4 hi5) hi6) hi7) hi8) hi9) hi10) hi11) hi12) hi13) hi14) hi15) hi16) hi17) hi18) hi19) hi20) hi21) hi22) hi23) hi24) hi25) hi26) hi27) hi28) hi29) hi31) hi32) hi33) hi34) hi35) hi36) hi37) hi38) hi39) hi40) hi41) hi42) hi43) hr3) t17 hA17) ?_
                 rintro w v w' hs ⟨I44, rfl, hg⟩
                 have hi44 := hg.le
                 refine RL.resume (X' := [orow 3 1 A1 t1.1.length c1 cs1, orow 3 1 A4 t2.1.length c4 cs4, orow 3 1 A7 t3.1.length c7 cs7, orow 3 1 A10 t4.1.length c10 cs10]) rfl (hs.call hg) ?_
                 clear hs hg
                 generalize w'.heap.size = nx18
                 clear w w'
                 refine RL.simK (K' := [(163, .bool t17)]) [] (RFacts.nil _ _ _) 2 [.no, .no] (by kernel_rfl) (by kernel_rfl) ?_
                 refine RL.cases t17 (fun hb => ?_) (fun hb => ?_)
                 ·have hc := hb
                  rw [hb]
                  rw [if_pos hc] at H; clear hb
                  obtain ⟨t18, hA18, H⟩ := Option.bind_eq_some_iff.mp H
                  refine RL.callP 11 [.slice none 0 0] (some 164) (fun w => assign_Valid.Post I44 w t18) (by kernel_rfl) (by kernel_rfl) (fun w hs => assign_Valid.calls k I44 [] none 0 w hs.im (Nat.le_refl _) (Rd.nil _ _ _) t18 hA18) ?_
                  rintro w v w' hs ⟨I45, rfl, hg⟩
                  have hi45 := hg.le
                  refine RL.resume (X' := [orow 3 1 A1 t1.1.length c1 cs1, orow 3 1 A4 t2.1.length c4 cs4, orow 3 1 A7 t3.1.length c7 cs7, orow 3 1 A10 t4.1.length c10 cs10]) rfl (hs.call hg) ?_
                  clear hs hg
                  generalize w'.heap.size = nx19
                  clear w w'
                  refine RL.simK (K' := [(166, .bool t18)]) [] (RFacts.nil _ _ _) 2 [.no, .no] (by kernel_rfl) (by kernel_rfl) ?_
                  refine RL.cases t18 (fun hb => ?_) (fun hb => ?_)
                  ·have hc := hb
                   rw [hb]
                   rw [if_pos hc] at H; clear hb
                   refine RL.simP (K' := [(169, .slice (some ⟨nx19 + 2, 0, none⟩) 2 2), (166, .bool true)]) (nx' := nx19 + 3) (L' := [⟨nx1, [.slice A2 t1.2.f0.length c2, .slice A3 t1.2.f1.length c3], 26⟩, ⟨nx2, [.slice A5 t2.2.f0.length c5, .slice A6 t2.2.f1.length c6], 26⟩, ⟨nx3, [.slice A8 t3.2.f0.length c8, .slice A9 t3.2.f1.length c9], 26⟩, ⟨nx4, [.slice A11 t4.2.f0.length c11, .slice A12 t4.2.f1.length c12], 26⟩, ⟨nx19, [.int .i64 1], 2⟩, ⟨nx19 + 1, [], 2⟩, ⟨nx19 + 2, [.slice (some ⟨nx19, 0, none⟩) 1 1, .slice (some ⟨nx19 + 1, 0, none⟩) 0 0], 24⟩]) [] (RFacts.nil _ _ _) 3 [.no, .no, .no] (by kernel_rfl) (by kernel_rfl) ?_
                   refine RL.freezeL (d := (Ty.int .i64)) (xs := [1]) (b := ⟨nx19, [.int .i64 1], 2⟩) 4 (by kernel_rfl) ⟨_, _, rfl, rfl, rfl⟩ (Nat.le_of_ble_eq_true rfl) (fun I46 hi46 hr34 => ?_)
                   refine RL.freezeL (d := (Ty.int .i64)) (xs := []) (b := ⟨nx19 + 1, [], 2⟩) 4 (by kernel_rfl) rfl (Nat.le_of_ble_eq_true rfl) (fun I47 hi47 hr35 => ?_)
                   refine RL.freezeL (d := (Ty.slice (Ty.int .i64))) (xs := [[1], []]) (b := ⟨nx19 + 2, [.slice (some ⟨nx19, 0, none⟩) 1 1, .slice (some ⟨nx19 + 1, 0, none⟩) 0 0], 24⟩) 4 (by kernel_rfl) ⟨_, _, rfl, ⟨_, _, rfl, (Nat.le_of_ble_eq_true rfl), (Rd.ext hi47 hr34)⟩, ⟨_, _, rfl, ⟨_, _, rfl, (Nat.le_of_ble_eq_true rfl), hr35⟩, rfl⟩⟩ (Nat.le_of_ble_eq_true rfl) (fun I48 hi48 hr36 => ?_)
                   obtain ⟨t19, hA19, H⟩ := Option.bind_eq_some_iff.mp H
                   refine RL.callP 11 [.slice (some ⟨nx19 + 2, 0, none⟩) 2 2] (some 170) (fun w => assign_Valid.Post I48 w t19) (by kernel_rfl) (by kernel_rfl) (fun w hs => assign_Valid.calls k I48 [[1], []] (some ⟨nx19 + 2, 0, none⟩) 2 w hs.im (Nat.le_of_ble_eq_true rfl) hr36 t19 hA19) ?_
                   rintro w v w' hs ⟨I49, rfl, hg⟩
                   have hi49 := hg.le
                   refine RL.resume (X' := [orow 3 1 A1 t1.1.length c1 cs1, orow 3 1 A4 t2.1.length c4 cs4, orow 3 1 A7 t3.1.length c7 cs7, orow 3 1 A10 t4.1.length c10 cs10]) rfl (hs.call hg) ?_
                   clear hs hg
                   generalize w'.heap.size = nx20
                   clear w w'
                   refine RL.simK (K' := [(173, .bool (!t19))]) [] (RFacts.nil _ _ _) 3 [.no, .no, .no] (by kernel_rfl) (by kernel_rfl) ?_
                   refine RL.cases t19 (fun hb => ?_) (fun hb => ?_)
                   ·have hc := hb
                    rw [hb]
                    rw [if_pos hc] at H; clear hb
                    refine RL.simK (K' := [(0, .bool false)]) [] (RFacts.nil _ _ _) 6 [.no, .no, .no, .no, .no, .no] (by kernel_rfl) (by kernel_rfl) ?_
                    refine RL.nil (by kernel_rfl) ?_
                    obtain rfl := Option.some.inj H
                    refine QN.sel (K' := [(0, .bool false)]) (L' := [⟨nx1, [.slice A2 t1.2.f0.length c2, .slice A3 t1.2.f1.length c3], 26⟩, ⟨nx2, [.slice A5 t2.2.f0.length c5, .slice A6 t2.2.f1.length c6], 26⟩, ⟨nx3, [.slice A8 t3.2.f0.length c8, .slice A9 t3.2.f1.length c9], 26⟩, ⟨nx4, [.slice A11 t4.2.f0.length c11, .slice A12 t4.2.f1.length c12], 26⟩]) [] (by kernel_rfl) (by kernel_rfl) (.cons_cons _ (.cons_cons _ (.cons_cons _ (.cons_cons _ .slnil)))) ?_
                    refine QN.norm (X' := []) rfl rfl rfl (by kernel_rfl) ?_
                    exact hJ1 _ _ _ _ _ ⟨false, rfl, rfl, rfl, (Imm.le_trans (Imm.le_trans (Imm.le_trans (Imm.le_trans (Imm.le_trans (Imm.le_trans (Imm.le_trans (Imm.le_trans (Imm.le_trans (Imm.le_trans (Imm.le_trans (Imm.le_trans (Imm.le_trans (Imm.le_trans (Imm.le_trans (Imm.le_trans (Imm.le_trans (Imm.le_trans hi31 hi32) hi33) hi34) hi35) hi36) hi37) hi38) hi39) hi40) hi41) hi42) hi43) hi44) hi45) hi46) hi47) hi48) hi49), HK1⟩
                   ·have hc := (Bool.eq_false_iff.1 hb)
                    rw [hb]
                    rw [if_neg hc] at H; clear hb
                    refine RL.simP (K' := [(175, .slice (some ⟨nx20 + 1, 0, none⟩) 1 1), (173, .bool true)]) (nx' := nx20 + 2) (L' := [⟨nx1, [.slice A2 t1.2.f0.length c2, .slice A3 t1.2.f1.length c3], 26⟩, ⟨nx2, [.slice A5 t2.2.f0.length c5, .slice A6 t2.2.f1.length c6], 26⟩, ⟨nx3, [.slice A8 t3.2.f0.length c8, .slice A9 t3.2.f1.length c9], 26⟩, ⟨nx4, [.slice A11 t4.2.f0.length c11, .slice A12 t4.2.f1.length c12], 26⟩, ⟨nx20, [.int .i64 (-1)], 2⟩, ⟨nx20 + 1, [.slice (some ⟨nx20, 0, none⟩) 1 1], 24⟩]) [] (RFacts.nil _ _ _) 2 [.no, .no] (by kernel_rfl) (by kernel_rfl) ?_
                    refine RL.freezeL (d := (Ty.int .i64)) (xs := [(-1)]) (b := ⟨nx20, [.int .i64 (-1)], 2⟩) 4 (by kernel_rfl) ⟨_, _, rfl, rfl, rfl⟩ (Nat.le_of_ble_eq_true rfl) (fun I50 hi50 hr37 => ?_)
                    refine RL.freezeL (d := (Ty.slice (Ty.int .i64))) (xs := [[(-1)]]) (b := ⟨nx20 + 1, [.slice (some ⟨nx20, 0, none⟩) 1 1], 24⟩) 4 (by kernel_rfl) ⟨_, _, rfl, ⟨_, _, rfl, (Nat.le_of_ble_eq_true rfl), hr37⟩, rfl⟩ (Nat.le_of_ble_eq_true rfl) (fun I51 hi51 hr38 => ?_)
                    obtain ⟨t20, hA20, H⟩ := Option.bind_eq_some_iff.mp H
                    refine RL.callP 11 [.slice (some ⟨nx20 + 1, 0, none⟩) 1 1] (some 176) (fun w => assign_Valid.Post I51 w t20) (by kernel_rfl) (by kernel_rfl) (fun w hs => assign_Valid.calls k I51 [[(-1)]] (some ⟨nx20 + 1, 0, none⟩) 1 w hs.im (Nat.le_of_ble_eq_true rfl) hr38 t20 hA20) ?_
                    rintro w v w' hs ⟨I52, rfl, hg⟩
                    have hi52 := hg.le
                    refine RL.resume (X' := [orow 3 1 A1 t1.1.length c1 cs1, orow 3 1 A4 t2.1.length c4 cs4, orow 3 1 A7 t3.1.length c7 cs7, orow 3 1 A10 t4.1.length c10 cs10]) rfl (hs.call hg) ?_
                    clear hs hg
                    generalize w'.heap.size = nx21
                    clear w w'
                    refine RL.simK (K' := [(0, .bool (!t20))]) [] (RFacts.nil _ _ _) 3 [.no, .no, .no] (by kernel_rfl) (by kernel_rfl) ?_
                    refine RL.nil (by kernel_rfl) ?_
                    obtain rfl := Option.some.inj H
                    refine QN.sel (K' := [(0, .bool (!t20))]) (L' := [⟨nx1, [.slice A2 t1.2.f0.length c2, .slice A3 t1.2.f1.length c3], 26⟩, ⟨nx2, [.slice A5 t2.2.f0.length c5, .slice A6 t2.2.f1.length c6], 26⟩, ⟨nx3, [.slice A8 t3.2.f0.length c8, .slice A9 t3.2.f1.length c9], 26⟩, ⟨nx4, [.slice A11 t4.2.f0.length c11, .slice A12 t4.2.f1.length c12], 26⟩]) [] (by kernel_rfl) (by kernel_rfl) (.cons_cons _ (.cons_cons _ (.cons_cons _ (.cons_cons _ .slnil)))) ?_
                    refine QN.norm (X' := []) rfl rfl rfl (by kernel_rfl) ?_
                    exact hJ1 _ _ _ _ _ ⟨(!t20), rfl, rfl, rfl, (Imm.le_trans (Imm.le_trans (Imm.le_trans (Imm.le_trans (Imm.le_trans (Imm.le_trans (Imm.le_trans (Imm.le_trans (Imm.le_trans (Imm.le_trans (Imm.le_trans (Imm.le_trans (Imm.le_trans (Imm.le_trans (Imm.le_trans (Imm.le_trans (Imm.le_trans (Imm.le_trans (Imm.le_trans (Imm.le_trans (Imm.le_trans hi31 hi32) hi33) hi34) hi35) hi36) hi37) hi38) hi39) hi40) hi41) hi42) hi43) hi44) hi45) hi46) hi47) hi48) hi49) hi50) hi51) hi52), HK1⟩
                  ·have hc := (Bool.eq_false_iff.1 hb)
                   rw [hb]
                   rw [if_neg hc] at H; clear hb
                   refine RL.simK (K' := [(0, .bool false)]) [] (RFacts.nil _ _ _) 13 [.no, .no, .no, .no, .no, .no, .no, .no, .no, .no, .no, .no, .no] (by kernel_rfl) (by kernel_rfl) ?_
                   refine RL.nil (by kernel_rfl) ?_
                   obtain rfl := Option.some.inj H
                   refine QN.sel (K' := [(0, .bool false)]) (L' := [⟨nx1, [.slice A2 t1.2.f0.length c2, .slice A3 t1.2.f1.length c3], 26⟩, ⟨nx2, [.slice A5 t2.2.f0.length c5, .slice A6 t2.2.f1.length c6], 26⟩, ⟨nx3, [.slice A8 t3.2.f0.length c8, .slice A9 t3.2.f1.length c9], 26⟩, ⟨nx4, [.slice A11 t4.2.f0.length c11, .slice A12 t4.2.f1.length c12], 26⟩]) [] (by kernel_rfl) (by kernel_rfl) (.cons_cons _ (.cons_cons _ (.cons_cons _ (.cons_cons _ .slnil)))) ?_
                   refine QN.norm (X' := []) rfl rfl rfl (by kernel_rfl) ?_
                   exact hJ1 _ _ _ _ _ ⟨false, rfl, rfl, rfl, (Imm.le_trans (Imm.le_trans (Imm.le_trans (Imm.le_trans (Imm.le_trans (Imm.le_trans (Imm.le_trans (Imm.le_trans (Imm.le_trans (Imm.le_trans (Imm.le_trans (Imm.le_trans (Imm.le_trans (Imm.le_trans hi31 hi32) hi33) hi34) hi35) hi36) hi37) hi38) hi39) hi40) hi41) hi42) hi43) hi44) hi45), HK1⟩
                 ·have hc := (Bool.eq_false_iff.1 hb)
                  rw [hb]
                  rw [if_neg hc] at H; clear hb
                  refine RL.simK (K' := [(0, .bool false)]) [] (RFacts.nil _ _ _) 16 [.no, .no, .no, .no, .no, .no, .no, .no, .no, .no, .no, .no, .no, .no, .no, .no] (by kernel_rfl) (by kernel_rfl) ?_
                  refine RL.nil (by kernel_rfl) ?_
                  obtain rfl := Option.some.inj H
                  refine QN.sel (K' := [(0, .bool false)]) (L' := [⟨nx1, [.slice A2 t1.2.f0.length c2, .slice A3 t1.2.f1.length c3], 26⟩, ⟨nx2, [.slice A5 t2.2.f0.length c5, .slice A6 t2.2.f1.length c6], 26⟩, ⟨nx3, [.slice A8 t3.2.f0.length c8, .slice A9 t3.2.f1.length c9], 26⟩, ⟨nx4, [.slice A11 t4.2.f0.length c11, .slice A12 t4.2.f1.length c12], 26⟩]) [] (by kernel_rfl) (by kernel_rfl) (.cons_cons _ (.cons_cons _ (.cons_cons _ (.cons_cons _ .slnil)))) ?_
                  refine QN.norm (X' := []) rfl rfl rfl (by kernel_rfl) ?_
                  exact hJ1 _ _ _ _ _ ⟨false, rfl, rfl, rfl, (Imm.le_trans (Imm.le_trans (Imm.le_trans (Imm.le_trans (Imm.le_trans (Imm.le_trans (Imm.le_trans (Imm.le_trans (Imm.le_trans (Imm.le_trans (Imm.le_trans (Imm.le_trans (Imm.le_trans hi31 hi32) hi33) hi34) hi35) hi36) hi37) hi38) hi39) hi40) hi41) hi42) hi43) hi44), HK1⟩
             ·have hc := (Bool.eq_false_iff.1 hb)
              rw [hb]
              rw [if_neg hc] at H; clear hb
              refine RL.simK (K' := [(0, .bool false)]) [] (RFacts.nil _ _ _) 47 (.no :: .no :: .no :: .no :: .no :: .no :: .no :: .no :: .no :: .no :: .no :: .no :: .no :: .no :: .no :: .no :: .no :: .no :: .no :: .no :: .no :: .no :: .no :: .no :: .no :: .no :: .no :: .no :: .no :: .no :: .no :: .no :: .no :: .no :: .no :: .no :: .no :: .no :: .no :: .no :: .no :: .no :: .no :: .no :: .no :: .no :: .no :: []) (by kernel_rfl) (by kernel_rfl) ?_
              refine RL.nil (by kernel_rfl) ?_
              obtain rfl := Option.some.inj H
              refine QN.sel (K' := [(0, .bool false)]) (L' := [⟨nx1, [.slice A2 t1.2.f0.length c2, .slice A3 t1.2.f1.length c3], 26⟩, ⟨nx2, [.slice A5 t2.2.f0.length c5, .slice A6 t2.2.f1.length c6], 26⟩, ⟨nx3, [.slice A8 t3.2.f0.length c8, .slice A9 t3.2.f1.length c9], 26⟩, ⟨nx4, [.slice A11 t4.2.f0.length c11, .slice A12 t4.2.f1.length c12], 26⟩]) [] (by kernel_rfl) (by kernel_rfl) (.cons_cons _ (.cons_cons _ (.cons_cons _ (.cons_cons _ .slnil)))) ?_
              refine QN.norm (X' := []) rfl rfl rfl (by kernel_rfl) ?_
              exact hJ1 _ _ _ _ _ ⟨false, rfl, rfl, rfl, (Imm.le_trans (Imm.le_trans (Imm.le_trans (Imm.le_trans hi31 hi32) hi33) hi34) hi35), HK1⟩
          ·have hc := (Bool.eq_false_iff.1 hb)
           rw [hb]
           rw [if_neg hc] at H; clear hb
           refine RL.simK (K' := [(0, .bool false)]) [] (RFacts.nil _ _ _) 63 (.no :: .no :: .no :: .no :: .no :: .no :: .no :: .no :: .no :: .no :: .no :: .no :: .no :: .no :: .no :: .no :: .no :: .no :: .no :: .no :: .no :: .no :: .no :: .no :: .no :: .no :: .no :: .no :: .no :: .no :: .no :: .no :: .no :: .no :: .no :: .no :: .no :: .no :: .no :: .no :: .no :: .no :: .no :: .no :: .no :: .no :: .no :: .no :: .no :: .no :: .no :: .no :: .no :: .no :: .no :: .no :: .no :: .no :: .no :: .no :: .no :: .no :: .no :: []) (by kernel_rfl) (by kernel_rfl) ?_
           refine RL.nil (by kernel_rfl) ?_
           obtain rfl := Option.some.inj H
           refine QN.sel (K' := [(0, .bool false)]) (L' := [⟨nx1, [.slice A2 t1.2.f0.length c2, .slice A3 t1.2.f1.length c3], 26⟩, ⟨nx2, [.slice A5 t2.2.f0.length c5, .slice A6 t2.2.f1.length c6], 26⟩, ⟨nx3, [.slice A8 t3.2.f0.length c8, .slice A9 t3.2.f1.length c9], 26⟩, ⟨nx4, [.slice A11 t4.2.f0.length c11, .slice A12 t4.2.f1.length c12], 26⟩]) [] (by kernel_rfl) (by kernel_rfl) (.cons_cons _ (.cons_cons _ (.cons_cons _ (.cons_cons _ .slnil)))) ?_
           refine QN.norm (X' := []) rfl rfl rfl (by kernel_rfl) ?_
           exact hJ1 _ _ _ _ _ ⟨false, rfl, rfl, rfl, (Imm.le_trans (Imm.le_trans hi31 hi32) hi33), HK1⟩
         ·have hc := (beq_eq_false_iff_ne.1 hb)
          rw [hb]
          rw [if_neg hc] at H; clear hb
          refine RL.simK (K' := [(0, .bool false)]) [] (RFacts.nil _ _ _) 66 (.no :: .no :: .no :: .no :: .no :: .no :: .no :: .no :: .no :: .no :: .no :: .no :: .no :: .no :: .no :: .no :: .no :: .no :: .no :: .no :: .no :: .no :: .no :: .no :: .no :: .no :: .no :: .no :: .no :: .no :: .no :: .no :: .no :: .no :: .no :: .no :: .no :: .no :: .no :: .no :: .no :: .no :: .no :: .no :: .no :: .no :: .no :: .no :: .no :: .no :: .no :: .no :: .no :: .no :: .no :: .no :: .no :: .no :: .no :: .no :: .no :: .no :: .no :: .no :: .no :: .no :: []) (by kernel_rfl) (by kernel_rfl) ?_
          refine RL.nil (by kernel_rfl) ?_
          obtain rfl := Option.some.inj H
          refine QN.sel (K' := [(0, .bool false)]) (L' := [⟨nx1, [.slice A2 t1.2.f0.length c2, .slice A3 t1.2.f1.length c3], 26⟩, ⟨nx2, [.slice A5 t2.2.f0.length c5, .slice A6 t2.2.f1.length c6], 26⟩, ⟨nx3, [.slice A8 t3.2.f0.length c8, .slice A9 t3.2.f1.length c9], 26⟩, ⟨nx4, [.slice A11 t4.2.f0.length c11, .slice A12 t4.2.f1.length c12], 26⟩]) [] (by kernel_rfl) (by kernel_rfl) (.cons_cons _ (.cons_cons _ (.cons_cons _ (.cons_cons _ .slnil)))) ?_
          refine QN.norm (X' := []) rfl rfl rfl (by kernel_rfl) ?_
          exact hJ1 _ _ _ _ _ ⟨false, rfl, rfl, rfl, (Imm.le_trans (Imm.le_trans hi31 hi32) hi33), HK1⟩
        ·have hc := (Bool.eq_false_iff.1 hb)
         rw [hb]
         rw [if_neg hc] at H; clear hb
         refine RL.simK (K' := [(0, .bool false)]) [] (RFacts.nil _ _ _) 70 (.no :: .no :: .no :: .no :: .no :: .no :: .no :: .no :: .no :: .no :: .no :: .no :: .no :: .no :: .no :: .no :: .no :: .no :: .no :: .no :: .no :: .no :: .no :: .no :: .no :: .no :: .no :: .no :: .no :: .no :: .no :: .no :: .no :: .no :: .no :: .no :: .no :: .no :: .no :: .no :: .no :: .no :: .no :: .no :: .no :: .no :: .no :: .no :: .no :: .no :: .no :: .no :: .no :: .no :: .no :: .no :: .no :: .no :: .no :: .no :: .no :: .no :: .no :: .no :: .no :: .no :: .no :: .no :: .no :: .no :: []) (by kernel_rfl) (by kernel_rfl) ?_
         refine RL.nil (by kernel_rfl) ?_
         obtain rfl := Option.some.inj H
         refine QN.sel (K' := [(0, .bool false)]) (L' := [⟨nx1, [.slice A2 t1.2.f0.length c2, .slice A3 t1.2.f1.length c3], 26⟩, ⟨nx2, [.slice A5 t2.2.f0.length c5, .slice A6 t2.2.f1.length c6], 26⟩, ⟨nx3, [.slice A8 t3.2.f0.length c8, .slice A9 t3.2.f1.length c9], 26⟩, ⟨nx4, [.slice A11 t4.2.f0.length c11, .slice A12 t4.2.f1.length c12], 26⟩]) [] (by kernel_rfl) (by kernel_rfl) (.cons_cons _ (.cons_cons _ (.cons_cons _ (.cons_cons _ .slnil)))) ?_
         refine QN.norm (X' := []) rfl rfl rfl (by kernel_rfl) ?_
         exact hJ1 _ _ _ _ _ ⟨false, rfl, rfl, rfl, (Imm.le_trans (Imm.le_trans hi31 hi32) hi33), HK1⟩
       ·have hc := (beq_eq_false_iff_ne.1 hb)
        rw [hb]
        rw [if_neg hc] at H; clear hb
        refine RL.simK (K' := [(0, .bool false)]) [] (RFacts.nil _ _ _) 73 (.no :: .no :: .no :: .no :: .no :: .no :: .no :: .no :: .no :: .no :: .no :: .no :: .no :: .no :: .no :: .no :: .no :: .no :: .no :: .no :: .no :: .no :: .no :: .no :: .no :: .no :: .no :: .no :: .no :: .no :: .no :: .no :: .no :: .no :: .no :: .no :: .no :: .no :: .no :: .no :: .no :: .no :: .no :: .no :: .no :: .no :: .no :: .no :: .no :: .no :: .no :: .no :: .no :: .no :: .no :: .no :: .no :: .no :: .no :: .no :: .no :: .no :: .no :: .no :: .no :: .no :: .no :: .no :: .no :: .no :: .no :: .no :: .no :: []) (by kernel_rfl) (by kernel_rfl) ?_
        refine RL.nil (by kernel_rfl) ?_
        obtain rfl := Option.some.inj H
        refine QN.sel (K' := [(0, .bool false)]) (L' := [⟨nx1, [.slice A2 t1.2.f0.length c2, .slice A3 t1.2.f1.length c3], 26⟩, ⟨nx2, [.slice A5 t2.2.f0.length c5, .slice A6 t2.2.f1.length c6], 26⟩, ⟨nx3, [.slice A8 t3.2.f0.length c8, .slice A9 t3.2.f1.length c9], 26⟩, ⟨nx4, [.slice A11 t4.2.f0.length c11, .slice A12 t4.2.f1.length c12], 26⟩]) [] (by kernel_rfl) (by kernel_rfl) (.cons_cons _ (.cons_cons _ (.cons_cons _ (.cons_cons _ .slnil)))) ?_
        refine QN.norm (X' := []) rfl rfl rfl (by kernel_rfl) ?_
        exact hJ1 _ _ _ _ _ ⟨false, rfl, rfl, rfl, (Imm.le_trans (Imm.le_trans hi31 hi32) hi33), HK1⟩
      ·have hc := (beq_eq_false_iff_ne.1 hb)
       rw [hb]
       rw [if_neg hc] at H; clear hb
       refine RL.simK (K' := [(0, .bool false)]) [] (RFacts.nil _ _ _) 77 (.no :: .no :: .no :: .no :: .no :: .no :: .no :: .no :: .no :: .no :: .no :: .no :: .no :: .no :: .no :: .no :: .no :: .no :: .no :: .no :: .no :: .no :: .no :: .no :: .no :: .no :: .no :: .no :: .no :: .no :: .no :: .no :: .no :: .no :: .no :: .no :: .no :: .no :: .no :: .no :: .no :: .no :: .no :: .no :: .no :: .no :: .no :: .no :: .no :: .no :: .no :: .no :: .no :: .no :: .no :: .no :: .no :: .no :: .no :: .no :: .no :: .no :: .no :: .no :: .no :: .no :: .no :: .no :: .no :: .no :: .no :: .no :: .no :: .no :: .no :: .no :: .no :: []) (by kernel_rfl) (by kernel_rfl) ?_
       refine RL.nil (by kernel_rfl) ?_
       obtain rfl := Option.some.inj H
       refine QN.sel (K' := [(0, .bool false)]) (L' := [⟨nx1, [.slice A2 t1.2.f0.length c2, .slice A3 t1.2.f1.length c3], 26⟩, ⟨nx2, [.slice A5 t2.2.f0.length c5, .slice A6 t2.2.f1.length c6], 26⟩, ⟨nx3, [.slice A8 t3.2.f0.length c8, .slice A9 t3.2.f1.length c9], 26⟩, ⟨nx4, [.slice A11 t4.2.f0.length c11, .slice A12 t4.2.f1.length c12], 26⟩]) [] (by kernel_rfl) (by kernel_rfl) (.cons_cons _ (.cons_cons _ (.cons_cons _ (.cons_cons _ .slnil)))) ?_
       refine QN.norm (X' := []) rfl rfl rfl (by kernel_rfl) ?_
       exact hJ1 _ _ _ _ _ ⟨false, rfl, rfl, rfl, (Imm.le_trans (Imm.le_trans hi31 hi32) hi33), HK1⟩
     ·have hc := (Bool.eq_false_iff.1 hb)
      rw [hb]
      rw [if_neg hc] at H; clear hb
      refine RL.simK (K' := [(0, .bool false)]) [] (RFacts.nil _ _ _) 90 (.no :: .no :: .no :: .no :: .no :: .no :: .no :: .no :: .no :: .no :: .no :: .no :: .no :: .no :: .no :: .no :: .no :: .no :: .no :: .no :: .no :: .no :: .no :: .no :: .no :: .no :: .no :: .no :: .no :: .no :: .no :: .no :: .no :: .no :: .no :: .no :: .no :: .no :: .no :: .no :: .no :: .no :: .no :: .no :: .no :: .no :: .no :: .no :: .no :: .no :: .no :: .no :: .no :: .no :: .no :: .no :: .no :: .no :: .no :: .no :: .no :: .no :: .no :: .no :: .no :: .no :: .no :: .no :: .no :: .no :: .no :: .no :: .no :: .no :: .no :: .no :: .no :: .no :: .no :: .no :: .no :: .no :: .no :: .no :: .no :: .no :: .no :: .no :: .no :: .no :: []) (by kernel_rfl) (by kernel_rfl) ?_
      refine RL.nil (by kernel_rfl) ?_
      obtain rfl := Option.some.inj H
      refine QN.sel (K' := [(0, .bool false)]) (L' := [⟨nx1, [.slice A2 t1.2.f0.length c2, .slice A3 t1.2.f1.length c3], 26⟩, ⟨nx2, [.slice A5 t2.2.f0.length c5, .slice A6 t2.2.f1.length c6], 26⟩, ⟨nx3, [.slice A8 t3.2.f0.length c8, .slice A9 t3.2.f1.length c9], 26⟩, ⟨nx4, [.slice A11 t4.2.f0.length c11, .slice A12 t4.2.f1.length c12], 26⟩]) [] (by kernel_rfl) (by kernel_rfl) (.cons_cons _ (.cons_cons _ (.cons_cons _ (.cons_cons _ .slnil)))) ?_
      refine QN.norm (X' := []) rfl rfl rfl (by kernel_rfl) ?_
      exact hJ1 _ _ _ _ _ ⟨false, rfl, rfl, rfl, (Imm.le_trans (Imm.le_trans hi31 hi32) hi33), HK1⟩
    ·have hc := (Bool.eq_false_iff.1 hb)
     rw [hb]
     rw [if_neg hc] at H; clear hb
     refine RL.simK (K' := [(0, .bool false)]) [] (RFacts.nil _ _ _) 95 (.no :: .no :: .no :: .no :: .no :: .no :: .no :: .no :: .no :: .no :: .no :: .no :: .no :: .no :: .no :: .no :: .no :: .no :: .no :: .no :: .no :: .no :: .no :: .no :: .no :: .no :: .no :: .no :: .no :: .no :: .no :: .no :: .no :: .no :: .no :: .no :: .no :: .no :: .no :: .no :: .no :: .no :: .no :: .no :: .no :: .no :: .no :: .no :: .no :: .no :: .no :: .no :: .no :: .no :: .no :: .no :: .no :: .no :: .no :: .no :: .no :: .no :: .no :: .no :: .no :: .no :: .no :: .no :: .no :: .no :: .no :: .no :: .no :: .no :: .no :: .no :: .no :: .no :: .no :: .no :: .no :: .no :: .no :: .no :: .no :: .no :: .no :: .no :: .no :: .no :: .no :: .no :: .no :: .no :: .no :: []) (by kernel_rfl) (by kernel_rfl) ?_
     refine RL.nil (by kernel_rfl) ?_
     obtain rfl := Option.some.inj H
     refine QN.sel (K' := [(0, .bool false)]) (L' := [⟨nx1, [.slice A2 t1.2.f0.length c2, .slice A3 t1.2.f1.length c3], 26⟩, ⟨nx2, [.slice A5 t2.2.f0.length c5, .slice A6 t2.2.f1.length c6], 26⟩, ⟨nx3, [.slice A8 t3.2.f0.length c8, .slice A9 t3.2.f1.length c9], 26⟩, ⟨nx4, [.slice A11 t4.2.f0.length c11, .slice A12 t4.2.f1.length c12], 26⟩]) [] (by kernel_rfl) (by kernel_rfl) (.cons_cons _ (.cons_cons _ (.cons_cons _ (.cons_cons _ .slnil)))) ?_
     refine QN.norm (X' := []) rfl rfl rfl (by kernel_rfl) ?_
     exact hJ1 _ _ _ _ _ ⟨false, rfl, rfl, rfl, (Imm.le_trans hi31 hi32), HK1⟩
   ·have hc := (Bool.eq_false_iff.1 hb)
    rw [hb]
    rw [if_neg hc] at H; clear hb
    refine RL.simK (K' := [(0, .bool false)]) [] (RFacts.nil _ _ _) 100 (.no :: .no :: .no :: .no :: .no :: .no :: .no :: .no :: .no :: .no :: .no :: .no :: .no :: .no :: .no :: .no :: .no :: .no :: .no :: .no :: .no :: .no :: .no :: .no :: .no :: .no :: .no :: .no :: .no :: .no :: .no :: .no :: .no :: .no :: .no :: .no :: .no :: .no :: .no :: .no :: .no :: .no :: .no :: .no :: .no :: .no :: .no :: .no :: .no :: .no :: .no :: .no :: .no :: .no :: .no :: .no :: .no :: .no :: .no :: .no :: .no :: .no :: .no :: .no :: .no :: .no :: .no :: .no :: .no :: .no :: .no :: .no :: .no :: .no :: .no :: .no :: .no :: .no :: .no :: .no :: .no :: .no :: .no :: .no :: .no :: .no :: .no :: .no :: .no :: .no :: .no :: .no :: .no :: .no :: .no :: .no :: .no :: .no :: .no :: .no :: []) (by kernel_rfl) (by kernel_rfl) ?_
    refine RL.nil (by kernel_rfl) ?_
    obtain rfl := Option.some.inj H
    refine QN.sel (K' := [(0, .bool false)]) (L' := [⟨nx1, [.slice A2 t1.2.f0.length c2, .slice A3 t1.2.f1.length c3], 26⟩, ⟨nx2, [.slice A5 t2.2.f0.length c5, .slice A6 t2.2.f1.length c6], 26⟩, ⟨nx3, [.slice A8 t3.2.f0.length c8, .slice A9 t3.2.f1.length c9], 26⟩, ⟨nx4, [.slice A11 t4.2.f0.length c11, .slice A12 t4.2.f1.length c12], 26⟩]) [] (by kernel_rfl) (by kernel_rfl) (.cons_cons _ (.cons_cons _ (.cons_cons _ (.cons_cons _ .slnil)))) ?_
    refine QN.norm (X' := []) rfl rfl rfl (by kernel_rfl) ?_
    exact hJ1 _ _ _ _ _ ⟨false, rfl, rfl, rfl, hi31, HK1⟩
  ·have hc := (Bool.eq_false_iff.1 hb)
   rw [hb]
   rw [if_neg hc] at H; clear hb
   refine RL.simK (K' := [(0, .bool false)]) [] (RFacts.nil _ _ _) 106 (.no :: .no :: .no :: .no :: .no :: .no :: .no :: .no :: .no :: .no :: .no :: .no :: .no :: .no :: .no :: .no :: .no :: .no :: .no :: .no :: .no :: .no :: .no :: .no :: .no :: .no :: .no :: .no :: .no :: .no :: .no :: .no :: .no :: .no :: .no :: .no :: .no :: .no :: .no :: .no :: .no :: .no :: .no :: .no :: .no :: .no :: .no :: .no :: .no :: .no :: .no :: .no :: .no :: .no :: .no :: .no :: .no :: .no :: .no :: .no :: .no :: .no :: .no :: .no :: .no :: .no :: .no :: .no :: .no :: .no :: .no :: .no :: .no :: .no :: .no :: .no :: .no :: .no :: .no :: .no :: .no :: .no :: .no :: .no :: .no :: .no :: .no :: .no :: .no :: .no :: .no :: .no :: .no :: .no :: .no :: .no :: .no :: .no :: .no :: .no :: .no :: .no :: .no :: .no :: .no :: .no :: []) (by kernel_rfl) (by kernel_rfl) ?_
   refine RL.nil (by kernel_rfl) ?_
   obtain rfl := Option.some.inj H
   refine QN.sel (K' := [(0, .bool false)]) (L' := [⟨nx1, [.slice A2 t1.2.f0.length c2, .slice A3 t1.2.f1.length c3], 26⟩, ⟨nx2, [.slice A5 t2.2.f0.length c5, .slice A6 t2.2.f1.length c6], 26⟩, ⟨nx3, [.slice A8 t3.2.f0.length c8, .slice A9 t3.2.f1.length c9], 26⟩, ⟨nx4, [.slice A11 t4.2.f0.length c11, .slice A12 t4.2.f1.length c12], 26⟩]) [] (by kernel_rfl) (by kernel_rfl) (.cons_cons _ (.cons_cons _ (.cons_cons _ (.cons_cons _ .slnil)))) ?_
   refine QN.norm (X' := []) rfl rfl rfl (by kernel_rfl) ?_
   exact hJ1 _ _ _ _ _ ⟨false, rfl, rfl, rfl, hi31, HK1⟩

end Go.Proofs.Ytdmhbcgmimfjcaa
namespace Go.Proofs.Ytdmhbcgmimfjcaa.hun
open Go Go.Proofs.Ytdmhbcgmimfjcaa Go.Proofs.Ytdmhbcgmimfjcaa.RW
set_option maxRecDepth 1000000
theorem sane (k : Nat) : armillarylaw22_sanity.f (k + 60) = some true := by kernel_rfl
end Go.Proofs.Ytdmhbcgmimfjcaa.hun
