/- Words of the walk, the functions' walks and plain laws, joined; no conditions beyond those that the theorems name. -/
import Derived.Test.YtieakigoinebdaaX32
import Derived.Test.YtieakigoinebdaaX33
namespace Go.Proofs.Ytieakigoinebdaa
open Go Go.Proofs.Ytieakigoinebdaa.RW
set_option linter.unusedVariables false
set_option maxRecDepth 100000
set_option maxHeartbeats 8000000

/-! ### armillaryref27_AppendVarint: function 48, armillary/armillaryref27.AppendVarint -/
noncomputable def K48_0 : Code := cBody Try.f48
noncomputable def K48_1 : Code := cL K48_0
noncomputable def O48_1 : List Oper := cOps K48_1
noncomputable def K48_3 : Code := cR K48_0
noncomputable def K48_4 : Code := cL K48_3
noncomputable def O48_4 : List Oper := cOps K48_4
noncomputable def K48_6 : Code := cR K48_3
noncomputable def K48_7 : Code := cL K48_6
noncomputable def K48_8 : Code := cL K48_7
noncomputable def O48_8 : List Oper := cOps K48_8
noncomputable def K48_10 : Code := cR K48_7
noncomputable def K48_11 : Code := cL K48_10
noncomputable def O48_11 : List Oper := cOps K48_11
noncomputable def K48_13 : Code := cR K48_10
noncomputable def K48_14 : Code := cR K48_6
noncomputable def K48_15 : Code := cL K48_14
noncomputable def O48_15 : List Oper := cOps K48_15
noncomputable def K48_17 : Code := cR K48_14
noncomputable def K48_18 : Code := cL K48_17
noncomputable def K48_19 : Code := cL K48_18
noncomputable def K48_20 : Code := cL K48_19
noncomputable def K48_21 : Code := cL K48_20
noncomputable def K48_22 : Code := cL K48_21
noncomputable def O48_22 : List Oper := cOps K48_22
noncomputable def K48_24 : Code := cR K48_21
noncomputable def K48_25 : Code := cL K48_24
noncomputable def K48_26 : Code := cR K48_24
noncomputable def K48_27 : Code := cR K48_20
noncomputable def K48_28 : Code := cL K48_27
noncomputable def K48_29 : Code := cL K48_28
noncomputable def O48_29 : List Oper := cOps K48_29
noncomputable def K48_31 : Code := cR K48_28
noncomputable def O48_31 : List Oper := cOps K48_31
noncomputable def K48_33 : Code := cR K48_17
noncomputable def K48_34 : Code := cL K48_33
noncomputable def O48_34 : List Oper := cOps K48_34
noncomputable def K48_36 : Code := cR K48_33
def armillaryref27_AppendVarint.k1  : Int × List Int → Option (List Int)
 | (x2, x3) => (if (x3.length + [W .u8 (x2)].length) * 1 ≤ 140737488355328 then (some (x3 ++ [W .u8 (x2)])) else none)
def armillaryref27_AppendVarint.l1 : Nat → Int → (List Int) → Option (Int × List Int)
 | 0, _, _ => none
 | k + 1, x4, x5 => (if x4 ≥ 128 then (if (x5.length + [bOr .u8 (W .u8 (x4)) 128].length) * 1 ≤ 140737488355328 then (armillaryref27_AppendVarint.l1 k (Int.fdiv x4 128) (x5 ++ [bOr .u8 (W .u8 (x4)) 128])) else none) else (some (x4, x5)))
def armillaryref27_AppendVarint.k2 (k : Nat) (a0 : List Int) (x1 : Int) : Option (List Int) := (if (([] : List Int).length + a0.length) * 1 ≤ 140737488355328 then ((armillaryref27_AppendVarint.l1 k x1 (([] : List Int) ++ a0)).bind (armillaryref27_AppendVarint.k1)) else none)
def armillaryref27_AppendVarint.f (k : Nat) (a0 : List Int) (a1 : Int) : Option (List Int) := ((if a1 < 0 then (some (bXor .u64 18446744073709551615 (W .u64 ((W .u64 (a1)) * 2)))) else (some (W .u64 ((W .u64 (a1)) * 2)))).bind (armillaryref27_AppendVarint.k2 k a0))
def armillaryref27_AppendVarint.Post (I : Imm) (w : World) (r : List Int) (v : Value) (w' : World) : Prop :=
 ∃ (J : Imm) (A0 : Option Addr) (c0 : Nat) (cs0 : List Value), v = .slice A0 r.length c0 ∧ Got w w' I J [orow 5 1 A0 r.length c0 cs0] ∧ Reps (Ty.int .u8) J r cs0
theorem armillaryref27_AppendVarint.calls (k : Nat) (I0 : Imm) (a0 : List Int) (Ap0 : Option Addr) (cp0 : Nat) (a1 : Int) (w : World) (hI : I0.at_ w) (hlp0 : a0.length ≤ cp0) (hrp0 : Rd (Ty.int .u8) I0 Ap0 a0) (r : List Int) (h : armillaryref27_AppendVarint.f k a0 a1 = some r) :
  Calls Try.prog 48 [.slice Ap0 a0.length cp0, .int .i64 a1].toArray w fun e w' => ∃ v, e = .returned v ∧ armillaryref27_AppendVarint.Post I0 w r v w' := by
 have H : ((if a1 < 0 then (some (bXor .u64 18446744073709551615 (W .u64 ((W .u64 (a1)) * 2)))) else (some (W .u64 ((W .u64 (a1)) * 2)))).bind (armillaryref27_AppendVarint.k2 k a0)) = some r := h
 clear h
 refine calls_body Try.func48 (by kernel_rfl) 32 (by kernel_rfl) (by kernel_rfl) ⟨w, fun _ => False, I0⟩ I0 [] [(0, .slice Ap0 a0.length cp0), (1, .int .i64 a1)] (by kernel_rfl) (Sat.start w _ I0 hI) ?_
 generalize w.heap.size = nx0
 show OK _ K48_0 _ _ _ _ _ _ _ _
 refine OK.seq K48_1 K48_3 (by kernel_rfl) ?_
 refine OK.region 0 O48_1 (by kernel_rfl) ?_
 refine RL.simK (K' := [(0, .slice Ap0 a0.length cp0), (1, .int .i64 a1)]) [] (RFacts.nil _ _ _) 1 [.no] (by kernel_rfl) (by kernel_rfl) ?_
 refine RL.nil (by kernel_rfl) ?_
 refine QN.then_ ?_
 refine OK.seq K48_4 K48_6 (by kernel_rfl) ?_
 refine OK.region 1 O48_4 (by kernel_rfl) ?_
 refine RL.simK (K' := [(5, .int .u64 (W .u64 ((W .u64 (a1)) * 2))), (0, .slice Ap0 a0.length cp0), (1, .int .i64 a1)]) [] (RFacts.nil _ _ _) 4 [.no, .no, .no, .no] (by kernel_rfl) (by kernel_rfl) ?_
 refine RL.nil (by kernel_rfl) ?_
 refine QN.then_ ?_
 refine OK.seq K48_7 K48_14 (by kernel_rfl) ?_
 refine OK.seq K48_8 K48_10 (by kernel_rfl) ?_
 refine OK.region 2 O48_8 (by kernel_rfl) ?_
 refine RL.simK (K' := [(11, .bool (decide (a1 < 0))), (5, .int .u64 (W .u64 ((W .u64 (a1)) * 2))), (0, .slice Ap0 a0.length cp0)]) [] (RFacts.nil _ _ _) 2 [.no, .no] (by kernel_rfl) (by kernel_rfl) ?_
 refine RL.nil (by kernel_rfl) ?_
 refine QN.then_ ?_
 refine OK.join (fun K' I' _ L' X' => ∃ (x1 : Int), K' = [(0, .slice Ap0 a0.length cp0), (5, .int .u64 x1)] ∧ L' = [] ∧ X' = [] ∧ Imm.le I0 I' ∧ armillaryref27_AppendVarint.k2 k a0 x1 = some r) ?_ ?_
 ·rintro _ I1 nx1 _ _ ⟨x1, rfl, rfl, rfl, hi1, H⟩
  replace H : (if (([] : List Int).length + a0.length) * 1 ≤ 140737488355328 then ((armillaryref27_AppendVarint.l1 k x1 (([] : List Int) ++ a0)).bind (armillaryref27_AppendVarint.k1)) else none) = some r := H
  refine QN.then_ ?_
  refine OK.seq K48_15 K48_17 (by kernel_rfl) ?_
  refine OK.region 4 O48_15 (by kernel_rfl) ?_
  refine RL.simP (K' := [(15, .slice Ap0 a0.length cp0), (14, .slice (some ⟨nx1, 0, none⟩) 0 0), (5, .int .u64 x1)]) (nx' := nx1 + 1) (L' := [⟨nx1, [], 5⟩]) [] (RFacts.nil _ _ _) 2 [.no, .no] (by kernel_rfl) (by kernel_rfl) ?_
  refine RL.toRow (b := ⟨nx1, [], 5⟩) 0 0 1 (by kernel_rfl) (by kernel_rfl) (by decide) ?_
  have hp1 : Reps (Ty.int .u8) I1 ([] : List Int) [] := rfl
  refine RL.norm (L' := []) (X' := [orow 5 1 (some ⟨nx1, 0, none⟩) (([] : List Int).length) 0 []]) rfl rfl (by kernel_rfl) (by kernel_rfl) ?_
  by_cases hz1 : (([] : List Int).length + a0.length) * 1 ≤ 140737488355328
  case neg => rw [if_neg hz1] at H; cases H
  rw [if_pos hz1] at H
  refine RL.appendR (T := 28) (e := 5) (S := (some ⟨nx1, 0, none⟩)) (S2 := Ap0) 1 1 28 0 cp0 [] (Ty.int .u8) ([] : List Int) a0 0 (some 16) (by kernel_rfl) (by kernel_rfl) (by kernel_rfl) (by kernel_rfl) (by kernel_rfl) (by decide) (by kernel_rfl) hp1 (Rd.ext hi1 hrp0) hz1 (by omega) (fun A1 c1 nx2 cs1 hp2 => ?_)
  refine RL.sub (K' := [(16, .slice A1 ((([] : List Int) ++ a0).length) c1), (15, .slice Ap0 a0.length cp0), (14, .slice (some ⟨nx1, 0, none⟩) 0 0), (5, .int .u64 x1)]) (L' := []) (X' := [orow 5 1 A1 ((([] : List Int) ++ a0).length) c1 cs1]) (by kernel_rfl) (.refl _) (.refl _) ?_
  refine RL.simK (K' := [(6, .slice A1 ((([] : List Int) ++ a0).length) c1), (5, .int .u64 x1)]) [] (RFacts.nil _ _ _) 1 [.no] (by kernel_rfl) (by kernel_rfl) ?_
  refine RL.nil (by kernel_rfl) ?_
  refine QN.then_ ?_
  refine OK.seq K48_18 K48_33 (by kernel_rfl) ?_
  refine OK.join (fun K' I' _ L' X' => ∃ (x2 : Int) (x3 : List Int) (A2 : Option Addr) (c2 : Nat) (cs2 : List Value), K' = [(5, .int .u64 x2), (6, .slice A2 x3.length c2)] ∧ L' = [] ∧ X' = [orow 5 1 A2 x3.length c2 cs2] ∧ Imm.le I1 I' ∧ Reps (Ty.int .u8) I' x3 cs2 ∧ armillaryref27_AppendVarint.k1 (x2, x3) = some r) ?_ ?_
  ·rintro _ I2 nx3 _ _ ⟨x2, x3, A2, c2, cs2, rfl, rfl, rfl, hi2, hp3, H⟩
   replace H : (if (x3.length + [W .u8 (x2)].length) * 1 ≤ 140737488355328 then (some (x3 ++ [W .u8 (x2)])) else none) = some r := H
   refine QN.then_ ?_
   refine OK.seq K48_34 K48_36 (by kernel_rfl) ?_
   refine OK.region 8 O48_34 (by kernel_rfl) ?_
   refine RL.simP (K' := [(30, .slice (some ⟨nx3, 0, none⟩) 1 1), (27, .slice A2 x3.length c2)]) (nx' := nx3 + 1) (L' := [⟨nx3, [.int .u8 (W .u8 (x2))], 5⟩]) [] (RFacts.nil _ _ _) 4 [.no, .no, .no, .no] (by kernel_rfl) (by kernel_rfl) ?_
   by_cases hz2 : (x3.length + [W .u8 (x2)].length) * 1 ≤ 140737488355328
   case neg => rw [if_neg hz2] at H; cases H
   rw [if_pos hz2] at H
   refine RL.appendB (T := 28) (e := 5) (S := A2) 1 1 28 c2 0 1 nx3 5 cs2 [.int .u8 (W .u8 (x2))] (Ty.int .u8) x3 [W .u8 (x2)] 0 (some 31) (by kernel_rfl) (by kernel_rfl) (by kernel_rfl) (by kernel_rfl) (by kernel_rfl) (by decide) (by kernel_rfl) hp3 (by kernel_rfl) ⟨_, _, rfl, rfl, rfl⟩ hz2 (by omega) (fun A3 c3 nx4 cs3 hp4 => ?_)
   refine RL.sub (K' := [(31, .slice A3 ((x3 ++ [W .u8 (x2)]).length) c3), (30, .slice (some ⟨nx3, 0, none⟩) 1 1)]) (L' := [⟨nx3, [.int .u8 (W .u8 (x2))], 5⟩]) (X' := [orow 5 1 A3 ((x3 ++ [W .u8 (x2)]).length) c3 cs3]) (by kernel_rfl) (.refl _) (.refl _) ?_
   refine RL.simK (K' := [(4, .slice A3 ((x3 ++ [W .u8 (x2)]).length) c3)]) [] (RFacts.nil _ _ _) 1 [.no] (by kernel_rfl) (by kernel_rfl) ?_
   refine RL.nil (by kernel_rfl) ?_
   refine QN.then_ ?_
   refine OK.ret (by kernel_rfl) ?_
   obtain rfl := Option.some.inj H
   refine QN.body rfl [] (RFacts.nil _ _ _) (.no) (.slice A3 ((x3 ++ [W .u8 (x2)]).length) c3) (by kernel_rfl) (by kernel_rfl) (by kernel_rfl) ?_ _ (.inr rfl)
   exact fun w' hs' => ⟨_, rfl, I2, A3, c3, cs3, rfl, hs'.got _ (.cons_cons _ .slnil), hp4⟩
  ·intro Q_1 hJ2 hQ2
   obtain ⟨y2, H, HK2⟩ := Option.bind_eq_some_iff.mp H
   refine OK.block 0 K48_19 (by kernel_rfl) ?_
   refine OK.sub (K' := [(5, .int .u64 x1), (6, .slice A1 ((([] : List Int) ++ a0).length) c1)]) (L' := []) (by kernel_rfl) .slnil (.refl _) ?_
   refine OK.loopInv K48_20 (by kernel_rfl) (fun n_ K' I' _ L' X' => ∃ (x4 : Int) (x5 : List Int) (A4 : Option Addr) (c4 : Nat) (cs4 : List Value), K' = [(5, .int .u64 x4), (6, .slice A4 x5.length c4)] ∧ L' = [] ∧ X' = [orow 5 1 A4 x5.length c4 cs4] ∧ Imm.le I1 I' ∧ Reps (Ty.int .u8) I' x5 cs4 ∧ armillaryref27_AppendVarint.l1 n_ x4 x5 = some y2) k ⟨x1, (([] : List Int) ++ a0), A1, c1, cs1, rfl, rfl, rfl, (Imm.le_refl _), hp2, H⟩ ?_ ?_
   ·rintro _ _ _ _ _ ⟨x4, x5, A4, c4, cs4, rfl, rfl, rfl, _, hp5, H⟩
    cases H
   ·rintro kq1 _ I3 nx5 _ _ ⟨x4, x5, A4, c4, cs4, rfl, rfl, rfl, hi3, hp5, H⟩ Q_l1 hJ3 hQ3
    replace H : (if x4 ≥ 128 then (if (x5.length + [bOr .u8 (W .u8 (x4)) 128].length) * 1 ≤ 140737488355328 then (armillaryref27_AppendVarint.l1 kq1 (Int.fdiv x4 128) (x5 ++ [bOr .u8 (W .u8 (x4)) 128])) else none) else (some (x4, x5))) = some y2 := H
    refine OK.seq K48_21 K48_27 (by kernel_rfl) ?_
    refine OK.seq K48_22 K48_24 (by kernel_rfl) ?_
    refine OK.region 5 O48_22 (by kernel_rfl) ?_
    refine RL.simK (K' := [(18, .bool (decide (x4 ≥ 128))), (5, .int .u64 x4), (6, .slice A4 x5.length c4)]) [] (RFacts.nil _ _ _) 2 [.no, .no] (by kernel_rfl) (by kernel_rfl) ?_
    refine RL.nil (by kernel_rfl) ?_
    refine QN.then_ ?_
    refine OK.cond (.tmp 18) K48_25 K48_26 (decide (x4 ≥ 128)) (by kernel_rfl) (by kernel_rfl) (by kernel_rfl) (fun hb => ?_) (fun hb => ?_)
    ·skip
     have hc := (of_decide_eq_true hb)
     rw [if_pos hc] at H
     clear hb
     refine OK.skip (by kernel_rfl) ?_
     refine QN.then_ ?_
     refine OK.block 1 K48_28 (by kernel_rfl) ?_
     refine OK.seq K48_29 K48_31 (by kernel_rfl) ?_
     refine OK.region 6 O48_29 (by kernel_rfl) ?_
     refine RL.simP (K' := [(23, .slice (some ⟨nx5, 0, none⟩) 1 1), (19, .slice A4 x5.length c4), (5, .int .u64 x4), (6, .slice A4 x5.length c4)]) (nx' := nx5 + 1) (L' := [⟨nx5, [.int .u8 (bOr .u8 (W .u8 (x4)) 128)], 5⟩]) [] (RFacts.nil _ _ _) 5 [.no, .no, .no, .no, .no] (by kernel_rfl) (by kernel_rfl) ?_
     by_cases hz3 : (x5.length + [bOr .u8 (W .u8 (x4)) 128].length) * 1 ≤ 140737488355328
     case neg => rw [if_neg hz3] at H; cases H
     rw [if_pos hz3] at H
     refine RL.appendB (T := 28) (e := 5) (S := A4) 1 1 28 c4 0 1 nx5 5 cs4 [.int .u8 (bOr .u8 (W .u8 (x4)) 128)] (Ty.int .u8) x5 [bOr .u8 (W .u8 (x4)) 128] 0 (some 24) (by kernel_rfl) (by kernel_rfl) (by kernel_rfl) (by kernel_rfl) (by kernel_rfl) (by decide) (by kernel_rfl) hp5 (by kernel_rfl) ⟨_, _, rfl, rfl, rfl⟩ hz3 (by omega) (fun A5 c5 nx6 cs5 hp6 => ?_)
     refine RL.sub (K' := [(24, .slice A5 ((x5 ++ [bOr .u8 (W .u8 (x4)) 128]).length) c5), (23, .slice (some ⟨nx5, 0, none⟩) 1 1), (5, .int .u64 x4)]) (L' := [⟨nx5, [.int .u8 (bOr .u8 (W .u8 (x4)) 128)], 5⟩]) (X' := [orow 5 1 A5 ((x5 ++ [bOr .u8 (W .u8 (x4)) 128]).length) c5 cs5]) (by kernel_rfl) (.refl _) (.refl _) ?_
     refine RL.simK (K' := [(6, .slice A5 ((x5 ++ [bOr .u8 (W .u8 (x4)) 128]).length) c5), (5, .int .u64 x4)]) [] (RFacts.nil _ _ _) 1 [.no] (by kernel_rfl) (by kernel_rfl) ?_
     refine RL.nil (by kernel_rfl) ?_
     refine QN.then_ ?_
     refine OK.region 7 O48_31 (by kernel_rfl) ?_
     refine RL.simK (K' := [(5, .int .u64 (Int.fdiv x4 128)), (6, .slice A5 ((x5 ++ [bOr .u8 (W .u8 (x4)) 128]).length) c5)]) [] (RFacts.nil _ _ _) 3 [.no, .no, .no] (by kernel_rfl) (by kernel_rfl) ?_
     refine RL.nil (by kernel_rfl) ?_
     refine QN.blkN ?_
     refine QN.sub (K' := [(5, .int .u64 (Int.fdiv x4 128)), (6, .slice A5 ((x5 ++ [bOr .u8 (W .u8 (x4)) 128]).length) c5)]) (L' := []) (by kernel_rfl) (.cons _ .slnil) (.refl _) ?_
     exact hJ3 _ _ _ _ _ ⟨Int.fdiv x4 128, (x5 ++ [bOr .u8 (W .u8 (x4)) 128]), A5, c5, cs5, rfl, rfl, rfl, hi3, hp6, H⟩
    ·skip
     have hc := (of_decide_eq_false hb)
     rw [if_neg hc] at H
     clear hb
     refine OK.exit 0 (by kernel_rfl) ?_
     refine QN.thenE ?_
     refine QN.outE hQ3 ?_
     refine QN.blkE ?_
     obtain rfl := Option.some.inj H
     refine QN.sub (K' := [(5, .int .u64 x4), (6, .slice A4 x5.length c4)]) (L' := []) (by kernel_rfl) .slnil (.refl _) ?_
     exact hJ2 _ _ _ _ _ ⟨x4, x5, A4, c4, cs4, rfl, rfl, rfl, hi3, hp5, HK2⟩
 ·intro Q_2 hJ1 hQ1
  obtain ⟨y1, H, HK1⟩ := Option.bind_eq_some_iff.mp H
  refine OK.cond (.tmp 11) K48_11 K48_13 (decide (a1 < 0)) (by kernel_rfl) (by kernel_rfl) (by kernel_rfl) (fun hb => ?_) (fun hb => ?_)
  ·skip
   have hc := (of_decide_eq_true hb)
   rw [if_pos hc] at H
   clear hb
   refine OK.region 3 O48_11 (by kernel_rfl) ?_
   refine RL.simK (K' := [(5, .int .u64 (bXor .u64 18446744073709551615 (W .u64 ((W .u64 (a1)) * 2)))), (0, .slice Ap0 a0.length cp0)]) [] (RFacts.nil _ _ _) 3 [.no, .no, .no] (by kernel_rfl) (by kernel_rfl) ?_
   refine RL.nil (by kernel_rfl) ?_
   obtain rfl := Option.some.inj H
   refine QN.sub (K' := [(0, .slice Ap0 a0.length cp0), (5, .int .u64 (bXor .u64 18446744073709551615 (W .u64 ((W .u64 (a1)) * 2))))]) (L' := []) (by kernel_rfl) .slnil (.refl _) ?_
   exact hJ1 _ _ _ _ _ ⟨bXor .u64 18446744073709551615 (W .u64 ((W .u64 (a1)) * 2)), rfl, rfl, rfl, (Imm.le_refl _), HK1⟩
  ·skip
   have hc := (of_decide_eq_false hb)
   rw [if_neg hc] at H
   clear hb
   refine OK.skip (by kernel_rfl) ?_
   obtain rfl := Option.some.inj H
   refine QN.sub (K' := [(0, .slice Ap0 a0.length cp0), (5, .int .u64 (W .u64 ((W .u64 (a1)) * 2)))]) (L' := []) (by kernel_rfl) .slnil (.refl _) ?_
   exact hJ1 _ _ _ _ _ ⟨W .u64 ((W .u64 (a1)) * 2), rfl, rfl, rfl, (Imm.le_refl _), HK1⟩

end Go.Proofs.Ytieakigoinebdaa
namespace Go.Proofs.Ytieakigoinebdaa
open Go Go.Proofs.Ytieakigoinebdaa.RW
set_option linter.unusedVariables false
set_option maxRecDepth 100000
set_option maxHeartbeats 8000000

/-! ### armillaryref27_EncodeEntry: function 40, armillary/armillaryref27.EncodeEntry -/
noncomputable def K40_0 : Code := cBody Try.f40
noncomputable def K40_1 : Code := cL K40_0
noncomputable def O40_1 : List Oper := cOps K40_1
noncomputable def K40_3 : Code := cR K40_0
noncomputable def K40_4 : Code := cL K40_3
noncomputable def K40_5 : Code := cL K40_4
noncomputable def O40_5 : List Oper := cOps K40_5
noncomputable def K40_7 : Code := cR K40_4
noncomputable def K40_8 : Code := cL K40_7
noncomputable def K40_9 : Code := cL K40_8
noncomputable def O40_9 : List Oper := cOps K40_9
noncomputable def K40_11 : Code := cR K40_8
noncomputable def K40_12 : Code := cR K40_7
noncomputable def K40_13 : Code := cR K40_3
noncomputable def K40_14 : Code := cL K40_13
noncomputable def O40_14 : List Oper := cOps K40_14
noncomputable def K40_16 : Code := cR K40_13
noncomputable def K40_17 : Code := cL K40_16
noncomputable def O40_17 : List Oper := cOps K40_17
noncomputable def K40_19 : Code := cR K40_16
noncomputable def K40_20 : Code := cL K40_19
noncomputable def O40_20 : List Oper := cOps K40_20
noncomputable def K40_22 : Code := cR K40_19
noncomputable def K40_23 : Code := cL K40_22
noncomputable def O40_23 : List Oper := cOps K40_23
noncomputable def K40_25 : Code := cR K40_22
noncomputable def K40_26 : Code := cL K40_25
noncomputable def O40_26 : List Oper := cOps K40_26
noncomputable def K40_28 : Code := cR K40_25
def armillaryref27_EncodeEntry.f (k : Nat) (a0 : S30) : Option (List Int × Int) := ((armillaryref27_ValidEntry.f a0).bind fun t1 => (if t1 = true then ((armillaryref27_AppendVarint.f k [] a0.f0).bind fun t2 => ((armillaryref27_AppendVarint.f k t2 (a0.f1.size : Int)).bind fun t3 => (if a0.f1.size ≤ 9223372036854775807 then (if (t3.length + (bytesOf a0.f1).length) * 1 ≤ 140737488355328 then ((armillaryref27_AppendVarint.f k (t3 ++ (bytesOf a0.f1)) (a0.f2.length : Int)).bind fun t4 => (if (t4.length + a0.f2.length) * 1 ≤ 140737488355328 then (some ((t4 ++ a0.f2), 0)) else none)) else none) else none))) else (some ([], 1))))
def armillaryref27_EncodeEntry.Post (I : Imm) (w : World) (r : List Int × Int) (v : Value) (w' : World) : Prop :=
 ∃ (J : Imm) (A0 : Option Addr) (c0 : Nat) (cs0 : List Value), v = .tuple #[.slice A0 r.1.length c0, .int .i64 r.2] ∧ Got w w' I J [orow 5 1 A0 r.1.length c0 cs0] ∧ Reps (Ty.int .u8) J r.1 cs0
theorem armillaryref27_EncodeEntry.calls (k : Nat) (I0 : Imm) (a0 : S30) (Ap0_2 : Option Addr) (cp0_2 : Nat) (w : World) (hI : I0.at_ w) (hlp0_2 : a0.f2.length ≤ cp0_2) (hrp0_2 : Rd (Ty.int .u8) I0 Ap0_2 a0.f2) (r : List Int × Int) (h : armillaryref27_EncodeEntry.f k a0 = some r) :
  Calls Try.prog 40 [.agg #[.int .i64 a0.f0, .string a0.f1, .slice Ap0_2 a0.f2.length cp0_2]].toArray w fun e w' => ∃ v, e = .returned v ∧ armillaryref27_EncodeEntry.Post I0 w r v w' := by
 have H : ((armillaryref27_ValidEntry.f a0).bind fun t1 => (if t1 = true then ((armillaryref27_AppendVarint.f k [] a0.f0).bind fun t2 => ((armillaryref27_AppendVarint.f k t2 (a0.f1.size : Int)).bind fun t3 => (if a0.f1.size ≤ 9223372036854775807 then (if (t3.length + (bytesOf a0.f1).length) * 1 ≤ 140737488355328 then ((armillaryref27_AppendVarint.f k (t3 ++ (bytesOf a0.f1)) (a0.f2.length : Int)).bind fun t4 => (if (t4.length + a0.f2.length) * 1 ≤ 140737488355328 then (some ((t4 ++ a0.f2), 0)) else none)) else none) else none))) else (some ([], 1)))) = some r := h
 clear h
 refine calls_body Try.func40 (by kernel_rfl) 30 (by kernel_rfl) (by kernel_rfl) ⟨w, fun _ => False, I0⟩ I0 [] [(0, .agg #[.int .i64 a0.f0, .string a0.f1, .slice Ap0_2 a0.f2.length cp0_2])] (by kernel_rfl) (Sat.start w _ I0 hI) ?_
 generalize w.heap.size = nx0
 show OK _ K40_0 _ _ _ _ _ _ _ _
 refine OK.seq K40_1 K40_3 (by kernel_rfl) ?_
 refine OK.region 0 O40_1 (by kernel_rfl) ?_
 refine RL.simP (K' := [(1, .pointer (some ⟨nx0, 0, none⟩))]) (nx' := nx0 + 1) (L' := [⟨nx0, [.int .i64 a0.f0, .string a0.f1, .slice Ap0_2 a0.f2.length cp0_2], 30⟩]) [] (RFacts.nil _ _ _) 3 [.no, .no, .no] (by kernel_rfl) (by kernel_rfl) ?_
 refine RL.nil (by kernel_rfl) ?_
 refine QN.then_ ?_
 refine OK.seq K40_4 K40_13 (by kernel_rfl) ?_
 refine OK.seq K40_5 K40_7 (by kernel_rfl) ?_
 refine OK.region 1 O40_5 (by kernel_rfl) ?_
 refine RL.simK (K' := [(5, .agg #[.int .i64 a0.f0, .string a0.f1, .slice Ap0_2 a0.f2.length cp0_2]), (1, .pointer (some ⟨nx0, 0, none⟩))]) [] (RFacts.nil _ _ _) 1 [.l 0] (by kernel_rfl) (by kernel_rfl) ?_
 obtain ⟨t1, hA1, H⟩ := Option.bind_eq_some_iff.mp H
 refine RL.callP 47 [.agg #[.int .i64 a0.f0, .string a0.f1, .slice Ap0_2 a0.f2.length cp0_2]] (some 6) (fun w => armillaryref27_ValidEntry.Post I0 w t1) (by kernel_rfl) (by kernel_rfl) (fun w hs => armillaryref27_ValidEntry.calls I0 a0 Ap0_2 cp0_2 w hs.im hlp0_2 hrp0_2 t1 hA1) ?_
 rintro w v w' hs ⟨I1, rfl, hg⟩
 have hi1 := hg.le
 refine RL.resume (X' := []) rfl (hs.call hg) ?_
 clear hs hg
 generalize w'.heap.size = nx1
 clear w w'
 refine RL.simK (K' := [(7, .bool (!t1)), (1, .pointer (some ⟨nx0, 0, none⟩))]) [] (RFacts.nil _ _ _) 1 [.no] (by kernel_rfl) (by kernel_rfl) ?_
 refine RL.nil (by kernel_rfl) ?_
 refine QN.then_ ?_
 refine OK.cond (.tmp 7) K40_8 K40_12 (!t1) (by kernel_rfl) (by kernel_rfl) (by kernel_rfl) (fun hb => ?_) (fun hb => ?_)
 ·have hb : t1 = false := by simpa using hb
  have hc := (Bool.eq_false_iff.1 hb)
  rw [if_neg hc] at H
  clear hb
  refine OK.seq K40_9 K40_11 (by kernel_rfl) ?_
  refine OK.region 2 O40_9 (by kernel_rfl) ?_
  refine RL.simK (K' := [(3, .int .i64 1), (2, .slice none 0 0)]) [] (RFacts.nil _ _ _) 2 [.no, .no] (by kernel_rfl) (by kernel_rfl) ?_
  refine RL.nil (by kernel_rfl) ?_
  refine QN.then_ ?_
  refine OK.ret (by kernel_rfl) ?_
  refine QN.thenR ?_
  obtain rfl := Option.some.inj H
  refine QN.body rfl [] (RFacts.nil _ _ _) (.no) (.tuple #[.slice none 0 0, .int .i64 1]) (by kernel_rfl) (by kernel_rfl) (by kernel_rfl) ?_ _ (.inr rfl)
  exact fun w' hs' => ⟨_, rfl, I1, none, 0, [], rfl, gotNil1 (hs'.got [] (List.nil_sublist _)), rfl⟩
 ·have hb : t1 = true := by simpa using hb
  have hc := hb
  rw [if_pos hc] at H
  clear hb
  refine OK.skip (by kernel_rfl) ?_
  refine QN.then_ ?_
  refine OK.seq K40_14 K40_16 (by kernel_rfl) ?_
  refine OK.region 3 O40_14 (by kernel_rfl) ?_
  refine RL.simK (K' := [(9, .int .i64 a0.f0), (1, .pointer (some ⟨nx0, 0, none⟩))]) [] (RFacts.nil _ _ _) 2 [.no, .l 0] (by kernel_rfl) (by kernel_rfl) ?_
  obtain ⟨t2, hA2, H⟩ := Option.bind_eq_some_iff.mp H
  refine RL.callP 48 [.slice none 0 0, .int .i64 a0.f0] (some 10) (fun w => armillaryref27_AppendVarint.Post I1 w t2) (by kernel_rfl) (by kernel_rfl) (fun w hs => armillaryref27_AppendVarint.calls k I1 [] none 0 a0.f0 w hs.im (Nat.le_refl _) (Rd.nil _ _ _) t2 hA2) ?_
  rintro w v w' hs ⟨I2, A1, c1, cs1, rfl, hg, hp1⟩
  have hi2 := hg.le
  refine RL.resume (X' := [orow 5 1 A1 t2.length c1 cs1]) rfl (hs.call hg) ?_
  clear hs hg
  generalize w'.heap.size = nx2
  clear w w'
  refine RL.simK (K' := [(4, .slice A1 t2.length c1), (1, .pointer (some ⟨nx0, 0, none⟩))]) [] (RFacts.nil _ _ _) 1 [.no] (by kernel_rfl) (by kernel_rfl) ?_
  refine RL.nil (by kernel_rfl) ?_
  refine QN.then_ ?_
  refine OK.seq K40_17 K40_19 (by kernel_rfl) ?_
  refine OK.region 4 O40_17 (by kernel_rfl) ?_
  refine RL.simK (K' := [(14, .int .i64 (a0.f1.size : Int)), (11, .slice A1 t2.length c1), (4, .slice A1 t2.length c1), (1, .pointer (some ⟨nx0, 0, none⟩))]) [] (RFacts.nil _ _ _) 4 [.no, .no, .l 0, .no] (by kernel_rfl) (by kernel_rfl) ?_
  refine RL.freeze (e := 5) (sz := 1) (S := A1) (n := t2.length) (cap := c1) 0 (by kernel_rfl) hp1 rfl (fun _ h => h.elim) (fun I3 hi3 hl1 hr1 => ?_)
  skip
  obtain ⟨t3, hA3, H⟩ := Option.bind_eq_some_iff.mp H
  refine RL.callP 48 [.slice A1 t2.length c1, .int .i64 (a0.f1.size : Int)] (some 15) (fun w => armillaryref27_AppendVarint.Post I3 w t3) (by kernel_rfl) (by kernel_rfl) (fun w hs => armillaryref27_AppendVarint.calls k I3 t2 A1 c1 (a0.f1.size : Int) w hs.im hl1 hr1 t3 hA3) ?_
  rintro w v w' hs ⟨I4, A2, c2, cs2, rfl, hg, hp2⟩
  have hi4 := hg.le
  refine RL.resume (X' := [orow 5 1 A2 t3.length c2 cs2]) rfl (hs.call hg) ?_
  clear hs hg
  generalize w'.heap.size = nx3
  clear w w'
  refine RL.simK (K' := [(4, .slice A2 t3.length c2), (1, .pointer (some ⟨nx0, 0, none⟩))]) [] (RFacts.nil _ _ _) 1 [.no] (by kernel_rfl) (by kernel_rfl) ?_
  refine RL.nil (by kernel_rfl) ?_
  refine QN.then_ ?_
  refine OK.seq K40_20 K40_22 (by kernel_rfl) ?_
  refine OK.region 5 O40_20 (by kernel_rfl) ?_
  refine RL.simK (K' := [(18, .string a0.f1), (16, .slice A2 t3.length c2), (4, .slice A2 t3.length c2), (1, .pointer (some ⟨nx0, 0, none⟩))]) [] (RFacts.nil _ _ _) 3 [.no, .no, .l 0] (by kernel_rfl) (by kernel_rfl) ?_
  by_cases hz1 : a0.f1.size ≤ 9223372036854775807
  case neg => rw [if_neg hz1] at H; cases H
  rw [if_pos hz1] at H
  refine RL.toBytes (src := 9) (dst := 28) (e := 5) a0.f1 .string (some 19) (by kernel_rfl) (by kernel_rfl) (by kernel_rfl) (by kernel_rfl) (by kernel_rfl) hz1 (fun I5 c3 nx4 hi5 hl2 hr2 => ?_)
  refine RL.norm (K' := [(19, .slice (some ⟨nx3, 0, none⟩) ((bytesOf a0.f1).length) c3), (18, .string a0.f1), (16, .slice A2 t3.length c2), (4, .slice A2 t3.length c2), (1, .pointer (some ⟨nx0, 0, none⟩))]) (by kernel_rfl) rfl rfl rfl ?_
  by_cases hz2 : (t3.length + (bytesOf a0.f1).length) * 1 ≤ 140737488355328
  case neg => rw [if_neg hz2] at H; cases H
  rw [if_pos hz2] at H
  refine RL.appendR (T := 28) (e := 5) (S := A2) (S2 := (some ⟨nx3, 0, none⟩)) 1 1 28 c2 c3 cs2 (Ty.int .u8) t3 (bytesOf a0.f1) 0 (some 20) (by kernel_rfl) (by kernel_rfl) (by kernel_rfl) (by kernel_rfl) (by kernel_rfl) (by decide) (by kernel_rfl) (Reps.ext hi5 hp2) hr2 hz2 (by omega) (fun A3 c4 nx5 cs3 hp3 => ?_)
  refine RL.sub (K' := [(20, .slice A3 ((t3 ++ (bytesOf a0.f1)).length) c4), (19, .slice (some ⟨nx3, 0, none⟩) ((bytesOf a0.f1).length) c3), (18, .string a0.f1), (1, .pointer (some ⟨nx0, 0, none⟩))]) (L' := [⟨nx0, [.int .i64 a0.f0, .string a0.f1, .slice Ap0_2 a0.f2.length cp0_2], 30⟩]) (X' := [orow 5 1 A3 ((t3 ++ (bytesOf a0.f1)).length) c4 cs3]) (by kernel_rfl) (.refl _) (.refl _) ?_
  refine RL.simK (K' := [(4, .slice A3 ((t3 ++ (bytesOf a0.f1)).length) c4), (1, .pointer (some ⟨nx0, 0, none⟩))]) [] (RFacts.nil _ _ _) 1 [.no] (by kernel_rfl) (by kernel_rfl) ?_
  refine RL.nil (by kernel_rfl) ?_
  refine QN.then_ ?_
  refine OK.seq K40_23 K40_25 (by kernel_rfl) ?_
  refine OK.region 6 O40_23 (by kernel_rfl) ?_
  refine RL.simK (K' := [(24, .int .i64 (a0.f2.length : Int)), (21, .slice A3 ((t3 ++ (bytesOf a0.f1)).length) c4), (4, .slice A3 ((t3 ++ (bytesOf a0.f1)).length) c4), (1, .pointer (some ⟨nx0, 0, none⟩))]) [] (RFacts.nil _ _ _) 4 [.no, .no, .l 0, .no] (by kernel_rfl) (by kernel_rfl) ?_
  refine RL.freeze (e := 5) (sz := 1) (S := A3) (n := (t3 ++ (bytesOf a0.f1)).length) (cap := c4) 0 (by kernel_rfl) hp3 rfl (fun _ h => h.elim) (fun I6 hi6 hl3 hr3 => ?_)
  skip
  obtain ⟨t4, hA4, H⟩ := Option.bind_eq_some_iff.mp H
  refine RL.callP 48 [.slice A3 ((t3 ++ (bytesOf a0.f1)).length) c4, .int .i64 (a0.f2.length : Int)] (some 25) (fun w => armillaryref27_AppendVarint.Post I6 w t4) (by kernel_rfl) (by kernel_rfl) (fun w hs => armillaryref27_AppendVarint.calls k I6 (t3 ++ (bytesOf a0.f1)) A3 c4 (a0.f2.length : Int) w hs.im hl3 hr3 t4 hA4) ?_
  rintro w v w' hs ⟨I7, A4, c5, cs4, rfl, hg, hp4⟩
  have hi7 := hg.le
  refine RL.resume (X' := [orow 5 1 A4 t4.length c5 cs4]) rfl (hs.call hg) ?_
  clear hs hg
  generalize w'.heap.size = nx6
  clear w w'
  refine RL.simK (K' := [(4, .slice A4 t4.length c5), (1, .pointer (some ⟨nx0, 0, none⟩))]) [] (RFacts.nil _ _ _) 1 [.no] (by kernel_rfl) (by kernel_rfl) ?_
  refine RL.nil (by kernel_rfl) ?_
  refine QN.then_ ?_
  refine OK.seq K40_26 K40_28 (by kernel_rfl) ?_
  refine OK.region 7 O40_26 (by kernel_rfl) ?_
  refine RL.simK (K' := [(28, .slice Ap0_2 a0.f2.length cp0_2), (26, .slice A4 t4.length c5)]) [] (RFacts.nil _ _ _) 3 [.no, .no, .l 0] (by kernel_rfl) (by kernel_rfl) ?_
  by_cases hz3 : (t4.length + a0.f2.length) * 1 ≤ 140737488355328
  case neg => rw [if_neg hz3] at H; cases H
  rw [if_pos hz3] at H
  refine RL.appendR (T := 28) (e := 5) (S := A4) (S2 := Ap0_2) 1 1 28 c5 cp0_2 cs4 (Ty.int .u8) t4 a0.f2 0 (some 29) (by kernel_rfl) (by kernel_rfl) (by kernel_rfl) (by kernel_rfl) (by kernel_rfl) (by decide) (by kernel_rfl) hp4 (Rd.ext (Imm.le_trans (Imm.le_trans (Imm.le_trans (Imm.le_trans (Imm.le_trans (Imm.le_trans hi1 hi2) hi3) hi4) hi5) hi6) hi7) hrp0_2) hz3 (by omega) (fun A5 c6 nx7 cs5 hp5 => ?_)
  refine RL.sub (K' := [(29, .slice A5 ((t4 ++ a0.f2).length) c6), (28, .slice Ap0_2 a0.f2.length cp0_2)]) (L' := [⟨nx0, [.int .i64 a0.f0, .string a0.f1, .slice Ap0_2 a0.f2.length cp0_2], 30⟩]) (X' := [orow 5 1 A5 ((t4 ++ a0.f2).length) c6 cs5]) (by kernel_rfl) (.refl _) (.refl _) ?_
  refine RL.simK (K' := [(3, .int .i64 0), (2, .slice A5 ((t4 ++ a0.f2).length) c6)]) [] (RFacts.nil _ _ _) 2 [.no, .no] (by kernel_rfl) (by kernel_rfl) ?_
  refine RL.nil (by kernel_rfl) ?_
  refine QN.then_ ?_
  refine OK.ret (by kernel_rfl) ?_
  obtain rfl := Option.some.inj H
  refine QN.body rfl [] (RFacts.nil _ _ _) (.no) (.tuple #[.slice A5 ((t4 ++ a0.f2).length) c6, .int .i64 0]) (by kernel_rfl) (by kernel_rfl) (by kernel_rfl) ?_ _ (.inr rfl)
  exact fun w' hs' => ⟨_, rfl, I7, A5, c6, cs5, rfl, hs'.got _ (.cons_cons _ .slnil), hp5⟩

end Go.Proofs.Ytieakigoinebdaa
namespace Go.Proofs.Ytieakigoinebdaa
open Go Go.Proofs.Ytieakigoinebdaa.RW
set_option linter.unusedVariables false
set_option maxRecDepth 100000
set_option maxHeartbeats 8000000

/-! ### armillaryref27_Checksum: function 41, armillary/armillaryref27.Checksum -/
noncomputable def K41_0 : Code := cBody Try.f41
noncomputable def K41_1 : Code := cL K41_0
noncomputable def O41_1 : List Oper := cOps K41_1
noncomputable def K41_3 : Code := cR K41_0
noncomputable def K41_4 : Code := cL K41_3
noncomputable def O41_4 : List Oper := cOps K41_4
noncomputable def K41_6 : Code := cR K41_3
noncomputable def K41_7 : Code := cL K41_6
noncomputable def K41_8 : Code := cL K41_7
noncomputable def O41_8 : List Oper := cOps K41_8
noncomputable def K41_10 : Code := cR K41_7
noncomputable def K41_11 : Code := cL K41_10
noncomputable def K41_12 : Code := cL K41_11
noncomputable def K41_13 : Code := cL K41_12
noncomputable def K41_14 : Code := cL K41_13
noncomputable def O41_14 : List Oper := cOps K41_14
noncomputable def K41_16 : Code := cR K41_13
noncomputable def K41_17 : Code := cL K41_16
noncomputable def K41_18 : Code := cR K41_16
noncomputable def K41_19 : Code := cR K41_12
noncomputable def K41_20 : Code := cL K41_19
noncomputable def K41_21 : Code := cL K41_20
noncomputable def K41_22 : Code := cL K41_21
noncomputable def O41_22 : List Oper := cOps K41_22
noncomputable def K41_24 : Code := cR K41_21
noncomputable def K41_25 : Code := cL K41_24
noncomputable def O41_25 : List Oper := cOps K41_25
noncomputable def K41_27 : Code := cR K41_24
noncomputable def K41_28 : Code := cL K41_27
noncomputable def K41_29 : Code := cL K41_28
noncomputable def K41_30 : Code := cL K41_29
noncomputable def K41_31 : Code := cL K41_30
noncomputable def O41_31 : List Oper := cOps K41_31
noncomputable def K41_33 : Code := cR K41_30
noncomputable def K41_34 : Code := cL K41_33
noncomputable def K41_35 : Code := cR K41_33
noncomputable def K41_36 : Code := cR K41_29
noncomputable def K41_37 : Code := cL K41_36
noncomputable def K41_38 : Code := cL K41_37
noncomputable def K41_39 : Code := cL K41_38
noncomputable def O41_39 : List Oper := cOps K41_39
noncomputable def K41_41 : Code := cR K41_38
noncomputable def K41_42 : Code := cL K41_41
noncomputable def O41_42 : List Oper := cOps K41_42
noncomputable def K41_44 : Code := cR K41_41
noncomputable def O41_44 : List Oper := cOps K41_44
noncomputable def K41_46 : Code := cR K41_36
noncomputable def O41_46 : List Oper := cOps K41_46
noncomputable def K41_48 : Code := cR K41_19
noncomputable def O41_48 : List Oper := cOps K41_48
noncomputable def K41_50 : Code := cR K41_6
noncomputable def K41_51 : Code := cL K41_50
noncomputable def O41_51 : List Oper := cOps K41_51
noncomputable def K41_53 : Code := cR K41_50
def armillaryref27_Checksum.k1  (x1 : Int) : Option (Int) := (some (bXor .u32 x1 4294967295))
def armillaryref27_Checksum.k3  (x5 : Int) : Option (Int) := (some x5)
def armillaryref27_Checksum.l2 : Nat → Int → Int → Option (Int)
 | 0, _, _ => none
 | k + 1, x6, x7 => (if x7 < 8 then ((if (bAnd .u32 x6 1) = 1 then (some (bXor .u32 (Int.fdiv x6 2) 3988292384)) else (some (Int.fdiv x6 2))).bind (fun x8 => (armillaryref27_Checksum.l2 k x8 (W .i64 (x7 + 1))))) else (some x6))
def armillaryref27_Checksum.l1 (a0 : List Int) : Nat → Int → Int → Option (Int)
 | 0, _, _ => none
 | k + 1, x2, x3 => (if x3 < (a0.length : Int) then ((if 0 ≤ x3 then (if x3 < (a0.length : Int) then ((armillaryref27_Checksum.l2 k (bXor .u32 x2 (W .u32 ((a0.getD (x3).toNat 0)))) 0).bind (armillaryref27_Checksum.k3)) else none) else none).bind (fun x4 => (armillaryref27_Checksum.l1 a0 k x4 (W .i64 (x3 + 1))))) else (some x2))
def armillaryref27_Checksum.f (k : Nat) (a0 : List Int) : Option (Int) := ((armillaryref27_Checksum.l1 a0 k 4294967295 0).bind (armillaryref27_Checksum.k1))
def armillaryref27_Checksum.Post (I : Imm) (w : World) (r : Int) (v : Value) (w' : World) : Prop :=
 ∃ (J : Imm), v = .int .u32 r ∧ Got w w' I J []
theorem armillaryref27_Checksum.calls (k : Nat) (I0 : Imm) (a0 : List Int) (Ap0 : Option Addr) (cp0 : Nat) (w : World) (hI : I0.at_ w) (hlp0 : a0.length ≤ cp0) (hrp0 : Rd (Ty.int .u8) I0 Ap0 a0) (r : Int) (h : armillaryref27_Checksum.f k a0 = some r) :
  Calls Try.prog 41 [.slice Ap0 a0.length cp0].toArray w fun e w' => ∃ v, e = .returned v ∧ armillaryref27_Checksum.Post I0 w r v w' := by
 have H : ((armillaryref27_Checksum.l1 a0 k 4294967295 0).bind (armillaryref27_Checksum.k1)) = some r := h
 clear h
 refine calls_body Try.func41 (by kernel_rfl) 33 (by kernel_rfl) (by kernel_rfl) ⟨w, fun _ => False, I0⟩ I0 [] [(0, .slice Ap0 a0.length cp0)] (by kernel_rfl) (Sat.start w _ I0 hI) ?_
 generalize w.heap.size = nx0
 show OK _ K41_0 _ _ _ _ _ _ _ _
 refine OK.seq K41_1 K41_3 (by kernel_rfl) ?_
 refine OK.region 0 O41_1 (by kernel_rfl) ?_
 refine RL.simK (K' := [(0, .slice Ap0 a0.length cp0)]) [] (RFacts.nil _ _ _) 1 [.no] (by kernel_rfl) (by kernel_rfl) ?_
 refine RL.nil (by kernel_rfl) ?_
 refine QN.then_ ?_
 refine OK.seq K41_4 K41_6 (by kernel_rfl) ?_
 refine OK.region 1 O41_4 (by kernel_rfl) ?_
 refine RL.simK (K' := [(3, .int .u32 4294967295), (0, .slice Ap0 a0.length cp0)]) [] (RFacts.nil _ _ _) 1 [.no] (by kernel_rfl) (by kernel_rfl) ?_
 refine RL.nil (by kernel_rfl) ?_
 refine QN.then_ ?_
 refine OK.seq K41_7 K41_50 (by kernel_rfl) ?_
 refine OK.seq K41_8 K41_10 (by kernel_rfl) ?_
 refine OK.region 2 O41_8 (by kernel_rfl) ?_
 refine RL.simK (K' := [(4, .int .i64 0), (3, .int .u32 4294967295), (0, .slice Ap0 a0.length cp0)]) [] (RFacts.nil _ _ _) 1 [.no] (by kernel_rfl) (by kernel_rfl) ?_
 refine RL.nil (by kernel_rfl) ?_
 refine QN.then_ ?_
 refine OK.join (fun K' I' _ L' X' => ∃ (x1 : Int), K' = [(3, .int .u32 x1)] ∧ L' = [] ∧ X' = [] ∧ Imm.le I0 I' ∧ armillaryref27_Checksum.k1 x1 = some r) ?_ ?_
 ·rintro _ I1 nx1 _ _ ⟨x1, rfl, rfl, rfl, hi1, H⟩
  replace H : (some (bXor .u32 x1 4294967295)) = some r := H
  refine QN.then_ ?_
  refine OK.seq K41_51 K41_53 (by kernel_rfl) ?_
  refine OK.region 12 O41_51 (by kernel_rfl) ?_
  refine RL.simK (K' := [(2, .int .u32 (bXor .u32 x1 4294967295))]) [] (RFacts.nil _ _ _) 3 [.no, .no, .no] (by kernel_rfl) (by kernel_rfl) ?_
  refine RL.nil (by kernel_rfl) ?_
  refine QN.then_ ?_
  refine OK.ret (by kernel_rfl) ?_
  obtain rfl := Option.some.inj H
  refine QN.body rfl [] (RFacts.nil _ _ _) (.no) (.int .u32 (bXor .u32 x1 4294967295)) (by kernel_rfl) (by kernel_rfl) (by kernel_rfl) ?_ _ (.inr rfl)
  exact fun w' hs' => ⟨_, rfl, I1, rfl, hs'.got _ .slnil⟩
 ·intro Q_1 hJ1 hQ1
  obtain ⟨y1, H, HK1⟩ := Option.bind_eq_some_iff.mp H
  refine OK.block 0 K41_11 (by kernel_rfl) ?_
  refine OK.sub (K' := [(0, .slice Ap0 a0.length cp0), (3, .int .u32 4294967295), (4, .int .i64 0)]) (L' := []) (by kernel_rfl) .slnil (.refl _) ?_
  refine OK.loopInv K41_12 (by kernel_rfl) (fun n_ K' I' _ L' X' => ∃ (x2 : Int) (x3 : Int), K' = [(0, .slice Ap0 a0.length cp0), (3, .int .u32 x2), (4, .int .i64 x3)] ∧ L' = [] ∧ X' = [] ∧ Imm.le I0 I' ∧ armillaryref27_Checksum.l1 a0 n_ x2 x3 = some y1) k ⟨4294967295, 0, rfl, rfl, rfl, (Imm.le_refl _), H⟩ ?_ ?_
  ·rintro _ _ _ _ _ ⟨x2, x3, rfl, rfl, rfl, _, H⟩
   cases H
  ·rintro kq1 _ I2 nx2 _ _ ⟨x2, x3, rfl, rfl, rfl, hi2, H⟩ Q_l1 hJ2 hQ2
   replace H : (if x3 < (a0.length : Int) then ((if 0 ≤ x3 then (if x3 < (a0.length : Int) then ((armillaryref27_Checksum.l2 kq1 (bXor .u32 x2 (W .u32 ((a0.getD (x3).toNat 0)))) 0).bind (armillaryref27_Checksum.k3)) else none) else none).bind (fun x4 => (armillaryref27_Checksum.l1 a0 kq1 x4 (W .i64 (x3 + 1))))) else (some x2)) = some y1 := H
   refine OK.seq K41_13 K41_19 (by kernel_rfl) ?_
   refine OK.seq K41_14 K41_16 (by kernel_rfl) ?_
   refine OK.region 3 O41_14 (by kernel_rfl) ?_
   refine RL.simK (K' := [(9, .bool (decide (x3 < (a0.length : Int)))), (0, .slice Ap0 a0.length cp0), (3, .int .u32 x2), (4, .int .i64 x3)]) [] (RFacts.nil _ _ _) 4 [.no, .no, .no, .no] (by kernel_rfl) (by kernel_rfl) ?_
   refine RL.nil (by kernel_rfl) ?_
   refine QN.then_ ?_
   refine OK.cond (.tmp 9) K41_17 K41_18 (decide (x3 < (a0.length : Int))) (by kernel_rfl) (by kernel_rfl) (by kernel_rfl) (fun hb => ?_) (fun hb => ?_)
   ·skip
    have hc := (of_decide_eq_true hb)
    rw [if_pos hc] at H
    clear hb
    refine OK.skip (by kernel_rfl) ?_
    refine QN.then_ ?_
    refine OK.seq K41_20 K41_48 (by kernel_rfl) ?_
    refine OK.join (fun K' I' _ L' X' => ∃ (x4 : Int), K' = [(0, .slice Ap0 a0.length cp0), (3, .int .u32 x4), (4, .int .i64 x3)] ∧ L' = [] ∧ X' = [] ∧ Imm.le I2 I' ∧ (armillaryref27_Checksum.l1 a0 kq1 x4 (W .i64 (x3 + 1))) = some y1) ?_ ?_
    ·rintro _ I3 nx3 _ _ ⟨x4, rfl, rfl, rfl, hi3, H⟩
     replace H : (armillaryref27_Checksum.l1 a0 kq1 x4 (W .i64 (x3 + 1))) = some y1 := H
     refine QN.then_ ?_
     refine OK.region 4 O41_48 (by kernel_rfl) ?_
     refine RL.simK (K' := [(4, .int .i64 (W .i64 (x3 + 1))), (0, .slice Ap0 a0.length cp0), (3, .int .u32 x4)]) [] (RFacts.nil _ _ _) 3 [.no, .no, .no] (by kernel_rfl) (by kernel_rfl) ?_
     refine RL.nil (by kernel_rfl) ?_
     refine QN.sub (K' := [(0, .slice Ap0 a0.length cp0), (3, .int .u32 x4), (4, .int .i64 (W .i64 (x3 + 1)))]) (L' := []) (by kernel_rfl) .slnil (.refl _) ?_
     exact hJ2 _ _ _ _ _ ⟨x4, W .i64 (x3 + 1), rfl, rfl, rfl, (Imm.le_trans hi2 hi3), H⟩
    ·intro Q_2 hJ3 hQ3
     obtain ⟨y2, H, HK2⟩ := Option.bind_eq_some_iff.mp H
     refine OK.block 1 K41_21 (by kernel_rfl) ?_
     refine OK.seq K41_22 K41_24 (by kernel_rfl) ?_
     refine OK.region 5 O41_22 (by kernel_rfl) ?_
     refine RL.simK (K' := [(14, .int .i64 x3), (13, .slice Ap0 a0.length cp0), (12, .int .u32 x2), (0, .slice Ap0 a0.length cp0), (3, .int .u32 x2), (4, .int .i64 x3)]) [] (RFacts.nil _ _ _) 3 [.no, .no, .no] (by kernel_rfl) (by kernel_rfl) ?_
     by_cases hib0 : 0 ≤ x3
     case neg => rw [if_neg hib0] at H; cases H
     rw [if_pos hib0] at H
     by_cases hib1 : x3 < (a0.length : Int)
     case neg => rw [if_neg hib1] at H; cases H
     rw [if_pos hib1] at H
     obtain ⟨g1_, o1_, hA1_, hc1_⟩ := Ty.int_at (Rd.ext hi2 hrp0) x3 hib0 hib1
     refine RL.idx 1 .i64 x3 hA1_ a0.length cp0 (some 15) (by kernel_rfl) (by kernel_rfl) (T := 28) (e := 5) (by kernel_rfl) (by kernel_rfl) hib0 hib1 (K' := [(15, .pointer (some ⟨g1_, o1_ + (x3).toNat * 1, none⟩)), (14, .int .i64 x3), (13, .slice Ap0 a0.length cp0), (12, .int .u32 x2), (0, .slice Ap0 a0.length cp0), (3, .int .u32 x2), (4, .int .i64 x3)]) (by kernel_rfl) ?_
     refine RL.simK (K' := [(3, .int .u32 (bXor .u32 x2 (W .u32 ((a0.getD (x3).toNat 0))))), (0, .slice Ap0 a0.length cp0), (4, .int .i64 x3)]) [(⟨g1_, o1_ + (x3).toNat * 1, none⟩, .int .u8 (a0.getD (x3).toNat 0))] (RFacts.imm (hc1_ 0 _ rfl) (RFacts.nil _ _ _)) 4 [.r 0, .no, .no, .no] (by kernel_rfl) (by kernel_rfl) ?_
     refine RL.nil (by kernel_rfl) ?_
     refine QN.then_ ?_
     refine OK.seq K41_25 K41_27 (by kernel_rfl) ?_
     refine OK.region 6 O41_25 (by kernel_rfl) ?_
     refine RL.simK (K' := [(5, .int .i64 0), (3, .int .u32 (bXor .u32 x2 (W .u32 ((a0.getD (x3).toNat 0))))), (0, .slice Ap0 a0.length cp0), (4, .int .i64 x3)]) [] (RFacts.nil _ _ _) 1 [.no] (by kernel_rfl) (by kernel_rfl) ?_
     refine RL.nil (by kernel_rfl) ?_
     refine QN.then_ ?_
     refine OK.join (fun K' I' _ L' X' => ∃ (x5 : Int), K' = [(0, .slice Ap0 a0.length cp0), (3, .int .u32 x5), (4, .int .i64 x3)] ∧ L' = [] ∧ X' = [] ∧ Imm.le I2 I' ∧ armillaryref27_Checksum.k3 x5 = some y2) ?_ ?_
     ·rintro _ I4 nx4 _ _ ⟨x5, rfl, rfl, rfl, hi4, H⟩
      replace H : (some x5) = some y2 := H
      refine QN.blkN ?_
      obtain rfl := Option.some.inj H
      refine QN.sub (K' := [(0, .slice Ap0 a0.length cp0), (3, .int .u32 x5), (4, .int .i64 x3)]) (L' := []) (by kernel_rfl) .slnil (.refl _) ?_
      exact hJ3 _ _ _ _ _ ⟨x5, rfl, rfl, rfl, hi4, HK2⟩
     ·intro Q_3 hJ4 hQ4
      obtain ⟨y3, H, HK3⟩ := Option.bind_eq_some_iff.mp H
      refine OK.block 2 K41_28 (by kernel_rfl) ?_
      refine OK.sub (K' := [(0, .slice Ap0 a0.length cp0), (3, .int .u32 (bXor .u32 x2 (W .u32 ((a0.getD (x3).toNat 0))))), (4, .int .i64 x3), (5, .int .i64 0)]) (L' := []) (by kernel_rfl) .slnil (.refl _) ?_
      refine OK.loopInv K41_29 (by kernel_rfl) (fun n_ K' I' _ L' X' => ∃ (x6 : Int) (x7 : Int), K' = [(0, .slice Ap0 a0.length cp0), (3, .int .u32 x6), (4, .int .i64 x3), (5, .int .i64 x7)] ∧ L' = [] ∧ X' = [] ∧ Imm.le I2 I' ∧ armillaryref27_Checksum.l2 n_ x6 x7 = some y3) kq1 ⟨bXor .u32 x2 (W .u32 ((a0.getD (x3).toNat 0))), 0, rfl, rfl, rfl, (Imm.le_refl _), H⟩ ?_ ?_
      ·rintro _ _ _ _ _ ⟨x6, x7, rfl, rfl, rfl, _, H⟩
       cases H
      ·rintro kq2 _ I5 nx5 _ _ ⟨x6, x7, rfl, rfl, rfl, hi5, H⟩ Q_l2 hJ5 hQ5
       replace H : (if x7 < 8 then ((if (bAnd .u32 x6 1) = 1 then (some (bXor .u32 (Int.fdiv x6 2) 3988292384)) else (some (Int.fdiv x6 2))).bind (fun x8 => (armillaryref27_Checksum.l2 kq2 x8 (W .i64 (x7 + 1))))) else (some x6)) = some y3 := H
       refine OK.seq K41_30 K41_36 (by kernel_rfl) ?_
       refine OK.seq K41_31 K41_33 (by kernel_rfl) ?_
       refine OK.region 7 O41_31 (by kernel_rfl) ?_
       refine RL.simK (K' := [(20, .bool (decide (x7 < 8))), (0, .slice Ap0 a0.length cp0), (3, .int .u32 x6), (4, .int .i64 x3), (5, .int .i64 x7)]) [] (RFacts.nil _ _ _) 2 [.no, .no] (by kernel_rfl) (by kernel_rfl) ?_
       refine RL.nil (by kernel_rfl) ?_
       refine QN.then_ ?_
       refine OK.cond (.tmp 20) K41_34 K41_35 (decide (x7 < 8)) (by kernel_rfl) (by kernel_rfl) (by kernel_rfl) (fun hb => ?_) (fun hb => ?_)
       ·skip
        have hc := (of_decide_eq_true hb)
        rw [if_pos hc] at H
        clear hb
        refine OK.skip (by kernel_rfl) ?_
        refine QN.then_ ?_
        refine OK.seq K41_37 K41_46 (by kernel_rfl) ?_
        refine OK.block 3 K41_38 (by kernel_rfl) ?_
        refine OK.seq K41_39 K41_41 (by kernel_rfl) ?_
        refine OK.region 9 O41_39 (by kernel_rfl) ?_
        refine RL.simK (K' := [(25, .bool ((bAnd .u32 x6 1) == 1)), (0, .slice Ap0 a0.length cp0), (3, .int .u32 x6), (4, .int .i64 x3), (5, .int .i64 x7)]) [] (RFacts.nil _ _ _) 3 [.no, .no, .no] (by kernel_rfl) (by kernel_rfl) ?_
        refine RL.nil (by kernel_rfl) ?_
        refine QN.then_ ?_
        refine OK.join (fun K' I' _ L' X' => ∃ (x8 : Int), K' = [(0, .slice Ap0 a0.length cp0), (3, .int .u32 x8), (4, .int .i64 x3), (5, .int .i64 x7)] ∧ L' = [] ∧ X' = [] ∧ Imm.le I5 I' ∧ (armillaryref27_Checksum.l2 kq2 x8 (W .i64 (x7 + 1))) = some y3) ?_ ?_
        ·rintro _ I6 nx6 _ _ ⟨x8, rfl, rfl, rfl, hi6, H⟩
         replace H : (armillaryref27_Checksum.l2 kq2 x8 (W .i64 (x7 + 1))) = some y3 := H
         refine QN.blkN ?_
         refine QN.then_ ?_
         refine OK.region 8 O41_46 (by kernel_rfl) ?_
         refine RL.simK (K' := [(5, .int .i64 (W .i64 (x7 + 1))), (0, .slice Ap0 a0.length cp0), (3, .int .u32 x8), (4, .int .i64 x3)]) [] (RFacts.nil _ _ _) 3 [.no, .no, .no] (by kernel_rfl) (by kernel_rfl) ?_
         refine RL.nil (by kernel_rfl) ?_
         refine QN.sub (K' := [(0, .slice Ap0 a0.length cp0), (3, .int .u32 x8), (4, .int .i64 x3), (5, .int .i64 (W .i64 (x7 + 1)))]) (L' := []) (by kernel_rfl) .slnil (.refl _) ?_
         exact hJ5 _ _ _ _ _ ⟨x8, W .i64 (x7 + 1), rfl, rfl, rfl, (Imm.le_trans hi5 hi6), H⟩
        ·intro Q_4 hJ6 hQ6
         obtain ⟨y4, H, HK4⟩ := Option.bind_eq_some_iff.mp H
         refine OK.cond (.tmp 25) K41_42 K41_44 ((bAnd .u32 x6 1) == 1) (by kernel_rfl) (by kernel_rfl) (by kernel_rfl) (fun hb => ?_) (fun hb => ?_)
         ·skip
          have hc := (beq_iff_eq.1 hb)
          rw [if_pos hc] at H
          clear hb
          refine OK.region 10 O41_42 (by kernel_rfl) ?_
          refine RL.simK (K' := [(3, .int .u32 (bXor .u32 (Int.fdiv x6 2) 3988292384)), (0, .slice Ap0 a0.length cp0), (4, .int .i64 x3), (5, .int .i64 x7)]) [] (RFacts.nil _ _ _) 4 [.no, .no, .no, .no] (by kernel_rfl) (by kernel_rfl) ?_
          refine RL.nil (by kernel_rfl) ?_
          obtain rfl := Option.some.inj H
          refine QN.sub (K' := [(0, .slice Ap0 a0.length cp0), (3, .int .u32 (bXor .u32 (Int.fdiv x6 2) 3988292384)), (4, .int .i64 x3), (5, .int .i64 x7)]) (L' := []) (by kernel_rfl) .slnil (.refl _) ?_
          exact hJ6 _ _ _ _ _ ⟨bXor .u32 (Int.fdiv x6 2) 3988292384, rfl, rfl, rfl, (Imm.le_refl _), HK4⟩
         ·skip
          have hc := (beq_eq_false_iff_ne.1 hb)
          rw [if_neg hc] at H
          clear hb
          refine OK.region 11 O41_44 (by kernel_rfl) ?_
          refine RL.simK (K' := [(3, .int .u32 (Int.fdiv x6 2)), (0, .slice Ap0 a0.length cp0), (4, .int .i64 x3), (5, .int .i64 x7)]) [] (RFacts.nil _ _ _) 3 [.no, .no, .no] (by kernel_rfl) (by kernel_rfl) ?_
          refine RL.nil (by kernel_rfl) ?_
          obtain rfl := Option.some.inj H
          refine QN.sub (K' := [(0, .slice Ap0 a0.length cp0), (3, .int .u32 (Int.fdiv x6 2)), (4, .int .i64 x3), (5, .int .i64 x7)]) (L' := []) (by kernel_rfl) .slnil (.refl _) ?_
          exact hJ6 _ _ _ _ _ ⟨Int.fdiv x6 2, rfl, rfl, rfl, (Imm.le_refl _), HK4⟩
       ·skip
        have hc := (of_decide_eq_false hb)
        rw [if_neg hc] at H
        clear hb
        refine OK.exit 2 (by kernel_rfl) ?_
        refine QN.thenE ?_
        refine QN.outE hQ5 ?_
        refine QN.blkE ?_
        obtain rfl := Option.some.inj H
        refine QN.sub (K' := [(0, .slice Ap0 a0.length cp0), (3, .int .u32 x6), (4, .int .i64 x3)]) (L' := []) (by kernel_rfl) .slnil (.refl _) ?_
        exact hJ4 _ _ _ _ _ ⟨x6, rfl, rfl, rfl, hi5, HK3⟩
   ·skip
    have hc := (of_decide_eq_false hb)
    rw [if_neg hc] at H
    clear hb
    refine OK.exit 0 (by kernel_rfl) ?_
    refine QN.thenE ?_
    refine QN.outE hQ2 ?_
    refine QN.blkE ?_
    obtain rfl := Option.some.inj H
    refine QN.sub (K' := [(3, .int .u32 x2)]) (L' := []) (by kernel_rfl) .slnil (.refl _) ?_
    exact hJ1 _ _ _ _ _ ⟨x2, rfl, rfl, rfl, hi2, HK1⟩

end Go.Proofs.Ytieakigoinebdaa
namespace Go.Proofs.Ytieakigoinebdaa
open Go Go.Proofs.Ytieakigoinebdaa.RW
set_option linter.unusedVariables false
set_option maxRecDepth 100000
set_option maxHeartbeats 8000000

/-! ### armillaryref29_Sum: function 31, armillary/armillaryref29.Sum -/
noncomputable def K31_0 : Code := cBody Try.f31
noncomputable def K31_1 : Code := cL K31_0
noncomputable def O31_1 : List Oper := cOps K31_1
noncomputable def K31_3 : Code := cR K31_0
noncomputable def K31_4 : Code := cL K31_3
noncomputable def O31_4 : List Oper := cOps K31_4
noncomputable def K31_6 : Code := cR K31_3
noncomputable def K31_7 : Code := cL K31_6
noncomputable def O31_7 : List Oper := cOps K31_7
noncomputable def K31_9 : Code := cR K31_6
def armillaryref29_Sum.f (k : Nat) (a0 : S30) : Option (Int × Bool) := ((armillaryref27_EncodeEntry.f k a0).bind fun t1 => ((armillaryref27_Checksum.f k t1.1).bind fun t2 => (some (t2, (t1.2 == 0)))))
def armillaryref29_Sum.Post (I : Imm) (w : World) (r : Int × Bool) (v : Value) (w' : World) : Prop :=
 ∃ (J : Imm), v = .tuple #[.int .u32 r.1, .bool r.2] ∧ Got w w' I J []
theorem armillaryref29_Sum.calls (k : Nat) (I0 : Imm) (a0 : S30) (Ap0_2 : Option Addr) (cp0_2 : Nat) (w : World) (hI : I0.at_ w) (hlp0_2 : a0.f2.length ≤ cp0_2) (hrp0_2 : Rd (Ty.int .u8) I0 Ap0_2 a0.f2) (r : Int × Bool) (h : armillaryref29_Sum.f k a0 = some r) :
  Calls Try.prog 31 [.agg #[.int .i64 a0.f0, .string a0.f1, .slice Ap0_2 a0.f2.length cp0_2]].toArray w fun e w' => ∃ v, e = .returned v ∧ armillaryref29_Sum.Post I0 w r v w' := by
 have H : ((armillaryref27_EncodeEntry.f k a0).bind fun t1 => ((armillaryref27_Checksum.f k t1.1).bind fun t2 => (some (t2, (t1.2 == 0))))) = some r := h
 clear h
 refine calls_body Try.func31 (by kernel_rfl) 15 (by kernel_rfl) (by kernel_rfl) ⟨w, fun _ => False, I0⟩ I0 [] [(0, .agg #[.int .i64 a0.f0, .string a0.f1, .slice Ap0_2 a0.f2.length cp0_2])] (by kernel_rfl) (Sat.start w _ I0 hI) ?_
 generalize w.heap.size = nx0
 show OK _ K31_0 _ _ _ _ _ _ _ _
 refine OK.seq K31_1 K31_3 (by kernel_rfl) ?_
 refine OK.region 0 O31_1 (by kernel_rfl) ?_
 refine RL.simP (K' := [(1, .pointer (some ⟨nx0, 0, none⟩))]) (nx' := nx0 + 1) (L' := [⟨nx0, [.int .i64 a0.f0, .string a0.f1, .slice Ap0_2 a0.f2.length cp0_2], 30⟩]) [] (RFacts.nil _ _ _) 3 [.no, .no, .no] (by kernel_rfl) (by kernel_rfl) ?_
 refine RL.nil (by kernel_rfl) ?_
 refine QN.then_ ?_
 refine OK.seq K31_4 K31_6 (by kernel_rfl) ?_
 refine OK.region 1 O31_4 (by kernel_rfl) ?_
 refine RL.simK (K' := [(7, .agg #[.int .i64 a0.f0, .string a0.f1, .slice Ap0_2 a0.f2.length cp0_2])]) [] (RFacts.nil _ _ _) 1 [.l 0] (by kernel_rfl) (by kernel_rfl) ?_
 obtain ⟨t1, hA1, H⟩ := Option.bind_eq_some_iff.mp H
 refine RL.callP 40 [.agg #[.int .i64 a0.f0, .string a0.f1, .slice Ap0_2 a0.f2.length cp0_2]] (some 8) (fun w => armillaryref27_EncodeEntry.Post I0 w t1) (by kernel_rfl) (by kernel_rfl) (fun w hs => armillaryref27_EncodeEntry.calls k I0 a0 Ap0_2 cp0_2 w hs.im hlp0_2 hrp0_2 t1 hA1) ?_
 rintro w v w' hs ⟨I1, A1, c1, cs1, rfl, hg, hp1⟩
 have hi1 := hg.le
 refine RL.resume (X' := [orow 5 1 A1 t1.1.length c1 cs1]) rfl (hs.call hg) ?_
 clear hs hg
 generalize w'.heap.size = nx1
 clear w w'
 refine RL.simK (K' := [(5, .int .i64 t1.2), (4, .slice A1 t1.1.length c1)]) [] (RFacts.nil _ _ _) 5 [.no, .no, .no, .no, .no] (by kernel_rfl) (by kernel_rfl) ?_
 refine RL.nil (by kernel_rfl) ?_
 refine QN.then_ ?_
 refine OK.seq K31_7 K31_9 (by kernel_rfl) ?_
 refine OK.region 2 O31_7 (by kernel_rfl) ?_
 refine RL.simK (K' := [(11, .slice A1 t1.1.length c1), (5, .int .i64 t1.2)]) [] (RFacts.nil _ _ _) 1 [.no] (by kernel_rfl) (by kernel_rfl) ?_
 refine RL.freeze (e := 5) (sz := 1) (S := A1) (n := t1.1.length) (cap := c1) 0 (by kernel_rfl) hp1 rfl (fun _ h => h.elim) (fun I2 hi2 hl1 hr1 => ?_)
 skip
 obtain ⟨t2, hA2, H⟩ := Option.bind_eq_some_iff.mp H
 refine RL.callP 41 [.slice A1 t1.1.length c1] (some 12) (fun w => armillaryref27_Checksum.Post I2 w t2) (by kernel_rfl) (by kernel_rfl) (fun w hs => armillaryref27_Checksum.calls k I2 t1.1 A1 c1 w hs.im hl1 hr1 t2 hA2) ?_
 rintro w v w' hs ⟨I3, rfl, hg⟩
 have hi3 := hg.le
 refine RL.resume (X' := []) rfl (hs.call hg) ?_
 clear hs hg
 generalize w'.heap.size = nx2
 clear w w'
 refine RL.simK (K' := [(3, .bool (t1.2 == 0)), (2, .int .u32 t2)]) [] (RFacts.nil _ _ _) 4 [.no, .no, .no, .no] (by kernel_rfl) (by kernel_rfl) ?_
 refine RL.nil (by kernel_rfl) ?_
 refine QN.then_ ?_
 refine OK.ret (by kernel_rfl) ?_
 obtain rfl := Option.some.inj H
 refine QN.body rfl [] (RFacts.nil _ _ _) (.no) (.tuple #[.int .u32 t2, .bool (t1.2 == 0)]) (by kernel_rfl) (by kernel_rfl) (by kernel_rfl) ?_ _ (.inr rfl)
 exact fun w' hs' => ⟨_, rfl, I3, rfl, hs'.got _ .slnil⟩

end Go.Proofs.Ytieakigoinebdaa
namespace Go.Proofs.Ytieakigoinebdaa
open Go Go.Proofs.Ytieakigoinebdaa.RW
set_option linter.unusedVariables false
set_option maxRecDepth 100000
set_option maxHeartbeats 8000000

/-! ### armillaryref29_Made: function 39, armillary/armillaryref29.Made -/
noncomputable def K39_0 : Code := cBody Try.f39
noncomputable def K39_1 : Code := cL K39_0
noncomputable def O39_1 : List Oper := cOps K39_1
noncomputable def K39_3 : Code := cR K39_0
noncomputable def K39_4 : Code := cL K39_3
noncomputable def O39_4 : List Oper := cOps K39_4
noncomputable def K39_6 : Code := cR K39_3
noncomputable def K39_7 : Code := cL K39_6
noncomputable def O39_7 : List Oper := cOps K39_7
noncomputable def K39_9 : Code := cR K39_6
noncomputable def K39_10 : Code := cL K39_9
noncomputable def O39_10 : List Oper := cOps K39_10
noncomputable def K39_12 : Code := cR K39_9
noncomputable def K39_13 : Code := cL K39_12
noncomputable def K39_14 : Code := cL K39_13
noncomputable def O39_14 : List Oper := cOps K39_14
noncomputable def K39_16 : Code := cR K39_13
noncomputable def K39_17 : Code := cL K39_16
noncomputable def K39_18 : Code := cL K39_17
noncomputable def O39_18 : List Oper := cOps K39_18
noncomputable def K39_20 : Code := cR K39_17
noncomputable def K39_21 : Code := cL K39_20
noncomputable def K39_22 : Code := cL K39_21
noncomputable def O39_22 : List Oper := cOps K39_22
noncomputable def K39_24 : Code := cR K39_21
noncomputable def K39_25 : Code := cL K39_24
noncomputable def O39_25 : List Oper := cOps K39_25
noncomputable def K39_27 : Code := cR K39_24
noncomputable def O39_27 : List Oper := cOps K39_27
noncomputable def K39_29 : Code := cR K39_20
noncomputable def K39_30 : Code := cL K39_29
noncomputable def O39_30 : List Oper := cOps K39_30
noncomputable def K39_32 : Code := cR K39_29
noncomputable def K39_33 : Code := cL K39_32
noncomputable def O39_33 : List Oper := cOps K39_33
noncomputable def K39_35 : Code := cR K39_32
noncomputable def O39_35 : List Oper := cOps K39_35
noncomputable def K39_37 : Code := cR K39_12
noncomputable def K39_38 : Code := cL K39_37
noncomputable def O39_38 : List Oper := cOps K39_38
noncomputable def K39_40 : Code := cR K39_37
def armillaryref29_Made.k1 (a0 : S32) : Int × Int × Int × Int × ByteArray → Option (S32)
 | (x1, x2, x3, x4, x5) => (some (⟨W .i64 (1 + ((bAnd .i64 a0.f0 255).tmod 4)), x1, (bAnd .i64 a0.f2 255).tmod 3, x2, x3, (⟨x4, x5, []⟩ : S30)⟩ : S32))
def armillaryref29_Made.k2 (a0 : S32) (a1 : Int) : Int × Int → Option (Int × Int × Int × Int × ByteArray)
 | (x6, x7) => (some ((bAnd .i64 a0.f1 255).tmod a1, x6, x7, 0, (⟨#[]⟩ : ByteArray)))
def armillaryref29_Made.f (k : Nat) (a0 : S32) (a1 : Int) : Option (S32) := (if a1 = 0 then none else ((armillaryref29_Sum.f k (⟨W .i64 (1 + (W .i64 (a0.f4.tmod 2))), (⟨#[107]⟩ : ByteArray), []⟩ : S30)).bind fun t1 => ((if (W .i64 (1 + ((bAnd .i64 a0.f0 255).tmod 4))) = 1 then ((armillaryref29_Leader.f a1 ((bAnd .i64 a0.f2 255).tmod 3)).bind fun t2 => (some (t2, (bAnd .i64 a0.f3 255).tmod 3, t1.1, W .i64 (1 + (W .i64 (a0.f4.tmod 2))), (⟨#[107]⟩ : ByteArray)))) else ((if (W .i64 (1 + ((bAnd .i64 a0.f0 255).tmod 4))) = 4 then (some (0, 0)) else (some ((bAnd .i64 a0.f3 255).tmod 3, t1.1))).bind (armillaryref29_Made.k2 a0 a1))).bind (armillaryref29_Made.k1 a0))))
def armillaryref29_Made.Post (I : Imm) (w : World) (r : S32) (v : Value) (w' : World) : Prop :=
 ∃ (J : Imm) (A0_5_2 : Option Addr) (c0_5_2 : Nat) (cs0_5_2 : List Value), v = .agg #[.int .i64 r.f0, .int .i64 r.f1, .int .i64 r.f2, .int .i64 r.f3, .int .u32 r.f4, .int .i64 r.f5.f0, .string r.f5.f1, .slice A0_5_2 r.f5.f2.length c0_5_2] ∧ Got w w' I J [orow 5 1 A0_5_2 r.f5.f2.length c0_5_2 cs0_5_2] ∧ Reps (Ty.int .u8) J r.f5.f2 cs0_5_2
noncomputable def a39_4n : List Nat := [0, 1, 3, 7, 15, 0, 32, 96, 0, 480, 0, 1024, 3072, 7168, 0, 16384, 49152, 114688, 262143, 0, 1048575]
theorem a39_4 : ancs O39_4 [] = a39_4n := by kernel_rfl
theorem a39_4o : drawOk O39_4 a39_4n 20 = true := by kernel_rfl
noncomputable def u39d1l  : List Ld :=
 [⟨19, fun x => .pointer (some ⟨(x 0).2.1, 0, none⟩), fun x => [RW.kblk (x 0).2.1 32 [.int .i64 0, .int .i64 0, .int .i64 0, .int .i64 0, .int .u32 0, .int .i64 0, .string (⟨#[]⟩ : ByteArray), .slice none 0 0]], fun x J => True, fun x J J' h f => trivial⟩]
noncomputable def u39d1g (a0 : S32) (a1 : Int) : List (Nat × ((Nat → Wt) → Value)) := [(9, fun u => .int .i64 ((bAnd .i64 a0.f1 255).tmod a1))]
noncomputable def u39d1q (a0 : S32) (Ap0_5_2 : Option Addr) (cp0_5_2 : Nat) (a1 : Int) (nx0 : Nat) (u : Nat → Wt) : Option (List Value × List (Nat × Value) × List (Nat × Nat)) := qSim Try.prog [] [⟨nx0, [.int .i64 a0.f0, .int .i64 a0.f1, .int .i64 a0.f2, .int .i64 a0.f3, .int .u32 a0.f4, .int .i64 a0.f5.f0, .string a0.f5.f1, .slice Ap0_5_2 a0.f5.f2.length cp0_5_2], 32⟩, ⟨nx0 + 1, [.int .i64 0, .int .i64 0, .int .i64 0, .int .i64 0, .int .u32 0, .int .i64 0, .string (⟨#[]⟩ : ByteArray), .slice none 0 0], 32⟩] O39_4 ⟨58, []⟩ (Ld.vl u39d1l) (u39d1g a0 a1) u [.no, .l 0, .no, .no, .no, .no, .l 0, .no, .no, .no, .no, .l 0, .no, .no, .no, .l 0, .no, .no, .no, .no] 0 (O39_4.take 20) [(4, .pointer (some ⟨nx0 + 1, 0, none⟩)), (2, .pointer (some ⟨nx0, 0, none⟩)), (1, .int .i64 a1)]
noncomputable def u39d1s (a0 : S32) (a1 : Int) (nx0 : Nat) (u : Nat → Wt) : List Value := [.pointer (some ⟨nx0, 0, none⟩), .int .i64 a0.f0, .int .i64 (bAnd .i64 a0.f0 255), .int .i64 ((bAnd .i64 a0.f0 255).tmod 4), .int .i64 (W .i64 (1 + ((bAnd .i64 a0.f0 255).tmod 4))), .pointer (some ⟨nx0, 1, none⟩), .int .i64 a0.f1, .int .i64 (bAnd .i64 a0.f1 255), .int .i64 a1, .int .i64 ((bAnd .i64 a0.f1 255).tmod a1), .pointer (some ⟨nx0, 2, none⟩), .int .i64 a0.f2, .int .i64 (bAnd .i64 a0.f2 255), .int .i64 ((bAnd .i64 a0.f2 255).tmod 3), .pointer (some ⟨nx0, 3, none⟩), .int .i64 a0.f3, .int .i64 (bAnd .i64 a0.f3 255), .int .i64 ((bAnd .i64 a0.f3 255).tmod 3), .agg #[.int .i64 (W .i64 (1 + ((bAnd .i64 a0.f0 255).tmod 4))), .int .i64 ((bAnd .i64 a0.f1 255).tmod a1), .int .i64 ((bAnd .i64 a0.f2 255).tmod 3), .int .i64 ((bAnd .i64 a0.f3 255).tmod 3), .int .u32 0, .int .i64 0, .string (⟨#[]⟩ : ByteArray), .slice none 0 0], .pointer (some ⟨(u 19 0).2.1, 0, none⟩)]
noncomputable def u39d1f (a0 : S32) (a1 : Int) (nx0 : Nat) (i : Nat) (u : Nat → Wt) : List (Nat × Value) := foldPut ⟨58, []⟩ [(4, .pointer (some ⟨nx0 + 1, 0, none⟩)), (2, .pointer (some ⟨nx0, 0, none⟩)), (1, .int .i64 a1)] (O39_4.take i) (((u39d1s a0 a1 nx0) u).take i)
theorem u39d1v (a0 : S32) (Ap0_5_2 : Option Addr) (cp0_5_2 : Nat) (a1 : Int) (nx0 : Nat) (u : Nat → Wt) : (u39d1q a0 Ap0_5_2 cp0_5_2 a1 nx0 u).map (fun x => (x.1, x.2.1)) = some ((u39d1s a0 a1 nx0) u, (u39d1f a0 a1 nx0 20) u) := by kernel_rfl
theorem u39d1e (a0 : S32) (Ap0_5_2 : Option Addr) (cp0_5_2 : Nat) (a1 : Int) (nx0 : Nat) (u : Nat → Wt) : (u39d1q a0 Ap0_5_2 cp0_5_2 a1 nx0 u).map (fun x => x.2.2.map (·.1)) = (u39d1q a0 Ap0_5_2 cp0_5_2 a1 nx0 u).map (fun x => x.2.2.map (·.2)) := by kernel_rfl
theorem armillaryref29_Made.calls (k : Nat) (I0 : Imm) (a0 : S32) (Ap0_5_2 : Option Addr) (cp0_5_2 : Nat) (a1 : Int) (w : World) (hI : I0.at_ w) (hlp0_5_2 : a0.f5.f2.length ≤ cp0_5_2) (hrp0_5_2 : Rd (Ty.int .u8) I0 Ap0_5_2 a0.f5.f2) (r : S32) (h : armillaryref29_Made.f k a0 a1 = some r) :
  Calls Try.prog 39 [.agg #[.int .i64 a0.f0, .int .i64 a0.f1, .int .i64 a0.f2, .int .i64 a0.f3, .int .u32 a0.f4, .int .i64 a0.f5.f0, .string a0.f5.f1, .slice Ap0_5_2 a0.f5.f2.length cp0_5_2], .int .i64 a1].toArray w fun e w' => ∃ v, e = .returned v ∧ armillaryref29_Made.Post I0 w r v w' := by
 have H : (if a1 = 0 then none else ((armillaryref29_Sum.f k (⟨W .i64 (1 + (W .i64 (a0.f4.tmod 2))), (⟨#[107]⟩ : ByteArray), []⟩ : S30)).bind fun t1 => ((if (W .i64 (1 + ((bAnd .i64 a0.f0 255).tmod 4))) = 1 then ((armillaryref29_Leader.f a1 ((bAnd .i64 a0.f2 255).tmod 3)).bind fun t2 => (some (t2, (bAnd .i64 a0.f3 255).tmod 3, t1.1, W .i64 (1 + (W .i64 (a0.f4.tmod 2))), (⟨#[107]⟩ : ByteArray)))) else ((if (W .i64 (1 + ((bAnd .i64 a0.f0 255).tmod 4))) = 4 then (some (0, 0)) else (some ((bAnd .i64 a0.f3 255).tmod 3, t1.1))).bind (armillaryref29_Made.k2 a0 a1))).bind (armillaryref29_Made.k1 a0)))) = some r := h
 clear h
 refine calls_body Try.func39 (by kernel_rfl) 58 (by kernel_rfl) (by kernel_rfl) ⟨w, fun _ => False, I0⟩ I0 [] [(0, .agg #[.int .i64 a0.f0, .int .i64 a0.f1, .int .i64 a0.f2, .int .i64 a0.f3, .int .u32 a0.f4, .int .i64 a0.f5.f0, .string a0.f5.f1, .slice Ap0_5_2 a0.f5.f2.length cp0_5_2]), (1, .int .i64 a1)] (by kernel_rfl) (Sat.start w _ I0 hI) ?_
 generalize w.heap.size = nx0
 show OK _ K39_0 _ _ _ _ _ _ _ _
 refine OK.seq K39_1 K39_3 (by kernel_rfl) ?_
 refine OK.region 0 O39_1 (by kernel_rfl) ?_
 refine RL.simP (K' := [(4, .pointer (some ⟨nx0 + 1, 0, none⟩)), (2, .pointer (some ⟨nx0, 0, none⟩)), (1, .int .i64 a1)]) (nx' := nx0 + 2) (L' := [⟨nx0, [.int .i64 a0.f0, .int .i64 a0.f1, .int .i64 a0.f2, .int .i64 a0.f3, .int .u32 a0.f4, .int .i64 a0.f5.f0, .string a0.f5.f1, .slice Ap0_5_2 a0.f5.f2.length cp0_5_2], 32⟩, ⟨nx0 + 1, [.int .i64 0, .int .i64 0, .int .i64 0, .int .i64 0, .int .u32 0, .int .i64 0, .string (⟨#[]⟩ : ByteArray), .slice none 0 0], 32⟩]) [] (RFacts.nil _ _ _) 2 [.no, .no] (by kernel_rfl) (by kernel_rfl) ?_
 refine RL.nil (by kernel_rfl) ?_
 refine QN.then_ ?_
 refine OK.seq K39_4 K39_6 (by kernel_rfl) ?_
 by_cases hc1 : a1 = 0
 ·rw [if_pos hc1] at H; cases H
 rw [if_neg hc1] at H
 refine OK.drawnC 1 20 O39_4 a39_4n (by kernel_rfl) (by kernel_rfl) u39d1l (u39d1g a0 a1) [] (RI.nil _) [.no, .l 0, .no, .no, .no, .no, .l 0, .no, .no, .no, .no, .l 0, .no, .no, .no, .l 0, .no, .no, .no, .no] a39_4 a39_4o (by kernel_rfl) (by kernel_rfl) (u39d1s a0 a1 nx0) (u39d1f a0 a1 nx0 20) (u39d1v a0 Ap0_5_2 cp0_5_2 a1 nx0) (u39d1e a0 Ap0_5_2 cp0_5_2 a1 nx0) [u39d1f a0 a1 nx0 19] (framesOk.cons (fun u => rfl) framesOk.nil) ?_ [u39d1f a0 a1 nx0 9] (framesOk.cons (fun u => rfl) framesOk.nil) ?_ ?_
 ·refine LoudsG.cons ?_ (LoudsG.nil)
  ·intro D u J w hp hJ hs hF
   refine (Does.make hs.im (fun n_ => .pointer (some ⟨n_, 0, none⟩)) (cs := [.int .i64 0, .int .i64 0, .int .i64 0, .int .i64 0, .int .u32 0, .int .i64 0, .string (⟨#[]⟩ : ByteArray), .slice none 0 0]) (ty := 32) (fun n_ => by kernel_rfl)).mono ?_
   rintro v w' ⟨rfl, hg⟩
   exact ⟨fun _ => (none, w.heap.size, []), J, rfl, hg, trivial⟩
 ·refine Givens.cons (fun u w =>  ?_) (fun _ _ _ => rfl) (Givens.nil)
  ·exact giv_rem .i64 (bAnd .i64 a0.f1 255) a1 (by kernel_rfl) hc1 w
 intro u I1 nx1 hi1 hF
 clear hF
 refine RL.norm (K' := [(5, .pointer (some ⟨(u 19 0).2.1, 0, none⟩)), (27, .agg #[.int .i64 (W .i64 (1 + ((bAnd .i64 a0.f0 255).tmod 4))), .int .i64 ((bAnd .i64 a0.f1 255).tmod a1), .int .i64 ((bAnd .i64 a0.f2 255).tmod 3), .int .i64 ((bAnd .i64 a0.f3 255).tmod 3), .int .u32 0, .int .i64 0, .string (⟨#[]⟩ : ByteArray), .slice none 0 0]), (26, .int .i64 ((bAnd .i64 a0.f3 255).tmod 3)), (25, .int .i64 (bAnd .i64 a0.f3 255)), (24, .int .i64 a0.f3), (23, .pointer (some ⟨nx0, 3, none⟩)), (22, .int .i64 ((bAnd .i64 a0.f2 255).tmod 3)), (21, .int .i64 (bAnd .i64 a0.f2 255)), (20, .int .i64 a0.f2), (19, .pointer (some ⟨nx0, 2, none⟩)), (18, .int .i64 ((bAnd .i64 a0.f1 255).tmod a1)), (17, .int .i64 a1), (16, .int .i64 (bAnd .i64 a0.f1 255)), (15, .int .i64 a0.f1), (14, .pointer (some ⟨nx0, 1, none⟩)), (13, .int .i64 (W .i64 (1 + ((bAnd .i64 a0.f0 255).tmod 4)))), (12, .int .i64 ((bAnd .i64 a0.f0 255).tmod 4)), (11, .int .i64 (bAnd .i64 a0.f0 255)), (10, .int .i64 a0.f0), (9, .pointer (some ⟨nx0, 0, none⟩)), (4, .pointer (some ⟨nx0 + 1, 0, none⟩)), (2, .pointer (some ⟨nx0, 0, none⟩)), (1, .int .i64 a1)]) (X' := [RW.kblk (u 19 0).2.1 32 [.int .i64 0, .int .i64 0, .int .i64 0, .int .i64 0, .int .u32 0, .int .i64 0, .string (⟨#[]⟩ : ByteArray), .slice none 0 0]]) (by kernel_rfl) rfl rfl rfl ?_
 generalize (u 19 0).1 = A1
 generalize (u 19 0).2.1 = c1
 generalize (u 19 0).2.2 = cs1
 clear u
 refine RL.kblk (g := c1) (ty := 32) (cs := [.int .i64 0, .int .i64 0, .int .i64 0, .int .i64 0, .int .u32 0, .int .i64 0, .string (⟨#[]⟩ : ByteArray), .slice none 0 0]) 0 (by kernel_rfl) ?_
 show RL _ _ _ 20 _ [(5, .pointer (some ⟨c1, 0, none⟩)), (27, .agg #[.int .i64 (W .i64 (1 + ((bAnd .i64 a0.f0 255).tmod 4))), .int .i64 ((bAnd .i64 a0.f1 255).tmod a1), .int .i64 ((bAnd .i64 a0.f2 255).tmod 3), .int .i64 ((bAnd .i64 a0.f3 255).tmod 3), .int .u32 0, .int .i64 0, .string (⟨#[]⟩ : ByteArray), .slice none 0 0]), (26, .int .i64 ((bAnd .i64 a0.f3 255).tmod 3)), (25, .int .i64 (bAnd .i64 a0.f3 255)), (24, .int .i64 a0.f3), (23, .pointer (some ⟨nx0, 3, none⟩)), (22, .int .i64 ((bAnd .i64 a0.f2 255).tmod 3)), (21, .int .i64 (bAnd .i64 a0.f2 255)), (20, .int .i64 a0.f2), (19, .pointer (some ⟨nx0, 2, none⟩)), (18, .int .i64 ((bAnd .i64 a0.f1 255).tmod a1)), (17, .int .i64 a1), (16, .int .i64 (bAnd .i64 a0.f1 255)), (15, .int .i64 a0.f1), (14, .pointer (some ⟨nx0, 1, none⟩)), (13, .int .i64 (W .i64 (1 + ((bAnd .i64 a0.f0 255).tmod 4)))), (12, .int .i64 ((bAnd .i64 a0.f0 255).tmod 4)), (11, .int .i64 (bAnd .i64 a0.f0 255)), (10, .int .i64 a0.f0), (9, .pointer (some ⟨nx0, 0, none⟩)), (4, .pointer (some ⟨nx0 + 1, 0, none⟩)), (2, .pointer (some ⟨nx0, 0, none⟩)), (1, .int .i64 a1)] _ _ _ [⟨nx0, [.int .i64 a0.f0, .int .i64 a0.f1, .int .i64 a0.f2, .int .i64 a0.f3, .int .u32 a0.f4, .int .i64 a0.f5.f0, .string a0.f5.f1, .slice Ap0_5_2 a0.f5.f2.length cp0_5_2], 32⟩, ⟨nx0 + 1, [.int .i64 0, .int .i64 0, .int .i64 0, .int .i64 0, .int .u32 0, .int .i64 0, .string (⟨#[]⟩ : ByteArray), .slice none 0 0], 32⟩, ⟨c1, [.int .i64 0, .int .i64 0, .int .i64 0, .int .i64 0, .int .u32 0, .int .i64 0, .string (⟨#[]⟩ : ByteArray), .slice none 0 0], 32⟩] []
 refine RL.simP (K' := [(5, .pointer (some ⟨c1, 0, none⟩)), (4, .pointer (some ⟨nx0 + 1, 0, none⟩)), (2, .pointer (some ⟨nx0, 0, none⟩)), (1, .int .i64 a1)]) (nx' := nx1) (L' := [⟨nx0, [.int .i64 a0.f0, .int .i64 a0.f1, .int .i64 a0.f2, .int .i64 a0.f3, .int .u32 a0.f4, .int .i64 a0.f5.f0, .string a0.f5.f1, .slice Ap0_5_2 a0.f5.f2.length cp0_5_2], 32⟩, ⟨nx0 + 1, [.int .i64 0, .int .i64 0, .int .i64 0, .int .i64 0, .int .u32 0, .int .i64 0, .string (⟨#[]⟩ : ByteArray), .slice none 0 0], 32⟩, ⟨c1, [.int .i64 (W .i64 (1 + ((bAnd .i64 a0.f0 255).tmod 4))), .int .i64 ((bAnd .i64 a0.f1 255).tmod a1), .int .i64 ((bAnd .i64 a0.f2 255).tmod 3), .int .i64 ((bAnd .i64 a0.f3 255).tmod 3), .int .u32 0, .int .i64 0, .string (⟨#[]⟩ : ByteArray), .slice none 0 0], 32⟩]) [] (RFacts.nil _ _ _) 1 [.l 2] (by kernel_rfl) (by kernel_rfl) ?_
 refine RL.nil (by kernel_rfl) ?_
 refine QN.then_ ?_
 refine OK.seq K39_7 K39_9 (by kernel_rfl) ?_
 refine OK.region 2 O39_7 (by kernel_rfl) ?_
 refine RL.simP (K' := [(6, .pointer (some ⟨nx1, 0, none⟩)), (5, .pointer (some ⟨c1, 0, none⟩)), (4, .pointer (some ⟨nx0 + 1, 0, none⟩)), (1, .int .i64 a1)]) (nx' := nx1 + 1) (L' := [⟨nx0, [.int .i64 a0.f0, .int .i64 a0.f1, .int .i64 a0.f2, .int .i64 a0.f3, .int .u32 a0.f4, .int .i64 a0.f5.f0, .string a0.f5.f1, .slice Ap0_5_2 a0.f5.f2.length cp0_5_2], 32⟩, ⟨nx0 + 1, [.int .i64 0, .int .i64 0, .int .i64 0, .int .i64 0, .int .u32 0, .int .i64 0, .string (⟨#[]⟩ : ByteArray), .slice none 0 0], 32⟩, ⟨c1, [.int .i64 (W .i64 (1 + ((bAnd .i64 a0.f0 255).tmod 4))), .int .i64 ((bAnd .i64 a0.f1 255).tmod a1), .int .i64 ((bAnd .i64 a0.f2 255).tmod 3), .int .i64 ((bAnd .i64 a0.f3 255).tmod 3), .int .u32 0, .int .i64 0, .string (⟨#[]⟩ : ByteArray), .slice none 0 0], 32⟩, ⟨nx1, [.int .i64 (W .i64 (1 + (W .i64 (a0.f4.tmod 2)))), .string (⟨#[107]⟩ : ByteArray), .slice none 0 0], 30⟩]) [] (RFacts.nil _ _ _) 8 [.no, .l 0, .no, .no, .no, .no, .no, .l 3] (by kernel_rfl) (by kernel_rfl) ?_
 refine RL.nil (by kernel_rfl) ?_
 refine QN.then_ ?_
 refine OK.seq K39_10 K39_12 (by kernel_rfl) ?_
 refine OK.region 3 O39_10 (by kernel_rfl) ?_
 refine RL.simK (K' := [(35, .agg #[.int .i64 (W .i64 (1 + (W .i64 (a0.f4.tmod 2)))), .string (⟨#[107]⟩ : ByteArray), .slice none 0 0]), (6, .pointer (some ⟨nx1, 0, none⟩)), (5, .pointer (some ⟨c1, 0, none⟩)), (4, .pointer (some ⟨nx0 + 1, 0, none⟩)), (1, .int .i64 a1)]) [] (RFacts.nil _ _ _) 1 [.l 3] (by kernel_rfl) (by kernel_rfl) ?_
 obtain ⟨t1, hA1, H⟩ := Option.bind_eq_some_iff.mp H
 refine RL.callP 31 [.agg #[.int .i64 (W .i64 (1 + (W .i64 (a0.f4.tmod 2)))), .string (⟨#[107]⟩ : ByteArray), .slice none 0 0]] (some 36) (fun w => armillaryref29_Sum.Post I1 w t1) (by kernel_rfl) (by kernel_rfl) (fun w hs => armillaryref29_Sum.calls k I1 (⟨W .i64 (1 + (W .i64 (a0.f4.tmod 2))), (⟨#[107]⟩ : ByteArray), []⟩ : S30) none 0 w hs.im (Nat.le_refl _) (Rd.nil _ _ _) t1 hA1) ?_
 rintro w v w' hs ⟨I2, rfl, hg⟩
 have hi2 := hg.le
 refine RL.resume (X' := []) rfl (hs.call hg) ?_
 clear hs hg
 generalize w'.heap.size = nx2
 clear w w'
 refine RL.simK (K' := [(7, .int .u32 t1.1), (6, .pointer (some ⟨nx1, 0, none⟩)), (5, .pointer (some ⟨c1, 0, none⟩)), (4, .pointer (some ⟨nx0 + 1, 0, none⟩)), (1, .int .i64 a1)]) [] (RFacts.nil _ _ _) 5 [.no, .no, .no, .no, .no] (by kernel_rfl) (by kernel_rfl) ?_
 refine RL.nil (by kernel_rfl) ?_
 refine QN.then_ ?_
 refine OK.seq K39_13 K39_37 (by kernel_rfl) ?_
 refine OK.seq K39_14 K39_16 (by kernel_rfl) ?_
 refine OK.region 4 O39_14 (by kernel_rfl) ?_
 refine RL.simK (K' := [(40, .int .i64 (W .i64 (1 + ((bAnd .i64 a0.f0 255).tmod 4)))), (7, .int .u32 t1.1), (6, .pointer (some ⟨nx1, 0, none⟩)), (5, .pointer (some ⟨c1, 0, none⟩)), (4, .pointer (some ⟨nx0 + 1, 0, none⟩)), (1, .int .i64 a1)]) [] (RFacts.nil _ _ _) 2 [.no, .l 2] (by kernel_rfl) (by kernel_rfl) ?_
 refine RL.nil (by kernel_rfl) ?_
 refine QN.then_ ?_
 refine OK.block 0 K39_17 (by kernel_rfl) ?_
 refine OK.seq K39_18 K39_20 (by kernel_rfl) ?_
 refine OK.region 6 O39_18 (by kernel_rfl) ?_
 refine RL.simK (K' := [(43, .bool ((W .i64 (1 + ((bAnd .i64 a0.f0 255).tmod 4))) == 1)), (40, .int .i64 (W .i64 (1 + ((bAnd .i64 a0.f0 255).tmod 4)))), (7, .int .u32 t1.1), (6, .pointer (some ⟨nx1, 0, none⟩)), (5, .pointer (some ⟨c1, 0, none⟩)), (4, .pointer (some ⟨nx0 + 1, 0, none⟩)), (1, .int .i64 a1)]) [] (RFacts.nil _ _ _) 2 [.no, .no] (by kernel_rfl) (by kernel_rfl) ?_
 refine RL.nil (by kernel_rfl) ?_
 refine QN.then_ ?_
 refine OK.join (fun K' I' _ L' X' => ∃ (x1 : Int) (x2 : Int) (x3 : Int) (x4 : Int) (x5 : ByteArray), K' = [(4, .pointer (some ⟨nx0 + 1, 0, none⟩)), (5, .pointer (some ⟨c1, 0, none⟩))] ∧ L' = [⟨nx0, [.int .i64 a0.f0, .int .i64 a0.f1, .int .i64 a0.f2, .int .i64 a0.f3, .int .u32 a0.f4, .int .i64 a0.f5.f0, .string a0.f5.f1, .slice Ap0_5_2 a0.f5.f2.length cp0_5_2], 32⟩, ⟨nx0 + 1, [.int .i64 0, .int .i64 0, .int .i64 0, .int .i64 0, .int .u32 0, .int .i64 0, .string (⟨#[]⟩ : ByteArray), .slice none 0 0], 32⟩, ⟨c1, [.int .i64 (W .i64 (1 + ((bAnd .i64 a0.f0 255).tmod 4))), .int .i64 x1, .int .i64 ((bAnd .i64 a0.f2 255).tmod 3), .int .i64 x2, .int .u32 x3, .int .i64 x4, .string x5, .slice none 0 0], 32⟩, ⟨nx1, [.int .i64 (W .i64 (1 + (W .i64 (a0.f4.tmod 2)))), .string (⟨#[107]⟩ : ByteArray), .slice none 0 0], 30⟩] ∧ X' = [] ∧ Imm.le I2 I' ∧ armillaryref29_Made.k1 a0 (x1, x2, x3, x4, x5) = some r) ?_ ?_
 ·rintro _ I3 nx3 _ _ ⟨x1, x2, x3, x4, x5, rfl, rfl, rfl, hi3, H⟩
  replace H : (some (⟨W .i64 (1 + ((bAnd .i64 a0.f0 255).tmod 4)), x1, (bAnd .i64 a0.f2 255).tmod 3, x2, x3, (⟨x4, x5, []⟩ : S30)⟩ : S32)) = some r := H
  refine QN.blkN ?_
  refine QN.then_ ?_
  refine OK.seq K39_38 K39_40 (by kernel_rfl) ?_
  refine OK.region 12 O39_38 (by kernel_rfl) ?_
  refine RL.simP (K' := [(4, .pointer (some ⟨nx0 + 1, 0, none⟩))]) (nx' := nx3) (L' := [⟨nx0, [.int .i64 a0.f0, .int .i64 a0.f1, .int .i64 a0.f2, .int .i64 a0.f3, .int .u32 a0.f4, .int .i64 a0.f5.f0, .string a0.f5.f1, .slice Ap0_5_2 a0.f5.f2.length cp0_5_2], 32⟩, ⟨nx0 + 1, [.int .i64 (W .i64 (1 + ((bAnd .i64 a0.f0 255).tmod 4))), .int .i64 x1, .int .i64 ((bAnd .i64 a0.f2 255).tmod 3), .int .i64 x2, .int .u32 x3, .int .i64 x4, .string x5, .slice none 0 0], 32⟩, ⟨c1, [.int .i64 (W .i64 (1 + ((bAnd .i64 a0.f0 255).tmod 4))), .int .i64 x1, .int .i64 ((bAnd .i64 a0.f2 255).tmod 3), .int .i64 x2, .int .u32 x3, .int .i64 x4, .string x5, .slice none 0 0], 32⟩, ⟨nx1, [.int .i64 (W .i64 (1 + (W .i64 (a0.f4.tmod 2)))), .string (⟨#[107]⟩ : ByteArray), .slice none 0 0], 30⟩]) [] (RFacts.nil _ _ _) 2 [.l 2, .l 1] (by kernel_rfl) (by kernel_rfl) ?_
  refine RL.nil (by kernel_rfl) ?_
  refine QN.then_ ?_
  refine OK.ret (by kernel_rfl) ?_
  obtain rfl := Option.some.inj H
  refine QN.body rfl [] (RFacts.nil _ _ _) (.l 1) (.agg #[.int .i64 (W .i64 (1 + ((bAnd .i64 a0.f0 255).tmod 4))), .int .i64 x1, .int .i64 ((bAnd .i64 a0.f2 255).tmod 3), .int .i64 x2, .int .u32 x3, .int .i64 x4, .string x5, .slice none 0 0]) (by kernel_rfl) (by kernel_rfl) (by kernel_rfl) ?_ _ (.inr rfl)
  exact fun w' hs' => ⟨_, rfl, I3, none, 0, [], rfl, gotNil1 (hs'.got [] (List.nil_sublist _)), rfl⟩
 ·intro Q_1 hJ1 hQ1
  obtain ⟨y1, H, HK1⟩ := Option.bind_eq_some_iff.mp H
  refine OK.cond (.tmp 43) K39_21 K39_29 ((W .i64 (1 + ((bAnd .i64 a0.f0 255).tmod 4))) == 1) (by kernel_rfl) (by kernel_rfl) (by kernel_rfl) (fun hb => ?_) (fun hb => ?_)
  ·skip
   have hc := (beq_iff_eq.1 hb)
   rw [if_pos hc] at H
   clear hb
   refine OK.seq K39_22 K39_24 (by kernel_rfl) ?_
   refine OK.region 7 O39_22 (by kernel_rfl) ?_
   refine RL.simK (K' := [(47, .int .i64 ((bAnd .i64 a0.f2 255).tmod 3)), (45, .int .i64 a1), (7, .int .u32 t1.1), (6, .pointer (some ⟨nx1, 0, none⟩)), (5, .pointer (some ⟨c1, 0, none⟩)), (4, .pointer (some ⟨nx0 + 1, 0, none⟩))]) [] (RFacts.nil _ _ _) 3 [.no, .no, .l 2] (by kernel_rfl) (by kernel_rfl) ?_
   obtain ⟨t2, hA2, H⟩ := Option.bind_eq_some_iff.mp H
   refine RL.callP 25 [.int .i64 a1, .int .i64 ((bAnd .i64 a0.f2 255).tmod 3)] (some 48) (fun w => armillaryref29_Leader.Post I2 w t2) (by kernel_rfl) (by kernel_rfl) (fun w hs => armillaryref29_Leader.calls I2 a1 ((bAnd .i64 a0.f2 255).tmod 3) w hs.im  t2 hA2) ?_
   rintro w v w' hs ⟨I4, rfl, hg⟩
   have hi4 := hg.le
   refine RL.resume (X' := []) rfl (hs.call hg) ?_
   clear hs hg
   generalize w'.heap.size = nx4
   clear w w'
   refine RL.simP (K' := [(7, .int .u32 t1.1), (6, .pointer (some ⟨nx1, 0, none⟩)), (5, .pointer (some ⟨c1, 0, none⟩)), (4, .pointer (some ⟨nx0 + 1, 0, none⟩))]) (nx' := nx4) (L' := [⟨nx0, [.int .i64 a0.f0, .int .i64 a0.f1, .int .i64 a0.f2, .int .i64 a0.f3, .int .u32 a0.f4, .int .i64 a0.f5.f0, .string a0.f5.f1, .slice Ap0_5_2 a0.f5.f2.length cp0_5_2], 32⟩, ⟨nx0 + 1, [.int .i64 0, .int .i64 0, .int .i64 0, .int .i64 0, .int .u32 0, .int .i64 0, .string (⟨#[]⟩ : ByteArray), .slice none 0 0], 32⟩, ⟨c1, [.int .i64 (W .i64 (1 + ((bAnd .i64 a0.f0 255).tmod 4))), .int .i64 t2, .int .i64 ((bAnd .i64 a0.f2 255).tmod 3), .int .i64 ((bAnd .i64 a0.f3 255).tmod 3), .int .u32 0, .int .i64 0, .string (⟨#[]⟩ : ByteArray), .slice none 0 0], 32⟩, ⟨nx1, [.int .i64 (W .i64 (1 + (W .i64 (a0.f4.tmod 2)))), .string (⟨#[107]⟩ : ByteArray), .slice none 0 0], 30⟩]) [] (RFacts.nil _ _ _) 2 [.no, .l 2] (by kernel_rfl) (by kernel_rfl) ?_
   refine RL.nil (by kernel_rfl) ?_
   refine QN.then_ ?_
   refine OK.seq K39_25 K39_27 (by kernel_rfl) ?_
   refine OK.region 8 O39_25 (by kernel_rfl) ?_
   refine RL.simP (K' := [(7, .int .u32 t1.1), (5, .pointer (some ⟨c1, 0, none⟩)), (4, .pointer (some ⟨nx0 + 1, 0, none⟩))]) (nx' := nx4) (L' := [⟨nx0, [.int .i64 a0.f0, .int .i64 a0.f1, .int .i64 a0.f2, .int .i64 a0.f3, .int .u32 a0.f4, .int .i64 a0.f5.f0, .string a0.f5.f1, .slice Ap0_5_2 a0.f5.f2.length cp0_5_2], 32⟩, ⟨nx0 + 1, [.int .i64 0, .int .i64 0, .int .i64 0, .int .i64 0, .int .u32 0, .int .i64 0, .string (⟨#[]⟩ : ByteArray), .slice none 0 0], 32⟩, ⟨c1, [.int .i64 (W .i64 (1 + ((bAnd .i64 a0.f0 255).tmod 4))), .int .i64 t2, .int .i64 ((bAnd .i64 a0.f2 255).tmod 3), .int .i64 ((bAnd .i64 a0.f3 255).tmod 3), .int .u32 0, .int .i64 (W .i64 (1 + (W .i64 (a0.f4.tmod 2)))), .string (⟨#[107]⟩ : ByteArray), .slice none 0 0], 32⟩, ⟨nx1, [.int .i64 (W .i64 (1 + (W .i64 (a0.f4.tmod 2)))), .string (⟨#[107]⟩ : ByteArray), .slice none 0 0], 30⟩]) [] (RFacts.nil _ _ _) 3 [.l 3, .no, .l 2] (by kernel_rfl) (by kernel_rfl) ?_
   refine RL.nil (by kernel_rfl) ?_
   refine QN.then_ ?_
   refine OK.region 9 O39_27 (by kernel_rfl) ?_
   refine RL.simP (K' := [(5, .pointer (some ⟨c1, 0, none⟩)), (4, .pointer (some ⟨nx0 + 1, 0, none⟩))]) (nx' := nx4) (L' := [⟨nx0, [.int .i64 a0.f0, .int .i64 a0.f1, .int .i64 a0.f2, .int .i64 a0.f3, .int .u32 a0.f4, .int .i64 a0.f5.f0, .string a0.f5.f1, .slice Ap0_5_2 a0.f5.f2.length cp0_5_2], 32⟩, ⟨nx0 + 1, [.int .i64 0, .int .i64 0, .int .i64 0, .int .i64 0, .int .u32 0, .int .i64 0, .string (⟨#[]⟩ : ByteArray), .slice none 0 0], 32⟩, ⟨c1, [.int .i64 (W .i64 (1 + ((bAnd .i64 a0.f0 255).tmod 4))), .int .i64 t2, .int .i64 ((bAnd .i64 a0.f2 255).tmod 3), .int .i64 ((bAnd .i64 a0.f3 255).tmod 3), .int .u32 t1.1, .int .i64 (W .i64 (1 + (W .i64 (a0.f4.tmod 2)))), .string (⟨#[107]⟩ : ByteArray), .slice none 0 0], 32⟩, ⟨nx1, [.int .i64 (W .i64 (1 + (W .i64 (a0.f4.tmod 2)))), .string (⟨#[107]⟩ : ByteArray), .slice none 0 0], 30⟩]) [] (RFacts.nil _ _ _) 3 [.no, .no, .l 2] (by kernel_rfl) (by kernel_rfl) ?_
   refine RL.nil (by kernel_rfl) ?_
   obtain rfl := Option.some.inj H
   refine QN.sub (K' := [(4, .pointer (some ⟨nx0 + 1, 0, none⟩)), (5, .pointer (some ⟨c1, 0, none⟩))]) (L' := [⟨nx0, [.int .i64 a0.f0, .int .i64 a0.f1, .int .i64 a0.f2, .int .i64 a0.f3, .int .u32 a0.f4, .int .i64 a0.f5.f0, .string a0.f5.f1, .slice Ap0_5_2 a0.f5.f2.length cp0_5_2], 32⟩, ⟨nx0 + 1, [.int .i64 0, .int .i64 0, .int .i64 0, .int .i64 0, .int .u32 0, .int .i64 0, .string (⟨#[]⟩ : ByteArray), .slice none 0 0], 32⟩, ⟨c1, [.int .i64 (W .i64 (1 + ((bAnd .i64 a0.f0 255).tmod 4))), .int .i64 t2, .int .i64 ((bAnd .i64 a0.f2 255).tmod 3), .int .i64 ((bAnd .i64 a0.f3 255).tmod 3), .int .u32 t1.1, .int .i64 (W .i64 (1 + (W .i64 (a0.f4.tmod 2)))), .string (⟨#[107]⟩ : ByteArray), .slice none 0 0], 32⟩, ⟨nx1, [.int .i64 (W .i64 (1 + (W .i64 (a0.f4.tmod 2)))), .string (⟨#[107]⟩ : ByteArray), .slice none 0 0], 30⟩]) (by kernel_rfl) (.cons_cons _ (.cons_cons _ (.cons_cons _ (.cons_cons _ .slnil)))) (.refl _) ?_
   exact hJ1 _ _ _ _ _ ⟨t2, (bAnd .i64 a0.f3 255).tmod 3, t1.1, W .i64 (1 + (W .i64 (a0.f4.tmod 2))), (⟨#[107]⟩ : ByteArray), rfl, rfl, rfl, hi4, HK1⟩
  ·skip
   have hc := (beq_eq_false_iff_ne.1 hb)
   rw [if_neg hc] at H
   clear hb
   refine OK.seq K39_30 K39_32 (by kernel_rfl) ?_
   refine OK.region 10 O39_30 (by kernel_rfl) ?_
   refine RL.simK (K' := [(54, .bool ((W .i64 (1 + ((bAnd .i64 a0.f0 255).tmod 4))) == 4)), (7, .int .u32 t1.1), (5, .pointer (some ⟨c1, 0, none⟩)), (4, .pointer (some ⟨nx0 + 1, 0, none⟩))]) [] (RFacts.nil _ _ _) 2 [.no, .no] (by kernel_rfl) (by kernel_rfl) ?_
   refine RL.nil (by kernel_rfl) ?_
   refine QN.then_ ?_
   refine OK.join (fun K' I' _ L' X' => ∃ (x6 : Int) (x7 : Int), K' = [(4, .pointer (some ⟨nx0 + 1, 0, none⟩)), (5, .pointer (some ⟨c1, 0, none⟩))] ∧ L' = [⟨nx0, [.int .i64 a0.f0, .int .i64 a0.f1, .int .i64 a0.f2, .int .i64 a0.f3, .int .u32 a0.f4, .int .i64 a0.f5.f0, .string a0.f5.f1, .slice Ap0_5_2 a0.f5.f2.length cp0_5_2], 32⟩, ⟨nx0 + 1, [.int .i64 0, .int .i64 0, .int .i64 0, .int .i64 0, .int .u32 0, .int .i64 0, .string (⟨#[]⟩ : ByteArray), .slice none 0 0], 32⟩, ⟨c1, [.int .i64 (W .i64 (1 + ((bAnd .i64 a0.f0 255).tmod 4))), .int .i64 ((bAnd .i64 a0.f1 255).tmod a1), .int .i64 ((bAnd .i64 a0.f2 255).tmod 3), .int .i64 x6, .int .u32 x7, .int .i64 0, .string (⟨#[]⟩ : ByteArray), .slice none 0 0], 32⟩, ⟨nx1, [.int .i64 (W .i64 (1 + (W .i64 (a0.f4.tmod 2)))), .string (⟨#[107]⟩ : ByteArray), .slice none 0 0], 30⟩] ∧ X' = [] ∧ Imm.le I2 I' ∧ armillaryref29_Made.k2 a0 a1 (x6, x7) = some y1) ?_ ?_
   ·rintro _ I5 nx5 _ _ ⟨x6, x7, rfl, rfl, rfl, hi5, H⟩
    replace H : (some ((bAnd .i64 a0.f1 255).tmod a1, x6, x7, 0, (⟨#[]⟩ : ByteArray))) = some y1 := H
    obtain rfl := Option.some.inj H
    refine QN.sub (K' := [(4, .pointer (some ⟨nx0 + 1, 0, none⟩)), (5, .pointer (some ⟨c1, 0, none⟩))]) (L' := [⟨nx0, [.int .i64 a0.f0, .int .i64 a0.f1, .int .i64 a0.f2, .int .i64 a0.f3, .int .u32 a0.f4, .int .i64 a0.f5.f0, .string a0.f5.f1, .slice Ap0_5_2 a0.f5.f2.length cp0_5_2], 32⟩, ⟨nx0 + 1, [.int .i64 0, .int .i64 0, .int .i64 0, .int .i64 0, .int .u32 0, .int .i64 0, .string (⟨#[]⟩ : ByteArray), .slice none 0 0], 32⟩, ⟨c1, [.int .i64 (W .i64 (1 + ((bAnd .i64 a0.f0 255).tmod 4))), .int .i64 ((bAnd .i64 a0.f1 255).tmod a1), .int .i64 ((bAnd .i64 a0.f2 255).tmod 3), .int .i64 x6, .int .u32 x7, .int .i64 0, .string (⟨#[]⟩ : ByteArray), .slice none 0 0], 32⟩, ⟨nx1, [.int .i64 (W .i64 (1 + (W .i64 (a0.f4.tmod 2)))), .string (⟨#[107]⟩ : ByteArray), .slice none 0 0], 30⟩]) (by kernel_rfl) (.cons_cons _ (.cons_cons _ (.cons_cons _ (.cons_cons _ .slnil)))) (.refl _) ?_
    exact hJ1 _ _ _ _ _ ⟨(bAnd .i64 a0.f1 255).tmod a1, x6, x7, 0, (⟨#[]⟩ : ByteArray), rfl, rfl, rfl, hi5, HK1⟩
   ·intro Q_2 hJ2 hQ2
    obtain ⟨y2, H, HK2⟩ := Option.bind_eq_some_iff.mp H
    refine OK.cond (.tmp 54) K39_33 K39_35 ((W .i64 (1 + ((bAnd .i64 a0.f0 255).tmod 4))) == 4) (by kernel_rfl) (by kernel_rfl) (by kernel_rfl) (fun hb => ?_) (fun hb => ?_)
    ·skip
     have hc := (beq_iff_eq.1 hb)
     rw [if_pos hc] at H
     clear hb
     refine OK.region 11 O39_33 (by kernel_rfl) ?_
     refine RL.simP (K' := [(5, .pointer (some ⟨c1, 0, none⟩)), (4, .pointer (some ⟨nx0 + 1, 0, none⟩))]) (nx' := nx2) (L' := [⟨nx0, [.int .i64 a0.f0, .int .i64 a0.f1, .int .i64 a0.f2, .int .i64 a0.f3, .int .u32 a0.f4, .int .i64 a0.f5.f0, .string a0.f5.f1, .slice Ap0_5_2 a0.f5.f2.length cp0_5_2], 32⟩, ⟨nx0 + 1, [.int .i64 0, .int .i64 0, .int .i64 0, .int .i64 0, .int .u32 0, .int .i64 0, .string (⟨#[]⟩ : ByteArray), .slice none 0 0], 32⟩, ⟨c1, [.int .i64 (W .i64 (1 + ((bAnd .i64 a0.f0 255).tmod 4))), .int .i64 ((bAnd .i64 a0.f1 255).tmod a1), .int .i64 ((bAnd .i64 a0.f2 255).tmod 3), .int .i64 0, .int .u32 0, .int .i64 0, .string (⟨#[]⟩ : ByteArray), .slice none 0 0], 32⟩, ⟨nx1, [.int .i64 (W .i64 (1 + (W .i64 (a0.f4.tmod 2)))), .string (⟨#[107]⟩ : ByteArray), .slice none 0 0], 30⟩]) [] (RFacts.nil _ _ _) 2 [.no, .l 2] (by kernel_rfl) (by kernel_rfl) ?_
     refine RL.nil (by kernel_rfl) ?_
     obtain rfl := Option.some.inj H
     refine QN.sub (K' := [(4, .pointer (some ⟨nx0 + 1, 0, none⟩)), (5, .pointer (some ⟨c1, 0, none⟩))]) (L' := [⟨nx0, [.int .i64 a0.f0, .int .i64 a0.f1, .int .i64 a0.f2, .int .i64 a0.f3, .int .u32 a0.f4, .int .i64 a0.f5.f0, .string a0.f5.f1, .slice Ap0_5_2 a0.f5.f2.length cp0_5_2], 32⟩, ⟨nx0 + 1, [.int .i64 0, .int .i64 0, .int .i64 0, .int .i64 0, .int .u32 0, .int .i64 0, .string (⟨#[]⟩ : ByteArray), .slice none 0 0], 32⟩, ⟨c1, [.int .i64 (W .i64 (1 + ((bAnd .i64 a0.f0 255).tmod 4))), .int .i64 ((bAnd .i64 a0.f1 255).tmod a1), .int .i64 ((bAnd .i64 a0.f2 255).tmod 3), .int .i64 0, .int .u32 0, .int .i64 0, .string (⟨#[]⟩ : ByteArray), .slice none 0 0], 32⟩, ⟨nx1, [.int .i64 (W .i64 (1 + (W .i64 (a0.f4.tmod 2)))), .string (⟨#[107]⟩ : ByteArray), .slice none 0 0], 30⟩]) (by kernel_rfl) (.cons_cons _ (.cons_cons _ (.cons_cons _ (.cons_cons _ .slnil)))) (.refl _) ?_
     exact hJ2 _ _ _ _ _ ⟨0, 0, rfl, rfl, rfl, (Imm.le_refl _), HK2⟩
    ·skip
     have hc := (beq_eq_false_iff_ne.1 hb)
     rw [if_neg hc] at H
     clear hb
     refine OK.region 5 O39_35 (by kernel_rfl) ?_
     refine RL.simP (K' := [(5, .pointer (some ⟨c1, 0, none⟩)), (4, .pointer (some ⟨nx0 + 1, 0, none⟩))]) (nx' := nx2) (L' := [⟨nx0, [.int .i64 a0.f0, .int .i64 a0.f1, .int .i64 a0.f2, .int .i64 a0.f3, .int .u32 a0.f4, .int .i64 a0.f5.f0, .string a0.f5.f1, .slice Ap0_5_2 a0.f5.f2.length cp0_5_2], 32⟩, ⟨nx0 + 1, [.int .i64 0, .int .i64 0, .int .i64 0, .int .i64 0, .int .u32 0, .int .i64 0, .string (⟨#[]⟩ : ByteArray), .slice none 0 0], 32⟩, ⟨c1, [.int .i64 (W .i64 (1 + ((bAnd .i64 a0.f0 255).tmod 4))), .int .i64 ((bAnd .i64 a0.f1 255).tmod a1), .int .i64 ((bAnd .i64 a0.f2 255).tmod 3), .int .i64 ((bAnd .i64 a0.f3 255).tmod 3), .int .u32 t1.1, .int .i64 0, .string (⟨#[]⟩ : ByteArray), .slice none 0 0], 32⟩, ⟨nx1, [.int .i64 (W .i64 (1 + (W .i64 (a0.f4.tmod 2)))), .string (⟨#[107]⟩ : ByteArray), .slice none 0 0], 30⟩]) [] (RFacts.nil _ _ _) 3 [.no, .no, .l 2] (by kernel_rfl) (by kernel_rfl) ?_
     refine RL.nil (by kernel_rfl) ?_
     obtain rfl := Option.some.inj H
     refine QN.sub (K' := [(4, .pointer (some ⟨nx0 + 1, 0, none⟩)), (5, .pointer (some ⟨c1, 0, none⟩))]) (L' := [⟨nx0, [.int .i64 a0.f0, .int .i64 a0.f1, .int .i64 a0.f2, .int .i64 a0.f3, .int .u32 a0.f4, .int .i64 a0.f5.f0, .string a0.f5.f1, .slice Ap0_5_2 a0.f5.f2.length cp0_5_2], 32⟩, ⟨nx0 + 1, [.int .i64 0, .int .i64 0, .int .i64 0, .int .i64 0, .int .u32 0, .int .i64 0, .string (⟨#[]⟩ : ByteArray), .slice none 0 0], 32⟩, ⟨c1, [.int .i64 (W .i64 (1 + ((bAnd .i64 a0.f0 255).tmod 4))), .int .i64 ((bAnd .i64 a0.f1 255).tmod a1), .int .i64 ((bAnd .i64 a0.f2 255).tmod 3), .int .i64 ((bAnd .i64 a0.f3 255).tmod 3), .int .u32 t1.1, .int .i64 0, .string (⟨#[]⟩ : ByteArray), .slice none 0 0], 32⟩, ⟨nx1, [.int .i64 (W .i64 (1 + (W .i64 (a0.f4.tmod 2)))), .string (⟨#[107]⟩ : ByteArray), .slice none 0 0], 30⟩]) (by kernel_rfl) (.cons_cons _ (.cons_cons _ (.cons_cons _ (.cons_cons _ .slnil)))) (.refl _) ?_
     exact hJ2 _ _ _ _ _ ⟨(bAnd .i64 a0.f3 255).tmod 3, t1.1, rfl, rfl, rfl, (Imm.le_refl _), HK2⟩

end Go.Proofs.Ytieakigoinebdaa
namespace Go.Proofs.Ytieakigoinebdaa
open Go Go.Proofs.Ytieakigoinebdaa.RW
set_option linter.unusedVariables false
set_option maxRecDepth 100000
set_option maxHeartbeats 8000000

/-! ### armillaryref29_MadeAll: function 28, armillary/armillaryref29.MadeAll -/
noncomputable def K28_0 : Code := cBody Try.f28
noncomputable def K28_1 : Code := cL K28_0
noncomputable def O28_1 : List Oper := cOps K28_1
noncomputable def K28_3 : Code := cR K28_0
noncomputable def K28_4 : Code := cL K28_3
noncomputable def O28_4 : List Oper := cOps K28_4
noncomputable def K28_6 : Code := cR K28_3
noncomputable def K28_7 : Code := cL K28_6
noncomputable def K28_8 : Code := cL K28_7
noncomputable def O28_8 : List Oper := cOps K28_8
noncomputable def K28_10 : Code := cR K28_7
noncomputable def K28_11 : Code := cL K28_10
noncomputable def K28_12 : Code := cL K28_11
noncomputable def K28_13 : Code := cL K28_12
noncomputable def K28_14 : Code := cL K28_13
noncomputable def O28_14 : List Oper := cOps K28_14
noncomputable def K28_16 : Code := cR K28_13
noncomputable def K28_17 : Code := cL K28_16
noncomputable def K28_18 : Code := cR K28_16
noncomputable def K28_19 : Code := cR K28_12
noncomputable def K28_20 : Code := cL K28_19
noncomputable def K28_21 : Code := cL K28_20
noncomputable def O28_21 : List Oper := cOps K28_21
noncomputable def K28_23 : Code := cR K28_19
noncomputable def O28_23 : List Oper := cOps K28_23
noncomputable def K28_25 : Code := cR K28_6
noncomputable def K28_26 : Code := cL K28_25
noncomputable def O28_26 : List Oper := cOps K28_26
noncomputable def K28_28 : Code := cR K28_25
def armillaryref29_MadeAll.k1  (x1 : List S32) : Option (List S32) := (some x1)
def armillaryref29_MadeAll.l1 (a0 : List S32) (a1 : Int) (a2 : Int) : Nat → (List S32) → Int → Option (List S32)
 | 0, _, _ => none
 | k + 1, x2, x3 => ((if x3 < (a0.length : Int) then (some (decide (x3 < a2))) else (some false)).bind (fun x4 => (if x4 = true then (if 0 ≤ x3 then (if x3 < (a0.length : Int) then ((armillaryref29_Made.f k (a0.getD (x3).toNat z32) a1).bind fun t1 => (if (x2.length + [t1].length) * 88 ≤ 140737488355328 then (armillaryref29_MadeAll.l1 a0 a1 a2 k (x2 ++ [t1]) (W .i64 (x3 + 1))) else none)) else none) else none) else (some x2))))
def armillaryref29_MadeAll.f (k : Nat) (a0 : List S32) (a1 : Int) (a2 : Int) : Option (List S32) := ((armillaryref29_MadeAll.l1 a0 a1 a2 k ([] : List S32) 0).bind (armillaryref29_MadeAll.k1))
def armillaryref29_MadeAll.Post (I : Imm) (w : World) (r : List S32) (v : Value) (w' : World) : Prop :=
 ∃ (J : Imm) (A0 : Option Addr) (c0 : Nat) (cs0 : List Value), v = .slice A0 r.length c0 ∧ Got w w' I J [orow 32 8 A0 r.length c0 cs0] ∧ Reps t32 J r cs0
theorem armillaryref29_MadeAll.calls (k : Nat) (I0 : Imm) (a0 : List S32) (Ap0 : Option Addr) (cp0 : Nat) (a1 : Int) (a2 : Int) (w : World) (hI : I0.at_ w) (hlp0 : a0.length ≤ cp0) (hrp0 : Rd t32 I0 Ap0 a0) (r : List S32) (h : armillaryref29_MadeAll.f k a0 a1 a2 = some r) :
  Calls Try.prog 28 [.slice Ap0 a0.length cp0, .int .i64 a1, .int .i64 a2].toArray w fun e w' => ∃ v, e = .returned v ∧ armillaryref29_MadeAll.Post I0 w r v w' := by
 have H : ((armillaryref29_MadeAll.l1 a0 a1 a2 k ([] : List S32) 0).bind (armillaryref29_MadeAll.k1)) = some r := h
 clear h
 refine calls_body Try.func28 (by kernel_rfl) 31 (by kernel_rfl) (by kernel_rfl) ⟨w, fun _ => False, I0⟩ I0 [] [(0, .slice Ap0 a0.length cp0), (1, .int .i64 a1), (2, .int .i64 a2)] (by kernel_rfl) (Sat.start w _ I0 hI) ?_
 generalize w.heap.size = nx0
 show OK _ K28_0 _ _ _ _ _ _ _ _
 refine OK.seq K28_1 K28_3 (by kernel_rfl) ?_
 refine OK.region 0 O28_1 (by kernel_rfl) ?_
 refine RL.simK (K' := [(0, .slice Ap0 a0.length cp0), (1, .int .i64 a1), (2, .int .i64 a2)]) [] (RFacts.nil _ _ _) 1 [.no] (by kernel_rfl) (by kernel_rfl) ?_
 refine RL.nil (by kernel_rfl) ?_
 refine QN.then_ ?_
 refine OK.seq K28_4 K28_6 (by kernel_rfl) ?_
 refine OK.region 1 O28_4 (by kernel_rfl) ?_
 refine RL.simP (K' := [(7, .slice (some ⟨nx0, 0, none⟩) 0 0), (0, .slice Ap0 a0.length cp0), (1, .int .i64 a1), (2, .int .i64 a2)]) (nx' := nx0 + 1) (L' := [⟨nx0, [], 32⟩]) [] (RFacts.nil _ _ _) 2 [.no, .no] (by kernel_rfl) (by kernel_rfl) ?_
 refine RL.nil (by kernel_rfl) ?_
 refine QN.then_ ?_
 refine OK.seq K28_7 K28_25 (by kernel_rfl) ?_
 refine OK.seq K28_8 K28_10 (by kernel_rfl) ?_
 refine OK.region 2 O28_8 (by kernel_rfl) ?_
 refine RL.simK (K' := [(8, .int .i64 0), (7, .slice (some ⟨nx0, 0, none⟩) 0 0), (0, .slice Ap0 a0.length cp0), (1, .int .i64 a1), (2, .int .i64 a2)]) [] (RFacts.nil _ _ _) 1 [.no] (by kernel_rfl) (by kernel_rfl) ?_
 refine RL.nil (by kernel_rfl) ?_
 refine QN.then_ ?_
 refine OK.join (fun K' I' _ L' X' => ∃ (x1 : List S32) (A1 : Option Addr) (c1 : Nat) (cs1 : List Value), K' = [(7, .slice A1 x1.length c1)] ∧ L' = [] ∧ X' = [orow 32 8 A1 x1.length c1 cs1] ∧ Imm.le I0 I' ∧ Reps t32 I' x1 cs1 ∧ armillaryref29_MadeAll.k1 x1 = some r) ?_ ?_
 ·rintro _ I1 nx1 _ _ ⟨x1, A1, c1, cs1, rfl, rfl, rfl, hi1, hp1, H⟩
  replace H : (some x1) = some r := H
  refine QN.then_ ?_
  refine OK.seq K28_26 K28_28 (by kernel_rfl) ?_
  refine OK.region 6 O28_26 (by kernel_rfl) ?_
  refine RL.simK (K' := [(6, .slice A1 x1.length c1)]) [] (RFacts.nil _ _ _) 2 [.no, .no] (by kernel_rfl) (by kernel_rfl) ?_
  refine RL.nil (by kernel_rfl) ?_
  refine QN.then_ ?_
  refine OK.ret (by kernel_rfl) ?_
  obtain rfl := Option.some.inj H
  refine QN.body rfl [] (RFacts.nil _ _ _) (.no) (.slice A1 x1.length c1) (by kernel_rfl) (by kernel_rfl) (by kernel_rfl) ?_ _ (.inr rfl)
  exact fun w' hs' => ⟨_, rfl, I1, A1, c1, cs1, rfl, hs'.got _ (.cons_cons _ .slnil), hp1⟩
 ·intro Q_1 hJ1 hQ1
  obtain ⟨y1, H, HK1⟩ := Option.bind_eq_some_iff.mp H
  refine OK.block 0 K28_11 (by kernel_rfl) ?_
  refine OK.toRow (b := ⟨nx0, [], 32⟩) 0 0 8 (by kernel_rfl) (by kernel_rfl) (by decide) ?_
  have hp5 : Reps t32 I0 ([] : List S32) [] := rfl
  refine OK.norm (L' := []) (X' := [orow 32 8 (some ⟨nx0, 0, none⟩) (([] : List S32).length) 0 []]) rfl rfl (by kernel_rfl) (by kernel_rfl) ?_
  refine OK.sub (K' := [(0, .slice Ap0 a0.length cp0), (1, .int .i64 a1), (2, .int .i64 a2), (7, .slice (some ⟨nx0, 0, none⟩) 0 0), (8, .int .i64 0)]) (L' := []) (by kernel_rfl) .slnil (.refl _) ?_
  refine OK.loopInv K28_12 (by kernel_rfl) (fun n_ K' I' _ L' X' => ∃ (x2 : List S32) (x3 : Int) (A2 : Option Addr) (c2 : Nat) (cs2 : List Value), K' = [(0, .slice Ap0 a0.length cp0), (1, .int .i64 a1), (2, .int .i64 a2), (7, .slice A2 x2.length c2), (8, .int .i64 x3)] ∧ L' = [] ∧ X' = [orow 32 8 A2 x2.length c2 cs2] ∧ Imm.le I0 I' ∧ Reps t32 I' x2 cs2 ∧ armillaryref29_MadeAll.l1 a0 a1 a2 n_ x2 x3 = some y1) k ⟨([] : List S32), 0, (some ⟨nx0, 0, none⟩), 0, [], rfl, rfl, rfl, (Imm.le_refl _), hp5, H⟩ ?_ ?_
  ·rintro _ _ _ _ _ ⟨x2, x3, A2, c2, cs2, rfl, rfl, rfl, _, hp2, H⟩
   cases H
  ·rintro kq1 _ I2 nx2 _ _ ⟨x2, x3, A2, c2, cs2, rfl, rfl, rfl, hi2, hp2, H⟩ Q_l1 hJ2 hQ2
   replace H : ((if x3 < (a0.length : Int) then (some (decide (x3 < a2))) else (some false)).bind (fun x4 => (if x4 = true then (if 0 ≤ x3 then (if x3 < (a0.length : Int) then ((armillaryref29_Made.f kq1 (a0.getD (x3).toNat z32) a1).bind fun t1 => (if (x2.length + [t1].length) * 88 ≤ 140737488355328 then (armillaryref29_MadeAll.l1 a0 a1 a2 kq1 (x2 ++ [t1]) (W .i64 (x3 + 1))) else none)) else none) else none) else (some x2)))) = some y1 := H
   refine OK.seq K28_13 K28_19 (by kernel_rfl) ?_
   refine OK.seq K28_14 K28_16 (by kernel_rfl) ?_
   refine OK.join (fun K' I' _ L' X' => ∃ (x4 : Bool), K' = [(0, .slice Ap0 a0.length cp0), (1, .int .i64 a1), (2, .int .i64 a2), (7, .slice A2 x2.length c2), (8, .int .i64 x3), (18, .bool x4)] ∧ L' = [] ∧ X' = [orow 32 8 A2 x2.length c2 cs2] ∧ Imm.le I2 I' ∧ (if x4 = true then (if 0 ≤ x3 then (if x3 < (a0.length : Int) then ((armillaryref29_Made.f kq1 (a0.getD (x3).toNat z32) a1).bind fun t1 => (if (x2.length + [t1].length) * 88 ≤ 140737488355328 then (armillaryref29_MadeAll.l1 a0 a1 a2 kq1 (x2 ++ [t1]) (W .i64 (x3 + 1))) else none)) else none) else none) else (some x2)) = some y1) ?_ ?_
   ·rintro _ I3 nx3 _ _ ⟨x4, rfl, rfl, rfl, hi3, H⟩
    replace H : (if x4 = true then (if 0 ≤ x3 then (if x3 < (a0.length : Int) then ((armillaryref29_Made.f kq1 (a0.getD (x3).toNat z32) a1).bind fun t1 => (if (x2.length + [t1].length) * 88 ≤ 140737488355328 then (armillaryref29_MadeAll.l1 a0 a1 a2 kq1 (x2 ++ [t1]) (W .i64 (x3 + 1))) else none)) else none) else none) else (some x2)) = some y1 := H
    refine QN.then_ ?_
    refine OK.cond (.tmp 18) K28_17 K28_18 x4 (by kernel_rfl) (by kernel_rfl) (by kernel_rfl) (fun hb => ?_) (fun hb => ?_)
    ·skip
     have hc := hb
     rw [if_pos hc] at H
     clear hb
     refine OK.skip (by kernel_rfl) ?_
     refine QN.then_ ?_
     refine OK.seq K28_20 K28_23 (by kernel_rfl) ?_
     refine OK.block 1 K28_21 (by kernel_rfl) ?_
     refine OK.region 5 O28_21 (by kernel_rfl) ?_
     refine RL.simK (K' := [(23, .int .i64 x3), (22, .slice Ap0 a0.length cp0), (21, .slice A2 x2.length c2), (0, .slice Ap0 a0.length cp0), (1, .int .i64 a1), (2, .int .i64 a2), (7, .slice A2 x2.length c2), (8, .int .i64 x3)]) [] (RFacts.nil _ _ _) 3 [.no, .no, .no] (by kernel_rfl) (by kernel_rfl) ?_
     by_cases hib0 : 0 ≤ x3
     case neg => rw [if_neg hib0] at H; cases H
     rw [if_pos hib0] at H
     by_cases hib1 : x3 < (a0.length : Int)
     case neg => rw [if_neg hib1] at H; cases H
     rw [if_pos hib1] at H
     obtain ⟨g1_, o1_, hA1_, A1_5_2_, c1_5_2_, hl1_5_2_, hr1_5_2_, hc1_⟩ := t32_at (Rd.ext (Imm.le_trans hi2 hi3) hrp0) x3 hib0 hib1
     refine RL.idx 8 .i64 x3 hA1_ a0.length cp0 (some 24) (by kernel_rfl) (by kernel_rfl) (T := 22) (e := 32) (by kernel_rfl) (by kernel_rfl) hib0 hib1 (K' := [(24, .pointer (some ⟨g1_, o1_ + (x3).toNat * 8, none⟩)), (23, .int .i64 x3), (22, .slice Ap0 a0.length cp0), (21, .slice A2 x2.length c2), (0, .slice Ap0 a0.length cp0), (1, .int .i64 a1), (2, .int .i64 a2), (7, .slice A2 x2.length c2), (8, .int .i64 x3)]) (by kernel_rfl) ?_
     refine RL.simK (K' := [(26, .int .i64 a1), (25, .agg #[.int .i64 ((a0.getD (x3).toNat z32).f0), .int .i64 ((a0.getD (x3).toNat z32).f1), .int .i64 ((a0.getD (x3).toNat z32).f2), .int .i64 ((a0.getD (x3).toNat z32).f3), .int .u32 ((a0.getD (x3).toNat z32).f4), .int .i64 ((a0.getD (x3).toNat z32).f5.f0), .string ((a0.getD (x3).toNat z32).f5.f1), .slice A1_5_2_ (((a0.getD (x3).toNat z32).f5.f2).length) c1_5_2_]), (21, .slice A2 x2.length c2), (0, .slice Ap0 a0.length cp0), (1, .int .i64 a1), (2, .int .i64 a2), (7, .slice A2 x2.length c2), (8, .int .i64 x3)]) [(⟨g1_, o1_ + (x3).toNat * 8, none⟩, .int .i64 ((a0.getD (x3).toNat z32).f0)), (⟨g1_, o1_ + (x3).toNat * 8 + 1, none⟩, .int .i64 ((a0.getD (x3).toNat z32).f1)), (⟨g1_, o1_ + (x3).toNat * 8 + 2, none⟩, .int .i64 ((a0.getD (x3).toNat z32).f2)), (⟨g1_, o1_ + (x3).toNat * 8 + 3, none⟩, .int .i64 ((a0.getD (x3).toNat z32).f3)), (⟨g1_, o1_ + (x3).toNat * 8 + 4, none⟩, .int .u32 ((a0.getD (x3).toNat z32).f4)), (⟨g1_, o1_ + (x3).toNat * 8 + 5, none⟩, .int .i64 ((a0.getD (x3).toNat z32).f5.f0)), (⟨g1_, o1_ + (x3).toNat * 8 + 6, none⟩, .string ((a0.getD (x3).toNat z32).f5.f1)), (⟨g1_, o1_ + (x3).toNat * 8 + 7, none⟩, .slice A1_5_2_ (((a0.getD (x3).toNat z32).f5.f2).length) c1_5_2_)] (RFacts.imm (hc1_ 0 _ rfl) (RFacts.imm (hc1_ 1 _ rfl) (RFacts.imm (hc1_ 2 _ rfl) (RFacts.imm (hc1_ 3 _ rfl) (RFacts.imm (hc1_ 4 _ rfl) (RFacts.imm (hc1_ 5 _ rfl) (RFacts.imm (hc1_ 6 _ rfl) (RFacts.imm (hc1_ 7 _ rfl) (RFacts.nil _ _ _))))))))) 2 [.r 0, .no] (by kernel_rfl) (by kernel_rfl) ?_
     obtain ⟨t1, hA1, H⟩ := Option.bind_eq_some_iff.mp H
     refine RL.callP 39 [.agg #[.int .i64 ((a0.getD (x3).toNat z32).f0), .int .i64 ((a0.getD (x3).toNat z32).f1), .int .i64 ((a0.getD (x3).toNat z32).f2), .int .i64 ((a0.getD (x3).toNat z32).f3), .int .u32 ((a0.getD (x3).toNat z32).f4), .int .i64 ((a0.getD (x3).toNat z32).f5.f0), .string ((a0.getD (x3).toNat z32).f5.f1), .slice A1_5_2_ (((a0.getD (x3).toNat z32).f5.f2).length) c1_5_2_], .int .i64 a1] (some 27) (fun w => armillaryref29_Made.Post I3 w t1) (by kernel_rfl) (by kernel_rfl) (fun w hs => armillaryref29_Made.calls kq1 I3 (a0.getD (x3).toNat z32) A1_5_2_ c1_5_2_ a1 w hs.im hl1_5_2_ hr1_5_2_ t1 hA1) ?_
     rintro w v w' hs ⟨I4, A3, c3, cs3, rfl, hg, hp3⟩
     have hi4 := hg.le
     refine RL.resume (X' := [orow 32 8 A2 x2.length c2 cs2, orow 5 1 A3 t1.f5.f2.length c3 cs3]) rfl (hs.call hg) ?_
     clear hs hg
     generalize w'.heap.size = nx4
     clear w w'
     refine RL.freeze (e := 5) (sz := 1) (S := A3) (n := t1.f5.f2.length) (cap := c3) 1 (by kernel_rfl) hp3 rfl (fun _ h => h.elim) (fun I5 hi5 hl1 hr1 => ?_)
     skip
     refine RL.simP (K' := [(28, .slice (some ⟨nx4, 0, none⟩) 1 1), (21, .slice A2 x2.length c2), (0, .slice Ap0 a0.length cp0), (1, .int .i64 a1), (2, .int .i64 a2), (7, .slice A2 x2.length c2), (8, .int .i64 x3)]) (nx' := nx4 + 1) (L' := [⟨nx4, [.int .i64 t1.f0, .int .i64 t1.f1, .int .i64 t1.f2, .int .i64 t1.f3, .int .u32 t1.f4, .int .i64 t1.f5.f0, .string t1.f5.f1, .slice A3 t1.f5.f2.length c3], 32⟩]) [] (RFacts.nil _ _ _) 1 [.no] (by kernel_rfl) (by kernel_rfl) ?_
     by_cases hz1 : (x2.length + [t1].length) * 88 ≤ 140737488355328
     case neg => rw [if_neg hz1] at H; cases H
     rw [if_pos hz1] at H
     refine RL.appendB (T := 22) (e := 32) (S := A2) 8 88 22 c2 0 1 nx4 32 cs2 [.int .i64 t1.f0, .int .i64 t1.f1, .int .i64 t1.f2, .int .i64 t1.f3, .int .u32 t1.f4, .int .i64 t1.f5.f0, .string t1.f5.f1, .slice A3 t1.f5.f2.length c3] t32 x2 [t1] 0 (some 29) (by kernel_rfl) (by kernel_rfl) (by kernel_rfl) (by kernel_rfl) (by kernel_rfl) (by decide) (by kernel_rfl) (Reps.ext (Imm.le_trans (Imm.le_trans hi3 hi4) hi5) hp2) (by kernel_rfl) ⟨_, _, rfl, (t32_mk _ _ hl1 hr1), rfl⟩ hz1 (by omega) (fun A4 c4 nx5 cs4 hp4 => ?_)
     refine RL.sub (K' := [(29, .slice A4 ((x2 ++ [t1]).length) c4), (28, .slice (some ⟨nx4, 0, none⟩) 1 1), (0, .slice Ap0 a0.length cp0), (1, .int .i64 a1), (2, .int .i64 a2), (8, .int .i64 x3)]) (L' := [⟨nx4, [.int .i64 t1.f0, .int .i64 t1.f1, .int .i64 t1.f2, .int .i64 t1.f3, .int .u32 t1.f4, .int .i64 t1.f5.f0, .string t1.f5.f1, .slice A3 t1.f5.f2.length c3], 32⟩]) (X' := [orow 32 8 A4 ((x2 ++ [t1]).length) c4 cs4]) (by kernel_rfl) (.refl _) (.refl _) ?_
     refine RL.simK (K' := [(7, .slice A4 ((x2 ++ [t1]).length) c4), (0, .slice Ap0 a0.length cp0), (1, .int .i64 a1), (2, .int .i64 a2), (8, .int .i64 x3)]) [] (RFacts.nil _ _ _) 1 [.no] (by kernel_rfl) (by kernel_rfl) ?_
     refine RL.nil (by kernel_rfl) ?_
     refine QN.blkN ?_
     refine QN.then_ ?_
     refine OK.region 4 O28_23 (by kernel_rfl) ?_
     refine RL.simK (K' := [(8, .int .i64 (W .i64 (x3 + 1))), (7, .slice A4 ((x2 ++ [t1]).length) c4), (0, .slice Ap0 a0.length cp0), (1, .int .i64 a1), (2, .int .i64 a2)]) [] (RFacts.nil _ _ _) 3 [.no, .no, .no] (by kernel_rfl) (by kernel_rfl) ?_
     refine RL.nil (by kernel_rfl) ?_
     refine QN.sub (K' := [(0, .slice Ap0 a0.length cp0), (1, .int .i64 a1), (2, .int .i64 a2), (7, .slice A4 ((x2 ++ [t1]).length) c4), (8, .int .i64 (W .i64 (x3 + 1)))]) (L' := []) (by kernel_rfl) (.cons _ .slnil) (.refl _) ?_
     exact hJ2 _ _ _ _ _ ⟨(x2 ++ [t1]), W .i64 (x3 + 1), A4, c4, cs4, rfl, rfl, rfl, (Imm.le_trans (Imm.le_trans (Imm.le_trans hi2 hi3) hi4) hi5), hp4, H⟩
    ·skip
     have hc := (Bool.eq_false_iff.1 hb)
     rw [if_neg hc] at H
     clear hb
     refine OK.exit 0 (by kernel_rfl) ?_
     refine QN.thenE ?_
     refine QN.outE hQ2 ?_
     refine QN.blkE ?_
     obtain rfl := Option.some.inj H
     refine QN.sub (K' := [(7, .slice A2 x2.length c2)]) (L' := []) (by kernel_rfl) .slnil (.refl _) ?_
     exact hJ1 _ _ _ _ _ ⟨x2, A2, c2, cs2, rfl, rfl, rfl, (Imm.le_trans hi2 hi3), (Reps.ext hi3 hp2), HK1⟩
   ·intro Q_2 hJ3 hQ3
    obtain ⟨y2, H, HK2⟩ := Option.bind_eq_some_iff.mp H
    refine OK.region 3 O28_14 (by kernel_rfl) ?_
    refine RL.simK (K' := [(14, .bool (decide (x3 < (a0.length : Int)))), (0, .slice Ap0 a0.length cp0), (1, .int .i64 a1), (2, .int .i64 a2), (7, .slice A2 x2.length c2), (8, .int .i64 x3)]) [] (RFacts.nil _ _ _) 5 [.no, .no, .no, .no, .no] (by kernel_rfl) (by kernel_rfl) ?_
    refine RL.cases (decide (x3 < (a0.length : Int))) (fun hb => ?_) (fun hb => ?_)
    ·have hc := (of_decide_eq_true hb)
     rw [hb]
     rw [if_pos hc] at H; clear hb
     refine RL.simK (K' := [(18, .bool (decide (x3 < a2))), (0, .slice Ap0 a0.length cp0), (1, .int .i64 a1), (2, .int .i64 a2), (7, .slice A2 x2.length c2), (8, .int .i64 x3)]) [] (RFacts.nil _ _ _) 4 [.no, .no, .no, .no] (by kernel_rfl) (by kernel_rfl) ?_
     refine RL.nil (by kernel_rfl) ?_
     obtain rfl := Option.some.inj H
     refine QN.sub (K' := [(0, .slice Ap0 a0.length cp0), (1, .int .i64 a1), (2, .int .i64 a2), (7, .slice A2 x2.length c2), (8, .int .i64 x3), (18, .bool (decide (x3 < a2)))]) (L' := []) (by kernel_rfl) .slnil (.refl _) ?_
     exact hJ3 _ _ _ _ _ ⟨(decide (x3 < a2)), rfl, rfl, rfl, (Imm.le_refl _), HK2⟩
    ·have hc := (of_decide_eq_false hb)
     rw [hb]
     rw [if_neg hc] at H; clear hb
     refine RL.simK (K' := [(18, .bool false), (0, .slice Ap0 a0.length cp0), (1, .int .i64 a1), (2, .int .i64 a2), (7, .slice A2 x2.length c2), (8, .int .i64 x3)]) [] (RFacts.nil _ _ _) 4 [.no, .no, .no, .no] (by kernel_rfl) (by kernel_rfl) ?_
     refine RL.nil (by kernel_rfl) ?_
     obtain rfl := Option.some.inj H
     refine QN.sub (K' := [(0, .slice Ap0 a0.length cp0), (1, .int .i64 a1), (2, .int .i64 a2), (7, .slice A2 x2.length c2), (8, .int .i64 x3), (18, .bool false)]) (L' := []) (by kernel_rfl) .slnil (.refl _) ?_
     exact hJ3 _ _ _ _ _ ⟨false, rfl, rfl, rfl, (Imm.le_refl _), HK2⟩

end Go.Proofs.Ytieakigoinebdaa
namespace Go.Proofs.Ytieakigoinebdaa
open Go Go.Proofs.Ytieakigoinebdaa.RW
set_option linter.unusedVariables false
set_option maxRecDepth 100000
set_option maxHeartbeats 8000000

/-! ### armillarylaw29_made: function 11, armillary/armillarylaw29.made -/
noncomputable def K11_0 : Code := cBody Try.f11
noncomputable def K11_1 : Code := cL K11_0
noncomputable def O11_1 : List Oper := cOps K11_1
noncomputable def K11_3 : Code := cR K11_0
noncomputable def K11_4 : Code := cL K11_3
noncomputable def O11_4 : List Oper := cOps K11_4
noncomputable def K11_6 : Code := cR K11_3
noncomputable def K11_7 : Code := cL K11_6
noncomputable def O11_7 : List Oper := cOps K11_7
noncomputable def K11_9 : Code := cR K11_6
def armillarylaw29_made.f (k : Nat) (a0 : S26) : Option (List S32 × Int × S24) := ((armillaryref29_MadeAll.f k a0.f0 (W .i64 (1 + (W .i64 (a0.f1.tmod 13)))) 40).bind fun t1 => (some (t1, W .i64 (1 + (W .i64 (a0.f1.tmod 13))), (⟨(bAnd .i64 a0.f2.f0 255).tmod 4, (bAnd .i64 a0.f2.f1 255).tmod 3⟩ : S24))))
def armillarylaw29_made.Post (I : Imm) (w : World) (r : List S32 × Int × S24) (v : Value) (w' : World) : Prop :=
 ∃ (J : Imm) (A0 : Option Addr) (c0 : Nat) (cs0 : List Value), v = .tuple #[.slice A0 r.1.length c0, .int .i64 r.2.1, .agg #[.int .i64 r.2.2.f0, .int .i64 r.2.2.f1]] ∧ Got w w' I J [orow 32 8 A0 r.1.length c0 cs0] ∧ Reps t32 J r.1 cs0
noncomputable def a11_7n : List Nat := [0, 1, 0, 7, 0, 0, 32, 96, 224, 480, 0, 1024, 3072, 7168, 15360, 32736, 15, 65567, 262143]
theorem a11_7 : ancs O11_7 [] = a11_7n := by kernel_rfl
theorem a11_7o : drawOk O11_7 a11_7n 18 = true := by kernel_rfl
noncomputable def u11d1l (t1 : List S32) : List Ld :=
 [⟨3, fun x => .slice ((x 0).1) t1.length ((x 0).2.1), fun x => [orow 32 8 (x 0).1 t1.length (x 0).2.1 (x 0).2.2], fun x J => Reps t32 J t1 (x 0).2.2 ∧ True, fun x J J' h f => ⟨Reps.ext h f.1, trivial⟩⟩]
noncomputable def u11d1g  : List (Nat × ((Nat → Wt) → Value)) := []
noncomputable def u11d1q (a0 : S26) (Ap0_0 : Option Addr) (cp0_0 : Nat) (nx0 : Nat) (t1 : List S32) (u : Nat → Wt) : Option (List Value × List (Nat × Value) × List (Nat × Nat)) := qSim Try.prog [] [⟨nx0, [.slice Ap0_0 a0.f0.length cp0_0, .int .u8 a0.f1, .int .i64 a0.f2.f0, .int .i64 a0.f2.f1], 26⟩, ⟨nx0 + 1, [.int .i64 0, .int .i64 0], 24⟩] O11_7 ⟨27, []⟩ (Ld.vl (u11d1l t1)) u11d1g u [.no, .l 0, .no, .no, .no, .no, .no, .l 0, .no, .no, .no, .no, .l 0, .no, .no, .no, .no, .no] 0 (O11_7.take 18) [(5, .int .i64 (W .i64 (1 + (W .i64 (a0.f1.tmod 13))))), (4, .pointer (some ⟨nx0 + 1, 0, none⟩)), (1, .pointer (some ⟨nx0, 0, none⟩))]
noncomputable def u11d1s (a0 : S26) (Ap0_0 : Option Addr) (cp0_0 : Nat) (nx0 : Nat) (t1 : List S32) (u : Nat → Wt) : List Value := [.pointer (some ⟨nx0, 0, none⟩), .slice Ap0_0 a0.f0.length cp0_0, .int .i64 (W .i64 (1 + (W .i64 (a0.f1.tmod 13)))), .slice ((u 3 0).1) t1.length ((u 3 0).2.1), .int .i64 (W .i64 (1 + (W .i64 (a0.f1.tmod 13)))), .pointer (some ⟨nx0, 2, none⟩), .pointer (some ⟨nx0, 2, none⟩), .int .i64 a0.f2.f0, .int .i64 (bAnd .i64 a0.f2.f0 255), .int .i64 ((bAnd .i64 a0.f2.f0 255).tmod 4), .pointer (some ⟨nx0, 2, none⟩), .pointer (some ⟨nx0, 3, none⟩), .int .i64 a0.f2.f1, .int .i64 (bAnd .i64 a0.f2.f1 255), .int .i64 ((bAnd .i64 a0.f2.f1 255).tmod 3), .agg #[.int .i64 ((bAnd .i64 a0.f2.f0 255).tmod 4), .int .i64 ((bAnd .i64 a0.f2.f1 255).tmod 3)], .slice ((u 3 0).1) t1.length ((u 3 0).2.1), .int .i64 (W .i64 (1 + (W .i64 (a0.f1.tmod 13))))]
noncomputable def u11d1f (a0 : S26) (Ap0_0 : Option Addr) (cp0_0 : Nat) (nx0 : Nat) (t1 : List S32) (i : Nat) (u : Nat → Wt) : List (Nat × Value) := foldPut ⟨27, []⟩ [(5, .int .i64 (W .i64 (1 + (W .i64 (a0.f1.tmod 13))))), (4, .pointer (some ⟨nx0 + 1, 0, none⟩)), (1, .pointer (some ⟨nx0, 0, none⟩))] (O11_7.take i) (((u11d1s a0 Ap0_0 cp0_0 nx0 t1) u).take i)
theorem u11d1v (a0 : S26) (Ap0_0 : Option Addr) (cp0_0 : Nat) (nx0 : Nat) (t1 : List S32) (u : Nat → Wt) : (u11d1q a0 Ap0_0 cp0_0 nx0 t1 u).map (fun x => (x.1, x.2.1)) = some ((u11d1s a0 Ap0_0 cp0_0 nx0 t1) u, (u11d1f a0 Ap0_0 cp0_0 nx0 t1 18) u) := by kernel_rfl
theorem u11d1e (a0 : S26) (Ap0_0 : Option Addr) (cp0_0 : Nat) (nx0 : Nat) (t1 : List S32) (u : Nat → Wt) : (u11d1q a0 Ap0_0 cp0_0 nx0 t1 u).map (fun x => x.2.2.map (·.1)) = (u11d1q a0 Ap0_0 cp0_0 nx0 t1 u).map (fun x => x.2.2.map (·.2)) := by kernel_rfl
theorem armillarylaw29_made.calls (k : Nat) (I0 : Imm) (a0 : S26) (Ap0_0 : Option Addr) (cp0_0 : Nat) (w : World) (hI : I0.at_ w) (hlp0_0 : a0.f0.length ≤ cp0_0) (hrp0_0 : Rd t32 I0 Ap0_0 a0.f0) (r : List S32 × Int × S24) (h : armillarylaw29_made.f k a0 = some r) :
  Calls Try.prog 11 [.agg #[.slice Ap0_0 a0.f0.length cp0_0, .int .u8 a0.f1, .int .i64 a0.f2.f0, .int .i64 a0.f2.f1]].toArray w fun e w' => ∃ v, e = .returned v ∧ armillarylaw29_made.Post I0 w r v w' := by
 have H : ((armillaryref29_MadeAll.f k a0.f0 (W .i64 (1 + (W .i64 (a0.f1.tmod 13)))) 40).bind fun t1 => (some (t1, W .i64 (1 + (W .i64 (a0.f1.tmod 13))), (⟨(bAnd .i64 a0.f2.f0 255).tmod 4, (bAnd .i64 a0.f2.f1 255).tmod 3⟩ : S24)))) = some r := h
 clear h
 refine calls_body Try.func11 (by kernel_rfl) 27 (by kernel_rfl) (by kernel_rfl) ⟨w, fun _ => False, I0⟩ I0 [] [(0, .agg #[.slice Ap0_0 a0.f0.length cp0_0, .int .u8 a0.f1, .int .i64 a0.f2.f0, .int .i64 a0.f2.f1])] (by kernel_rfl) (Sat.start w _ I0 hI) ?_
 generalize w.heap.size = nx0
 show OK _ K11_0 _ _ _ _ _ _ _ _
 refine OK.seq K11_1 K11_3 (by kernel_rfl) ?_
 refine OK.region 0 O11_1 (by kernel_rfl) ?_
 refine RL.simP (K' := [(4, .pointer (some ⟨nx0 + 1, 0, none⟩)), (1, .pointer (some ⟨nx0, 0, none⟩))]) (nx' := nx0 + 2) (L' := [⟨nx0, [.slice Ap0_0 a0.f0.length cp0_0, .int .u8 a0.f1, .int .i64 a0.f2.f0, .int .i64 a0.f2.f1], 26⟩, ⟨nx0 + 1, [.int .i64 0, .int .i64 0], 24⟩]) [] (RFacts.nil _ _ _) 4 [.no, .no, .no, .no] (by kernel_rfl) (by kernel_rfl) ?_
 refine RL.nil (by kernel_rfl) ?_
 refine QN.then_ ?_
 refine OK.seq K11_4 K11_6 (by kernel_rfl) ?_
 refine OK.region 1 O11_4 (by kernel_rfl) ?_
 refine RL.simK (K' := [(5, .int .i64 (W .i64 (1 + (W .i64 (a0.f1.tmod 13))))), (4, .pointer (some ⟨nx0 + 1, 0, none⟩)), (1, .pointer (some ⟨nx0, 0, none⟩))]) [] (RFacts.nil _ _ _) 6 [.no, .l 0, .no, .no, .no, .no] (by kernel_rfl) (by kernel_rfl) ?_
 refine RL.nil (by kernel_rfl) ?_
 refine QN.then_ ?_
 refine OK.seq K11_7 K11_9 (by kernel_rfl) ?_
 obtain ⟨t1, hA1, H⟩ := Option.bind_eq_some_iff.mp H
 refine OK.drawnC 2 18 O11_7 a11_7n (by kernel_rfl) (by kernel_rfl) (u11d1l t1) u11d1g [] (RI.nil _) [.no, .l 0, .no, .no, .no, .no, .no, .l 0, .no, .no, .no, .no, .l 0, .no, .no, .no, .no, .no] a11_7 a11_7o (by kernel_rfl) (by kernel_rfl) (u11d1s a0 Ap0_0 cp0_0 nx0 t1) (u11d1f a0 Ap0_0 cp0_0 nx0 t1 18) (u11d1v a0 Ap0_0 cp0_0 nx0 t1) (u11d1e a0 Ap0_0 cp0_0 nx0 t1) [u11d1f a0 Ap0_0 cp0_0 nx0 t1 3] (framesOk.cons (fun u => rfl) framesOk.nil) ?_ [] framesOk.nil ?_ ?_
 ·refine LoudsG.cons ?_ (LoudsG.nil)
  ·intro D u J w hp hJ hs hF
   refine Does.call 28 [.slice Ap0_0 a0.f0.length cp0_0, .int .i64 (W .i64 (1 + (W .i64 (a0.f1.tmod 13)))), .int .i64 40] (by kernel_rfl) ((armillaryref29_MadeAll.calls k J a0.f0 Ap0_0 cp0_0 (W .i64 (1 + (W .i64 (a0.f1.tmod 13)))) 40 w hs.im hlp0_0 (Rd.ext hJ hrp0_0) t1 hA1).mono ?_)
   rintro e w' ⟨v, rfl, J2, A0_, c0_, cs0_, rfl, hg, hp0_⟩
   exact ⟨_, rfl, fun _ => (A0_, c0_, cs0_), J2, rfl, hg, hp0_, trivial⟩
 ·refine Givens.nil
 intro u I1 nx1 hi1 hF
 have hf1 := ((hF.1 rfl).1)
 clear hF
 refine RL.norm (K' := [(3, .int .i64 (W .i64 (1 + (W .i64 (a0.f1.tmod 13))))), (2, .slice ((u 3 0).1) t1.length ((u 3 0).2.1)), (26, .agg #[.int .i64 ((bAnd .i64 a0.f2.f0 255).tmod 4), .int .i64 ((bAnd .i64 a0.f2.f1 255).tmod 3)]), (25, .int .i64 ((bAnd .i64 a0.f2.f1 255).tmod 3)), (24, .int .i64 (bAnd .i64 a0.f2.f1 255)), (23, .int .i64 a0.f2.f1), (22, .pointer (some ⟨nx0, 3, none⟩)), (21, .pointer (some ⟨nx0, 2, none⟩)), (20, .int .i64 ((bAnd .i64 a0.f2.f0 255).tmod 4)), (19, .int .i64 (bAnd .i64 a0.f2.f0 255)), (18, .int .i64 a0.f2.f0), (17, .pointer (some ⟨nx0, 2, none⟩)), (16, .pointer (some ⟨nx0, 2, none⟩)), (15, .int .i64 (W .i64 (1 + (W .i64 (a0.f1.tmod 13))))), (14, .slice ((u 3 0).1) t1.length ((u 3 0).2.1)), (13, .int .i64 (W .i64 (1 + (W .i64 (a0.f1.tmod 13))))), (12, .slice Ap0_0 a0.f0.length cp0_0), (11, .pointer (some ⟨nx0, 0, none⟩)), (5, .int .i64 (W .i64 (1 + (W .i64 (a0.f1.tmod 13))))), (4, .pointer (some ⟨nx0 + 1, 0, none⟩)), (1, .pointer (some ⟨nx0, 0, none⟩))]) (X' := [orow 32 8 (u 3 0).1 t1.length (u 3 0).2.1 (u 3 0).2.2]) (by kernel_rfl) rfl rfl rfl ?_
 revert hf1
 generalize (u 3 0).1 = A1
 generalize (u 3 0).2.1 = c1
 generalize (u 3 0).2.2 = cs1
 intro hf1
 clear u
 refine RL.simP (K' := [(3, .int .i64 (W .i64 (1 + (W .i64 (a0.f1.tmod 13))))), (2, .slice A1 t1.length c1), (4, .pointer (some ⟨nx0 + 1, 0, none⟩))]) (nx' := nx1) (L' := [⟨nx0, [.slice Ap0_0 a0.f0.length cp0_0, .int .u8 a0.f1, .int .i64 a0.f2.f0, .int .i64 a0.f2.f1], 26⟩, ⟨nx0 + 1, [.int .i64 ((bAnd .i64 a0.f2.f0 255).tmod 4), .int .i64 ((bAnd .i64 a0.f2.f1 255).tmod 3)], 24⟩]) [] (RFacts.nil _ _ _) 1 [.l 1] (by kernel_rfl) (by kernel_rfl) ?_
 refine RL.nil (by kernel_rfl) ?_
 refine QN.then_ ?_
 refine OK.ret (by kernel_rfl) ?_
 obtain rfl := Option.some.inj H
 refine QN.body rfl [] (RFacts.nil _ _ _) (.l 1) (.tuple #[.slice A1 t1.length c1, .int .i64 (W .i64 (1 + (W .i64 (a0.f1.tmod 13)))), .agg #[.int .i64 ((bAnd .i64 a0.f2.f0 255).tmod 4), .int .i64 ((bAnd .i64 a0.f2.f1 255).tmod 3)]]) (by kernel_rfl) (by kernel_rfl) (by kernel_rfl) ?_ _ (.inr rfl)
 exact fun w' hs' => ⟨_, rfl, I1, A1, c1, cs1, rfl, hs'.got _ (.cons_cons _ .slnil), hf1⟩

end Go.Proofs.Ytieakigoinebdaa
namespace Go.Proofs.Ytieakigoinebdaa
open Go Go.Proofs.Ytieakigoinebdaa.RW
set_option linter.unusedVariables false
set_option maxRecDepth 100000
set_option maxHeartbeats 8000000

/-! ### quorum_Valid: function 12, armillary/quorum.Valid -/
noncomputable def K12_0 : Code := cBody Try.f12
noncomputable def K12_1 : Code := cL K12_0
noncomputable def O12_1 : List Oper := cOps K12_1
noncomputable def K12_3 : Code := cR K12_0
noncomputable def K12_4 : Code := cL K12_3
noncomputable def O12_4 : List Oper := cOps K12_4
noncomputable def K12_6 : Code := cR K12_3
def quorum_Valid.f (k : Nat) (a0 : S32) (a1 : Int) : Option (Bool) := ((quorum_group_valid.f k a1 a0).bind fun t1 => (some t1))
def quorum_Valid.Post (I : Imm) (w : World) (r : Bool) (v : Value) (w' : World) : Prop :=
 ∃ (J : Imm), v = .bool r ∧ Got w w' I J []
theorem quorum_Valid.calls (k : Nat) (I0 : Imm) (a0 : S32) (Ap0_5_2 : Option Addr) (cp0_5_2 : Nat) (a1 : Int) (w : World) (hI : I0.at_ w) (hlp0_5_2 : a0.f5.f2.length ≤ cp0_5_2) (hrp0_5_2 : Rd (Ty.int .u8) I0 Ap0_5_2 a0.f5.f2) (r : Bool) (h : quorum_Valid.f k a0 a1 = some r) :
  Calls Try.prog 12 [.agg #[.int .i64 a0.f0, .int .i64 a0.f1, .int .i64 a0.f2, .int .i64 a0.f3, .int .u32 a0.f4, .int .i64 a0.f5.f0, .string a0.f5.f1, .slice Ap0_5_2 a0.f5.f2.length cp0_5_2], .int .i64 a1].toArray w fun e w' => ∃ v, e = .returned v ∧ quorum_Valid.Post I0 w r v w' := by
 have H : ((quorum_group_valid.f k a1 a0).bind fun t1 => (some t1)) = some r := h
 clear h
 refine calls_body Try.func12 (by kernel_rfl) 8 (by kernel_rfl) (by kernel_rfl) ⟨w, fun _ => False, I0⟩ I0 [] [(0, .agg #[.int .i64 a0.f0, .int .i64 a0.f1, .int .i64 a0.f2, .int .i64 a0.f3, .int .u32 a0.f4, .int .i64 a0.f5.f0, .string a0.f5.f1, .slice Ap0_5_2 a0.f5.f2.length cp0_5_2]), (1, .int .i64 a1)] (by kernel_rfl) (Sat.start w _ I0 hI) ?_
 generalize w.heap.size = nx0
 show OK _ K12_0 _ _ _ _ _ _ _ _
 refine OK.seq K12_1 K12_3 (by kernel_rfl) ?_
 refine OK.region 0 O12_1 (by kernel_rfl) ?_
 refine RL.simP (K' := [(2, .pointer (some ⟨nx0, 0, none⟩)), (1, .int .i64 a1)]) (nx' := nx0 + 1) (L' := [⟨nx0, [.int .i64 a0.f0, .int .i64 a0.f1, .int .i64 a0.f2, .int .i64 a0.f3, .int .u32 a0.f4, .int .i64 a0.f5.f0, .string a0.f5.f1, .slice Ap0_5_2 a0.f5.f2.length cp0_5_2], 32⟩]) [] (RFacts.nil _ _ _) 2 [.no, .no] (by kernel_rfl) (by kernel_rfl) ?_
 refine RL.nil (by kernel_rfl) ?_
 refine QN.then_ ?_
 refine OK.seq K12_4 K12_6 (by kernel_rfl) ?_
 refine OK.region 1 O12_4 (by kernel_rfl) ?_
 refine RL.simK (K' := [(6, .agg #[.int .i64 a0.f0, .int .i64 a0.f1, .int .i64 a0.f2, .int .i64 a0.f3, .int .u32 a0.f4, .int .i64 a0.f5.f0, .string a0.f5.f1, .slice Ap0_5_2 a0.f5.f2.length cp0_5_2]), (5, .int .i64 a1)]) [] (RFacts.nil _ _ _) 2 [.no, .l 0] (by kernel_rfl) (by kernel_rfl) ?_
 obtain ⟨t1, hA1, H⟩ := Option.bind_eq_some_iff.mp H
 refine RL.callP 32 [.int .i64 a1, .agg #[.int .i64 a0.f0, .int .i64 a0.f1, .int .i64 a0.f2, .int .i64 a0.f3, .int .u32 a0.f4, .int .i64 a0.f5.f0, .string a0.f5.f1, .slice Ap0_5_2 a0.f5.f2.length cp0_5_2]] (some 7) (fun w => quorum_group_valid.Post I0 w t1) (by kernel_rfl) (by kernel_rfl) (fun w hs => quorum_group_valid.calls k I0 a1 a0 Ap0_5_2 cp0_5_2 w hs.im hlp0_5_2 hrp0_5_2 t1 hA1) ?_
 rintro w v w' hs ⟨I1, rfl, hg⟩
 have hi1 := hg.le
 refine RL.resume (X' := []) rfl (hs.call hg) ?_
 clear hs hg
 generalize w'.heap.size = nx1
 clear w w'
 refine RL.simK (K' := [(4, .bool t1)]) [] (RFacts.nil _ _ _) 1 [.no] (by kernel_rfl) (by kernel_rfl) ?_
 refine RL.nil (by kernel_rfl) ?_
 refine QN.then_ ?_
 refine OK.ret (by kernel_rfl) ?_
 obtain rfl := Option.some.inj H
 refine QN.body rfl [] (RFacts.nil _ _ _) (.no) (.bool t1) (by kernel_rfl) (by kernel_rfl) (by kernel_rfl) ?_ _ (.inr rfl)
 exact fun w' hs' => ⟨_, rfl, I1, rfl, hs'.got _ .slnil⟩

end Go.Proofs.Ytieakigoinebdaa
namespace Go.Proofs.Ytieakigoinebdaa
open Go Go.Proofs.Ytieakigoinebdaa.RW
set_option linter.unusedVariables false
set_option maxRecDepth 100000
set_option maxHeartbeats 8000000

/-! ### quorum_HighestPrepared: function 18, armillary/quorum.HighestPrepared -/
noncomputable def K18_0 : Code := cBody Try.f18
noncomputable def K18_1 : Code := cL K18_0
noncomputable def O18_1 : List Oper := cOps K18_1
noncomputable def K18_3 : Code := cR K18_0
noncomputable def K18_4 : Code := cL K18_3
noncomputable def O18_4 : List Oper := cOps K18_4
noncomputable def K18_6 : Code := cR K18_3
noncomputable def K18_7 : Code := cL K18_6
noncomputable def O18_7 : List Oper := cOps K18_7
noncomputable def K18_9 : Code := cR K18_6
noncomputable def K18_10 : Code := cL K18_9
noncomputable def K18_11 : Code := cL K18_10
noncomputable def O18_11 : List Oper := cOps K18_11
noncomputable def K18_13 : Code := cR K18_10
noncomputable def K18_14 : Code := cL K18_13
noncomputable def K18_15 : Code := cL K18_14
noncomputable def K18_16 : Code := cL K18_15
noncomputable def O18_16 : List Oper := cOps K18_16
noncomputable def K18_18 : Code := cR K18_15
noncomputable def K18_19 : Code := cL K18_18
noncomputable def K18_20 : Code := cL K18_19
noncomputable def K18_21 : Code := cR K18_19
noncomputable def K18_22 : Code := cR K18_18
noncomputable def K18_23 : Code := cL K18_22
noncomputable def K18_24 : Code := cL K18_23
noncomputable def K18_25 : Code := cL K18_24
noncomputable def O18_25 : List Oper := cOps K18_25
noncomputable def K18_27 : Code := cR K18_24
noncomputable def K18_28 : Code := cL K18_27
noncomputable def K18_29 : Code := cL K18_28
noncomputable def O18_29 : List Oper := cOps K18_29
noncomputable def K18_31 : Code := cR K18_28
noncomputable def K18_32 : Code := cL K18_31
noncomputable def K18_33 : Code := cR K18_31
noncomputable def K18_34 : Code := cR K18_27
noncomputable def K18_35 : Code := cL K18_34
noncomputable def O18_35 : List Oper := cOps K18_35
noncomputable def K18_37 : Code := cR K18_34
noncomputable def K18_38 : Code := cL K18_37
noncomputable def O18_38 : List Oper := cOps K18_38
noncomputable def K18_40 : Code := cR K18_37
noncomputable def K18_41 : Code := cL K18_40
noncomputable def O18_41 : List Oper := cOps K18_41
noncomputable def K18_43 : Code := cR K18_40
noncomputable def K18_44 : Code := cR K18_22
noncomputable def O18_44 : List Oper := cOps K18_44
noncomputable def K18_46 : Code := cR K18_9
noncomputable def K18_47 : Code := cL K18_46
noncomputable def O18_47 : List Oper := cOps K18_47
noncomputable def K18_49 : Code := cR K18_46
def quorum_HighestPrepared.k1  : Int × ByteArray × List Int × Int → Option (S30 × Bool)
 | (x1, x2, x3, x4) => (some ((⟨x1, x2, x3⟩ : S30), (decide (x4 ≥ 0))))
def quorum_HighestPrepared.k3  : Int × ByteArray × List Int × Int → Option (Int × ByteArray × List Int × Int)
 | (x16, x17, x18, x19) => (some (x16, x17, x18, x19))
def quorum_HighestPrepared.k4 (a0 : List S32) (x5 : Int) (x6 : ByteArray) (x7 : List Int) (x8 : Int) (x9 : Int) (x15 : Bool) : Option (Int × ByteArray × List Int × Int) := ((if x15 = true then (some ((a0.getD (x9).toNat z32).f5.f0, (a0.getD (x9).toNat z32).f5.f1, (a0.getD (x9).toNat z32).f5.f2, (a0.getD (x9).toNat z32).f2)) else (some (x5, x6, x7, x8))).bind (quorum_HighestPrepared.k3))
def quorum_HighestPrepared.k5 (a0 : List S32) (t1 : (List (VK × Int))) (x5 : Int) (x6 : ByteArray) (x7 : List Int) (x8 : Int) (x9 : Int) (x14 : Bool) : Option (Int × ByteArray × List Int × Int) := (if x14 = true then (some (x5, x6, x7, x8)) else ((if (mget t1 (2, 0, (a0.getD (x9).toNat z32).f2, (a0.getD (x9).toNat z32).f3)).isSome = true then (some (((mget t1 (2, 0, (a0.getD (x9).toNat z32).f2, (a0.getD (x9).toNat z32).f3)).getD 0) == ((a0.getD (x9).toNat z32).f4))) else (some false)).bind (quorum_HighestPrepared.k4 a0 x5 x6 x7 x8 x9)))
def quorum_HighestPrepared.l1 (a0 : List S32) (a1 : Int) (a2 : S24) (t1 : (List (VK × Int))) : Nat → Int → ByteArray → (List Int) → Int → Int → Option (Int × ByteArray × List Int × Int)
 | 0, _, _, _, _, _ => none
 | k + 1, x5, x6, x7, x8, x9 => (if x9 < (a0.length : Int) then ((if 0 ≤ x9 then (if x9 < (a0.length : Int) then ((if ((a0.getD (x9).toNat z32).f0) ≠ 1 then (some true) else (if ((a0.getD (x9).toNat z32).f3) ≠ a2.f1 then (some true) else (if ((a0.getD (x9).toNat z32).f2) ≥ a2.f0 then (some true) else (if ((a0.getD (x9).toNat z32).f2) ≤ x8 then (some true) else ((quorum_Valid.f k (a0.getD (x9).toNat z32) a1).bind fun t2 => (some (!t2))))))).bind (quorum_HighestPrepared.k5 a0 t1 x5 x6 x7 x8 x9)) else none) else none).bind (fun (x10, x11, x12, x13) => (quorum_HighestPrepared.l1 a0 a1 a2 t1 k x10 x11 x12 x13 (W .i64 (x9 + 1))))) else (some (x5, x6, x7, x8)))
def quorum_HighestPrepared.f (k : Nat) (a0 : List S32) (a1 : Int) (a2 : S24) : Option (S30 × Bool) := ((quorum_tally.f k a0 a1).bind fun t1 => ((quorum_HighestPrepared.l1 a0 a1 a2 t1 k 0 (⟨#[]⟩ : ByteArray) [] (-1) 0).bind (quorum_HighestPrepared.k1)))
def quorum_HighestPrepared.Post (I : Imm) (w : World) (r : S30 × Bool) (v : Value) (w' : World) : Prop :=
 ∃ (J : Imm) (A0_2 : Option Addr) (c0_2 : Nat), v = .tuple #[.agg #[.int .i64 r.1.f0, .string r.1.f1, .slice A0_2 r.1.f2.length c0_2], .bool r.2] ∧ Got w w' I J [] ∧ r.1.f2.length ≤ c0_2 ∧ Rd (Ty.int .u8) J A0_2 r.1.f2
noncomputable def a18_41n : List Nat := [0, 1, 0, 4, 3, 31]
theorem a18_41 : ancs O18_41 [] = a18_41n := by kernel_rfl
theorem a18_41o : drawOk O18_41 a18_41n 5 = true := by kernel_rfl
noncomputable def u18d1l  : List Ld :=
 []
noncomputable def u18d1g  : List (Nat × ((Nat → Wt) → Value)) := []
noncomputable def u18d1q (a0 : List S32) (Ap0 : Option Addr) (cp0 : Nat) (a1 : Int) (a2 : S24) (nx0 : Nat) (g1 : Nat) (nx1 : Nat) (x5 : Int) (x6 : ByteArray) (x7 : List Int) (A2 : Option Addr) (c2 : Nat) (x8 : Int) (x9 : Int) (nx3 : Nat) (A1_5_2_ : Option Addr) (c1_5_2_ : Nat) (x15 : Bool) (u : Nat → Wt) : Option (List Value × List (Nat × Value) × List (Nat × Nat)) := qSim Try.prog [] [⟨nx0, [.int .i64 a2.f0, .int .i64 a2.f1], 24⟩, ⟨nx0 + 1, [.int .i64 0, .string (⟨#[]⟩ : ByteArray), .slice none 0 0], 30⟩, ⟨nx1, [.int .i64 x5, .string x6, .slice A2 x7.length c2], 30⟩, ⟨nx3, [.int .i64 ((a0.getD (x9).toNat z32).f0), .int .i64 ((a0.getD (x9).toNat z32).f1), .int .i64 ((a0.getD (x9).toNat z32).f2), .int .i64 ((a0.getD (x9).toNat z32).f3), .int .u32 ((a0.getD (x9).toNat z32).f4), .int .i64 ((a0.getD (x9).toNat z32).f5.f0), .string ((a0.getD (x9).toNat z32).f5.f1), .slice A1_5_2_ (((a0.getD (x9).toNat z32).f5.f2).length) c1_5_2_], 32⟩] O18_41 ⟨80, []⟩ (Ld.vl u18d1l) u18d1g u [.no, .l 3, .no, .l 3, .no] 0 (O18_41.take 5) [(1, .int .i64 a1), (5, .pointer (some ⟨nx0, 0, none⟩)), (6, .pointer (some ⟨nx0 + 1, 0, none⟩)), (8, .map (some g1)), (9, .int .i64 x8), (10, .pointer (some ⟨nx1, 0, none⟩)), (12, .pointer (some ⟨nx3, 0, none⟩)), (19, .slice Ap0 a0.length cp0), (20, .int .i64 (a0.length : Int)), (21, .int .i64 x9), (71, .bool x15)]
noncomputable def u18d1s (a0 : List S32) (x9 : Int) (nx3 : Nat) (A1_5_2_ : Option Addr) (c1_5_2_ : Nat) (u : Nat → Wt) : List Value := [.pointer (some ⟨nx3, 2, none⟩), .int .i64 ((a0.getD (x9).toNat z32).f2), .pointer (some ⟨nx3, 5, none⟩), .agg #[.int .i64 ((a0.getD (x9).toNat z32).f5.f0), .string ((a0.getD (x9).toNat z32).f5.f1), .slice A1_5_2_ (((a0.getD (x9).toNat z32).f5.f2).length) c1_5_2_], .int .i64 ((a0.getD (x9).toNat z32).f2)]
noncomputable def u18d1f (a0 : List S32) (Ap0 : Option Addr) (cp0 : Nat) (a1 : Int) (nx0 : Nat) (g1 : Nat) (nx1 : Nat) (x8 : Int) (x9 : Int) (nx3 : Nat) (A1_5_2_ : Option Addr) (c1_5_2_ : Nat) (x15 : Bool) (i : Nat) (u : Nat → Wt) : List (Nat × Value) := foldPut ⟨80, []⟩ [(1, .int .i64 a1), (5, .pointer (some ⟨nx0, 0, none⟩)), (6, .pointer (some ⟨nx0 + 1, 0, none⟩)), (8, .map (some g1)), (9, .int .i64 x8), (10, .pointer (some ⟨nx1, 0, none⟩)), (12, .pointer (some ⟨nx3, 0, none⟩)), (19, .slice Ap0 a0.length cp0), (20, .int .i64 (a0.length : Int)), (21, .int .i64 x9), (71, .bool x15)] (O18_41.take i) (((u18d1s a0 x9 nx3 A1_5_2_ c1_5_2_) u).take i)
theorem u18d1v (a0 : List S32) (Ap0 : Option Addr) (cp0 : Nat) (a1 : Int) (a2 : S24) (nx0 : Nat) (g1 : Nat) (nx1 : Nat) (x5 : Int) (x6 : ByteArray) (x7 : List Int) (A2 : Option Addr) (c2 : Nat) (x8 : Int) (x9 : Int) (nx3 : Nat) (A1_5_2_ : Option Addr) (c1_5_2_ : Nat) (x15 : Bool) (u : Nat → Wt) : (u18d1q a0 Ap0 cp0 a1 a2 nx0 g1 nx1 x5 x6 x7 A2 c2 x8 x9 nx3 A1_5_2_ c1_5_2_ x15 u).map (fun x => (x.1, x.2.1)) = some ((u18d1s a0 x9 nx3 A1_5_2_ c1_5_2_) u, (u18d1f a0 Ap0 cp0 a1 nx0 g1 nx1 x8 x9 nx3 A1_5_2_ c1_5_2_ x15 5) u) := by kernel_rfl
theorem u18d1e (a0 : List S32) (Ap0 : Option Addr) (cp0 : Nat) (a1 : Int) (a2 : S24) (nx0 : Nat) (g1 : Nat) (nx1 : Nat) (x5 : Int) (x6 : ByteArray) (x7 : List Int) (A2 : Option Addr) (c2 : Nat) (x8 : Int) (x9 : Int) (nx3 : Nat) (A1_5_2_ : Option Addr) (c1_5_2_ : Nat) (x15 : Bool) (u : Nat → Wt) : (u18d1q a0 Ap0 cp0 a1 a2 nx0 g1 nx1 x5 x6 x7 A2 c2 x8 x9 nx3 A1_5_2_ c1_5_2_ x15 u).map (fun x => x.2.2.map (·.1)) = (u18d1q a0 Ap0 cp0 a1 a2 nx0 g1 nx1 x5 x6 x7 A2 c2 x8 x9 nx3 A1_5_2_ c1_5_2_ x15 u).map (fun x => x.2.2.map (·.2)) := by kernel_rfl
theorem quorum_HighestPrepared.calls (k : Nat) (I0 : Imm) (a0 : List S32) (Ap0 : Option Addr) (cp0 : Nat) (a1 : Int) (a2 : S24) (w : World) (hI : I0.at_ w) (hlp0 : a0.length ≤ cp0) (hrp0 : Rd t32 I0 Ap0 a0) (r : S30 × Bool) (h : quorum_HighestPrepared.f k a0 a1 a2 = some r) :
  Calls Try.prog 18 [.slice Ap0 a0.length cp0, .int .i64 a1, .agg #[.int .i64 a2.f0, .int .i64 a2.f1]].toArray w fun e w' => ∃ v, e = .returned v ∧ quorum_HighestPrepared.Post I0 w r v w' := by
 have H : ((quorum_tally.f k a0 a1).bind fun t1 => ((quorum_HighestPrepared.l1 a0 a1 a2 t1 k 0 (⟨#[]⟩ : ByteArray) [] (-1) 0).bind (quorum_HighestPrepared.k1))) = some r := h
 clear h
 refine calls_body Try.func18 (by kernel_rfl) 80 (by kernel_rfl) (by kernel_rfl) ⟨w, fun _ => False, I0⟩ I0 [] [(0, .slice Ap0 a0.length cp0), (1, .int .i64 a1), (2, .agg #[.int .i64 a2.f0, .int .i64 a2.f1])] (by kernel_rfl) (Sat.start w _ I0 hI) ?_
 generalize w.heap.size = nx0
 show OK _ K18_0 _ _ _ _ _ _ _ _
 refine OK.seq K18_1 K18_3 (by kernel_rfl) ?_
 refine OK.region 0 O18_1 (by kernel_rfl) ?_
 refine RL.simP (K' := [(6, .pointer (some ⟨nx0 + 1, 0, none⟩)), (5, .pointer (some ⟨nx0, 0, none⟩)), (0, .slice Ap0 a0.length cp0), (1, .int .i64 a1)]) (nx' := nx0 + 2) (L' := [⟨nx0, [.int .i64 a2.f0, .int .i64 a2.f1], 24⟩, ⟨nx0 + 1, [.int .i64 0, .string (⟨#[]⟩ : ByteArray), .slice none 0 0], 30⟩]) [] (RFacts.nil _ _ _) 3 [.no, .no, .no] (by kernel_rfl) (by kernel_rfl) ?_
 refine RL.nil (by kernel_rfl) ?_
 refine QN.then_ ?_
 refine OK.seq K18_4 K18_6 (by kernel_rfl) ?_
 refine OK.region 1 O18_4 (by kernel_rfl) ?_
 refine RL.simK (K' := [(16, .int .i64 a1), (15, .slice Ap0 a0.length cp0), (6, .pointer (some ⟨nx0 + 1, 0, none⟩)), (5, .pointer (some ⟨nx0, 0, none⟩)), (0, .slice Ap0 a0.length cp0), (1, .int .i64 a1)]) [] (RFacts.nil _ _ _) 2 [.no, .no] (by kernel_rfl) (by kernel_rfl) ?_
 obtain ⟨t1, hA1, H⟩ := Option.bind_eq_some_iff.mp H
 refine RL.callP 35 [.slice Ap0 a0.length cp0, .int .i64 a1] (some 17) (fun w => quorum_tally.Post I0 w t1) (by kernel_rfl) (by kernel_rfl) (fun w hs => quorum_tally.calls k I0 a0 Ap0 cp0 a1 w hs.im hlp0 hrp0 t1 hA1) ?_
 rintro w v w' hs ⟨I1, g1, rfl, hg, hm1⟩
 have hi1 := hg.le
 refine RL.resume (X' := []) rfl (hs.call hg) ?_
 clear hs hg
 generalize w'.heap.size = nx1
 clear w w'
 refine RL.simK (K' := [(8, .map (some g1)), (6, .pointer (some ⟨nx0 + 1, 0, none⟩)), (5, .pointer (some ⟨nx0, 0, none⟩)), (0, .slice Ap0 a0.length cp0), (1, .int .i64 a1)]) [] (RFacts.nil _ _ _) 1 [.no] (by kernel_rfl) (by kernel_rfl) ?_
 refine RL.nil (by kernel_rfl) ?_
 refine QN.then_ ?_
 refine OK.seq K18_7 K18_9 (by kernel_rfl) ?_
 refine OK.region 2 O18_7 (by kernel_rfl) ?_
 refine RL.simP (K' := [(9, .int .i64 (-1)), (10, .pointer (some ⟨nx1, 0, none⟩)), (8, .map (some g1)), (6, .pointer (some ⟨nx0 + 1, 0, none⟩)), (5, .pointer (some ⟨nx0, 0, none⟩)), (0, .slice Ap0 a0.length cp0), (1, .int .i64 a1)]) (nx' := nx1 + 1) (L' := [⟨nx0, [.int .i64 a2.f0, .int .i64 a2.f1], 24⟩, ⟨nx0 + 1, [.int .i64 0, .string (⟨#[]⟩ : ByteArray), .slice none 0 0], 30⟩, ⟨nx1, [.int .i64 0, .string (⟨#[]⟩ : ByteArray), .slice none 0 0], 30⟩]) [] (RFacts.nil _ _ _) 4 [.no, .no, .no, .l 2] (by kernel_rfl) (by kernel_rfl) ?_
 refine RL.nil (by kernel_rfl) ?_
 refine QN.then_ ?_
 refine OK.seq K18_10 K18_46 (by kernel_rfl) ?_
 refine OK.seq K18_11 K18_13 (by kernel_rfl) ?_
 refine OK.region 3 O18_11 (by kernel_rfl) ?_
 refine RL.simK (K' := [(21, .int .i64 0), (20, .int .i64 (a0.length : Int)), (19, .slice Ap0 a0.length cp0), (9, .int .i64 (-1)), (10, .pointer (some ⟨nx1, 0, none⟩)), (8, .map (some g1)), (6, .pointer (some ⟨nx0 + 1, 0, none⟩)), (5, .pointer (some ⟨nx0, 0, none⟩)), (1, .int .i64 a1)]) [] (RFacts.nil _ _ _) 3 [.no, .no, .no] (by kernel_rfl) (by kernel_rfl) ?_
 refine RL.nil (by kernel_rfl) ?_
 refine QN.then_ ?_
 refine OK.join (fun K' I' _ L' X' => ∃ (x1 : Int) (x2 : ByteArray) (x3 : List Int) (x4 : Int) (A1 : Option Addr) (c1 : Nat), K' = [(6, .pointer (some ⟨nx0 + 1, 0, none⟩)), (9, .int .i64 x4), (10, .pointer (some ⟨nx1, 0, none⟩))] ∧ L' = [⟨nx0, [.int .i64 a2.f0, .int .i64 a2.f1], 24⟩, ⟨nx0 + 1, [.int .i64 0, .string (⟨#[]⟩ : ByteArray), .slice none 0 0], 30⟩, ⟨nx1, [.int .i64 x1, .string x2, .slice A1 x3.length c1], 30⟩] ∧ X' = [] ∧ Imm.le I1 I' ∧ x3.length ≤ c1 ∧ Rd (Ty.int .u8) I' A1 x3 ∧ quorum_HighestPrepared.k1 (x1, x2, x3, x4) = some r) ?_ ?_
 ·rintro _ I2 nx2 _ _ ⟨x1, x2, x3, x4, A1, c1, rfl, rfl, rfl, hi2, hl1, hr1, H⟩
  replace H : (some ((⟨x1, x2, x3⟩ : S30), (decide (x4 ≥ 0)))) = some r := H
  refine QN.then_ ?_
  refine OK.seq K18_47 K18_49 (by kernel_rfl) ?_
  refine OK.region 11 O18_47 (by kernel_rfl) ?_
  refine RL.simP (K' := [(7, .bool (decide (x4 ≥ 0))), (6, .pointer (some ⟨nx0 + 1, 0, none⟩))]) (nx' := nx2) (L' := [⟨nx0, [.int .i64 a2.f0, .int .i64 a2.f1], 24⟩, ⟨nx0 + 1, [.int .i64 x1, .string x2, .slice A1 x3.length c1], 30⟩, ⟨nx1, [.int .i64 x1, .string x2, .slice A1 x3.length c1], 30⟩]) [] (RFacts.nil _ _ _) 5 [.l 2, .no, .no, .l 1, .no] (by kernel_rfl) (by kernel_rfl) ?_
  refine RL.nil (by kernel_rfl) ?_
  refine QN.then_ ?_
  refine OK.ret (by kernel_rfl) ?_
  obtain rfl := Option.some.inj H
  refine QN.body rfl [] (RFacts.nil _ _ _) (.l 1) (.tuple #[.agg #[.int .i64 x1, .string x2, .slice A1 x3.length c1], .bool (decide (x4 ≥ 0))]) (by kernel_rfl) (by kernel_rfl) (by kernel_rfl) ?_ _ (.inr rfl)
  exact fun w' hs' => ⟨_, rfl, I2, A1, c1, rfl, hs'.got _ .slnil, hl1, hr1⟩
 ·intro Q_1 hJ1 hQ1
  obtain ⟨y1, H, HK1⟩ := Option.bind_eq_some_iff.mp H
  refine OK.block 0 K18_14 (by kernel_rfl) ?_
  refine OK.sub (K' := [(1, .int .i64 a1), (5, .pointer (some ⟨nx0, 0, none⟩)), (6, .pointer (some ⟨nx0 + 1, 0, none⟩)), (8, .map (some g1)), (9, .int .i64 (-1)), (10, .pointer (some ⟨nx1, 0, none⟩)), (19, .slice Ap0 a0.length cp0), (20, .int .i64 (a0.length : Int)), (21, .int .i64 0)]) (L' := [⟨nx0, [.int .i64 a2.f0, .int .i64 a2.f1], 24⟩, ⟨nx0 + 1, [.int .i64 0, .string (⟨#[]⟩ : ByteArray), .slice none 0 0], 30⟩, ⟨nx1, [.int .i64 0, .string (⟨#[]⟩ : ByteArray), .slice none 0 0], 30⟩]) (by kernel_rfl) (.cons_cons _ (.cons_cons _ (.cons_cons _ .slnil))) (.refl _) ?_
  refine OK.loopInv K18_15 (by kernel_rfl) (fun n_ K' I' _ L' X' => ∃ (x5 : Int) (x6 : ByteArray) (x7 : List Int) (x8 : Int) (x9 : Int) (A2 : Option Addr) (c2 : Nat), K' = [(1, .int .i64 a1), (5, .pointer (some ⟨nx0, 0, none⟩)), (6, .pointer (some ⟨nx0 + 1, 0, none⟩)), (8, .map (some g1)), (9, .int .i64 x8), (10, .pointer (some ⟨nx1, 0, none⟩)), (19, .slice Ap0 a0.length cp0), (20, .int .i64 (a0.length : Int)), (21, .int .i64 x9)] ∧ L' = [⟨nx0, [.int .i64 a2.f0, .int .i64 a2.f1], 24⟩, ⟨nx0 + 1, [.int .i64 0, .string (⟨#[]⟩ : ByteArray), .slice none 0 0], 30⟩, ⟨nx1, [.int .i64 x5, .string x6, .slice A2 x7.length c2], 30⟩] ∧ X' = [] ∧ Imm.le I1 I' ∧ x7.length ≤ c2 ∧ Rd (Ty.int .u8) I' A2 x7 ∧ quorum_HighestPrepared.l1 a0 a1 a2 t1 n_ x5 x6 x7 x8 x9 = some y1) k ⟨0, (⟨#[]⟩ : ByteArray), [], (-1), 0, none, 0, rfl, rfl, rfl, (Imm.le_refl _), (Nat.le_refl _), (Rd.nil _ _ _), H⟩ ?_ ?_
  ·rintro _ _ _ _ _ ⟨x5, x6, x7, x8, x9, A2, c2, rfl, rfl, rfl, _, hl2, hr2, H⟩
   cases H
  ·rintro kq1 _ I3 nx3 _ _ ⟨x5, x6, x7, x8, x9, A2, c2, rfl, rfl, rfl, hi3, hl2, hr2, H⟩ Q_l1 hJ2 hQ2
   replace H : (if x9 < (a0.length : Int) then ((if 0 ≤ x9 then (if x9 < (a0.length : Int) then ((if ((a0.getD (x9).toNat z32).f0) ≠ 1 then (some true) else (if ((a0.getD (x9).toNat z32).f3) ≠ a2.f1 then (some true) else (if ((a0.getD (x9).toNat z32).f2) ≥ a2.f0 then (some true) else (if ((a0.getD (x9).toNat z32).f2) ≤ x8 then (some true) else ((quorum_Valid.f kq1 (a0.getD (x9).toNat z32) a1).bind fun t2 => (some (!t2))))))).bind (quorum_HighestPrepared.k5 a0 t1 x5 x6 x7 x8 x9)) else none) else none).bind (fun (x10, x11, x12, x13) => (quorum_HighestPrepared.l1 a0 a1 a2 t1 kq1 x10 x11 x12 x13 (W .i64 (x9 + 1))))) else (some (x5, x6, x7, x8))) = some y1 := H
   refine OK.seq K18_16 K18_18 (by kernel_rfl) ?_
   refine OK.region 4 O18_16 (by kernel_rfl) ?_
   refine RL.simK (K' := [(22, .bool (decide (x9 < (a0.length : Int)))), (1, .int .i64 a1), (5, .pointer (some ⟨nx0, 0, none⟩)), (6, .pointer (some ⟨nx0 + 1, 0, none⟩)), (8, .map (some g1)), (9, .int .i64 x8), (10, .pointer (some ⟨nx1, 0, none⟩)), (19, .slice Ap0 a0.length cp0), (20, .int .i64 (a0.length : Int)), (21, .int .i64 x9)]) [] (RFacts.nil _ _ _) 1 [.no] (by kernel_rfl) (by kernel_rfl) ?_
   refine RL.nil (by kernel_rfl) ?_
   refine QN.then_ ?_
   refine OK.seq K18_19 K18_22 (by kernel_rfl) ?_
   refine OK.cond (.tmp 22) K18_20 K18_21 (decide (x9 < (a0.length : Int))) (by kernel_rfl) (by kernel_rfl) (by kernel_rfl) (fun hb => ?_) (fun hb => ?_)
   ·skip
    have hc := (of_decide_eq_true hb)
    rw [if_pos hc] at H
    clear hb
    refine OK.skip (by kernel_rfl) ?_
    refine QN.then_ ?_
    refine OK.seq K18_23 K18_44 (by kernel_rfl) ?_
    refine OK.join (fun K' I' _ L' X' => ∃ (x10 : Int) (x11 : ByteArray) (x12 : List Int) (x13 : Int) (A3 : Option Addr) (c3 : Nat), K' = [(1, .int .i64 a1), (5, .pointer (some ⟨nx0, 0, none⟩)), (6, .pointer (some ⟨nx0 + 1, 0, none⟩)), (8, .map (some g1)), (9, .int .i64 x13), (10, .pointer (some ⟨nx1, 0, none⟩)), (19, .slice Ap0 a0.length cp0), (20, .int .i64 (a0.length : Int)), (21, .int .i64 x9)] ∧ L' = [⟨nx0, [.int .i64 a2.f0, .int .i64 a2.f1], 24⟩, ⟨nx0 + 1, [.int .i64 0, .string (⟨#[]⟩ : ByteArray), .slice none 0 0], 30⟩, ⟨nx1, [.int .i64 x10, .string x11, .slice A3 x12.length c3], 30⟩] ∧ X' = [] ∧ Imm.le I3 I' ∧ x12.length ≤ c3 ∧ Rd (Ty.int .u8) I' A3 x12 ∧ (quorum_HighestPrepared.l1 a0 a1 a2 t1 kq1 x10 x11 x12 x13 (W .i64 (x9 + 1))) = some y1) ?_ ?_
    ·rintro _ I4 nx4 _ _ ⟨x10, x11, x12, x13, A3, c3, rfl, rfl, rfl, hi4, hl3, hr3, H⟩
     replace H : (quorum_HighestPrepared.l1 a0 a1 a2 t1 kq1 x10 x11 x12 x13 (W .i64 (x9 + 1))) = some y1 := H
     refine QN.then_ ?_
     refine OK.region 10 O18_44 (by kernel_rfl) ?_
     refine RL.simK (K' := [(21, .int .i64 (W .i64 (x9 + 1))), (1, .int .i64 a1), (5, .pointer (some ⟨nx0, 0, none⟩)), (6, .pointer (some ⟨nx0 + 1, 0, none⟩)), (8, .map (some g1)), (9, .int .i64 x13), (10, .pointer (some ⟨nx1, 0, none⟩)), (19, .slice Ap0 a0.length cp0), (20, .int .i64 (a0.length : Int))]) [] (RFacts.nil _ _ _) 2 [.no, .no] (by kernel_rfl) (by kernel_rfl) ?_
     refine RL.nil (by kernel_rfl) ?_
     refine QN.sub (K' := [(1, .int .i64 a1), (5, .pointer (some ⟨nx0, 0, none⟩)), (6, .pointer (some ⟨nx0 + 1, 0, none⟩)), (8, .map (some g1)), (9, .int .i64 x13), (10, .pointer (some ⟨nx1, 0, none⟩)), (19, .slice Ap0 a0.length cp0), (20, .int .i64 (a0.length : Int)), (21, .int .i64 (W .i64 (x9 + 1)))]) (L' := [⟨nx0, [.int .i64 a2.f0, .int .i64 a2.f1], 24⟩, ⟨nx0 + 1, [.int .i64 0, .string (⟨#[]⟩ : ByteArray), .slice none 0 0], 30⟩, ⟨nx1, [.int .i64 x10, .string x11, .slice A3 x12.length c3], 30⟩]) (by kernel_rfl) (.cons_cons _ (.cons_cons _ (.cons_cons _ .slnil))) (.refl _) ?_
     exact hJ2 _ _ _ _ _ ⟨x10, x11, x12, x13, W .i64 (x9 + 1), A3, c3, rfl, rfl, rfl, (Imm.le_trans hi3 hi4), hl3, hr3, H⟩
    ·intro Q_2 hJ3 hQ3
     obtain ⟨y2, H, HK2⟩ := Option.bind_eq_some_iff.mp H
     refine OK.block 1 K18_24 (by kernel_rfl) ?_
     refine OK.seq K18_25 K18_27 (by kernel_rfl) ?_
     refine OK.region 5 O18_25 (by kernel_rfl) ?_
     by_cases hib0 : 0 ≤ x9
     case neg => rw [if_neg hib0] at H; cases H
     rw [if_pos hib0] at H
     by_cases hib1 : x9 < (a0.length : Int)
     case neg => rw [if_neg hib1] at H; cases H
     rw [if_pos hib1] at H
     obtain ⟨g1_, o1_, hA1_, A1_5_2_, c1_5_2_, hl1_5_2_, hr1_5_2_, hc1_⟩ := t32_at (Rd.ext (Imm.le_trans hi1 hi3) hrp0) x9 hib0 hib1
     refine RL.idx 8 .i64 x9 hA1_ a0.length cp0 (some 23) (by kernel_rfl) (by kernel_rfl) (T := 22) (e := 32) (by kernel_rfl) (by kernel_rfl) hib0 hib1 (K' := [(23, .pointer (some ⟨g1_, o1_ + (x9).toNat * 8, none⟩)), (22, .bool (decide (x9 < (a0.length : Int)))), (1, .int .i64 a1), (5, .pointer (some ⟨nx0, 0, none⟩)), (6, .pointer (some ⟨nx0 + 1, 0, none⟩)), (8, .map (some g1)), (9, .int .i64 x8), (10, .pointer (some ⟨nx1, 0, none⟩)), (19, .slice Ap0 a0.length cp0), (20, .int .i64 (a0.length : Int)), (21, .int .i64 x9)]) (by kernel_rfl) ?_
     refine RL.simP (K' := [(12, .pointer (some ⟨nx3, 0, none⟩)), (1, .int .i64 a1), (5, .pointer (some ⟨nx0, 0, none⟩)), (6, .pointer (some ⟨nx0 + 1, 0, none⟩)), (8, .map (some g1)), (9, .int .i64 x8), (10, .pointer (some ⟨nx1, 0, none⟩)), (19, .slice Ap0 a0.length cp0), (20, .int .i64 (a0.length : Int)), (21, .int .i64 x9)]) (nx' := nx3 + 1) (L' := [⟨nx0, [.int .i64 a2.f0, .int .i64 a2.f1], 24⟩, ⟨nx0 + 1, [.int .i64 0, .string (⟨#[]⟩ : ByteArray), .slice none 0 0], 30⟩, ⟨nx1, [.int .i64 x5, .string x6, .slice A2 x7.length c2], 30⟩, ⟨nx3, [.int .i64 ((a0.getD (x9).toNat z32).f0), .int .i64 ((a0.getD (x9).toNat z32).f1), .int .i64 ((a0.getD (x9).toNat z32).f2), .int .i64 ((a0.getD (x9).toNat z32).f3), .int .u32 ((a0.getD (x9).toNat z32).f4), .int .i64 ((a0.getD (x9).toNat z32).f5.f0), .string ((a0.getD (x9).toNat z32).f5.f1), .slice A1_5_2_ (((a0.getD (x9).toNat z32).f5.f2).length) c1_5_2_], 32⟩]) [(⟨g1_, o1_ + (x9).toNat * 8, none⟩, .int .i64 ((a0.getD (x9).toNat z32).f0)), (⟨g1_, o1_ + (x9).toNat * 8 + 1, none⟩, .int .i64 ((a0.getD (x9).toNat z32).f1)), (⟨g1_, o1_ + (x9).toNat * 8 + 2, none⟩, .int .i64 ((a0.getD (x9).toNat z32).f2)), (⟨g1_, o1_ + (x9).toNat * 8 + 3, none⟩, .int .i64 ((a0.getD (x9).toNat z32).f3)), (⟨g1_, o1_ + (x9).toNat * 8 + 4, none⟩, .int .u32 ((a0.getD (x9).toNat z32).f4)), (⟨g1_, o1_ + (x9).toNat * 8 + 5, none⟩, .int .i64 ((a0.getD (x9).toNat z32).f5.f0)), (⟨g1_, o1_ + (x9).toNat * 8 + 6, none⟩, .string ((a0.getD (x9).toNat z32).f5.f1)), (⟨g1_, o1_ + (x9).toNat * 8 + 7, none⟩, .slice A1_5_2_ (((a0.getD (x9).toNat z32).f5.f2).length) c1_5_2_)] (RFacts.imm (hc1_ 0 _ rfl) (RFacts.imm (hc1_ 1 _ rfl) (RFacts.imm (hc1_ 2 _ rfl) (RFacts.imm (hc1_ 3 _ rfl) (RFacts.imm (hc1_ 4 _ rfl) (RFacts.imm (hc1_ 5 _ rfl) (RFacts.imm (hc1_ 6 _ rfl) (RFacts.imm (hc1_ 7 _ rfl) (RFacts.nil _ _ _))))))))) 3 [.r 0, .no, .l 3] (by kernel_rfl) (by kernel_rfl) ?_
     refine RL.nil (by kernel_rfl) ?_
     refine QN.then_ ?_
     refine OK.seq K18_28 K18_34 (by kernel_rfl) ?_
     refine OK.seq K18_29 K18_31 (by kernel_rfl) ?_
     refine OK.join (fun K' I' _ L' X' => ∃ (x14 : Bool), K' = [(1, .int .i64 a1), (5, .pointer (some ⟨nx0, 0, none⟩)), (6, .pointer (some ⟨nx0 + 1, 0, none⟩)), (8, .map (some g1)), (9, .int .i64 x8), (10, .pointer (some ⟨nx1, 0, none⟩)), (12, .pointer (some ⟨nx3, 0, none⟩)), (19, .slice Ap0 a0.length cp0), (20, .int .i64 (a0.length : Int)), (21, .int .i64 x9), (53, .bool x14)] ∧ L' = [⟨nx0, [.int .i64 a2.f0, .int .i64 a2.f1], 24⟩, ⟨nx0 + 1, [.int .i64 0, .string (⟨#[]⟩ : ByteArray), .slice none 0 0], 30⟩, ⟨nx1, [.int .i64 x5, .string x6, .slice A2 x7.length c2], 30⟩, ⟨nx3, [.int .i64 ((a0.getD (x9).toNat z32).f0), .int .i64 ((a0.getD (x9).toNat z32).f1), .int .i64 ((a0.getD (x9).toNat z32).f2), .int .i64 ((a0.getD (x9).toNat z32).f3), .int .u32 ((a0.getD (x9).toNat z32).f4), .int .i64 ((a0.getD (x9).toNat z32).f5.f0), .string ((a0.getD (x9).toNat z32).f5.f1), .slice A1_5_2_ (((a0.getD (x9).toNat z32).f5.f2).length) c1_5_2_], 32⟩] ∧ X' = [] ∧ Imm.le I3 I' ∧ quorum_HighestPrepared.k5 a0 t1 x5 x6 x7 x8 x9 x14 = some y2) ?_ ?_
     ·rintro _ I5 nx5 _ _ ⟨x14, rfl, rfl, rfl, hi5, H⟩
      replace H : (if x14 = true then (some (x5, x6, x7, x8)) else ((if (mget t1 (2, 0, (a0.getD (x9).toNat z32).f2, (a0.getD (x9).toNat z32).f3)).isSome = true then (some (((mget t1 (2, 0, (a0.getD (x9).toNat z32).f2, (a0.getD (x9).toNat z32).f3)).getD 0) == ((a0.getD (x9).toNat z32).f4))) else (some false)).bind (quorum_HighestPrepared.k4 a0 x5 x6 x7 x8 x9))) = some y2 := H
      refine QN.then_ ?_
      refine OK.cond (.tmp 53) K18_32 K18_33 x14 (by kernel_rfl) (by kernel_rfl) (by kernel_rfl) (fun hb => ?_) (fun hb => ?_)
      ·skip
       have hc := hb
       rw [if_pos hc] at H
       clear hb
       refine OK.exit 1 (by kernel_rfl) ?_
       refine QN.thenE ?_
       refine QN.blkE ?_
       obtain rfl := Option.some.inj H
       refine QN.sub (K' := [(1, .int .i64 a1), (5, .pointer (some ⟨nx0, 0, none⟩)), (6, .pointer (some ⟨nx0 + 1, 0, none⟩)), (8, .map (some g1)), (9, .int .i64 x8), (10, .pointer (some ⟨nx1, 0, none⟩)), (19, .slice Ap0 a0.length cp0), (20, .int .i64 (a0.length : Int)), (21, .int .i64 x9)]) (L' := [⟨nx0, [.int .i64 a2.f0, .int .i64 a2.f1], 24⟩, ⟨nx0 + 1, [.int .i64 0, .string (⟨#[]⟩ : ByteArray), .slice none 0 0], 30⟩, ⟨nx1, [.int .i64 x5, .string x6, .slice A2 x7.length c2], 30⟩]) (by kernel_rfl) (.cons_cons _ (.cons_cons _ (.cons_cons _ (.cons _ .slnil)))) (.refl _) ?_
       exact hJ3 _ _ _ _ _ ⟨x5, x6, x7, x8, A2, c2, rfl, rfl, rfl, hi5, hl2, (Rd.ext hi5 hr2), HK2⟩
      ·skip
       have hc := (Bool.eq_false_iff.1 hb)
       rw [if_neg hc] at H
       clear hb
       refine OK.skip (by kernel_rfl) ?_
       refine QN.then_ ?_
       refine OK.seq K18_35 K18_37 (by kernel_rfl) ?_
       refine OK.region 7 O18_35 (by kernel_rfl) ?_
       refine RL.simK (K' := [(61, .agg #[.int .i64 2, .int .i64 0, .int .i64 ((a0.getD (x9).toNat z32).f2), .int .i64 ((a0.getD (x9).toNat z32).f3)]), (55, .map (some g1)), (1, .int .i64 a1), (5, .pointer (some ⟨nx0, 0, none⟩)), (6, .pointer (some ⟨nx0 + 1, 0, none⟩)), (8, .map (some g1)), (9, .int .i64 x8), (10, .pointer (some ⟨nx1, 0, none⟩)), (12, .pointer (some ⟨nx3, 0, none⟩)), (19, .slice Ap0 a0.length cp0), (20, .int .i64 (a0.length : Int)), (21, .int .i64 x9)]) [] (RFacts.nil _ _ _) 7 [.no, .no, .l 3, .no, .l 3, .no, .no] (by kernel_rfl) (by kernel_rfl) ?_
       refine RL.lookF mt69 (2, 0, (a0.getD (x9).toNat z32).f2, (a0.getD (x9).toNat z32).f3) (some 62) (by kernel_rfl) (Mp.ext (Imm.le_trans hi3 hi5) hm1) (by kernel_rfl) (K' := [(62, .tuple #[.int .u32 ((mget t1 (2, 0, (a0.getD (x9).toNat z32).f2, (a0.getD (x9).toNat z32).f3)).getD 0), .bool (mget t1 (2, 0, (a0.getD (x9).toNat z32).f2, (a0.getD (x9).toNat z32).f3)).isSome]), (61, .agg #[.int .i64 2, .int .i64 0, .int .i64 ((a0.getD (x9).toNat z32).f2), .int .i64 ((a0.getD (x9).toNat z32).f3)]), (55, .map (some g1)), (1, .int .i64 a1), (5, .pointer (some ⟨nx0, 0, none⟩)), (6, .pointer (some ⟨nx0 + 1, 0, none⟩)), (8, .map (some g1)), (9, .int .i64 x8), (10, .pointer (some ⟨nx1, 0, none⟩)), (12, .pointer (some ⟨nx3, 0, none⟩)), (19, .slice Ap0 a0.length cp0), (20, .int .i64 (a0.length : Int)), (21, .int .i64 x9)]) (by kernel_rfl) ?_
       refine RL.simK (K' := [(14, .bool (mget t1 (2, 0, (a0.getD (x9).toNat z32).f2, (a0.getD (x9).toNat z32).f3)).isSome), (13, .int .u32 ((mget t1 (2, 0, (a0.getD (x9).toNat z32).f2, (a0.getD (x9).toNat z32).f3)).getD 0)), (1, .int .i64 a1), (5, .pointer (some ⟨nx0, 0, none⟩)), (6, .pointer (some ⟨nx0 + 1, 0, none⟩)), (8, .map (some g1)), (9, .int .i64 x8), (10, .pointer (some ⟨nx1, 0, none⟩)), (12, .pointer (some ⟨nx3, 0, none⟩)), (19, .slice Ap0 a0.length cp0), (20, .int .i64 (a0.length : Int)), (21, .int .i64 x9)]) [] (RFacts.nil _ _ _) 5 [.no, .no, .no, .no, .no] (by kernel_rfl) (by kernel_rfl) ?_
       refine RL.nil (by kernel_rfl) ?_
       refine QN.then_ ?_
       refine OK.seq K18_38 K18_40 (by kernel_rfl) ?_
       refine OK.join (fun K' I' _ L' X' => ∃ (x15 : Bool), K' = [(1, .int .i64 a1), (5, .pointer (some ⟨nx0, 0, none⟩)), (6, .pointer (some ⟨nx0 + 1, 0, none⟩)), (8, .map (some g1)), (9, .int .i64 x8), (10, .pointer (some ⟨nx1, 0, none⟩)), (12, .pointer (some ⟨nx3, 0, none⟩)), (19, .slice Ap0 a0.length cp0), (20, .int .i64 (a0.length : Int)), (21, .int .i64 x9), (71, .bool x15)] ∧ L' = [⟨nx0, [.int .i64 a2.f0, .int .i64 a2.f1], 24⟩, ⟨nx0 + 1, [.int .i64 0, .string (⟨#[]⟩ : ByteArray), .slice none 0 0], 30⟩, ⟨nx1, [.int .i64 x5, .string x6, .slice A2 x7.length c2], 30⟩, ⟨nx3, [.int .i64 ((a0.getD (x9).toNat z32).f0), .int .i64 ((a0.getD (x9).toNat z32).f1), .int .i64 ((a0.getD (x9).toNat z32).f2), .int .i64 ((a0.getD (x9).toNat z32).f3), .int .u32 ((a0.getD (x9).toNat z32).f4), .int .i64 ((a0.getD (x9).toNat z32).f5.f0), .string ((a0.getD (x9).toNat z32).f5.f1), .slice A1_5_2_ (((a0.getD (x9).toNat z32).f5.f2).length) c1_5_2_], 32⟩] ∧ X' = [] ∧ Imm.le I5 I' ∧ quorum_HighestPrepared.k4 a0 x5 x6 x7 x8 x9 x15 = some y2) ?_ ?_
       ·rintro _ I6 nx6 _ _ ⟨x15, rfl, rfl, rfl, hi6, H⟩
        replace H : ((if x15 = true then (some ((a0.getD (x9).toNat z32).f5.f0, (a0.getD (x9).toNat z32).f5.f1, (a0.getD (x9).toNat z32).f5.f2, (a0.getD (x9).toNat z32).f2)) else (some (x5, x6, x7, x8))).bind (quorum_HighestPrepared.k3)) = some y2 := H
        refine QN.then_ ?_
        refine OK.join (fun K' I' _ L' X' => ∃ (x16 : Int) (x17 : ByteArray) (x18 : List Int) (x19 : Int) (A4 : Option Addr) (c4 : Nat), K' = [(1, .int .i64 a1), (5, .pointer (some ⟨nx0, 0, none⟩)), (6, .pointer (some ⟨nx0 + 1, 0, none⟩)), (8, .map (some g1)), (9, .int .i64 x19), (10, .pointer (some ⟨nx1, 0, none⟩)), (19, .slice Ap0 a0.length cp0), (20, .int .i64 (a0.length : Int)), (21, .int .i64 x9)] ∧ L' = [⟨nx0, [.int .i64 a2.f0, .int .i64 a2.f1], 24⟩, ⟨nx0 + 1, [.int .i64 0, .string (⟨#[]⟩ : ByteArray), .slice none 0 0], 30⟩, ⟨nx1, [.int .i64 x16, .string x17, .slice A4 x18.length c4], 30⟩, ⟨nx3, [.int .i64 ((a0.getD (x9).toNat z32).f0), .int .i64 ((a0.getD (x9).toNat z32).f1), .int .i64 ((a0.getD (x9).toNat z32).f2), .int .i64 ((a0.getD (x9).toNat z32).f3), .int .u32 ((a0.getD (x9).toNat z32).f4), .int .i64 ((a0.getD (x9).toNat z32).f5.f0), .string ((a0.getD (x9).toNat z32).f5.f1), .slice A1_5_2_ (((a0.getD (x9).toNat z32).f5.f2).length) c1_5_2_], 32⟩] ∧ X' = [] ∧ Imm.le I6 I' ∧ x18.length ≤ c4 ∧ Rd (Ty.int .u8) I' A4 x18 ∧ quorum_HighestPrepared.k3 (x16, x17, x18, x19) = some y2) ?_ ?_
        ·rintro _ I7 nx7 _ _ ⟨x16, x17, x18, x19, A4, c4, rfl, rfl, rfl, hi7, hl4, hr4, H⟩
         replace H : (some (x16, x17, x18, x19)) = some y2 := H
         refine QN.blkN ?_
         obtain rfl := Option.some.inj H
         refine QN.sub (K' := [(1, .int .i64 a1), (5, .pointer (some ⟨nx0, 0, none⟩)), (6, .pointer (some ⟨nx0 + 1, 0, none⟩)), (8, .map (some g1)), (9, .int .i64 x19), (10, .pointer (some ⟨nx1, 0, none⟩)), (19, .slice Ap0 a0.length cp0), (20, .int .i64 (a0.length : Int)), (21, .int .i64 x9)]) (L' := [⟨nx0, [.int .i64 a2.f0, .int .i64 a2.f1], 24⟩, ⟨nx0 + 1, [.int .i64 0, .string (⟨#[]⟩ : ByteArray), .slice none 0 0], 30⟩, ⟨nx1, [.int .i64 x16, .string x17, .slice A4 x18.length c4], 30⟩]) (by kernel_rfl) (.cons_cons _ (.cons_cons _ (.cons_cons _ (.cons _ .slnil)))) (.refl _) ?_
         exact hJ3 _ _ _ _ _ ⟨x16, x17, x18, x19, A4, c4, rfl, rfl, rfl, (Imm.le_trans (Imm.le_trans hi5 hi6) hi7), hl4, hr4, HK2⟩
        ·intro Q_3 hJ6 hQ6
         obtain ⟨y5, H, HK5⟩ := Option.bind_eq_some_iff.mp H
         refine OK.cond (.tmp 71) K18_41 K18_43 x15 (by kernel_rfl) (by kernel_rfl) (by kernel_rfl) (fun hb => ?_) (fun hb => ?_)
         ·skip
          have hc := hb
          rw [if_pos hc] at H
          clear hb
          refine OK.drawnC 9 5 O18_41 a18_41n (by kernel_rfl) (by kernel_rfl) u18d1l u18d1g [] (RI.nil _) [.no, .l 3, .no, .l 3, .no] a18_41 a18_41o (by kernel_rfl) (by kernel_rfl) (u18d1s a0 x9 nx3 A1_5_2_ c1_5_2_) (u18d1f a0 Ap0 cp0 a1 nx0 g1 nx1 x8 x9 nx3 A1_5_2_ c1_5_2_ x15 5) (u18d1v a0 Ap0 cp0 a1 a2 nx0 g1 nx1 x5 x6 x7 A2 c2 x8 x9 nx3 A1_5_2_ c1_5_2_ x15) (u18d1e a0 Ap0 cp0 a1 a2 nx0 g1 nx1 x5 x6 x7 A2 c2 x8 x9 nx3 A1_5_2_ c1_5_2_ x15) [] framesOk.nil ?_ [] framesOk.nil ?_ ?_
          ·refine LoudsG.nil
          ·refine Givens.nil
          intro u I8 nx8 hi8 hF
          clear hF
          refine RL.norm (K' := [(9, .int .i64 ((a0.getD (x9).toNat z32).f2)), (75, .agg #[.int .i64 ((a0.getD (x9).toNat z32).f5.f0), .string ((a0.getD (x9).toNat z32).f5.f1), .slice A1_5_2_ (((a0.getD (x9).toNat z32).f5.f2).length) c1_5_2_]), (74, .pointer (some ⟨nx3, 5, none⟩)), (73, .int .i64 ((a0.getD (x9).toNat z32).f2)), (72, .pointer (some ⟨nx3, 2, none⟩)), (1, .int .i64 a1), (5, .pointer (some ⟨nx0, 0, none⟩)), (6, .pointer (some ⟨nx0 + 1, 0, none⟩)), (8, .map (some g1)), (10, .pointer (some ⟨nx1, 0, none⟩)), (12, .pointer (some ⟨nx3, 0, none⟩)), (19, .slice Ap0 a0.length cp0), (20, .int .i64 (a0.length : Int)), (21, .int .i64 x9), (71, .bool x15)]) (X' := []) (by kernel_rfl) rfl rfl rfl ?_
          refine RL.simP (K' := [(9, .int .i64 ((a0.getD (x9).toNat z32).f2)), (1, .int .i64 a1), (5, .pointer (some ⟨nx0, 0, none⟩)), (6, .pointer (some ⟨nx0 + 1, 0, none⟩)), (8, .map (some g1)), (10, .pointer (some ⟨nx1, 0, none⟩)), (19, .slice Ap0 a0.length cp0), (20, .int .i64 (a0.length : Int)), (21, .int .i64 x9)]) (nx' := nx8) (L' := [⟨nx0, [.int .i64 a2.f0, .int .i64 a2.f1], 24⟩, ⟨nx0 + 1, [.int .i64 0, .string (⟨#[]⟩ : ByteArray), .slice none 0 0], 30⟩, ⟨nx1, [.int .i64 ((a0.getD (x9).toNat z32).f5.f0), .string ((a0.getD (x9).toNat z32).f5.f1), .slice A1_5_2_ (((a0.getD (x9).toNat z32).f5.f2).length) c1_5_2_], 30⟩, ⟨nx3, [.int .i64 ((a0.getD (x9).toNat z32).f0), .int .i64 ((a0.getD (x9).toNat z32).f1), .int .i64 ((a0.getD (x9).toNat z32).f2), .int .i64 ((a0.getD (x9).toNat z32).f3), .int .u32 ((a0.getD (x9).toNat z32).f4), .int .i64 ((a0.getD (x9).toNat z32).f5.f0), .string ((a0.getD (x9).toNat z32).f5.f1), .slice A1_5_2_ (((a0.getD (x9).toNat z32).f5.f2).length) c1_5_2_], 32⟩]) [] (RFacts.nil _ _ _) 1 [.l 2] (by kernel_rfl) (by kernel_rfl) ?_
          refine RL.nil (by kernel_rfl) ?_
          obtain rfl := Option.some.inj H
          refine QN.sub (K' := [(1, .int .i64 a1), (5, .pointer (some ⟨nx0, 0, none⟩)), (6, .pointer (some ⟨nx0 + 1, 0, none⟩)), (8, .map (some g1)), (9, .int .i64 ((a0.getD (x9).toNat z32).f2)), (10, .pointer (some ⟨nx1, 0, none⟩)), (19, .slice Ap0 a0.length cp0), (20, .int .i64 (a0.length : Int)), (21, .int .i64 x9)]) (L' := [⟨nx0, [.int .i64 a2.f0, .int .i64 a2.f1], 24⟩, ⟨nx0 + 1, [.int .i64 0, .string (⟨#[]⟩ : ByteArray), .slice none 0 0], 30⟩, ⟨nx1, [.int .i64 ((a0.getD (x9).toNat z32).f5.f0), .string ((a0.getD (x9).toNat z32).f5.f1), .slice A1_5_2_ (((a0.getD (x9).toNat z32).f5.f2).length) c1_5_2_], 30⟩, ⟨nx3, [.int .i64 ((a0.getD (x9).toNat z32).f0), .int .i64 ((a0.getD (x9).toNat z32).f1), .int .i64 ((a0.getD (x9).toNat z32).f2), .int .i64 ((a0.getD (x9).toNat z32).f3), .int .u32 ((a0.getD (x9).toNat z32).f4), .int .i64 ((a0.getD (x9).toNat z32).f5.f0), .string ((a0.getD (x9).toNat z32).f5.f1), .slice A1_5_2_ (((a0.getD (x9).toNat z32).f5.f2).length) c1_5_2_], 32⟩]) (by kernel_rfl) (.cons_cons _ (.cons_cons _ (.cons_cons _ (.cons_cons _ .slnil)))) (.refl _) ?_
          exact hJ6 _ _ _ _ _ ⟨(a0.getD (x9).toNat z32).f5.f0, (a0.getD (x9).toNat z32).f5.f1, (a0.getD (x9).toNat z32).f5.f2, (a0.getD (x9).toNat z32).f2, A1_5_2_, c1_5_2_, rfl, rfl, rfl, hi8, hl1_5_2_, (Rd.ext (Imm.le_trans (Imm.le_trans hi5 hi6) hi8) hr1_5_2_), HK5⟩
         ·skip
          have hc := (Bool.eq_false_iff.1 hb)
          rw [if_neg hc] at H
          clear hb
          refine OK.skip (by kernel_rfl) ?_
          obtain rfl := Option.some.inj H
          refine QN.sub (K' := [(1, .int .i64 a1), (5, .pointer (some ⟨nx0, 0, none⟩)), (6, .pointer (some ⟨nx0 + 1, 0, none⟩)), (8, .map (some g1)), (9, .int .i64 x8), (10, .pointer (some ⟨nx1, 0, none⟩)), (19, .slice Ap0 a0.length cp0), (20, .int .i64 (a0.length : Int)), (21, .int .i64 x9)]) (L' := [⟨nx0, [.int .i64 a2.f0, .int .i64 a2.f1], 24⟩, ⟨nx0 + 1, [.int .i64 0, .string (⟨#[]⟩ : ByteArray), .slice none 0 0], 30⟩, ⟨nx1, [.int .i64 x5, .string x6, .slice A2 x7.length c2], 30⟩, ⟨nx3, [.int .i64 ((a0.getD (x9).toNat z32).f0), .int .i64 ((a0.getD (x9).toNat z32).f1), .int .i64 ((a0.getD (x9).toNat z32).f2), .int .i64 ((a0.getD (x9).toNat z32).f3), .int .u32 ((a0.getD (x9).toNat z32).f4), .int .i64 ((a0.getD (x9).toNat z32).f5.f0), .string ((a0.getD (x9).toNat z32).f5.f1), .slice A1_5_2_ (((a0.getD (x9).toNat z32).f5.f2).length) c1_5_2_], 32⟩]) (by kernel_rfl) (.cons_cons _ (.cons_cons _ (.cons_cons _ (.cons_cons _ .slnil)))) (.refl _) ?_
          exact hJ6 _ _ _ _ _ ⟨x5, x6, x7, x8, A2, c2, rfl, rfl, rfl, (Imm.le_refl _), hl2, (Rd.ext (Imm.le_trans hi5 hi6) hr2), HK5⟩
       ·intro Q_4 hJ5 hQ5
        obtain ⟨y4, H, HK4⟩ := Option.bind_eq_some_iff.mp H
        refine OK.region 8 O18_38 (by kernel_rfl) ?_
        refine RL.simK (K' := [(66, .bool (mget t1 (2, 0, (a0.getD (x9).toNat z32).f2, (a0.getD (x9).toNat z32).f3)).isSome), (13, .int .u32 ((mget t1 (2, 0, (a0.getD (x9).toNat z32).f2, (a0.getD (x9).toNat z32).f3)).getD 0)), (1, .int .i64 a1), (5, .pointer (some ⟨nx0, 0, none⟩)), (6, .pointer (some ⟨nx0 + 1, 0, none⟩)), (8, .map (some g1)), (9, .int .i64 x8), (10, .pointer (some ⟨nx1, 0, none⟩)), (12, .pointer (some ⟨nx3, 0, none⟩)), (19, .slice Ap0 a0.length cp0), (20, .int .i64 (a0.length : Int)), (21, .int .i64 x9)]) [] (RFacts.nil _ _ _) 2 [.no, .no] (by kernel_rfl) (by kernel_rfl) ?_
        refine RL.cases ((mget t1 (2, 0, (a0.getD (x9).toNat z32).f2, (a0.getD (x9).toNat z32).f3)).isSome) (fun hb => ?_) (fun hb => ?_)
        ·have hc := hb
         rw [hb]
         rw [if_pos hc] at H; clear hb
         refine RL.simK (K' := [(71, .bool (((mget t1 (2, 0, (a0.getD (x9).toNat z32).f2, (a0.getD (x9).toNat z32).f3)).getD 0) == ((a0.getD (x9).toNat z32).f4))), (1, .int .i64 a1), (5, .pointer (some ⟨nx0, 0, none⟩)), (6, .pointer (some ⟨nx0 + 1, 0, none⟩)), (8, .map (some g1)), (9, .int .i64 x8), (10, .pointer (some ⟨nx1, 0, none⟩)), (12, .pointer (some ⟨nx3, 0, none⟩)), (19, .slice Ap0 a0.length cp0), (20, .int .i64 (a0.length : Int)), (21, .int .i64 x9)]) [] (RFacts.nil _ _ _) 5 [.no, .no, .l 3, .no, .no] (by kernel_rfl) (by kernel_rfl) ?_
         refine RL.nil (by kernel_rfl) ?_
         obtain rfl := Option.some.inj H
         refine QN.sub (K' := [(1, .int .i64 a1), (5, .pointer (some ⟨nx0, 0, none⟩)), (6, .pointer (some ⟨nx0 + 1, 0, none⟩)), (8, .map (some g1)), (9, .int .i64 x8), (10, .pointer (some ⟨nx1, 0, none⟩)), (12, .pointer (some ⟨nx3, 0, none⟩)), (19, .slice Ap0 a0.length cp0), (20, .int .i64 (a0.length : Int)), (21, .int .i64 x9), (71, .bool (((mget t1 (2, 0, (a0.getD (x9).toNat z32).f2, (a0.getD (x9).toNat z32).f3)).getD 0) == ((a0.getD (x9).toNat z32).f4)))]) (L' := [⟨nx0, [.int .i64 a2.f0, .int .i64 a2.f1], 24⟩, ⟨nx0 + 1, [.int .i64 0, .string (⟨#[]⟩ : ByteArray), .slice none 0 0], 30⟩, ⟨nx1, [.int .i64 x5, .string x6, .slice A2 x7.length c2], 30⟩, ⟨nx3, [.int .i64 ((a0.getD (x9).toNat z32).f0), .int .i64 ((a0.getD (x9).toNat z32).f1), .int .i64 ((a0.getD (x9).toNat z32).f2), .int .i64 ((a0.getD (x9).toNat z32).f3), .int .u32 ((a0.getD (x9).toNat z32).f4), .int .i64 ((a0.getD (x9).toNat z32).f5.f0), .string ((a0.getD (x9).toNat z32).f5.f1), .slice A1_5_2_ (((a0.getD (x9).toNat z32).f5.f2).length) c1_5_2_], 32⟩]) (by kernel_rfl) (.cons_cons _ (.cons_cons _ (.cons_cons _ (.cons_cons _ .slnil)))) (.refl _) ?_
         exact hJ5 _ _ _ _ _ ⟨(((mget t1 (2, 0, (a0.getD (x9).toNat z32).f2, (a0.getD (x9).toNat z32).f3)).getD 0) == ((a0.getD (x9).toNat z32).f4)), rfl, rfl, rfl, (Imm.le_refl _), HK4⟩
        ·have hc := (Bool.eq_false_iff.1 hb)
         rw [hb]
         rw [if_neg hc] at H; clear hb
         refine RL.simK (K' := [(71, .bool false), (1, .int .i64 a1), (5, .pointer (some ⟨nx0, 0, none⟩)), (6, .pointer (some ⟨nx0 + 1, 0, none⟩)), (8, .map (some g1)), (9, .int .i64 x8), (10, .pointer (some ⟨nx1, 0, none⟩)), (12, .pointer (some ⟨nx3, 0, none⟩)), (19, .slice Ap0 a0.length cp0), (20, .int .i64 (a0.length : Int)), (21, .int .i64 x9)]) [] (RFacts.nil _ _ _) 5 [.no, .no, .no, .no, .no] (by kernel_rfl) (by kernel_rfl) ?_
         refine RL.nil (by kernel_rfl) ?_
         obtain rfl := Option.some.inj H
         refine QN.sub (K' := [(1, .int .i64 a1), (5, .pointer (some ⟨nx0, 0, none⟩)), (6, .pointer (some ⟨nx0 + 1, 0, none⟩)), (8, .map (some g1)), (9, .int .i64 x8), (10, .pointer (some ⟨nx1, 0, none⟩)), (12, .pointer (some ⟨nx3, 0, none⟩)), (19, .slice Ap0 a0.length cp0), (20, .int .i64 (a0.length : Int)), (21, .int .i64 x9), (71, .bool false)]) (L' := [⟨nx0, [.int .i64 a2.f0, .int .i64 a2.f1], 24⟩, ⟨nx0 + 1, [.int .i64 0, .string (⟨#[]⟩ : ByteArray), .slice none 0 0], 30⟩, ⟨nx1, [.int .i64 x5, .string x6, .slice A2 x7.length c2], 30⟩, ⟨nx3, [.int .i64 ((a0.getD (x9).toNat z32).f0), .int .i64 ((a0.getD (x9).toNat z32).f1), .int .i64 ((a0.getD (x9).toNat z32).f2), .int .i64 ((a0.getD (x9).toNat z32).f3), .int .u32 ((a0.getD (x9).toNat z32).f4), .int .i64 ((a0.getD (x9).toNat z32).f5.f0), .string ((a0.getD (x9).toNat z32).f5.f1), .slice A1_5_2_ (((a0.getD (x9).toNat z32).f5.f2).length) c1_5_2_], 32⟩]) (by kernel_rfl) (.cons_cons _ (.cons_cons _ (.cons_cons _ (.cons_cons _ .slnil)))) (.refl _) ?_
         exact hJ5 _ _ _ _ _ ⟨false, rfl, rfl, rfl, (Imm.le_refl _), HK4⟩
     ·intro Q_5 hJ4 hQ4
      obtain ⟨y3, H, HK3⟩ := Option.bind_eq_some_iff.mp H
      refine OK.region 6 O18_29 (by kernel_rfl) ?_
      refine RL.simK (K' := [(28, .bool (((a0.getD (x9).toNat z32).f0) != 1)), (12, .pointer (some ⟨nx3, 0, none⟩)), (1, .int .i64 a1), (5, .pointer (some ⟨nx0, 0, none⟩)), (6, .pointer (some ⟨nx0 + 1, 0, none⟩)), (8, .map (some g1)), (9, .int .i64 x8), (10, .pointer (some ⟨nx1, 0, none⟩)), (19, .slice Ap0 a0.length cp0), (20, .int .i64 (a0.length : Int)), (21, .int .i64 x9)]) [] (RFacts.nil _ _ _) 4 [.no, .l 3, .no, .no] (by kernel_rfl) (by kernel_rfl) ?_
      refine RL.cases (((a0.getD (x9).toNat z32).f0) != 1) (fun hb => ?_) (fun hb => ?_)
      ·have hc := (bne_iff_ne.1 hb)
       rw [hb]
       rw [if_pos hc] at H; clear hb
       refine RL.simK (K' := [(53, .bool true), (12, .pointer (some ⟨nx3, 0, none⟩)), (1, .int .i64 a1), (5, .pointer (some ⟨nx0, 0, none⟩)), (6, .pointer (some ⟨nx0 + 1, 0, none⟩)), (8, .map (some g1)), (9, .int .i64 x8), (10, .pointer (some ⟨nx1, 0, none⟩)), (19, .slice Ap0 a0.length cp0), (20, .int .i64 (a0.length : Int)), (21, .int .i64 x9)]) [] (RFacts.nil _ _ _) 25 [.no, .no, .no, .no, .no, .no, .no, .no, .no, .no, .no, .no, .no, .no, .no, .no, .no, .no, .no, .no, .no, .no, .no, .no, .no] (by kernel_rfl) (by kernel_rfl) ?_
       refine RL.nil (by kernel_rfl) ?_
       obtain rfl := Option.some.inj H
       refine QN.sub (K' := [(1, .int .i64 a1), (5, .pointer (some ⟨nx0, 0, none⟩)), (6, .pointer (some ⟨nx0 + 1, 0, none⟩)), (8, .map (some g1)), (9, .int .i64 x8), (10, .pointer (some ⟨nx1, 0, none⟩)), (12, .pointer (some ⟨nx3, 0, none⟩)), (19, .slice Ap0 a0.length cp0), (20, .int .i64 (a0.length : Int)), (21, .int .i64 x9), (53, .bool true)]) (L' := [⟨nx0, [.int .i64 a2.f0, .int .i64 a2.f1], 24⟩, ⟨nx0 + 1, [.int .i64 0, .string (⟨#[]⟩ : ByteArray), .slice none 0 0], 30⟩, ⟨nx1, [.int .i64 x5, .string x6, .slice A2 x7.length c2], 30⟩, ⟨nx3, [.int .i64 ((a0.getD (x9).toNat z32).f0), .int .i64 ((a0.getD (x9).toNat z32).f1), .int .i64 ((a0.getD (x9).toNat z32).f2), .int .i64 ((a0.getD (x9).toNat z32).f3), .int .u32 ((a0.getD (x9).toNat z32).f4), .int .i64 ((a0.getD (x9).toNat z32).f5.f0), .string ((a0.getD (x9).toNat z32).f5.f1), .slice A1_5_2_ (((a0.getD (x9).toNat z32).f5.f2).length) c1_5_2_], 32⟩]) (by kernel_rfl) (.cons_cons _ (.cons_cons _ (.cons_cons _ (.cons_cons _ .slnil)))) (.refl _) ?_
       exact hJ4 _ _ _ _ _ ⟨true, rfl, rfl, rfl, (Imm.le_refl _), HK3⟩
      ·have hc := (not_not_intro (bne_eq_false_iff_eq.1 hb))
       rw [hb]
       rw [if_neg hc] at H; clear hb
       refine RL.simK (K' := [(35, .bool (((a0.getD (x9).toNat z32).f3) != a2.f1)), (12, .pointer (some ⟨nx3, 0, none⟩)), (1, .int .i64 a1), (5, .pointer (some ⟨nx0, 0, none⟩)), (6, .pointer (some ⟨nx0 + 1, 0, none⟩)), (8, .map (some g1)), (9, .int .i64 x8), (10, .pointer (some ⟨nx1, 0, none⟩)), (19, .slice Ap0 a0.length cp0), (20, .int .i64 (a0.length : Int)), (21, .int .i64 x9)]) [] (RFacts.nil _ _ _) 7 [.no, .l 3, .no, .l 0, .no, .no, .no] (by kernel_rfl) (by kernel_rfl) ?_
       refine RL.cases (((a0.getD (x9).toNat z32).f3) != a2.f1) (fun hb => ?_) (fun hb => ?_)
       ·have hc := (bne_iff_ne.1 hb)
        rw [hb]
        rw [if_pos hc] at H; clear hb
        refine RL.simK (K' := [(53, .bool true), (12, .pointer (some ⟨nx3, 0, none⟩)), (1, .int .i64 a1), (5, .pointer (some ⟨nx0, 0, none⟩)), (6, .pointer (some ⟨nx0 + 1, 0, none⟩)), (8, .map (some g1)), (9, .int .i64 x8), (10, .pointer (some ⟨nx1, 0, none⟩)), (19, .slice Ap0 a0.length cp0), (20, .int .i64 (a0.length : Int)), (21, .int .i64 x9)]) [] (RFacts.nil _ _ _) 18 [.no, .no, .no, .no, .no, .no, .no, .no, .no, .no, .no, .no, .no, .no, .no, .no, .no, .no] (by kernel_rfl) (by kernel_rfl) ?_
        refine RL.nil (by kernel_rfl) ?_
        obtain rfl := Option.some.inj H
        refine QN.sub (K' := [(1, .int .i64 a1), (5, .pointer (some ⟨nx0, 0, none⟩)), (6, .pointer (some ⟨nx0 + 1, 0, none⟩)), (8, .map (some g1)), (9, .int .i64 x8), (10, .pointer (some ⟨nx1, 0, none⟩)), (12, .pointer (some ⟨nx3, 0, none⟩)), (19, .slice Ap0 a0.length cp0), (20, .int .i64 (a0.length : Int)), (21, .int .i64 x9), (53, .bool true)]) (L' := [⟨nx0, [.int .i64 a2.f0, .int .i64 a2.f1], 24⟩, ⟨nx0 + 1, [.int .i64 0, .string (⟨#[]⟩ : ByteArray), .slice none 0 0], 30⟩, ⟨nx1, [.int .i64 x5, .string x6, .slice A2 x7.length c2], 30⟩, ⟨nx3, [.int .i64 ((a0.getD (x9).toNat z32).f0), .int .i64 ((a0.getD (x9).toNat z32).f1), .int .i64 ((a0.getD (x9).toNat z32).f2), .int .i64 ((a0.getD (x9).toNat z32).f3), .int .u32 ((a0.getD (x9).toNat z32).f4), .int .i64 ((a0.getD (x9).toNat z32).f5.f0), .string ((a0.getD (x9).toNat z32).f5.f1), .slice A1_5_2_ (((a0.getD (x9).toNat z32).f5.f2).length) c1_5_2_], 32⟩]) (by kernel_rfl) (.cons_cons _ (.cons_cons _ (.cons_cons _ (.cons_cons _ .slnil)))) (.refl _) ?_
        exact hJ4 _ _ _ _ _ ⟨true, rfl, rfl, rfl, (Imm.le_refl _), HK3⟩
       ·have hc := (not_not_intro (bne_eq_false_iff_eq.1 hb))
        rw [hb]
        rw [if_neg hc] at H; clear hb
        refine RL.simK (K' := [(42, .bool (decide (((a0.getD (x9).toNat z32).f2) ≥ a2.f0))), (12, .pointer (some ⟨nx3, 0, none⟩)), (1, .int .i64 a1), (5, .pointer (some ⟨nx0, 0, none⟩)), (6, .pointer (some ⟨nx0 + 1, 0, none⟩)), (8, .map (some g1)), (9, .int .i64 x8), (10, .pointer (some ⟨nx1, 0, none⟩)), (19, .slice Ap0 a0.length cp0), (20, .int .i64 (a0.length : Int)), (21, .int .i64 x9)]) [] (RFacts.nil _ _ _) 7 [.no, .l 3, .no, .l 0, .no, .no, .no] (by kernel_rfl) (by kernel_rfl) ?_
        refine RL.cases (decide (((a0.getD (x9).toNat z32).f2) ≥ a2.f0)) (fun hb => ?_) (fun hb => ?_)
        ·have hc := (of_decide_eq_true hb)
         rw [hb]
         rw [if_pos hc] at H; clear hb
         refine RL.simK (K' := [(53, .bool true), (12, .pointer (some ⟨nx3, 0, none⟩)), (1, .int .i64 a1), (5, .pointer (some ⟨nx0, 0, none⟩)), (6, .pointer (some ⟨nx0 + 1, 0, none⟩)), (8, .map (some g1)), (9, .int .i64 x8), (10, .pointer (some ⟨nx1, 0, none⟩)), (19, .slice Ap0 a0.length cp0), (20, .int .i64 (a0.length : Int)), (21, .int .i64 x9)]) [] (RFacts.nil _ _ _) 11 [.no, .no, .no, .no, .no, .no, .no, .no, .no, .no, .no] (by kernel_rfl) (by kernel_rfl) ?_
         refine RL.nil (by kernel_rfl) ?_
         obtain rfl := Option.some.inj H
         refine QN.sub (K' := [(1, .int .i64 a1), (5, .pointer (some ⟨nx0, 0, none⟩)), (6, .pointer (some ⟨nx0 + 1, 0, none⟩)), (8, .map (some g1)), (9, .int .i64 x8), (10, .pointer (some ⟨nx1, 0, none⟩)), (12, .pointer (some ⟨nx3, 0, none⟩)), (19, .slice Ap0 a0.length cp0), (20, .int .i64 (a0.length : Int)), (21, .int .i64 x9), (53, .bool true)]) (L' := [⟨nx0, [.int .i64 a2.f0, .int .i64 a2.f1], 24⟩, ⟨nx0 + 1, [.int .i64 0, .string (⟨#[]⟩ : ByteArray), .slice none 0 0], 30⟩, ⟨nx1, [.int .i64 x5, .string x6, .slice A2 x7.length c2], 30⟩, ⟨nx3, [.int .i64 ((a0.getD (x9).toNat z32).f0), .int .i64 ((a0.getD (x9).toNat z32).f1), .int .i64 ((a0.getD (x9).toNat z32).f2), .int .i64 ((a0.getD (x9).toNat z32).f3), .int .u32 ((a0.getD (x9).toNat z32).f4), .int .i64 ((a0.getD (x9).toNat z32).f5.f0), .string ((a0.getD (x9).toNat z32).f5.f1), .slice A1_5_2_ (((a0.getD (x9).toNat z32).f5.f2).length) c1_5_2_], 32⟩]) (by kernel_rfl) (.cons_cons _ (.cons_cons _ (.cons_cons _ (.cons_cons _ .slnil)))) (.refl _) ?_
         exact hJ4 _ _ _ _ _ ⟨true, rfl, rfl, rfl, (Imm.le_refl _), HK3⟩
        ·have hc := (of_decide_eq_false hb)
         rw [hb]
         rw [if_neg hc] at H; clear hb
         refine RL.simK (K' := [(48, .bool (decide (((a0.getD (x9).toNat z32).f2) ≤ x8))), (12, .pointer (some ⟨nx3, 0, none⟩)), (1, .int .i64 a1), (5, .pointer (some ⟨nx0, 0, none⟩)), (6, .pointer (some ⟨nx0 + 1, 0, none⟩)), (8, .map (some g1)), (9, .int .i64 x8), (10, .pointer (some ⟨nx1, 0, none⟩)), (19, .slice Ap0 a0.length cp0), (20, .int .i64 (a0.length : Int)), (21, .int .i64 x9)]) [] (RFacts.nil _ _ _) 6 [.no, .l 3, .no, .no, .no, .no] (by kernel_rfl) (by kernel_rfl) ?_
         refine RL.cases (decide (((a0.getD (x9).toNat z32).f2) ≤ x8)) (fun hb => ?_) (fun hb => ?_)
         ·have hc := (of_decide_eq_true hb)
          rw [hb]
          rw [if_pos hc] at H; clear hb
          refine RL.simK (K' := [(53, .bool true), (12, .pointer (some ⟨nx3, 0, none⟩)), (1, .int .i64 a1), (5, .pointer (some ⟨nx0, 0, none⟩)), (6, .pointer (some ⟨nx0 + 1, 0, none⟩)), (8, .map (some g1)), (9, .int .i64 x8), (10, .pointer (some ⟨nx1, 0, none⟩)), (19, .slice Ap0 a0.length cp0), (20, .int .i64 (a0.length : Int)), (21, .int .i64 x9)]) [] (RFacts.nil _ _ _) 5 [.no, .no, .no, .no, .no] (by kernel_rfl) (by kernel_rfl) ?_
          refine RL.nil (by kernel_rfl) ?_
          obtain rfl := Option.some.inj H
          refine QN.sub (K' := [(1, .int .i64 a1), (5, .pointer (some ⟨nx0, 0, none⟩)), (6, .pointer (some ⟨nx0 + 1, 0, none⟩)), (8, .map (some g1)), (9, .int .i64 x8), (10, .pointer (some ⟨nx1, 0, none⟩)), (12, .pointer (some ⟨nx3, 0, none⟩)), (19, .slice Ap0 a0.length cp0), (20, .int .i64 (a0.length : Int)), (21, .int .i64 x9), (53, .bool true)]) (L' := [⟨nx0, [.int .i64 a2.f0, .int .i64 a2.f1], 24⟩, ⟨nx0 + 1, [.int .i64 0, .string (⟨#[]⟩ : ByteArray), .slice none 0 0], 30⟩, ⟨nx1, [.int .i64 x5, .string x6, .slice A2 x7.length c2], 30⟩, ⟨nx3, [.int .i64 ((a0.getD (x9).toNat z32).f0), .int .i64 ((a0.getD (x9).toNat z32).f1), .int .i64 ((a0.getD (x9).toNat z32).f2), .int .i64 ((a0.getD (x9).toNat z32).f3), .int .u32 ((a0.getD (x9).toNat z32).f4), .int .i64 ((a0.getD (x9).toNat z32).f5.f0), .string ((a0.getD (x9).toNat z32).f5.f1), .slice A1_5_2_ (((a0.getD (x9).toNat z32).f5.f2).length) c1_5_2_], 32⟩]) (by kernel_rfl) (.cons_cons _ (.cons_cons _ (.cons_cons _ (.cons_cons _ .slnil)))) (.refl _) ?_
          exact hJ4 _ _ _ _ _ ⟨true, rfl, rfl, rfl, (Imm.le_refl _), HK3⟩
         ·have hc := (of_decide_eq_false hb)
          rw [hb]
          rw [if_neg hc] at H; clear hb
          refine RL.simK (K' := [(50, .int .i64 a1), (49, .agg #[.int .i64 ((a0.getD (x9).toNat z32).f0), .int .i64 ((a0.getD (x9).toNat z32).f1), .int .i64 ((a0.getD (x9).toNat z32).f2), .int .i64 ((a0.getD (x9).toNat z32).f3), .int .u32 ((a0.getD (x9).toNat z32).f4), .int .i64 ((a0.getD (x9).toNat z32).f5.f0), .string ((a0.getD (x9).toNat z32).f5.f1), .slice A1_5_2_ (((a0.getD (x9).toNat z32).f5.f2).length) c1_5_2_]), (48, .bool false), (12, .pointer (some ⟨nx3, 0, none⟩)), (1, .int .i64 a1), (5, .pointer (some ⟨nx0, 0, none⟩)), (6, .pointer (some ⟨nx0 + 1, 0, none⟩)), (8, .map (some g1)), (9, .int .i64 x8), (10, .pointer (some ⟨nx1, 0, none⟩)), (19, .slice Ap0 a0.length cp0), (20, .int .i64 (a0.length : Int)), (21, .int .i64 x9)]) [] (RFacts.nil _ _ _) 2 [.l 3, .no] (by kernel_rfl) (by kernel_rfl) ?_
          obtain ⟨t2, hA2, H⟩ := Option.bind_eq_some_iff.mp H
          refine RL.callP 12 [.agg #[.int .i64 ((a0.getD (x9).toNat z32).f0), .int .i64 ((a0.getD (x9).toNat z32).f1), .int .i64 ((a0.getD (x9).toNat z32).f2), .int .i64 ((a0.getD (x9).toNat z32).f3), .int .u32 ((a0.getD (x9).toNat z32).f4), .int .i64 ((a0.getD (x9).toNat z32).f5.f0), .string ((a0.getD (x9).toNat z32).f5.f1), .slice A1_5_2_ (((a0.getD (x9).toNat z32).f5.f2).length) c1_5_2_], .int .i64 a1] (some 51) (fun w => quorum_Valid.Post I3 w t2) (by kernel_rfl) (by kernel_rfl) (fun w hs => quorum_Valid.calls kq1 I3 (a0.getD (x9).toNat z32) A1_5_2_ c1_5_2_ a1 w hs.im hl1_5_2_ hr1_5_2_ t2 hA2) ?_
          rintro w v w' hs ⟨I9, rfl, hg⟩
          have hi9 := hg.le
          refine RL.resume (X' := []) rfl (hs.call hg) ?_
          clear hs hg
          generalize w'.heap.size = nx9
          clear w w'
          refine RL.simK (K' := [(53, .bool (!t2)), (12, .pointer (some ⟨nx3, 0, none⟩)), (1, .int .i64 a1), (5, .pointer (some ⟨nx0, 0, none⟩)), (6, .pointer (some ⟨nx0 + 1, 0, none⟩)), (8, .map (some g1)), (9, .int .i64 x8), (10, .pointer (some ⟨nx1, 0, none⟩)), (19, .slice Ap0 a0.length cp0), (20, .int .i64 (a0.length : Int)), (21, .int .i64 x9)]) [] (RFacts.nil _ _ _) 2 [.no, .no] (by kernel_rfl) (by kernel_rfl) ?_
          refine RL.nil (by kernel_rfl) ?_
          obtain rfl := Option.some.inj H
          refine QN.sub (K' := [(1, .int .i64 a1), (5, .pointer (some ⟨nx0, 0, none⟩)), (6, .pointer (some ⟨nx0 + 1, 0, none⟩)), (8, .map (some g1)), (9, .int .i64 x8), (10, .pointer (some ⟨nx1, 0, none⟩)), (12, .pointer (some ⟨nx3, 0, none⟩)), (19, .slice Ap0 a0.length cp0), (20, .int .i64 (a0.length : Int)), (21, .int .i64 x9), (53, .bool (!t2))]) (L' := [⟨nx0, [.int .i64 a2.f0, .int .i64 a2.f1], 24⟩, ⟨nx0 + 1, [.int .i64 0, .string (⟨#[]⟩ : ByteArray), .slice none 0 0], 30⟩, ⟨nx1, [.int .i64 x5, .string x6, .slice A2 x7.length c2], 30⟩, ⟨nx3, [.int .i64 ((a0.getD (x9).toNat z32).f0), .int .i64 ((a0.getD (x9).toNat z32).f1), .int .i64 ((a0.getD (x9).toNat z32).f2), .int .i64 ((a0.getD (x9).toNat z32).f3), .int .u32 ((a0.getD (x9).toNat z32).f4), .int .i64 ((a0.getD (x9).toNat z32).f5.f0), .string ((a0.getD (x9).toNat z32).f5.f1), .slice A1_5_2_ (((a0.getD (x9).toNat z32).f5.f2).length) c1_5_2_], 32⟩]) (by kernel_rfl) (.cons_cons _ (.cons_cons _ (.cons_cons _ (.cons_cons _ .slnil)))) (.refl _) ?_
          exact hJ4 _ _ _ _ _ ⟨(!t2), rfl, rfl, rfl, hi9, HK3⟩
   ·skip
    have hc := (of_decide_eq_false hb)
    rw [if_neg hc] at H
    clear hb
    refine OK.exit 0 (by kernel_rfl) ?_
    refine QN.thenE ?_
    refine QN.outE hQ2 ?_
    refine QN.blkE ?_
    obtain rfl := Option.some.inj H
    refine QN.sub (K' := [(6, .pointer (some ⟨nx0 + 1, 0, none⟩)), (9, .int .i64 x8), (10, .pointer (some ⟨nx1, 0, none⟩))]) (L' := [⟨nx0, [.int .i64 a2.f0, .int .i64 a2.f1], 24⟩, ⟨nx0 + 1, [.int .i64 0, .string (⟨#[]⟩ : ByteArray), .slice none 0 0], 30⟩, ⟨nx1, [.int .i64 x5, .string x6, .slice A2 x7.length c2], 30⟩]) (by kernel_rfl) (.cons_cons _ (.cons_cons _ (.cons_cons _ .slnil))) (.refl _) ?_
    exact hJ1 _ _ _ _ _ ⟨x5, x6, x7, x8, A2, c2, rfl, rfl, rfl, hi3, hl2, hr2, HK1⟩

end Go.Proofs.Ytieakigoinebdaa
namespace Go.Proofs.Ytieakigoinebdaa
open Go Go.Proofs.Ytieakigoinebdaa.RW
set_option linter.unusedVariables false
set_option maxRecDepth 100000
set_option maxHeartbeats 8000000

/-! ### armillaryref27_Same: function 38, armillary/armillaryref27.Same -/
noncomputable def K38_0 : Code := cBody Try.f38
noncomputable def K38_1 : Code := cL K38_0
noncomputable def O38_1 : List Oper := cOps K38_1
noncomputable def K38_3 : Code := cR K38_0
noncomputable def K38_4 : Code := cL K38_3
noncomputable def O38_4 : List Oper := cOps K38_4
noncomputable def K38_6 : Code := cR K38_3
def armillaryref27_Same.k1  (x1 : Bool) : Option (Bool) := (some x1)
def armillaryref27_Same.f (a0 : S30) (a1 : S30) : Option (Bool) := ((if a0.f0 = a1.f0 then (if a0.f1.toList = a1.f1.toList then (some ((strOfNums a0.f2).toList == (strOfNums a1.f2).toList)) else (some false)) else (some false)).bind (armillaryref27_Same.k1))
def armillaryref27_Same.Post (I : Imm) (w : World) (r : Bool) (v : Value) (w' : World) : Prop :=
 ∃ (J : Imm), v = .bool r ∧ Got w w' I J []
theorem armillaryref27_Same.calls (I0 : Imm) (a0 : S30) (Ap0_2 : Option Addr) (cp0_2 : Nat) (a1 : S30) (Ap1_2 : Option Addr) (cp1_2 : Nat) (w : World) (hI : I0.at_ w) (hlp0_2 : a0.f2.length ≤ cp0_2) (hrp0_2 : Rd (Ty.int .u8) I0 Ap0_2 a0.f2) (hlp1_2 : a1.f2.length ≤ cp1_2) (hrp1_2 : Rd (Ty.int .u8) I0 Ap1_2 a1.f2) (r : Bool) (h : armillaryref27_Same.f a0 a1 = some r) :
  Calls Try.prog 38 [.agg #[.int .i64 a0.f0, .string a0.f1, .slice Ap0_2 a0.f2.length cp0_2], .agg #[.int .i64 a1.f0, .string a1.f1, .slice Ap1_2 a1.f2.length cp1_2]].toArray w fun e w' => ∃ v, e = .returned v ∧ armillaryref27_Same.Post I0 w r v w' := by
 have H : ((if a0.f0 = a1.f0 then (if a0.f1.toList = a1.f1.toList then (some ((strOfNums a0.f2).toList == (strOfNums a1.f2).toList)) else (some false)) else (some false)).bind (armillaryref27_Same.k1)) = some r := h
 clear h
 refine calls_body Try.func38 (by kernel_rfl) 26 (by kernel_rfl) (by kernel_rfl) ⟨w, fun _ => False, I0⟩ I0 [] [(0, .agg #[.int .i64 a0.f0, .string a0.f1, .slice Ap0_2 a0.f2.length cp0_2]), (1, .agg #[.int .i64 a1.f0, .string a1.f1, .slice Ap1_2 a1.f2.length cp1_2])] (by kernel_rfl) (Sat.start w _ I0 hI) ?_
 generalize w.heap.size = nx0
 show OK _ K38_0 _ _ _ _ _ _ _ _
 refine OK.seq K38_1 K38_3 (by kernel_rfl) ?_
 refine OK.region 0 O38_1 (by kernel_rfl) ?_
 refine RL.simP (K' := [(3, .pointer (some ⟨nx0 + 1, 0, none⟩)), (2, .pointer (some ⟨nx0, 0, none⟩))]) (nx' := nx0 + 2) (L' := [⟨nx0, [.int .i64 a0.f0, .string a0.f1, .slice Ap0_2 a0.f2.length cp0_2], 30⟩, ⟨nx0 + 1, [.int .i64 a1.f0, .string a1.f1, .slice Ap1_2 a1.f2.length cp1_2], 30⟩]) [] (RFacts.nil _ _ _) 3 [.no, .no, .no] (by kernel_rfl) (by kernel_rfl) ?_
 refine RL.nil (by kernel_rfl) ?_
 refine QN.then_ ?_
 refine OK.seq K38_4 K38_6 (by kernel_rfl) ?_
 refine OK.join (fun K' I' _ L' X' => ∃ (x1 : Bool), K' = [(4, .bool x1)] ∧ L' = [⟨nx0, [.int .i64 a0.f0, .string a0.f1, .slice Ap0_2 a0.f2.length cp0_2], 30⟩, ⟨nx0 + 1, [.int .i64 a1.f0, .string a1.f1, .slice Ap1_2 a1.f2.length cp1_2], 30⟩] ∧ X' = [] ∧ Imm.le I0 I' ∧ armillaryref27_Same.k1 x1 = some r) ?_ ?_
 ·rintro _ I1 nx1 _ _ ⟨x1, rfl, rfl, rfl, hi1, H⟩
  replace H : (some x1) = some r := H
  refine QN.then_ ?_
  refine OK.ret (by kernel_rfl) ?_
  obtain rfl := Option.some.inj H
  refine QN.body rfl [] (RFacts.nil _ _ _) (.no) (.bool x1) (by kernel_rfl) (by kernel_rfl) (by kernel_rfl) ?_ _ (.inr rfl)
  exact fun w' hs' => ⟨_, rfl, I1, rfl, hs'.got _ .slnil⟩
 ·intro Q_1 hJ1 hQ1
  obtain ⟨y1, H, HK1⟩ := Option.bind_eq_some_iff.mp H
  refine OK.region 1 O38_4 (by kernel_rfl) ?_
  refine RL.simK (K' := [(10, .bool (a0.f0 == a1.f0)), (3, .pointer (some ⟨nx0 + 1, 0, none⟩)), (2, .pointer (some ⟨nx0, 0, none⟩))]) [] (RFacts.nil _ _ _) 6 [.no, .l 0, .no, .l 1, .no, .no] (by kernel_rfl) (by kernel_rfl) ?_
  refine RL.cases (a0.f0 == a1.f0) (fun hb => ?_) (fun hb => ?_)
  ·have hc := (beq_iff_eq.1 hb)
   rw [hb]
   rw [if_pos hc] at H; clear hb
   refine RL.simK (K' := [(17, .bool (a0.f1.toList == a1.f1.toList)), (3, .pointer (some ⟨nx0 + 1, 0, none⟩)), (2, .pointer (some ⟨nx0, 0, none⟩))]) [] (RFacts.nil _ _ _) 7 [.no, .l 0, .no, .l 1, .no, .no, .no] (by kernel_rfl) (by kernel_rfl) ?_
   refine RL.cases (a0.f1.toList == a1.f1.toList) (fun hb => ?_) (fun hb => ?_)
   ·have hc := (beq_iff_eq.1 hb)
    rw [hb]
    rw [if_pos hc] at H; clear hb
    refine RL.simK (K' := [(19, .slice Ap0_2 a0.f2.length cp0_2), (17, .bool true), (3, .pointer (some ⟨nx0 + 1, 0, none⟩))]) [] (RFacts.nil _ _ _) 2 [.no, .l 0] (by kernel_rfl) (by kernel_rfl) ?_
    refine RL.ofBytes (src := 28) (dst := 9) (e := 5) (S := Ap0_2) (l := a0.f2) (cap := cp0_2) (some 20) (by kernel_rfl) (by kernel_rfl) hrp0_2 (by kernel_rfl) (by kernel_rfl) (by kernel_rfl) (K' := [(20, .string (strOfNums a0.f2)), (19, .slice Ap0_2 a0.f2.length cp0_2), (17, .bool true), (3, .pointer (some ⟨nx0 + 1, 0, none⟩))]) (by kernel_rfl) ?_
    refine RL.simK (K' := [(22, .slice Ap1_2 a1.f2.length cp1_2), (20, .string (strOfNums a0.f2)), (17, .bool true)]) [] (RFacts.nil _ _ _) 2 [.no, .l 1] (by kernel_rfl) (by kernel_rfl) ?_
    refine RL.ofBytes (src := 28) (dst := 9) (e := 5) (S := Ap1_2) (l := a1.f2) (cap := cp1_2) (some 23) (by kernel_rfl) (by kernel_rfl) hrp1_2 (by kernel_rfl) (by kernel_rfl) (by kernel_rfl) (K' := [(23, .string (strOfNums a1.f2)), (22, .slice Ap1_2 a1.f2.length cp1_2), (20, .string (strOfNums a0.f2)), (17, .bool true)]) (by kernel_rfl) ?_
    refine RL.simK (K' := [(4, .bool ((strOfNums a0.f2).toList == (strOfNums a1.f2).toList))]) [] (RFacts.nil _ _ _) 3 [.no, .no, .no] (by kernel_rfl) (by kernel_rfl) ?_
    refine RL.nil (by kernel_rfl) ?_
    obtain rfl := Option.some.inj H
    refine QN.sub (K' := [(4, .bool ((strOfNums a0.f2).toList == (strOfNums a1.f2).toList))]) (L' := [⟨nx0, [.int .i64 a0.f0, .string a0.f1, .slice Ap0_2 a0.f2.length cp0_2], 30⟩, ⟨nx0 + 1, [.int .i64 a1.f0, .string a1.f1, .slice Ap1_2 a1.f2.length cp1_2], 30⟩]) (by kernel_rfl) (.cons_cons _ (.cons_cons _ .slnil)) (.refl _) ?_
    exact hJ1 _ _ _ _ _ ⟨((strOfNums a0.f2).toList == (strOfNums a1.f2).toList), rfl, rfl, rfl, (Imm.le_refl _), HK1⟩
   ·have hc := (beq_eq_false_iff_ne.1 hb)
    rw [hb]
    rw [if_neg hc] at H; clear hb
    refine RL.simK (K' := [(4, .bool false)]) [] (RFacts.nil _ _ _) 9 [.no, .no, .no, .no, .no, .no, .no, .no, .no] (by kernel_rfl) (by kernel_rfl) ?_
    refine RL.nil (by kernel_rfl) ?_
    obtain rfl := Option.some.inj H
    refine QN.sub (K' := [(4, .bool false)]) (L' := [⟨nx0, [.int .i64 a0.f0, .string a0.f1, .slice Ap0_2 a0.f2.length cp0_2], 30⟩, ⟨nx0 + 1, [.int .i64 a1.f0, .string a1.f1, .slice Ap1_2 a1.f2.length cp1_2], 30⟩]) (by kernel_rfl) (.cons_cons _ (.cons_cons _ .slnil)) (.refl _) ?_
    exact hJ1 _ _ _ _ _ ⟨false, rfl, rfl, rfl, (Imm.le_refl _), HK1⟩
  ·have hc := (beq_eq_false_iff_ne.1 hb)
   rw [hb]
   rw [if_neg hc] at H; clear hb
   refine RL.simK (K' := [(4, .bool false)]) [] (RFacts.nil _ _ _) 16 [.no, .no, .no, .no, .no, .no, .no, .no, .no, .no, .no, .no, .no, .no, .no, .no] (by kernel_rfl) (by kernel_rfl) ?_
   refine RL.nil (by kernel_rfl) ?_
   obtain rfl := Option.some.inj H
   refine QN.sub (K' := [(4, .bool false)]) (L' := [⟨nx0, [.int .i64 a0.f0, .string a0.f1, .slice Ap0_2 a0.f2.length cp0_2], 30⟩, ⟨nx0 + 1, [.int .i64 a1.f0, .string a1.f1, .slice Ap1_2 a1.f2.length cp1_2], 30⟩]) (by kernel_rfl) (.cons_cons _ (.cons_cons _ .slnil)) (.refl _) ?_
   exact hJ1 _ _ _ _ _ ⟨false, rfl, rfl, rfl, (Imm.le_refl _), HK1⟩

end Go.Proofs.Ytieakigoinebdaa
namespace Go.Proofs.Ytieakigoinebdaa
open Go Go.Proofs.Ytieakigoinebdaa.RW
set_option linter.unusedVariables false
set_option maxRecDepth 100000
set_option maxHeartbeats 8000000

/-! ### armillaryref29_Same: function 26, armillary/armillaryref29.Same -/
noncomputable def K26_0 : Code := cBody Try.f26
noncomputable def K26_1 : Code := cL K26_0
noncomputable def O26_1 : List Oper := cOps K26_1
noncomputable def K26_3 : Code := cR K26_0
noncomputable def K26_4 : Code := cL K26_3
noncomputable def O26_4 : List Oper := cOps K26_4
noncomputable def K26_6 : Code := cR K26_3
def armillaryref29_Same.f (a0 : S30) (a1 : S30) : Option (Bool) := ((armillaryref27_Same.f a0 a1).bind fun t1 => (some t1))
def armillaryref29_Same.Post (I : Imm) (w : World) (r : Bool) (v : Value) (w' : World) : Prop :=
 ∃ (J : Imm), v = .bool r ∧ Got w w' I J []
theorem armillaryref29_Same.calls (I0 : Imm) (a0 : S30) (Ap0_2 : Option Addr) (cp0_2 : Nat) (a1 : S30) (Ap1_2 : Option Addr) (cp1_2 : Nat) (w : World) (hI : I0.at_ w) (hlp0_2 : a0.f2.length ≤ cp0_2) (hrp0_2 : Rd (Ty.int .u8) I0 Ap0_2 a0.f2) (hlp1_2 : a1.f2.length ≤ cp1_2) (hrp1_2 : Rd (Ty.int .u8) I0 Ap1_2 a1.f2) (r : Bool) (h : armillaryref29_Same.f a0 a1 = some r) :
  Calls Try.prog 26 [.agg #[.int .i64 a0.f0, .string a0.f1, .slice Ap0_2 a0.f2.length cp0_2], .agg #[.int .i64 a1.f0, .string a1.f1, .slice Ap1_2 a1.f2.length cp1_2]].toArray w fun e w' => ∃ v, e = .returned v ∧ armillaryref29_Same.Post I0 w r v w' := by
 have H : ((armillaryref27_Same.f a0 a1).bind fun t1 => (some t1)) = some r := h
 clear h
 refine calls_body Try.func26 (by kernel_rfl) 8 (by kernel_rfl) (by kernel_rfl) ⟨w, fun _ => False, I0⟩ I0 [] [(0, .agg #[.int .i64 a0.f0, .string a0.f1, .slice Ap0_2 a0.f2.length cp0_2]), (1, .agg #[.int .i64 a1.f0, .string a1.f1, .slice Ap1_2 a1.f2.length cp1_2])] (by kernel_rfl) (Sat.start w _ I0 hI) ?_
 generalize w.heap.size = nx0
 show OK _ K26_0 _ _ _ _ _ _ _ _
 refine OK.seq K26_1 K26_3 (by kernel_rfl) ?_
 refine OK.region 0 O26_1 (by kernel_rfl) ?_
 refine RL.simP (K' := [(3, .pointer (some ⟨nx0 + 1, 0, none⟩)), (2, .pointer (some ⟨nx0, 0, none⟩))]) (nx' := nx0 + 2) (L' := [⟨nx0, [.int .i64 a0.f0, .string a0.f1, .slice Ap0_2 a0.f2.length cp0_2], 30⟩, ⟨nx0 + 1, [.int .i64 a1.f0, .string a1.f1, .slice Ap1_2 a1.f2.length cp1_2], 30⟩]) [] (RFacts.nil _ _ _) 3 [.no, .no, .no] (by kernel_rfl) (by kernel_rfl) ?_
 refine RL.nil (by kernel_rfl) ?_
 refine QN.then_ ?_
 refine OK.seq K26_4 K26_6 (by kernel_rfl) ?_
 refine OK.region 1 O26_4 (by kernel_rfl) ?_
 refine RL.simK (K' := [(6, .agg #[.int .i64 a1.f0, .string a1.f1, .slice Ap1_2 a1.f2.length cp1_2]), (5, .agg #[.int .i64 a0.f0, .string a0.f1, .slice Ap0_2 a0.f2.length cp0_2])]) [] (RFacts.nil _ _ _) 2 [.l 0, .l 1] (by kernel_rfl) (by kernel_rfl) ?_
 obtain ⟨t1, hA1, H⟩ := Option.bind_eq_some_iff.mp H
 refine RL.callP 38 [.agg #[.int .i64 a0.f0, .string a0.f1, .slice Ap0_2 a0.f2.length cp0_2], .agg #[.int .i64 a1.f0, .string a1.f1, .slice Ap1_2 a1.f2.length cp1_2]] (some 7) (fun w => armillaryref27_Same.Post I0 w t1) (by kernel_rfl) (by kernel_rfl) (fun w hs => armillaryref27_Same.calls I0 a0 Ap0_2 cp0_2 a1 Ap1_2 cp1_2 w hs.im hlp0_2 hrp0_2 hlp1_2 hrp1_2 t1 hA1) ?_
 rintro w v w' hs ⟨I1, rfl, hg⟩
 have hi1 := hg.le
 refine RL.resume (X' := []) rfl (hs.call hg) ?_
 clear hs hg
 generalize w'.heap.size = nx1
 clear w w'
 refine RL.simK (K' := [(4, .bool t1)]) [] (RFacts.nil _ _ _) 1 [.no] (by kernel_rfl) (by kernel_rfl) ?_
 refine RL.nil (by kernel_rfl) ?_
 refine QN.then_ ?_
 refine OK.ret (by kernel_rfl) ?_
 obtain rfl := Option.some.inj H
 refine QN.body rfl [] (RFacts.nil _ _ _) (.no) (.bool t1) (by kernel_rfl) (by kernel_rfl) (by kernel_rfl) ?_ _ (.inr rfl)
 exact fun w' hs' => ⟨_, rfl, I1, rfl, hs'.got _ .slnil⟩

end Go.Proofs.Ytieakigoinebdaa
