/- What a function of the program computes, and the walk that shows it; made by a program of the session's out of the translation; no conditions beyond those that the theorems name. -/
import Derived.Test.YtieakigoinebdaaS
namespace Go.Proofs.Ytieakigoinebdaa
open Go Go.Proofs.Ytieakigoinebdaa.RW
set_option linter.unusedVariables false
set_option maxRecDepth 100000
set_option maxHeartbeats 8000000

/-! ### armillaryref27_AppendVarint: function 48, armillary/armillaryref27.AppendVarint -/
noncomputable def K48_0 : Code := cBody Try.f48
noncomputable def K48_1 : Code := cL K48_0
noncomputable def O48_1 : List Oper := cOps K48_1
noncomputable def K48_3 : Code := cR K48_0
noncomputable def K48_4 : Code := cL K48_3
noncomputable def O48_4 : List Oper := cOps K48_4
noncomputable def K48_6 : Code := cR K48_3
noncomputable def K48_7 : Code := cL K48_6
noncomputable def K48_8 : Code := cL K48_7
noncomputable def O48_8 : List Oper := cOps K48_8
noncomputable def K48_10 : Code := cR K48_7
noncomputable def K48_11 : Code := cL K48_10
noncomputable def O48_11 : List Oper := cOps K48_11
noncomputable def K48_13 : Code := cR K48_10
noncomputable def K48_14 : Code := cR K48_6
noncomputable def K48_15 : Code := cL K48_14
noncomputable def O48_15 : List Oper := cOps K48_15
noncomputable def K48_17 : Code := cR K48_14
noncomputable def K48_18 : Code := cL K48_17
noncomputable def K48_19 : Code := cL K48_18
noncomputable def K48_20 : Code := cL K48_19
noncomputable def K48_21 : Code := cL K48_20
noncomputable def K48_22 : Code := cL K48_21
noncomputable def O48_22 : List Oper := cOps K48_22
noncomputable def K48_24 : Code := cR K48_21
noncomputable def K48_25 : Code := cL K48_24
noncomputable def K48_26 : Code := cR K48_24
noncomputable def K48_27 : Code := cR K48_20
noncomputable def K48_28 : Code := cL K48_27
noncomputable def K48_29 : Code := cL K48_28
noncomputable def O48_29 : List Oper := cOps K48_29
noncomputable def K48_31 : Code := cR K48_28
noncomputable def O48_31 : List Oper := cOps K48_31
noncomputable def K48_33 : Code := cR K48_17
noncomputable def K48_34 : Code := cL K48_33
noncomputable def O48_34 : List Oper := cOps K48_34
noncomputable def K48_36 : Code := cR K48_33
def armillaryref27_AppendVarint.k1  : Int × List Int → Option (List Int)
  | (x2, x3) => (if (x3.length + [W .u8 (x2)].length) * 1 ≤ 140737488355328 then (some (x3 ++ [W .u8 (x2)])) else none)
def armillaryref27_AppendVarint.l1 : Nat → Int → (List Int) → Option (Int × List Int)
  | 0, _, _ => none
  | k + 1, x4, x5 => (if x4 ≥ 128 then (if (x5.length + [bOr .u8 (W .u8 (x4)) 128].length) * 1 ≤ 140737488355328 then (armillaryref27_AppendVarint.l1 k (Int.fdiv x4 128) (x5 ++ [bOr .u8 (W .u8 (x4)) 128])) else none) else (some (x4, x5)))
def armillaryref27_AppendVarint.k2 (k : Nat) (a0 : List Int) (x1 : Int) : Option (List Int) := (if (([] : List Int).length + a0.length) * 1 ≤ 140737488355328 then ((armillaryref27_AppendVarint.l1 k x1 (([] : List Int) ++ a0)).bind (armillaryref27_AppendVarint.k1)) else none)
def armillaryref27_AppendVarint.f (k : Nat) (a0 : List Int) (a1 : Int) : Option (List Int) := ((if a1 < 0 then (some (bXor .u64 18446744073709551615 (W .u64 ((W .u64 (a1)) * 2)))) else (some (W .u64 ((W .u64 (a1)) * 2)))).bind (armillaryref27_AppendVarint.k2 k a0))
def armillaryref27_AppendVarint.Post (I : Imm) (w : World) (r : List Int) (v : Value) (w' : World) : Prop :=
  ∃ (J : Imm) (A0 : Option Addr) (c0 : Nat) (cs0 : List Value), v = .slice A0 r.length c0 ∧ Got w w' I J [orow 5 1 A0 r.length c0 cs0] ∧ Reps (Ty.int .u8) J r cs0
theorem armillaryref27_AppendVarint.calls (k : Nat) (I0 : Imm) (a0 : List Int) (Ap0 : Option Addr) (cp0 : Nat) (a1 : Int) (w : World) (hI : I0.at_ w) (hlp0 : a0.length ≤ cp0) (hrp0 : Rd (Ty.int .u8) I0 Ap0 a0) (r : List Int) (h : armillaryref27_AppendVarint.f k a0 a1 = some r) :
    Calls Try.prog 48 [.slice Ap0 a0.length cp0, .int .i64 a1].toArray w fun e w' => ∃ v, e = .returned v ∧ armillaryref27_AppendVarint.Post I0 w r v w' := by
  have H : ((if a1 < 0 then (some (bXor .u64 18446744073709551615 (W .u64 ((W .u64 (a1)) * 2)))) else (some (W .u64 ((W .u64 (a1)) * 2)))).bind (armillaryref27_AppendVarint.k2 k a0)) = some r := h
  clear h
  refine calls_body Try.func48 (by kernel_rfl) 32 (by kernel_rfl) (by kernel_rfl) ⟨w, fun _ => False, I0⟩ I0 [] [(0, .slice Ap0 a0.length cp0), (1, .int .i64 a1)] (by kernel_rfl) (Sat.start w _ I0 hI) ?_
  generalize w.heap.size = nx0
  show OK _ K48_0 _ _ _ _ _ _ _ _
  refine OK.seq K48_1 K48_3 (by kernel_rfl) ?_
  refine OK.region 0 O48_1 (by kernel_rfl) ?_
  refine RL.simP (K' := [(0, .slice Ap0 a0.length cp0), (1, .int .i64 a1)]) (nx' := nx0) (L' := []) [] (RFacts.nil _ _ _) 1 [.no] (by kernel_rfl) (by kernel_rfl) ?_
  refine RL.nil (by kernel_rfl) ?_
  refine QN.then_ ?_
  refine OK.seq K48_4 K48_6 (by kernel_rfl) ?_
  refine OK.region 1 O48_4 (by kernel_rfl) ?_
  refine RL.simP (K' := [(5, .int .u64 (W .u64 ((W .u64 (a1)) * 2))), (0, .slice Ap0 a0.length cp0), (1, .int .i64 a1)]) (nx' := nx0) (L' := []) [] (RFacts.nil _ _ _) 4 [.no, .no, .no, .no] (by kernel_rfl) (by kernel_rfl) ?_
  refine RL.nil (by kernel_rfl) ?_
  refine QN.then_ ?_
  refine OK.seq K48_7 K48_14 (by kernel_rfl) ?_
  refine OK.seq K48_8 K48_10 (by kernel_rfl) ?_
  refine OK.region 2 O48_8 (by kernel_rfl) ?_
  refine RL.simP (K' := [(11, .bool (decide (a1 < 0))), (5, .int .u64 (W .u64 ((W .u64 (a1)) * 2))), (0, .slice Ap0 a0.length cp0)]) (nx' := nx0) (L' := []) [] (RFacts.nil _ _ _) 2 [.no, .no] (by kernel_rfl) (by kernel_rfl) ?_
  refine RL.nil (by kernel_rfl) ?_
  refine QN.then_ ?_
  refine OK.join (fun K' I' _ L' X' => ∃ (x1 : Int), K' = [(0, .slice Ap0 a0.length cp0), (5, .int .u64 x1)] ∧ L' = [] ∧ X' = [] ∧ Imm.le I0 I' ∧ armillaryref27_AppendVarint.k2 k a0 x1 = some r) ?_ ?_
  · rintro _ I1 nx1 _ _ ⟨x1, rfl, rfl, rfl, hi1, H⟩
    replace H : (if (([] : List Int).length + a0.length) * 1 ≤ 140737488355328 then ((armillaryref27_AppendVarint.l1 k x1 (([] : List Int) ++ a0)).bind (armillaryref27_AppendVarint.k1)) else none) = some r := H
    refine QN.then_ ?_
    refine OK.seq K48_15 K48_17 (by kernel_rfl) ?_
    refine OK.region 4 O48_15 (by kernel_rfl) ?_
    refine RL.simP (K' := [(15, .slice Ap0 a0.length cp0), (14, .slice (some ⟨nx1, 0, none⟩) 0 0), (5, .int .u64 x1)]) (nx' := nx1 + 1) (L' := [⟨nx1, [], 5⟩]) [] (RFacts.nil _ _ _) 2 [.no, .no] (by kernel_rfl) (by kernel_rfl) ?_
    refine RL.toRow (b := ⟨nx1, [], 5⟩) 0 0 1 (by kernel_rfl) (by kernel_rfl) (by decide) ?_
    have hp1 : Reps (Ty.int .u8) I1 ([] : List Int) [] := rfl
    refine RL.norm (L' := []) (X' := [orow 5 1 (some ⟨nx1, 0, none⟩) (([] : List Int).length) 0 []]) rfl rfl (by kernel_rfl) (by kernel_rfl) ?_
    by_cases hz1 : (([] : List Int).length + a0.length) * 1 ≤ 140737488355328
    case neg => rw [if_neg hz1] at H; cases H
    rw [if_pos hz1] at H
    refine RL.appendR (T := 28) (e := 5) (S := (some ⟨nx1, 0, none⟩)) (S2 := Ap0) 1 1 28 0 cp0 [] (Ty.int .u8) ([] : List Int) a0 0 (some 16) (by kernel_rfl) (by kernel_rfl) (by kernel_rfl) (by kernel_rfl) (by kernel_rfl) (by decide) (by kernel_rfl) hp1 (Rd.ext hi1 hrp0) hz1 (by omega) (fun A1 c1 nx2 cs1 hp2 => ?_)
    refine RL.sub (K' := [(16, .slice A1 ((([] : List Int) ++ a0).length) c1), (15, .slice Ap0 a0.length cp0), (14, .slice (some ⟨nx1, 0, none⟩) 0 0), (5, .int .u64 x1)]) (L' := []) (X' := [orow 5 1 A1 ((([] : List Int) ++ a0).length) c1 cs1]) (by kernel_rfl) (.refl _) (.refl _) ?_
    refine RL.simP (K' := [(6, .slice A1 ((([] : List Int) ++ a0).length) c1), (5, .int .u64 x1)]) (nx' := nx2) (L' := []) [] (RFacts.nil _ _ _) 1 [.no] (by kernel_rfl) (by kernel_rfl) ?_
    refine RL.nil (by kernel_rfl) ?_
    refine QN.then_ ?_
    refine OK.seq K48_18 K48_33 (by kernel_rfl) ?_
    refine OK.join (fun K' I' _ L' X' => ∃ (x2 : Int) (x3 : List Int) (A2 : Option Addr) (c2 : Nat) (cs2 : List Value), K' = [(5, .int .u64 x2), (6, .slice A2 x3.length c2)] ∧ L' = [] ∧ X' = [orow 5 1 A2 x3.length c2 cs2] ∧ Imm.le I1 I' ∧ Reps (Ty.int .u8) I' x3 cs2 ∧ armillaryref27_AppendVarint.k1 (x2, x3) = some r) ?_ ?_
    · rintro _ I2 nx3 _ _ ⟨x2, x3, A2, c2, cs2, rfl, rfl, rfl, hi2, hp3, H⟩
      replace H : (if (x3.length + [W .u8 (x2)].length) * 1 ≤ 140737488355328 then (some (x3 ++ [W .u8 (x2)])) else none) = some r := H
      refine QN.then_ ?_
      refine OK.seq K48_34 K48_36 (by kernel_rfl) ?_
      refine OK.region 8 O48_34 (by kernel_rfl) ?_
      refine RL.simP (K' := [(30, .slice (some ⟨nx3, 0, none⟩) 1 1), (27, .slice A2 x3.length c2)]) (nx' := nx3 + 1) (L' := [⟨nx3, [.int .u8 (W .u8 (x2))], 5⟩]) [] (RFacts.nil _ _ _) 4 [.no, .no, .no, .no] (by kernel_rfl) (by kernel_rfl) ?_
      by_cases hz2 : (x3.length + [W .u8 (x2)].length) * 1 ≤ 140737488355328
      case neg => rw [if_neg hz2] at H; cases H
      rw [if_pos hz2] at H
      refine RL.appendB (T := 28) (e := 5) (S := A2) 1 1 28 c2 0 1 nx3 5 cs2 [.int .u8 (W .u8 (x2))] (Ty.int .u8) x3 [W .u8 (x2)] 0 (some 31) (by kernel_rfl) (by kernel_rfl) (by kernel_rfl) (by kernel_rfl) (by kernel_rfl) (by decide) (by kernel_rfl) hp3 (by kernel_rfl) ⟨_, _, rfl, rfl, rfl⟩ hz2 (by omega) (fun A3 c3 nx4 cs3 hp4 => ?_)
      refine RL.sub (K' := [(31, .slice A3 ((x3 ++ [W .u8 (x2)]).length) c3), (30, .slice (some ⟨nx3, 0, none⟩) 1 1)]) (L' := [⟨nx3, [.int .u8 (W .u8 (x2))], 5⟩]) (X' := [orow 5 1 A3 ((x3 ++ [W .u8 (x2)]).length) c3 cs3]) (by kernel_rfl) (.refl _) (.refl _) ?_
      refine RL.simP (K' := [(4, .slice A3 ((x3 ++ [W .u8 (x2)]).length) c3)]) (nx' := nx4) (L' := [⟨nx3, [.int .u8 (W .u8 (x2))], 5⟩]) [] (RFacts.nil _ _ _) 1 [.no] (by kernel_rfl) (by kernel_rfl) ?_
      refine RL.nil (by kernel_rfl) ?_
      refine QN.then_ ?_
      refine OK.ret (by kernel_rfl) ?_
      obtain rfl := Option.some.inj H
      refine QN.body rfl [] (RFacts.nil _ _ _) (.no) (.slice A3 ((x3 ++ [W .u8 (x2)]).length) c3) (by kernel_rfl) (by kernel_rfl) (by kernel_rfl) ?_ _ (.inr rfl)
      exact fun w' hs' => ⟨_, rfl, I2, A3, c3, cs3, rfl, hs'.got _ (.cons_cons _ .slnil), hp4⟩
    · intro Q_1 hJ2 hQ2
      obtain ⟨y2, H, HK2⟩ := Option.bind_eq_some_iff.mp H
      refine OK.block 0 K48_19 (by kernel_rfl) ?_
      refine OK.sub (K' := [(5, .int .u64 x1), (6, .slice A1 ((([] : List Int) ++ a0).length) c1)]) (L' := []) (by kernel_rfl) .slnil (.refl _) ?_
      refine OK.loopInv K48_20 (by kernel_rfl) (fun n_ K' I' _ L' X' => ∃ (x4 : Int) (x5 : List Int) (A4 : Option Addr) (c4 : Nat) (cs4 : List Value), K' = [(5, .int .u64 x4), (6, .slice A4 x5.length c4)] ∧ L' = [] ∧ X' = [orow 5 1 A4 x5.length c4 cs4] ∧ Imm.le I1 I' ∧ Reps (Ty.int .u8) I' x5 cs4 ∧ armillaryref27_AppendVarint.l1 n_ x4 x5 = some y2) k ⟨x1, (([] : List Int) ++ a0), A1, c1, cs1, rfl, rfl, rfl, (Imm.le_refl _), hp2, H⟩ ?_ ?_
      · rintro _ _ _ _ _ ⟨x4, x5, A4, c4, cs4, rfl, rfl, rfl, _, hp5, H⟩
        cases H
      · rintro kq1 _ I3 nx5 _ _ ⟨x4, x5, A4, c4, cs4, rfl, rfl, rfl, hi3, hp5, H⟩ Q_l1 hJ3 hQ3
        replace H : (if x4 ≥ 128 then (if (x5.length + [bOr .u8 (W .u8 (x4)) 128].length) * 1 ≤ 140737488355328 then (armillaryref27_AppendVarint.l1 kq1 (Int.fdiv x4 128) (x5 ++ [bOr .u8 (W .u8 (x4)) 128])) else none) else (some (x4, x5))) = some y2 := H
        refine OK.seq K48_21 K48_27 (by kernel_rfl) ?_
        refine OK.seq K48_22 K48_24 (by kernel_rfl) ?_
        refine OK.region 5 O48_22 (by kernel_rfl) ?_
        refine RL.simP (K' := [(18, .bool (decide (x4 ≥ 128))), (5, .int .u64 x4), (6, .slice A4 x5.length c4)]) (nx' := nx5) (L' := []) [] (RFacts.nil _ _ _) 2 [.no, .no] (by kernel_rfl) (by kernel_rfl) ?_
        refine RL.nil (by kernel_rfl) ?_
        refine QN.then_ ?_
        refine OK.cond (.tmp 18) K48_25 K48_26 (decide (x4 ≥ 128)) (by kernel_rfl) (by kernel_rfl) (by kernel_rfl) (fun hb => ?_) (fun hb => ?_)
        · skip
          have hc := (of_decide_eq_true hb)
          rw [if_pos hc] at H
          clear hb
          refine OK.skip (by kernel_rfl) ?_
          refine QN.then_ ?_
          refine OK.block 1 K48_28 (by kernel_rfl) ?_
          refine OK.seq K48_29 K48_31 (by kernel_rfl) ?_
          refine OK.region 6 O48_29 (by kernel_rfl) ?_
          refine RL.simP (K' := [(23, .slice (some ⟨nx5, 0, none⟩) 1 1), (19, .slice A4 x5.length c4), (5, .int .u64 x4), (6, .slice A4 x5.length c4)]) (nx' := nx5 + 1) (L' := [⟨nx5, [.int .u8 (bOr .u8 (W .u8 (x4)) 128)], 5⟩]) [] (RFacts.nil _ _ _) 5 [.no, .no, .no, .no, .no] (by kernel_rfl) (by kernel_rfl) ?_
          by_cases hz3 : (x5.length + [bOr .u8 (W .u8 (x4)) 128].length) * 1 ≤ 140737488355328
          case neg => rw [if_neg hz3] at H; cases H
          rw [if_pos hz3] at H
          refine RL.appendB (T := 28) (e := 5) (S := A4) 1 1 28 c4 0 1 nx5 5 cs4 [.int .u8 (bOr .u8 (W .u8 (x4)) 128)] (Ty.int .u8) x5 [bOr .u8 (W .u8 (x4)) 128] 0 (some 24) (by kernel_rfl) (by kernel_rfl) (by kernel_rfl) (by kernel_rfl) (by kernel_rfl) (by decide) (by kernel_rfl) hp5 (by kernel_rfl) ⟨_, _, rfl, rfl, rfl⟩ hz3 (by omega) (fun A5 c5 nx6 cs5 hp6 => ?_)
          refine RL.sub (K' := [(24, .slice A5 ((x5 ++ [bOr .u8 (W .u8 (x4)) 128]).length) c5), (23, .slice (some ⟨nx5, 0, none⟩) 1 1), (5, .int .u64 x4)]) (L' := [⟨nx5, [.int .u8 (bOr .u8 (W .u8 (x4)) 128)], 5⟩]) (X' := [orow 5 1 A5 ((x5 ++ [bOr .u8 (W .u8 (x4)) 128]).length) c5 cs5]) (by kernel_rfl) (.refl _) (.refl _) ?_
          refine RL.simP (K' := [(6, .slice A5 ((x5 ++ [bOr .u8 (W .u8 (x4)) 128]).length) c5), (5, .int .u64 x4)]) (nx' := nx6) (L' := [⟨nx5, [.int .u8 (bOr .u8 (W .u8 (x4)) 128)], 5⟩]) [] (RFacts.nil _ _ _) 1 [.no] (by kernel_rfl) (by kernel_rfl) ?_
          refine RL.nil (by kernel_rfl) ?_
          refine QN.then_ ?_
          refine OK.region 7 O48_31 (by kernel_rfl) ?_
          refine RL.simP (K' := [(5, .int .u64 (Int.fdiv x4 128)), (6, .slice A5 ((x5 ++ [bOr .u8 (W .u8 (x4)) 128]).length) c5)]) (nx' := nx6) (L' := [⟨nx5, [.int .u8 (bOr .u8 (W .u8 (x4)) 128)], 5⟩]) [] (RFacts.nil _ _ _) 3 [.no, .no, .no] (by kernel_rfl) (by kernel_rfl) ?_
          refine RL.nil (by kernel_rfl) ?_
          refine QN.blkN ?_
          refine QN.sub (K' := [(5, .int .u64 (Int.fdiv x4 128)), (6, .slice A5 ((x5 ++ [bOr .u8 (W .u8 (x4)) 128]).length) c5)]) (L' := []) (by kernel_rfl) (.cons _ .slnil) (.refl _) ?_
          exact hJ3 _ _ _ _ _ ⟨Int.fdiv x4 128, (x5 ++ [bOr .u8 (W .u8 (x4)) 128]), A5, c5, cs5, rfl, rfl, rfl, hi3, hp6, H⟩
        · skip
          have hc := (of_decide_eq_false hb)
          rw [if_neg hc] at H
          clear hb
          refine OK.exit 0 (by kernel_rfl) ?_
          refine QN.thenE ?_
          refine QN.outE hQ3 ?_
          refine QN.blkE ?_
          obtain rfl := Option.some.inj H
          refine QN.sub (K' := [(5, .int .u64 x4), (6, .slice A4 x5.length c4)]) (L' := []) (by kernel_rfl) .slnil (.refl _) ?_
          exact hJ2 _ _ _ _ _ ⟨x4, x5, A4, c4, cs4, rfl, rfl, rfl, hi3, hp5, HK2⟩
  · intro Q_2 hJ1 hQ1
    obtain ⟨y1, H, HK1⟩ := Option.bind_eq_some_iff.mp H
    refine OK.cond (.tmp 11) K48_11 K48_13 (decide (a1 < 0)) (by kernel_rfl) (by kernel_rfl) (by kernel_rfl) (fun hb => ?_) (fun hb => ?_)
    · skip
      have hc := (of_decide_eq_true hb)
      rw [if_pos hc] at H
      clear hb
      refine OK.region 3 O48_11 (by kernel_rfl) ?_
      refine RL.simP (K' := [(5, .int .u64 (bXor .u64 18446744073709551615 (W .u64 ((W .u64 (a1)) * 2)))), (0, .slice Ap0 a0.length cp0)]) (nx' := nx0) (L' := []) [] (RFacts.nil _ _ _) 3 [.no, .no, .no] (by kernel_rfl) (by kernel_rfl) ?_
      refine RL.nil (by kernel_rfl) ?_
      obtain rfl := Option.some.inj H
      refine QN.sub (K' := [(0, .slice Ap0 a0.length cp0), (5, .int .u64 (bXor .u64 18446744073709551615 (W .u64 ((W .u64 (a1)) * 2))))]) (L' := []) (by kernel_rfl) .slnil (.refl _) ?_
      exact hJ1 _ _ _ _ _ ⟨bXor .u64 18446744073709551615 (W .u64 ((W .u64 (a1)) * 2)), rfl, rfl, rfl, (Imm.le_refl _), HK1⟩
    · skip
      have hc := (of_decide_eq_false hb)
      rw [if_neg hc] at H
      clear hb
      refine OK.skip (by kernel_rfl) ?_
      obtain rfl := Option.some.inj H
      refine QN.sub (K' := [(0, .slice Ap0 a0.length cp0), (5, .int .u64 (W .u64 ((W .u64 (a1)) * 2)))]) (L' := []) (by kernel_rfl) .slnil (.refl _) ?_
      exact hJ1 _ _ _ _ _ ⟨W .u64 ((W .u64 (a1)) * 2), rfl, rfl, rfl, (Imm.le_refl _), HK1⟩

end Go.Proofs.Ytieakigoinebdaa
