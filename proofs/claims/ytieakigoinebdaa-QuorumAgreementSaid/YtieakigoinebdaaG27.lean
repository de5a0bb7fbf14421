/- What a function of the program computes, and the walk that shows it; made by a program of the session's out of the translation; no conditions beyond those that the theorems name. -/
import Derived.Test.YtieakigoinebdaaS
namespace Go.Proofs.Ytieakigoinebdaa
open Go Go.Proofs.Ytieakigoinebdaa.RW
set_option linter.unusedVariables false
set_option maxRecDepth 100000
set_option maxHeartbeats 8000000

/-! ### armillarylaw29_observed: function 27, armillary/armillarylaw29.observed -/
noncomputable def K27_0 : Code := cBody Try.f27
noncomputable def K27_1 : Code := cL K27_0
noncomputable def O27_1 : List Oper := cOps K27_1
noncomputable def K27_3 : Code := cR K27_0
noncomputable def K27_4 : Code := cL K27_3
noncomputable def O27_4 : List Oper := cOps K27_4
noncomputable def K27_6 : Code := cR K27_3
noncomputable def K27_7 : Code := cL K27_6
noncomputable def K27_8 : Code := cL K27_7
noncomputable def O27_8 : List Oper := cOps K27_8
noncomputable def K27_10 : Code := cR K27_7
noncomputable def K27_11 : Code := cL K27_10
noncomputable def K27_12 : Code := cL K27_11
noncomputable def K27_13 : Code := cL K27_12
noncomputable def K27_14 : Code := cL K27_13
noncomputable def O27_14 : List Oper := cOps K27_14
noncomputable def K27_16 : Code := cR K27_13
noncomputable def K27_17 : Code := cL K27_16
noncomputable def K27_18 : Code := cR K27_16
noncomputable def K27_19 : Code := cR K27_12
noncomputable def K27_20 : Code := cL K27_19
noncomputable def K27_21 : Code := cL K27_20
noncomputable def K27_22 : Code := cL K27_21
noncomputable def K27_23 : Code := cL K27_22
noncomputable def O27_23 : List Oper := cOps K27_23
noncomputable def K27_25 : Code := cR K27_22
noncomputable def K27_26 : Code := cL K27_25
noncomputable def K27_27 : Code := cR K27_25
noncomputable def K27_28 : Code := cR K27_21
noncomputable def K27_29 : Code := cL K27_28
noncomputable def K27_30 : Code := cL K27_29
noncomputable def O27_30 : List Oper := cOps K27_30
noncomputable def K27_32 : Code := cR K27_29
noncomputable def K27_33 : Code := cL K27_32
noncomputable def O27_33 : List Oper := cOps K27_33
noncomputable def K27_35 : Code := cR K27_32
noncomputable def O27_35 : List Oper := cOps K27_35
noncomputable def K27_37 : Code := cR K27_28
noncomputable def K27_38 : Code := cL K27_37
noncomputable def O27_38 : List Oper := cOps K27_38
noncomputable def K27_40 : Code := cR K27_37
noncomputable def K27_41 : Code := cL K27_40
noncomputable def K27_42 : Code := cL K27_41
noncomputable def O27_42 : List Oper := cOps K27_42
noncomputable def K27_44 : Code := cR K27_41
noncomputable def K27_45 : Code := cL K27_44
noncomputable def O27_45 : List Oper := cOps K27_45
noncomputable def K27_47 : Code := cR K27_44
noncomputable def O27_47 : List Oper := cOps K27_47
noncomputable def K27_49 : Code := cR K27_40
noncomputable def K27_50 : Code := cR K27_19
noncomputable def O27_50 : List Oper := cOps K27_50
noncomputable def K27_52 : Code := cR K27_6
noncomputable def K27_53 : Code := cL K27_52
noncomputable def O27_53 : List Oper := cOps K27_53
noncomputable def K27_55 : Code := cR K27_52
def armillarylaw29_observed.k1  (x1 : List S32) : Option (List S32) := (some x1)
def armillarylaw29_observed.k3  (x7 : List S32) : Option (List S32) := (some x7)
def armillarylaw29_observed.k4 (a0 : List S32) (a2 : Int) (x3 : Int) (x5 : List S32) (x6 : Bool) : Option (List S32) := ((if x6 = true then (if 0 ≤ x3 then (if x3 < (a0.length : Int) then (if ([(⟨(a0.getD (x3).toNat z32).f0, (a0.getD (x3).toNat z32).f1, (a0.getD (x3).toNat z32).f2, (a0.getD (x3).toNat z32).f3, bXor .u32 ((a0.getD (x3).toNat z32).f4) (W .u32 (a2.tmod 3)), (a0.getD (x3).toNat z32).f5⟩ : S32)].length + x5.length) * 88 ≤ 140737488355328 then (some ([(⟨(a0.getD (x3).toNat z32).f0, (a0.getD (x3).toNat z32).f1, (a0.getD (x3).toNat z32).f2, (a0.getD (x3).toNat z32).f3, bXor .u32 ((a0.getD (x3).toNat z32).f4) (W .u32 (a2.tmod 3)), (a0.getD (x3).toNat z32).f5⟩ : S32)] ++ x5)) else none) else none) else none) else (some x5)).bind (armillarylaw29_observed.k3))
def armillarylaw29_observed.k5 (a0 : List S32) (a1 : List Bool) (a2 : Int) (x3 : Int) (x5 : List S32) : Option (List S32) := ((if 0 ≤ x3 then (if x3 < (a0.length : Int) then (if 0 ≤ ((a0.getD (x3).toNat z32).f1) then (if ((a0.getD (x3).toNat z32).f1) < (a1.length : Int) then (if (a1.getD ((a0.getD (x3).toNat z32).f1).toNat false) = true then (if 0 ≤ ((W .i64 (x3 * 5)).tmod 64) then (some ((bAnd .u64 (Int.fdiv a2 (2 ^ (min ((W .i64 (x3 * 5)).tmod 64).toNat 64))) 1) == 0)) else none) else (some false)) else none) else none) else none) else none).bind (armillarylaw29_observed.k4 a0 a2 x3 x5))
def armillarylaw29_observed.l1 (a0 : List S32) (a1 : List Bool) (a2 : Int) : Nat → (List S32) → Int → Option (List S32)
  | 0, _, _ => none
  | k + 1, x2, x3 => (if x3 < (a0.length : Int) then ((if 0 ≤ (x3.tmod 64) then (if (bAnd .u64 (Int.fdiv a2 (2 ^ (min (x3.tmod 64).toNat 64))) 1) = 0 then (some x2) else (if 0 ≤ ((W .i64 (x3 * 7)).tmod 64) then ((if (bAnd .u64 (Int.fdiv a2 (2 ^ (min ((W .i64 (x3 * 7)).tmod 64).toNat 64))) 1) = 0 then (if 0 ≤ x3 then (if x3 < (a0.length : Int) then (if ([(a0.getD (x3).toNat z32)].length + x2.length) * 88 ≤ 140737488355328 then (some ([(a0.getD (x3).toNat z32)] ++ x2)) else none) else none) else none) else (if 0 ≤ x3 then (if x3 < (a0.length : Int) then (if (x2.length + [(a0.getD (x3).toNat z32)].length) * 88 ≤ 140737488355328 then (some (x2 ++ [(a0.getD (x3).toNat z32)])) else none) else none) else none)).bind (armillarylaw29_observed.k5 a0 a1 a2 x3)) else none)) else none).bind (fun x4 => (armillarylaw29_observed.l1 a0 a1 a2 k x4 (W .i64 (x3 + 1))))) else (some x2))
def armillarylaw29_observed.f (k : Nat) (a0 : List S32) (a1 : List Bool) (a2 : Int) : Option (List S32) := ((armillarylaw29_observed.l1 a0 a1 a2 k ([] : List S32) 0).bind (armillarylaw29_observed.k1))
def armillarylaw29_observed.Post (I : Imm) (w : World) (r : List S32) (v : Value) (w' : World) : Prop :=
  ∃ (J : Imm) (A0 : Option Addr) (c0 : Nat) (cs0 : List Value), v = .slice A0 r.length c0 ∧ Got w w' I J [orow 32 8 A0 r.length c0 cs0] ∧ Reps t32 J r cs0
theorem armillarylaw29_observed.calls (k : Nat) (I0 : Imm) (a0 : List S32) (Ap0 : Option Addr) (cp0 : Nat) (a1 : List Bool) (Ap1 : Option Addr) (cp1 : Nat) (a2 : Int) (w : World) (hI : I0.at_ w) (hlp0 : a0.length ≤ cp0) (hrp0 : Rd t32 I0 Ap0 a0) (hlp1 : a1.length ≤ cp1) (hrp1 : Rd Ty.bool I0 Ap1 a1) (r : List S32) (h : armillarylaw29_observed.f k a0 a1 a2 = some r) :
    Calls Try.prog 27 [.slice Ap0 a0.length cp0, .slice Ap1 a1.length cp1, .int .u64 a2].toArray w fun e w' => ∃ v, e = .returned v ∧ armillarylaw29_observed.Post I0 w r v w' := by
  have H : ((armillarylaw29_observed.l1 a0 a1 a2 k ([] : List S32) 0).bind (armillarylaw29_observed.k1)) = some r := h
  clear h
  refine calls_body Try.func27 (by kernel_rfl) 77 (by kernel_rfl) (by kernel_rfl) ⟨w, fun _ => False, I0⟩ I0 [] [(0, .slice Ap0 a0.length cp0), (1, .slice Ap1 a1.length cp1), (2, .int .u64 a2)] (by kernel_rfl) (Sat.start w _ I0 hI) ?_
  generalize w.heap.size = nx0
  show OK _ K27_0 _ _ _ _ _ _ _ _
  refine OK.seq K27_1 K27_3 (by kernel_rfl) ?_
  refine OK.region 0 O27_1 (by kernel_rfl) ?_
  refine RL.simP (K' := [(0, .slice Ap0 a0.length cp0), (1, .slice Ap1 a1.length cp1), (2, .int .u64 a2)]) (nx' := nx0) (L' := []) [] (RFacts.nil _ _ _) 1 [.no] (by kernel_rfl) (by kernel_rfl) ?_
  refine RL.nil (by kernel_rfl) ?_
  refine QN.then_ ?_
  refine OK.seq K27_4 K27_6 (by kernel_rfl) ?_
  refine OK.region 1 O27_4 (by kernel_rfl) ?_
  refine RL.simP (K' := [(7, .slice (some ⟨nx0, 0, none⟩) 0 0), (0, .slice Ap0 a0.length cp0), (1, .slice Ap1 a1.length cp1), (2, .int .u64 a2)]) (nx' := nx0 + 1) (L' := [⟨nx0, [], 32⟩]) [] (RFacts.nil _ _ _) 2 [.no, .no] (by kernel_rfl) (by kernel_rfl) ?_
  refine RL.nil (by kernel_rfl) ?_
  refine QN.then_ ?_
  refine OK.seq K27_7 K27_52 (by kernel_rfl) ?_
  refine OK.seq K27_8 K27_10 (by kernel_rfl) ?_
  refine OK.region 2 O27_8 (by kernel_rfl) ?_
  refine RL.simP (K' := [(8, .int .i64 0), (7, .slice (some ⟨nx0, 0, none⟩) 0 0), (0, .slice Ap0 a0.length cp0), (1, .slice Ap1 a1.length cp1), (2, .int .u64 a2)]) (nx' := nx0 + 1) (L' := [⟨nx0, [], 32⟩]) [] (RFacts.nil _ _ _) 1 [.no] (by kernel_rfl) (by kernel_rfl) ?_
  refine RL.nil (by kernel_rfl) ?_
  refine QN.then_ ?_
  refine OK.join (fun K' I' _ L' X' => ∃ (x1 : List S32) (A1 : Option Addr) (c1 : Nat) (cs1 : List Value), K' = [(7, .slice A1 x1.length c1)] ∧ L' = [] ∧ X' = [orow 32 8 A1 x1.length c1 cs1] ∧ Imm.le I0 I' ∧ Reps t32 I' x1 cs1 ∧ armillarylaw29_observed.k1 x1 = some r) ?_ ?_
  · rintro _ I1 nx1 _ _ ⟨x1, A1, c1, cs1, rfl, rfl, rfl, hi1, hp1, H⟩
    replace H : (some x1) = some r := H
    refine QN.then_ ?_
    refine OK.seq K27_53 K27_55 (by kernel_rfl) ?_
    refine OK.region 13 O27_53 (by kernel_rfl) ?_
    refine RL.simP (K' := [(6, .slice A1 x1.length c1)]) (nx' := nx1) (L' := []) [] (RFacts.nil _ _ _) 2 [.no, .no] (by kernel_rfl) (by kernel_rfl) ?_
    refine RL.nil (by kernel_rfl) ?_
    refine QN.then_ ?_
    refine OK.ret (by kernel_rfl) ?_
    obtain rfl := Option.some.inj H
    refine QN.body rfl [] (RFacts.nil _ _ _) (.no) (.slice A1 x1.length c1) (by kernel_rfl) (by kernel_rfl) (by kernel_rfl) ?_ _ (.inr rfl)
    exact fun w' hs' => ⟨_, rfl, I1, A1, c1, cs1, rfl, hs'.got _ (.cons_cons _ .slnil), hp1⟩
  · intro Q_1 hJ1 hQ1
    obtain ⟨y1, H, HK1⟩ := Option.bind_eq_some_iff.mp H
    refine OK.block 0 K27_11 (by kernel_rfl) ?_
    refine OK.toRow (b := ⟨nx0, [], 32⟩) 0 0 8 (by kernel_rfl) (by kernel_rfl) (by decide) ?_
    have hp11 : Reps t32 I0 ([] : List S32) [] := rfl
    refine OK.norm (L' := []) (X' := [orow 32 8 (some ⟨nx0, 0, none⟩) (([] : List S32).length) 0 []]) rfl rfl (by kernel_rfl) (by kernel_rfl) ?_
    refine OK.sub (K' := [(0, .slice Ap0 a0.length cp0), (1, .slice Ap1 a1.length cp1), (2, .int .u64 a2), (7, .slice (some ⟨nx0, 0, none⟩) 0 0), (8, .int .i64 0)]) (L' := []) (by kernel_rfl) .slnil (.refl _) ?_
    refine OK.loopInv K27_12 (by kernel_rfl) (fun n_ K' I' _ L' X' => ∃ (x2 : List S32) (x3 : Int) (A2 : Option Addr) (c2 : Nat) (cs2 : List Value), K' = [(0, .slice Ap0 a0.length cp0), (1, .slice Ap1 a1.length cp1), (2, .int .u64 a2), (7, .slice A2 x2.length c2), (8, .int .i64 x3)] ∧ L' = [] ∧ X' = [orow 32 8 A2 x2.length c2 cs2] ∧ Imm.le I0 I' ∧ Reps t32 I' x2 cs2 ∧ armillarylaw29_observed.l1 a0 a1 a2 n_ x2 x3 = some y1) k ⟨([] : List S32), 0, (some ⟨nx0, 0, none⟩), 0, [], rfl, rfl, rfl, (Imm.le_refl _), hp11, H⟩ ?_ ?_
    · rintro _ _ _ _ _ ⟨x2, x3, A2, c2, cs2, rfl, rfl, rfl, _, hp2, H⟩
      cases H
    · rintro kq1 _ I2 nx2 _ _ ⟨x2, x3, A2, c2, cs2, rfl, rfl, rfl, hi2, hp2, H⟩ Q_l1 hJ2 hQ2
      replace H : (if x3 < (a0.length : Int) then ((if 0 ≤ (x3.tmod 64) then (if (bAnd .u64 (Int.fdiv a2 (2 ^ (min (x3.tmod 64).toNat 64))) 1) = 0 then (some x2) else (if 0 ≤ ((W .i64 (x3 * 7)).tmod 64) then ((if (bAnd .u64 (Int.fdiv a2 (2 ^ (min ((W .i64 (x3 * 7)).tmod 64).toNat 64))) 1) = 0 then (if 0 ≤ x3 then (if x3 < (a0.length : Int) then (if ([(a0.getD (x3).toNat z32)].length + x2.length) * 88 ≤ 140737488355328 then (some ([(a0.getD (x3).toNat z32)] ++ x2)) else none) else none) else none) else (if 0 ≤ x3 then (if x3 < (a0.length : Int) then (if (x2.length + [(a0.getD (x3).toNat z32)].length) * 88 ≤ 140737488355328 then (some (x2 ++ [(a0.getD (x3).toNat z32)])) else none) else none) else none)).bind (armillarylaw29_observed.k5 a0 a1 a2 x3)) else none)) else none).bind (fun x4 => (armillarylaw29_observed.l1 a0 a1 a2 kq1 x4 (W .i64 (x3 + 1))))) else (some x2)) = some y1 := H
      refine OK.seq K27_13 K27_19 (by kernel_rfl) ?_
      refine OK.seq K27_14 K27_16 (by kernel_rfl) ?_
      refine OK.region 3 O27_14 (by kernel_rfl) ?_
      refine RL.simP (K' := [(14, .bool (decide (x3 < (a0.length : Int)))), (0, .slice Ap0 a0.length cp0), (1, .slice Ap1 a1.length cp1), (2, .int .u64 a2), (7, .slice A2 x2.length c2), (8, .int .i64 x3)]) (nx' := nx2) (L' := []) [] (RFacts.nil _ _ _) 4 [.no, .no, .no, .no] (by kernel_rfl) (by kernel_rfl) ?_
      refine RL.nil (by kernel_rfl) ?_
      refine QN.then_ ?_
      refine OK.cond (.tmp 14) K27_17 K27_18 (decide (x3 < (a0.length : Int))) (by kernel_rfl) (by kernel_rfl) (by kernel_rfl) (fun hb => ?_) (fun hb => ?_)
      · skip
        have hc := (of_decide_eq_true hb)
        rw [if_pos hc] at H
        clear hb
        refine OK.skip (by kernel_rfl) ?_
        refine QN.then_ ?_
        refine OK.seq K27_20 K27_50 (by kernel_rfl) ?_
        refine OK.join (fun K' I' _ L' X' => ∃ (x4 : List S32) (A3 : Option Addr) (c3 : Nat) (cs3 : List Value), K' = [(0, .slice Ap0 a0.length cp0), (1, .slice Ap1 a1.length cp1), (2, .int .u64 a2), (7, .slice A3 x4.length c3), (8, .int .i64 x3)] ∧ L' = [] ∧ X' = [orow 32 8 A3 x4.length c3 cs3] ∧ Imm.le I2 I' ∧ Reps t32 I' x4 cs3 ∧ (armillarylaw29_observed.l1 a0 a1 a2 kq1 x4 (W .i64 (x3 + 1))) = some y1) ?_ ?_
        · rintro _ I3 nx3 _ _ ⟨x4, A3, c3, cs3, rfl, rfl, rfl, hi3, hp3, H⟩
          replace H : (armillarylaw29_observed.l1 a0 a1 a2 kq1 x4 (W .i64 (x3 + 1))) = some y1 := H
          refine QN.then_ ?_
          refine OK.region 4 O27_50 (by kernel_rfl) ?_
          refine RL.simP (K' := [(8, .int .i64 (W .i64 (x3 + 1))), (0, .slice Ap0 a0.length cp0), (1, .slice Ap1 a1.length cp1), (2, .int .u64 a2), (7, .slice A3 x4.length c3)]) (nx' := nx3) (L' := []) [] (RFacts.nil _ _ _) 3 [.no, .no, .no] (by kernel_rfl) (by kernel_rfl) ?_
          refine RL.nil (by kernel_rfl) ?_
          refine QN.sub (K' := [(0, .slice Ap0 a0.length cp0), (1, .slice Ap1 a1.length cp1), (2, .int .u64 a2), (7, .slice A3 x4.length c3), (8, .int .i64 (W .i64 (x3 + 1)))]) (L' := []) (by kernel_rfl) .slnil (.refl _) ?_
          exact hJ2 _ _ _ _ _ ⟨x4, W .i64 (x3 + 1), A3, c3, cs3, rfl, rfl, rfl, (Imm.le_trans hi2 hi3), hp3, H⟩
        · intro Q_2 hJ3 hQ3
          obtain ⟨y2, H, HK2⟩ := Option.bind_eq_some_iff.mp H
          refine OK.block 1 K27_21 (by kernel_rfl) ?_
          refine OK.seq K27_22 K27_28 (by kernel_rfl) ?_
          refine OK.seq K27_23 K27_25 (by kernel_rfl) ?_
          refine OK.region 5 O27_23 (by kernel_rfl) ?_
          refine RL.simP (K' := [(19, .int .i64 (x3.tmod 64)), (17, .int .u64 a2), (0, .slice Ap0 a0.length cp0), (1, .slice Ap1 a1.length cp1), (2, .int .u64 a2), (7, .slice A2 x2.length c2), (8, .int .i64 x3)]) (nx' := nx2) (L' := []) [] (RFacts.nil _ _ _) 3 [.no, .no, .no] (by kernel_rfl) (by kernel_rfl) ?_
          by_cases hc : 0 ≤ (x3.tmod 64)
          case neg => rw [if_neg hc] at H; cases H
          rw [if_pos hc] at H
          refine RL.shr .u64 .i64 a2 (x3.tmod 64) (some 20) (by kernel_rfl) (by kernel_rfl) hc (K' := [(20, .int .u64 (Int.fdiv a2 (2 ^ (min (x3.tmod 64).toNat 64)))), (19, .int .i64 (x3.tmod 64)), (17, .int .u64 a2), (0, .slice Ap0 a0.length cp0), (1, .slice Ap1 a1.length cp1), (2, .int .u64 a2), (7, .slice A2 x2.length c2), (8, .int .i64 x3)]) (by kernel_rfl) ?_
          refine RL.simP (K' := [(22, .bool ((bAnd .u64 (Int.fdiv a2 (2 ^ (min (x3.tmod 64).toNat 64))) 1) == 0)), (0, .slice Ap0 a0.length cp0), (1, .slice Ap1 a1.length cp1), (2, .int .u64 a2), (7, .slice A2 x2.length c2), (8, .int .i64 x3)]) (nx' := nx2) (L' := []) [] (RFacts.nil _ _ _) 2 [.no, .no] (by kernel_rfl) (by kernel_rfl) ?_
          refine RL.nil (by kernel_rfl) ?_
          refine QN.then_ ?_
          refine OK.cond (.tmp 22) K27_26 K27_27 ((bAnd .u64 (Int.fdiv a2 (2 ^ (min (x3.tmod 64).toNat 64))) 1) == 0) (by kernel_rfl) (by kernel_rfl) (by kernel_rfl) (fun hb => ?_) (fun hb => ?_)
          · skip
            have hc := (beq_iff_eq.1 hb)
            rw [if_pos hc] at H
            clear hb
            refine OK.exit 1 (by kernel_rfl) ?_
            refine QN.thenE ?_
            refine QN.blkE ?_
            obtain rfl := Option.some.inj H
            refine QN.sub (K' := [(0, .slice Ap0 a0.length cp0), (1, .slice Ap1 a1.length cp1), (2, .int .u64 a2), (7, .slice A2 x2.length c2), (8, .int .i64 x3)]) (L' := []) (by kernel_rfl) .slnil (.refl _) ?_
            exact hJ3 _ _ _ _ _ ⟨x2, A2, c2, cs2, rfl, rfl, rfl, (Imm.le_refl _), hp2, HK2⟩
          · skip
            have hc := (beq_eq_false_iff_ne.1 hb)
            rw [if_neg hc] at H
            clear hb
            refine OK.skip (by kernel_rfl) ?_
            refine QN.then_ ?_
            refine OK.seq K27_29 K27_37 (by kernel_rfl) ?_
            refine OK.seq K27_30 K27_32 (by kernel_rfl) ?_
            refine OK.region 6 O27_30 (by kernel_rfl) ?_
            refine RL.simP (K' := [(26, .int .i64 ((W .i64 (x3 * 7)).tmod 64)), (23, .int .u64 a2), (0, .slice Ap0 a0.length cp0), (1, .slice Ap1 a1.length cp1), (2, .int .u64 a2), (7, .slice A2 x2.length c2), (8, .int .i64 x3)]) (nx' := nx2) (L' := []) [] (RFacts.nil _ _ _) 4 [.no, .no, .no, .no] (by kernel_rfl) (by kernel_rfl) ?_
            by_cases hc : 0 ≤ ((W .i64 (x3 * 7)).tmod 64)
            case neg => rw [if_neg hc] at H; cases H
            rw [if_pos hc] at H
            refine RL.shr .u64 .i64 a2 ((W .i64 (x3 * 7)).tmod 64) (some 27) (by kernel_rfl) (by kernel_rfl) hc (K' := [(27, .int .u64 (Int.fdiv a2 (2 ^ (min ((W .i64 (x3 * 7)).tmod 64).toNat 64)))), (26, .int .i64 ((W .i64 (x3 * 7)).tmod 64)), (23, .int .u64 a2), (0, .slice Ap0 a0.length cp0), (1, .slice Ap1 a1.length cp1), (2, .int .u64 a2), (7, .slice A2 x2.length c2), (8, .int .i64 x3)]) (by kernel_rfl) ?_
            refine RL.simP (K' := [(29, .bool ((bAnd .u64 (Int.fdiv a2 (2 ^ (min ((W .i64 (x3 * 7)).tmod 64).toNat 64))) 1) == 0)), (0, .slice Ap0 a0.length cp0), (1, .slice Ap1 a1.length cp1), (2, .int .u64 a2), (7, .slice A2 x2.length c2), (8, .int .i64 x3)]) (nx' := nx2) (L' := []) [] (RFacts.nil _ _ _) 2 [.no, .no] (by kernel_rfl) (by kernel_rfl) ?_
            refine RL.nil (by kernel_rfl) ?_
            refine QN.then_ ?_
            refine OK.join (fun K' I' _ L' X' => ∃ (x5 : List S32) (A4 : Option Addr) (c4 : Nat) (cs4 : List Value), K' = [(0, .slice Ap0 a0.length cp0), (1, .slice Ap1 a1.length cp1), (2, .int .u64 a2), (7, .slice A4 x5.length c4), (8, .int .i64 x3)] ∧ L' = [] ∧ X' = [orow 32 8 A4 x5.length c4 cs4] ∧ Imm.le I2 I' ∧ Reps t32 I' x5 cs4 ∧ armillarylaw29_observed.k5 a0 a1 a2 x3 x5 = some y2) ?_ ?_
            · rintro _ I4 nx4 _ _ ⟨x5, A4, c4, cs4, rfl, rfl, rfl, hi4, hp4, H⟩
              replace H : ((if 0 ≤ x3 then (if x3 < (a0.length : Int) then (if 0 ≤ ((a0.getD (x3).toNat z32).f1) then (if ((a0.getD (x3).toNat z32).f1) < (a1.length : Int) then (if (a1.getD ((a0.getD (x3).toNat z32).f1).toNat false) = true then (if 0 ≤ ((W .i64 (x3 * 5)).tmod 64) then (some ((bAnd .u64 (Int.fdiv a2 (2 ^ (min ((W .i64 (x3 * 5)).tmod 64).toNat 64))) 1) == 0)) else none) else (some false)) else none) else none) else none) else none).bind (armillarylaw29_observed.k4 a0 a2 x3 x5)) = some y2 := H
              refine QN.then_ ?_
              refine OK.seq K27_38 K27_40 (by kernel_rfl) ?_
              refine OK.join (fun K' I' _ L' X' => ∃ (x6 : Bool), K' = [(0, .slice Ap0 a0.length cp0), (1, .slice Ap1 a1.length cp1), (2, .int .u64 a2), (7, .slice A4 x5.length c4), (8, .int .i64 x3), (60, .bool x6)] ∧ L' = [] ∧ X' = [orow 32 8 A4 x5.length c4 cs4] ∧ Imm.le I4 I' ∧ armillarylaw29_observed.k4 a0 a2 x3 x5 x6 = some y2) ?_ ?_
              · rintro _ I5 nx5 _ _ ⟨x6, rfl, rfl, rfl, hi5, H⟩
                replace H : ((if x6 = true then (if 0 ≤ x3 then (if x3 < (a0.length : Int) then (if ([(⟨(a0.getD (x3).toNat z32).f0, (a0.getD (x3).toNat z32).f1, (a0.getD (x3).toNat z32).f2, (a0.getD (x3).toNat z32).f3, bXor .u32 ((a0.getD (x3).toNat z32).f4) (W .u32 (a2.tmod 3)), (a0.getD (x3).toNat z32).f5⟩ : S32)].length + x5.length) * 88 ≤ 140737488355328 then (some ([(⟨(a0.getD (x3).toNat z32).f0, (a0.getD (x3).toNat z32).f1, (a0.getD (x3).toNat z32).f2, (a0.getD (x3).toNat z32).f3, bXor .u32 ((a0.getD (x3).toNat z32).f4) (W .u32 (a2.tmod 3)), (a0.getD (x3).toNat z32).f5⟩ : S32)] ++ x5)) else none) else none) else none) else (some x5)).bind (armillarylaw29_observed.k3)) = some y2 := H
                refine QN.then_ ?_
                refine OK.join (fun K' I' _ L' X' => ∃ (x7 : List S32) (A5 : Option Addr) (c5 : Nat) (cs5 : List Value), K' = [(0, .slice Ap0 a0.length cp0), (1, .slice Ap1 a1.length cp1), (2, .int .u64 a2), (7, .slice A5 x7.length c5), (8, .int .i64 x3)] ∧ L' = [] ∧ X' = [orow 32 8 A5 x7.length c5 cs5] ∧ Imm.le I5 I' ∧ Reps t32 I' x7 cs5 ∧ armillarylaw29_observed.k3 x7 = some y2) ?_ ?_
                · rintro _ I6 nx6 _ _ ⟨x7, A5, c5, cs5, rfl, rfl, rfl, hi6, hp5, H⟩
                  replace H : (some x7) = some y2 := H
                  refine QN.blkN ?_
                  obtain rfl := Option.some.inj H
                  refine QN.sub (K' := [(0, .slice Ap0 a0.length cp0), (1, .slice Ap1 a1.length cp1), (2, .int .u64 a2), (7, .slice A5 x7.length c5), (8, .int .i64 x3)]) (L' := []) (by kernel_rfl) .slnil (.refl _) ?_
                  exact hJ3 _ _ _ _ _ ⟨x7, A5, c5, cs5, rfl, rfl, rfl, (Imm.le_trans (Imm.le_trans hi4 hi5) hi6), hp5, HK2⟩
                · intro Q_3 hJ6 hQ6
                  obtain ⟨y5, H, HK5⟩ := Option.bind_eq_some_iff.mp H
                  refine OK.cond (.tmp 60) K27_41 K27_49 x6 (by kernel_rfl) (by kernel_rfl) (by kernel_rfl) (fun hb => ?_) (fun hb => ?_)
                  · skip
                    have hc := hb
                    rw [if_pos hc] at H
                    clear hb
                    refine OK.seq K27_42 K27_44 (by kernel_rfl) ?_
                    refine OK.region 10 O27_42 (by kernel_rfl) ?_
                    refine RL.simP (K' := [(62, .int .i64 x3), (61, .slice Ap0 a0.length cp0), (0, .slice Ap0 a0.length cp0), (1, .slice Ap1 a1.length cp1), (2, .int .u64 a2), (7, .slice A4 x5.length c4), (8, .int .i64 x3)]) (nx' := nx5) (L' := []) [] (RFacts.nil _ _ _) 2 [.no, .no] (by kernel_rfl) (by kernel_rfl) ?_
                    by_cases hib0 : 0 ≤ x3
                    case neg => rw [if_neg hib0] at H; cases H
                    rw [if_pos hib0] at H
                    by_cases hib1 : x3 < (a0.length : Int)
                    case neg => rw [if_neg hib1] at H; cases H
                    rw [if_pos hib1] at H
                    obtain ⟨g1_, o1_, hA1_, A1_5_2_, c1_5_2_, hl1_5_2_, hr1_5_2_, hc1_⟩ := t32_at (Rd.ext (Imm.le_trans (Imm.le_trans hi2 hi4) hi5) hrp0) x3 hib0 hib1
                    refine RL.idx 8 .i64 x3 hA1_ a0.length cp0 (some 63) (by kernel_rfl) (by kernel_rfl) (T := 22) (e := 32) (by kernel_rfl) (by kernel_rfl) hib0 hib1 (K' := [(63, .pointer (some ⟨g1_, o1_ + (x3).toNat * 8, none⟩)), (62, .int .i64 x3), (61, .slice Ap0 a0.length cp0), (0, .slice Ap0 a0.length cp0), (1, .slice Ap1 a1.length cp1), (2, .int .u64 a2), (7, .slice A4 x5.length c4), (8, .int .i64 x3)]) (by kernel_rfl) ?_
                    refine RL.simP (K' := [(9, .pointer (some ⟨nx5, 0, none⟩)), (0, .slice Ap0 a0.length cp0), (1, .slice Ap1 a1.length cp1), (2, .int .u64 a2), (7, .slice A4 x5.length c4), (8, .int .i64 x3)]) (nx' := nx5 + 1) (L' := [⟨nx5, [.int .i64 ((a0.getD (x3).toNat z32).f0), .int .i64 ((a0.getD (x3).toNat z32).f1), .int .i64 ((a0.getD (x3).toNat z32).f2), .int .i64 ((a0.getD (x3).toNat z32).f3), .int .u32 ((a0.getD (x3).toNat z32).f4), .int .i64 ((a0.getD (x3).toNat z32).f5.f0), .string ((a0.getD (x3).toNat z32).f5.f1), .slice A1_5_2_ (((a0.getD (x3).toNat z32).f5.f2).length) c1_5_2_], 32⟩]) [(⟨g1_, o1_ + (x3).toNat * 8, none⟩, .int .i64 ((a0.getD (x3).toNat z32).f0)), (⟨g1_, o1_ + (x3).toNat * 8 + 1, none⟩, .int .i64 ((a0.getD (x3).toNat z32).f1)), (⟨g1_, o1_ + (x3).toNat * 8 + 2, none⟩, .int .i64 ((a0.getD (x3).toNat z32).f2)), (⟨g1_, o1_ + (x3).toNat * 8 + 3, none⟩, .int .i64 ((a0.getD (x3).toNat z32).f3)), (⟨g1_, o1_ + (x3).toNat * 8 + 4, none⟩, .int .u32 ((a0.getD (x3).toNat z32).f4)), (⟨g1_, o1_ + (x3).toNat * 8 + 5, none⟩, .int .i64 ((a0.getD (x3).toNat z32).f5.f0)), (⟨g1_, o1_ + (x3).toNat * 8 + 6, none⟩, .string ((a0.getD (x3).toNat z32).f5.f1)), (⟨g1_, o1_ + (x3).toNat * 8 + 7, none⟩, .slice A1_5_2_ (((a0.getD (x3).toNat z32).f5.f2).length) c1_5_2_)] (RFacts.imm (hc1_ 0 _ rfl) (RFacts.imm (hc1_ 1 _ rfl) (RFacts.imm (hc1_ 2 _ rfl) (RFacts.imm (hc1_ 3 _ rfl) (RFacts.imm (hc1_ 4 _ rfl) (RFacts.imm (hc1_ 5 _ rfl) (RFacts.imm (hc1_ 6 _ rfl) (RFacts.imm (hc1_ 7 _ rfl) (RFacts.nil _ _ _))))))))) 3 [.r 0, .no, .l 0] (by kernel_rfl) (by kernel_rfl) ?_
                    refine RL.nil (by kernel_rfl) ?_
                    refine QN.then_ ?_
                    refine OK.seq K27_45 K27_47 (by kernel_rfl) ?_
                    refine OK.region 11 O27_45 (by kernel_rfl) ?_
                    refine RL.simP (K' := [(9, .pointer (some ⟨nx5, 0, none⟩)), (0, .slice Ap0 a0.length cp0), (1, .slice Ap1 a1.length cp1), (2, .int .u64 a2), (7, .slice A4 x5.length c4), (8, .int .i64 x3)]) (nx' := nx5 + 1) (L' := [⟨nx5, [.int .i64 ((a0.getD (x3).toNat z32).f0), .int .i64 ((a0.getD (x3).toNat z32).f1), .int .i64 ((a0.getD (x3).toNat z32).f2), .int .i64 ((a0.getD (x3).toNat z32).f3), .int .u32 (bXor .u32 ((a0.getD (x3).toNat z32).f4) (W .u32 (a2.tmod 3))), .int .i64 ((a0.getD (x3).toNat z32).f5.f0), .string ((a0.getD (x3).toNat z32).f5.f1), .slice A1_5_2_ (((a0.getD (x3).toNat z32).f5.f2).length) c1_5_2_], 32⟩]) [] (RFacts.nil _ _ _) 8 [.no, .l 0, .no, .no, .no, .no, .no, .l 0] (by kernel_rfl) (by kernel_rfl) ?_
                    refine RL.nil (by kernel_rfl) ?_
                    refine QN.then_ ?_
                    refine OK.region 12 O27_47 (by kernel_rfl) ?_
                    refine RL.simP (K' := [(74, .slice A4 x5.length c4), (73, .slice (some ⟨nx5 + 1, 0, none⟩) 1 1), (0, .slice Ap0 a0.length cp0), (1, .slice Ap1 a1.length cp1), (2, .int .u64 a2), (7, .slice A4 x5.length c4), (8, .int .i64 x3)]) (nx' := nx5 + 2) (L' := [⟨nx5, [.int .i64 ((a0.getD (x3).toNat z32).f0), .int .i64 ((a0.getD (x3).toNat z32).f1), .int .i64 ((a0.getD (x3).toNat z32).f2), .int .i64 ((a0.getD (x3).toNat z32).f3), .int .u32 (bXor .u32 ((a0.getD (x3).toNat z32).f4) (W .u32 (a2.tmod 3))), .int .i64 ((a0.getD (x3).toNat z32).f5.f0), .string ((a0.getD (x3).toNat z32).f5.f1), .slice A1_5_2_ (((a0.getD (x3).toNat z32).f5.f2).length) c1_5_2_], 32⟩, ⟨nx5 + 1, [.int .i64 ((a0.getD (x3).toNat z32).f0), .int .i64 ((a0.getD (x3).toNat z32).f1), .int .i64 ((a0.getD (x3).toNat z32).f2), .int .i64 ((a0.getD (x3).toNat z32).f3), .int .u32 (bXor .u32 ((a0.getD (x3).toNat z32).f4) (W .u32 (a2.tmod 3))), .int .i64 ((a0.getD (x3).toNat z32).f5.f0), .string ((a0.getD (x3).toNat z32).f5.f1), .slice A1_5_2_ (((a0.getD (x3).toNat z32).f5.f2).length) c1_5_2_], 32⟩]) [] (RFacts.nil _ _ _) 3 [.l 0, .no, .no] (by kernel_rfl) (by kernel_rfl) ?_
                    refine RL.freeze (e := 32) (sz := 8) (S := A4) (n := x5.length) (cap := c4) 0 (by kernel_rfl) (Reps.ext hi5 hp4) rfl (fun _ h => h.elim) (fun I7 hi7 hl1 hr1 => ?_)
                    skip
                    refine RL.toRow (b := ⟨nx5 + 1, [.int .i64 ((a0.getD (x3).toNat z32).f0), .int .i64 ((a0.getD (x3).toNat z32).f1), .int .i64 ((a0.getD (x3).toNat z32).f2), .int .i64 ((a0.getD (x3).toNat z32).f3), .int .u32 (bXor .u32 ((a0.getD (x3).toNat z32).f4) (W .u32 (a2.tmod 3))), .int .i64 ((a0.getD (x3).toNat z32).f5.f0), .string ((a0.getD (x3).toNat z32).f5.f1), .slice A1_5_2_ (((a0.getD (x3).toNat z32).f5.f2).length) c1_5_2_], 32⟩) 1 1 8 (by kernel_rfl) (by kernel_rfl) (by decide) ?_
                    have hp6 : Reps t32 I7 [(⟨(a0.getD (x3).toNat z32).f0, (a0.getD (x3).toNat z32).f1, (a0.getD (x3).toNat z32).f2, (a0.getD (x3).toNat z32).f3, bXor .u32 ((a0.getD (x3).toNat z32).f4) (W .u32 (a2.tmod 3)), (a0.getD (x3).toNat z32).f5⟩ : S32)] [.int .i64 ((a0.getD (x3).toNat z32).f0), .int .i64 ((a0.getD (x3).toNat z32).f1), .int .i64 ((a0.getD (x3).toNat z32).f2), .int .i64 ((a0.getD (x3).toNat z32).f3), .int .u32 (bXor .u32 ((a0.getD (x3).toNat z32).f4) (W .u32 (a2.tmod 3))), .int .i64 ((a0.getD (x3).toNat z32).f5.f0), .string ((a0.getD (x3).toNat z32).f5.f1), .slice A1_5_2_ (((a0.getD (x3).toNat z32).f5.f2).length) c1_5_2_] := ⟨_, _, rfl, (t32_mk _ _ hl1_5_2_ (Rd.ext hi7 hr1_5_2_)), rfl⟩
                    refine RL.norm (L' := [⟨nx5, [.int .i64 ((a0.getD (x3).toNat z32).f0), .int .i64 ((a0.getD (x3).toNat z32).f1), .int .i64 ((a0.getD (x3).toNat z32).f2), .int .i64 ((a0.getD (x3).toNat z32).f3), .int .u32 (bXor .u32 ((a0.getD (x3).toNat z32).f4) (W .u32 (a2.tmod 3))), .int .i64 ((a0.getD (x3).toNat z32).f5.f0), .string ((a0.getD (x3).toNat z32).f5.f1), .slice A1_5_2_ (((a0.getD (x3).toNat z32).f5.f2).length) c1_5_2_], 32⟩]) (X' := [orow 32 8 (some ⟨nx5 + 1, 0, none⟩) ([(⟨(a0.getD (x3).toNat z32).f0, (a0.getD (x3).toNat z32).f1, (a0.getD (x3).toNat z32).f2, (a0.getD (x3).toNat z32).f3, bXor .u32 ((a0.getD (x3).toNat z32).f4) (W .u32 (a2.tmod 3)), (a0.getD (x3).toNat z32).f5⟩ : S32)].length) 1 [.int .i64 ((a0.getD (x3).toNat z32).f0), .int .i64 ((a0.getD (x3).toNat z32).f1), .int .i64 ((a0.getD (x3).toNat z32).f2), .int .i64 ((a0.getD (x3).toNat z32).f3), .int .u32 (bXor .u32 ((a0.getD (x3).toNat z32).f4) (W .u32 (a2.tmod 3))), .int .i64 ((a0.getD (x3).toNat z32).f5.f0), .string ((a0.getD (x3).toNat z32).f5.f1), .slice A1_5_2_ (((a0.getD (x3).toNat z32).f5.f2).length) c1_5_2_]]) rfl rfl (by kernel_rfl) (by kernel_rfl) ?_
                    by_cases hz1 : ([(⟨(a0.getD (x3).toNat z32).f0, (a0.getD (x3).toNat z32).f1, (a0.getD (x3).toNat z32).f2, (a0.getD (x3).toNat z32).f3, bXor .u32 ((a0.getD (x3).toNat z32).f4) (W .u32 (a2.tmod 3)), (a0.getD (x3).toNat z32).f5⟩ : S32)].length + x5.length) * 88 ≤ 140737488355328
                    case neg => rw [if_neg hz1] at H; cases H
                    rw [if_pos hz1] at H
                    refine RL.appendR (T := 22) (e := 32) (S := (some ⟨nx5 + 1, 0, none⟩)) (S2 := A4) 8 88 22 1 c4 [.int .i64 ((a0.getD (x3).toNat z32).f0), .int .i64 ((a0.getD (x3).toNat z32).f1), .int .i64 ((a0.getD (x3).toNat z32).f2), .int .i64 ((a0.getD (x3).toNat z32).f3), .int .u32 (bXor .u32 ((a0.getD (x3).toNat z32).f4) (W .u32 (a2.tmod 3))), .int .i64 ((a0.getD (x3).toNat z32).f5.f0), .string ((a0.getD (x3).toNat z32).f5.f1), .slice A1_5_2_ (((a0.getD (x3).toNat z32).f5.f2).length) c1_5_2_] t32 [(⟨(a0.getD (x3).toNat z32).f0, (a0.getD (x3).toNat z32).f1, (a0.getD (x3).toNat z32).f2, (a0.getD (x3).toNat z32).f3, bXor .u32 ((a0.getD (x3).toNat z32).f4) (W .u32 (a2.tmod 3)), (a0.getD (x3).toNat z32).f5⟩ : S32)] x5 0 (some 75) (by kernel_rfl) (by kernel_rfl) (by kernel_rfl) (by kernel_rfl) (by kernel_rfl) (by decide) (by kernel_rfl) hp6 hr1 hz1 (by omega) (fun A6 c6 nx7 cs6 hp7 => ?_)
                    refine RL.sub (K' := [(75, .slice A6 (([(⟨(a0.getD (x3).toNat z32).f0, (a0.getD (x3).toNat z32).f1, (a0.getD (x3).toNat z32).f2, (a0.getD (x3).toNat z32).f3, bXor .u32 ((a0.getD (x3).toNat z32).f4) (W .u32 (a2.tmod 3)), (a0.getD (x3).toNat z32).f5⟩ : S32)] ++ x5).length) c6), (74, .slice A4 x5.length c4), (73, .slice (some ⟨nx5 + 1, 0, none⟩) 1 1), (0, .slice Ap0 a0.length cp0), (1, .slice Ap1 a1.length cp1), (2, .int .u64 a2), (7, .slice A4 x5.length c4), (8, .int .i64 x3)]) (L' := [⟨nx5, [.int .i64 ((a0.getD (x3).toNat z32).f0), .int .i64 ((a0.getD (x3).toNat z32).f1), .int .i64 ((a0.getD (x3).toNat z32).f2), .int .i64 ((a0.getD (x3).toNat z32).f3), .int .u32 (bXor .u32 ((a0.getD (x3).toNat z32).f4) (W .u32 (a2.tmod 3))), .int .i64 ((a0.getD (x3).toNat z32).f5.f0), .string ((a0.getD (x3).toNat z32).f5.f1), .slice A1_5_2_ (((a0.getD (x3).toNat z32).f5.f2).length) c1_5_2_], 32⟩]) (X' := [orow 32 8 A6 (([(⟨(a0.getD (x3).toNat z32).f0, (a0.getD (x3).toNat z32).f1, (a0.getD (x3).toNat z32).f2, (a0.getD (x3).toNat z32).f3, bXor .u32 ((a0.getD (x3).toNat z32).f4) (W .u32 (a2.tmod 3)), (a0.getD (x3).toNat z32).f5⟩ : S32)] ++ x5).length) c6 cs6]) (by kernel_rfl) (.refl _) (.refl _) ?_
                    refine RL.simP (K' := [(7, .slice A6 (([(⟨(a0.getD (x3).toNat z32).f0, (a0.getD (x3).toNat z32).f1, (a0.getD (x3).toNat z32).f2, (a0.getD (x3).toNat z32).f3, bXor .u32 ((a0.getD (x3).toNat z32).f4) (W .u32 (a2.tmod 3)), (a0.getD (x3).toNat z32).f5⟩ : S32)] ++ x5).length) c6), (0, .slice Ap0 a0.length cp0), (1, .slice Ap1 a1.length cp1), (2, .int .u64 a2), (8, .int .i64 x3)]) (nx' := nx7) (L' := [⟨nx5, [.int .i64 ((a0.getD (x3).toNat z32).f0), .int .i64 ((a0.getD (x3).toNat z32).f1), .int .i64 ((a0.getD (x3).toNat z32).f2), .int .i64 ((a0.getD (x3).toNat z32).f3), .int .u32 (bXor .u32 ((a0.getD (x3).toNat z32).f4) (W .u32 (a2.tmod 3))), .int .i64 ((a0.getD (x3).toNat z32).f5.f0), .string ((a0.getD (x3).toNat z32).f5.f1), .slice A1_5_2_ (((a0.getD (x3).toNat z32).f5.f2).length) c1_5_2_], 32⟩]) [] (RFacts.nil _ _ _) 1 [.no] (by kernel_rfl) (by kernel_rfl) ?_
                    refine RL.nil (by kernel_rfl) ?_
                    obtain rfl := Option.some.inj H
                    refine QN.sub (K' := [(0, .slice Ap0 a0.length cp0), (1, .slice Ap1 a1.length cp1), (2, .int .u64 a2), (7, .slice A6 (([(⟨(a0.getD (x3).toNat z32).f0, (a0.getD (x3).toNat z32).f1, (a0.getD (x3).toNat z32).f2, (a0.getD (x3).toNat z32).f3, bXor .u32 ((a0.getD (x3).toNat z32).f4) (W .u32 (a2.tmod 3)), (a0.getD (x3).toNat z32).f5⟩ : S32)] ++ x5).length) c6), (8, .int .i64 x3)]) (L' := []) (by kernel_rfl) (.cons _ .slnil) (.refl _) ?_
                    exact hJ6 _ _ _ _ _ ⟨([(⟨(a0.getD (x3).toNat z32).f0, (a0.getD (x3).toNat z32).f1, (a0.getD (x3).toNat z32).f2, (a0.getD (x3).toNat z32).f3, bXor .u32 ((a0.getD (x3).toNat z32).f4) (W .u32 (a2.tmod 3)), (a0.getD (x3).toNat z32).f5⟩ : S32)] ++ x5), A6, c6, cs6, rfl, rfl, rfl, hi7, hp7, HK5⟩
                  · skip
                    have hc := (Bool.eq_false_iff.1 hb)
                    rw [if_neg hc] at H
                    clear hb
                    refine OK.skip (by kernel_rfl) ?_
                    obtain rfl := Option.some.inj H
                    refine QN.sub (K' := [(0, .slice Ap0 a0.length cp0), (1, .slice Ap1 a1.length cp1), (2, .int .u64 a2), (7, .slice A4 x5.length c4), (8, .int .i64 x3)]) (L' := []) (by kernel_rfl) .slnil (.refl _) ?_
                    exact hJ6 _ _ _ _ _ ⟨x5, A4, c4, cs4, rfl, rfl, rfl, (Imm.le_refl _), (Reps.ext hi5 hp4), HK5⟩
              · intro Q_4 hJ5 hQ5
                obtain ⟨y4, H, HK4⟩ := Option.bind_eq_some_iff.mp H
                refine OK.region 9 O27_38 (by kernel_rfl) ?_
                refine RL.simP (K' := [(46, .int .i64 x3), (45, .slice Ap0 a0.length cp0), (44, .slice Ap1 a1.length cp1), (0, .slice Ap0 a0.length cp0), (1, .slice Ap1 a1.length cp1), (2, .int .u64 a2), (7, .slice A4 x5.length c4), (8, .int .i64 x3)]) (nx' := nx4) (L' := []) [] (RFacts.nil _ _ _) 3 [.no, .no, .no] (by kernel_rfl) (by kernel_rfl) ?_
                by_cases hib0 : 0 ≤ x3
                case neg => rw [if_neg hib0] at H; cases H
                rw [if_pos hib0] at H
                by_cases hib1 : x3 < (a0.length : Int)
                case neg => rw [if_neg hib1] at H; cases H
                rw [if_pos hib1] at H
                obtain ⟨g2_, o2_, hA2_, A2_5_2_, c2_5_2_, hl2_5_2_, hr2_5_2_, hc2_⟩ := t32_at (Rd.ext (Imm.le_trans hi2 hi4) hrp0) x3 hib0 hib1
                refine RL.idx 8 .i64 x3 hA2_ a0.length cp0 (some 47) (by kernel_rfl) (by kernel_rfl) (T := 22) (e := 32) (by kernel_rfl) (by kernel_rfl) hib0 hib1 (K' := [(47, .pointer (some ⟨g2_, o2_ + (x3).toNat * 8, none⟩)), (46, .int .i64 x3), (45, .slice Ap0 a0.length cp0), (44, .slice Ap1 a1.length cp1), (0, .slice Ap0 a0.length cp0), (1, .slice Ap1 a1.length cp1), (2, .int .u64 a2), (7, .slice A4 x5.length c4), (8, .int .i64 x3)]) (by kernel_rfl) ?_
                refine RL.simP (K' := [(49, .int .i64 ((a0.getD (x3).toNat z32).f1)), (44, .slice Ap1 a1.length cp1), (0, .slice Ap0 a0.length cp0), (1, .slice Ap1 a1.length cp1), (2, .int .u64 a2), (7, .slice A4 x5.length c4), (8, .int .i64 x3)]) (nx' := nx4) (L' := []) [(⟨g2_, o2_ + (x3).toNat * 8 + 1, none⟩, .int .i64 ((a0.getD (x3).toNat z32).f1))] (RFacts.imm (hc2_ 1 _ rfl) (RFacts.nil _ _ _)) 2 [.no, .r 0] (by kernel_rfl) (by kernel_rfl) ?_
                by_cases hib0 : 0 ≤ ((a0.getD (x3).toNat z32).f1)
                case neg => rw [if_neg hib0] at H; cases H
                rw [if_pos hib0] at H
                by_cases hib1 : ((a0.getD (x3).toNat z32).f1) < (a1.length : Int)
                case neg => rw [if_neg hib1] at H; cases H
                rw [if_pos hib1] at H
                obtain ⟨g3_, o3_, hA3_, hc3_⟩ := Ty.bool_at (Rd.ext (Imm.le_trans hi2 hi4) hrp1) ((a0.getD (x3).toNat z32).f1) hib0 hib1
                refine RL.idx 1 .i64 ((a0.getD (x3).toNat z32).f1) hA3_ a1.length cp1 (some 50) (by kernel_rfl) (by kernel_rfl) (T := 52) (e := 4) (by kernel_rfl) (by kernel_rfl) hib0 hib1 (K' := [(50, .pointer (some ⟨g3_, o3_ + ((a0.getD (x3).toNat z32).f1).toNat * 1, none⟩)), (49, .int .i64 ((a0.getD (x3).toNat z32).f1)), (44, .slice Ap1 a1.length cp1), (0, .slice Ap0 a0.length cp0), (1, .slice Ap1 a1.length cp1), (2, .int .u64 a2), (7, .slice A4 x5.length c4), (8, .int .i64 x3)]) (by kernel_rfl) ?_
                refine RL.simP (K' := [(52, .bool (a1.getD ((a0.getD (x3).toNat z32).f1).toNat false)), (0, .slice Ap0 a0.length cp0), (1, .slice Ap1 a1.length cp1), (2, .int .u64 a2), (7, .slice A4 x5.length c4), (8, .int .i64 x3)]) (nx' := nx4) (L' := []) [(⟨g3_, o3_ + ((a0.getD (x3).toNat z32).f1).toNat * 1, none⟩, .bool (a1.getD ((a0.getD (x3).toNat z32).f1).toNat false))] (RFacts.imm (hc3_ 0 _ rfl) (RFacts.nil _ _ _)) 2 [.r 0, .no] (by kernel_rfl) (by kernel_rfl) ?_
                refine RL.cases (a1.getD ((a0.getD (x3).toNat z32).f1).toNat false) (fun hb => ?_) (fun hb => ?_)
                · have hc := hb
                  refine RL.norm (K' := [(52, .bool true), (0, .slice Ap0 a0.length cp0), (1, .slice Ap1 a1.length cp1), (2, .int .u64 a2), (7, .slice A4 x5.length c4), (8, .int .i64 x3)]) (L' := []) (by rw [hb]; try rfl) rfl (by first | rfl | (rw [hb]; try rfl)) rfl ?_
                  rw [if_pos hc] at H; clear hb
                  refine RL.simP (K' := [(56, .int .i64 ((W .i64 (x3 * 5)).tmod 64)), (53, .int .u64 a2), (52, .bool true), (0, .slice Ap0 a0.length cp0), (1, .slice Ap1 a1.length cp1), (2, .int .u64 a2), (7, .slice A4 x5.length c4), (8, .int .i64 x3)]) (nx' := nx4) (L' := []) [] (RFacts.nil _ _ _) 4 [.no, .no, .no, .no] (by kernel_rfl) (by kernel_rfl) ?_
                  by_cases hc : 0 ≤ ((W .i64 (x3 * 5)).tmod 64)
                  case neg => rw [if_neg hc] at H; cases H
                  rw [if_pos hc] at H
                  refine RL.shr .u64 .i64 a2 ((W .i64 (x3 * 5)).tmod 64) (some 57) (by kernel_rfl) (by kernel_rfl) hc (K' := [(57, .int .u64 (Int.fdiv a2 (2 ^ (min ((W .i64 (x3 * 5)).tmod 64).toNat 64)))), (56, .int .i64 ((W .i64 (x3 * 5)).tmod 64)), (53, .int .u64 a2), (52, .bool true), (0, .slice Ap0 a0.length cp0), (1, .slice Ap1 a1.length cp1), (2, .int .u64 a2), (7, .slice A4 x5.length c4), (8, .int .i64 x3)]) (by kernel_rfl) ?_
                  refine RL.simP (K' := [(60, .bool ((bAnd .u64 (Int.fdiv a2 (2 ^ (min ((W .i64 (x3 * 5)).tmod 64).toNat 64))) 1) == 0)), (0, .slice Ap0 a0.length cp0), (1, .slice Ap1 a1.length cp1), (2, .int .u64 a2), (7, .slice A4 x5.length c4), (8, .int .i64 x3)]) (nx' := nx4) (L' := []) [] (RFacts.nil _ _ _) 3 [.no, .no, .no] (by kernel_rfl) (by kernel_rfl) ?_
                  refine RL.nil (by kernel_rfl) ?_
                  obtain rfl := Option.some.inj H
                  refine QN.sub (K' := [(0, .slice Ap0 a0.length cp0), (1, .slice Ap1 a1.length cp1), (2, .int .u64 a2), (7, .slice A4 x5.length c4), (8, .int .i64 x3), (60, .bool ((bAnd .u64 (Int.fdiv a2 (2 ^ (min ((W .i64 (x3 * 5)).tmod 64).toNat 64))) 1) == 0))]) (L' := []) (by kernel_rfl) .slnil (.refl _) ?_
                  exact hJ5 _ _ _ _ _ ⟨((bAnd .u64 (Int.fdiv a2 (2 ^ (min ((W .i64 (x3 * 5)).tmod 64).toNat 64))) 1) == 0), rfl, rfl, rfl, (Imm.le_refl _), HK4⟩
                · have hc := (Bool.eq_false_iff.1 hb)
                  refine RL.norm (K' := [(52, .bool false), (0, .slice Ap0 a0.length cp0), (1, .slice Ap1 a1.length cp1), (2, .int .u64 a2), (7, .slice A4 x5.length c4), (8, .int .i64 x3)]) (L' := []) (by rw [hb]; try rfl) rfl (by first | rfl | (rw [hb]; try rfl)) rfl ?_
                  rw [if_neg hc] at H; clear hb
                  refine RL.simP (K' := [(60, .bool false), (0, .slice Ap0 a0.length cp0), (1, .slice Ap1 a1.length cp1), (2, .int .u64 a2), (7, .slice A4 x5.length c4), (8, .int .i64 x3)]) (nx' := nx4) (L' := []) [] (RFacts.nil _ _ _) 8 [.no, .no, .no, .no, .no, .no, .no, .no] (by kernel_rfl) (by kernel_rfl) ?_
                  refine RL.nil (by kernel_rfl) ?_
                  obtain rfl := Option.some.inj H
                  refine QN.sub (K' := [(0, .slice Ap0 a0.length cp0), (1, .slice Ap1 a1.length cp1), (2, .int .u64 a2), (7, .slice A4 x5.length c4), (8, .int .i64 x3), (60, .bool false)]) (L' := []) (by kernel_rfl) .slnil (.refl _) ?_
                  exact hJ5 _ _ _ _ _ ⟨false, rfl, rfl, rfl, (Imm.le_refl _), HK4⟩
            · intro Q_5 hJ4 hQ4
              obtain ⟨y3, H, HK3⟩ := Option.bind_eq_some_iff.mp H
              refine OK.cond (.tmp 29) K27_33 K27_35 ((bAnd .u64 (Int.fdiv a2 (2 ^ (min ((W .i64 (x3 * 7)).tmod 64).toNat 64))) 1) == 0) (by kernel_rfl) (by kernel_rfl) (by kernel_rfl) (fun hb => ?_) (fun hb => ?_)
              · skip
                have hc := (beq_iff_eq.1 hb)
                rw [if_pos hc] at H
                clear hb
                refine OK.region 7 O27_33 (by kernel_rfl) ?_
                refine RL.simP (K' := [(31, .int .i64 x3), (30, .slice Ap0 a0.length cp0), (0, .slice Ap0 a0.length cp0), (1, .slice Ap1 a1.length cp1), (2, .int .u64 a2), (7, .slice A2 x2.length c2), (8, .int .i64 x3)]) (nx' := nx2) (L' := []) [] (RFacts.nil _ _ _) 2 [.no, .no] (by kernel_rfl) (by kernel_rfl) ?_
                by_cases hib0 : 0 ≤ x3
                case neg => rw [if_neg hib0] at H; cases H
                rw [if_pos hib0] at H
                by_cases hib1 : x3 < (a0.length : Int)
                case neg => rw [if_neg hib1] at H; cases H
                rw [if_pos hib1] at H
                obtain ⟨g4_, o4_, hA4_, A4_5_2_, c4_5_2_, hl4_5_2_, hr4_5_2_, hc4_⟩ := t32_at (Rd.ext hi2 hrp0) x3 hib0 hib1
                refine RL.idx 8 .i64 x3 hA4_ a0.length cp0 (some 32) (by kernel_rfl) (by kernel_rfl) (T := 22) (e := 32) (by kernel_rfl) (by kernel_rfl) hib0 hib1 (K' := [(32, .pointer (some ⟨g4_, o4_ + (x3).toNat * 8, none⟩)), (31, .int .i64 x3), (30, .slice Ap0 a0.length cp0), (0, .slice Ap0 a0.length cp0), (1, .slice Ap1 a1.length cp1), (2, .int .u64 a2), (7, .slice A2 x2.length c2), (8, .int .i64 x3)]) (by kernel_rfl) ?_
                refine RL.simP (K' := [(35, .slice A2 x2.length c2), (34, .slice (some ⟨nx2, 0, none⟩) 1 1), (0, .slice Ap0 a0.length cp0), (1, .slice Ap1 a1.length cp1), (2, .int .u64 a2), (7, .slice A2 x2.length c2), (8, .int .i64 x3)]) (nx' := nx2 + 1) (L' := [⟨nx2, [.int .i64 ((a0.getD (x3).toNat z32).f0), .int .i64 ((a0.getD (x3).toNat z32).f1), .int .i64 ((a0.getD (x3).toNat z32).f2), .int .i64 ((a0.getD (x3).toNat z32).f3), .int .u32 ((a0.getD (x3).toNat z32).f4), .int .i64 ((a0.getD (x3).toNat z32).f5.f0), .string ((a0.getD (x3).toNat z32).f5.f1), .slice A4_5_2_ (((a0.getD (x3).toNat z32).f5.f2).length) c4_5_2_], 32⟩]) [(⟨g4_, o4_ + (x3).toNat * 8, none⟩, .int .i64 ((a0.getD (x3).toNat z32).f0)), (⟨g4_, o4_ + (x3).toNat * 8 + 1, none⟩, .int .i64 ((a0.getD (x3).toNat z32).f1)), (⟨g4_, o4_ + (x3).toNat * 8 + 2, none⟩, .int .i64 ((a0.getD (x3).toNat z32).f2)), (⟨g4_, o4_ + (x3).toNat * 8 + 3, none⟩, .int .i64 ((a0.getD (x3).toNat z32).f3)), (⟨g4_, o4_ + (x3).toNat * 8 + 4, none⟩, .int .u32 ((a0.getD (x3).toNat z32).f4)), (⟨g4_, o4_ + (x3).toNat * 8 + 5, none⟩, .int .i64 ((a0.getD (x3).toNat z32).f5.f0)), (⟨g4_, o4_ + (x3).toNat * 8 + 6, none⟩, .string ((a0.getD (x3).toNat z32).f5.f1)), (⟨g4_, o4_ + (x3).toNat * 8 + 7, none⟩, .slice A4_5_2_ (((a0.getD (x3).toNat z32).f5.f2).length) c4_5_2_)] (RFacts.imm (hc4_ 0 _ rfl) (RFacts.imm (hc4_ 1 _ rfl) (RFacts.imm (hc4_ 2 _ rfl) (RFacts.imm (hc4_ 3 _ rfl) (RFacts.imm (hc4_ 4 _ rfl) (RFacts.imm (hc4_ 5 _ rfl) (RFacts.imm (hc4_ 6 _ rfl) (RFacts.imm (hc4_ 7 _ rfl) (RFacts.nil _ _ _))))))))) 3 [.r 0, .no, .no] (by kernel_rfl) (by kernel_rfl) ?_
                refine RL.freeze (e := 32) (sz := 8) (S := A2) (n := x2.length) (cap := c2) 0 (by kernel_rfl) hp2 rfl (fun _ h => h.elim) (fun I8 hi8 hl2 hr2 => ?_)
                skip
                refine RL.toRow (b := ⟨nx2, [.int .i64 ((a0.getD (x3).toNat z32).f0), .int .i64 ((a0.getD (x3).toNat z32).f1), .int .i64 ((a0.getD (x3).toNat z32).f2), .int .i64 ((a0.getD (x3).toNat z32).f3), .int .u32 ((a0.getD (x3).toNat z32).f4), .int .i64 ((a0.getD (x3).toNat z32).f5.f0), .string ((a0.getD (x3).toNat z32).f5.f1), .slice A4_5_2_ (((a0.getD (x3).toNat z32).f5.f2).length) c4_5_2_], 32⟩) 0 1 8 (by kernel_rfl) (by kernel_rfl) (by decide) ?_
                have hp8 : Reps t32 I8 [(a0.getD (x3).toNat z32)] [.int .i64 ((a0.getD (x3).toNat z32).f0), .int .i64 ((a0.getD (x3).toNat z32).f1), .int .i64 ((a0.getD (x3).toNat z32).f2), .int .i64 ((a0.getD (x3).toNat z32).f3), .int .u32 ((a0.getD (x3).toNat z32).f4), .int .i64 ((a0.getD (x3).toNat z32).f5.f0), .string ((a0.getD (x3).toNat z32).f5.f1), .slice A4_5_2_ (((a0.getD (x3).toNat z32).f5.f2).length) c4_5_2_] := ⟨_, _, rfl, (t32_mk _ _ hl4_5_2_ (Rd.ext hi8 hr4_5_2_)), rfl⟩
                refine RL.norm (L' := []) (X' := [orow 32 8 (some ⟨nx2, 0, none⟩) ([(a0.getD (x3).toNat z32)].length) 1 [.int .i64 ((a0.getD (x3).toNat z32).f0), .int .i64 ((a0.getD (x3).toNat z32).f1), .int .i64 ((a0.getD (x3).toNat z32).f2), .int .i64 ((a0.getD (x3).toNat z32).f3), .int .u32 ((a0.getD (x3).toNat z32).f4), .int .i64 ((a0.getD (x3).toNat z32).f5.f0), .string ((a0.getD (x3).toNat z32).f5.f1), .slice A4_5_2_ (((a0.getD (x3).toNat z32).f5.f2).length) c4_5_2_]]) rfl rfl (by kernel_rfl) (by kernel_rfl) ?_
                by_cases hz2 : ([(a0.getD (x3).toNat z32)].length + x2.length) * 88 ≤ 140737488355328
                case neg => rw [if_neg hz2] at H; cases H
                rw [if_pos hz2] at H
                refine RL.appendR (T := 22) (e := 32) (S := (some ⟨nx2, 0, none⟩)) (S2 := A2) 8 88 22 1 c2 [.int .i64 ((a0.getD (x3).toNat z32).f0), .int .i64 ((a0.getD (x3).toNat z32).f1), .int .i64 ((a0.getD (x3).toNat z32).f2), .int .i64 ((a0.getD (x3).toNat z32).f3), .int .u32 ((a0.getD (x3).toNat z32).f4), .int .i64 ((a0.getD (x3).toNat z32).f5.f0), .string ((a0.getD (x3).toNat z32).f5.f1), .slice A4_5_2_ (((a0.getD (x3).toNat z32).f5.f2).length) c4_5_2_] t32 [(a0.getD (x3).toNat z32)] x2 0 (some 36) (by kernel_rfl) (by kernel_rfl) (by kernel_rfl) (by kernel_rfl) (by kernel_rfl) (by decide) (by kernel_rfl) hp8 hr2 hz2 (by omega) (fun A7 c7 nx8 cs7 hp9 => ?_)
                refine RL.sub (K' := [(36, .slice A7 (([(a0.getD (x3).toNat z32)] ++ x2).length) c7), (35, .slice A2 x2.length c2), (34, .slice (some ⟨nx2, 0, none⟩) 1 1), (0, .slice Ap0 a0.length cp0), (1, .slice Ap1 a1.length cp1), (2, .int .u64 a2), (7, .slice A2 x2.length c2), (8, .int .i64 x3)]) (L' := []) (X' := [orow 32 8 A7 (([(a0.getD (x3).toNat z32)] ++ x2).length) c7 cs7]) (by kernel_rfl) (.refl _) (.refl _) ?_
                refine RL.simP (K' := [(7, .slice A7 (([(a0.getD (x3).toNat z32)] ++ x2).length) c7), (0, .slice Ap0 a0.length cp0), (1, .slice Ap1 a1.length cp1), (2, .int .u64 a2), (8, .int .i64 x3)]) (nx' := nx8) (L' := []) [] (RFacts.nil _ _ _) 1 [.no] (by kernel_rfl) (by kernel_rfl) ?_
                refine RL.nil (by kernel_rfl) ?_
                obtain rfl := Option.some.inj H
                refine QN.sub (K' := [(0, .slice Ap0 a0.length cp0), (1, .slice Ap1 a1.length cp1), (2, .int .u64 a2), (7, .slice A7 (([(a0.getD (x3).toNat z32)] ++ x2).length) c7), (8, .int .i64 x3)]) (L' := []) (by kernel_rfl) .slnil (.refl _) ?_
                exact hJ4 _ _ _ _ _ ⟨([(a0.getD (x3).toNat z32)] ++ x2), A7, c7, cs7, rfl, rfl, rfl, hi8, hp9, HK3⟩
              · skip
                have hc := (beq_eq_false_iff_ne.1 hb)
                rw [if_neg hc] at H
                clear hb
                refine OK.region 8 O27_35 (by kernel_rfl) ?_
                refine RL.simP (K' := [(39, .int .i64 x3), (38, .slice Ap0 a0.length cp0), (37, .slice A2 x2.length c2), (0, .slice Ap0 a0.length cp0), (1, .slice Ap1 a1.length cp1), (2, .int .u64 a2), (7, .slice A2 x2.length c2), (8, .int .i64 x3)]) (nx' := nx2) (L' := []) [] (RFacts.nil _ _ _) 3 [.no, .no, .no] (by kernel_rfl) (by kernel_rfl) ?_
                by_cases hib0 : 0 ≤ x3
                case neg => rw [if_neg hib0] at H; cases H
                rw [if_pos hib0] at H
                by_cases hib1 : x3 < (a0.length : Int)
                case neg => rw [if_neg hib1] at H; cases H
                rw [if_pos hib1] at H
                obtain ⟨g5_, o5_, hA5_, A5_5_2_, c5_5_2_, hl5_5_2_, hr5_5_2_, hc5_⟩ := t32_at (Rd.ext hi2 hrp0) x3 hib0 hib1
                refine RL.idx 8 .i64 x3 hA5_ a0.length cp0 (some 40) (by kernel_rfl) (by kernel_rfl) (T := 22) (e := 32) (by kernel_rfl) (by kernel_rfl) hib0 hib1 (K' := [(40, .pointer (some ⟨g5_, o5_ + (x3).toNat * 8, none⟩)), (39, .int .i64 x3), (38, .slice Ap0 a0.length cp0), (37, .slice A2 x2.length c2), (0, .slice Ap0 a0.length cp0), (1, .slice Ap1 a1.length cp1), (2, .int .u64 a2), (7, .slice A2 x2.length c2), (8, .int .i64 x3)]) (by kernel_rfl) ?_
                refine RL.simP (K' := [(42, .slice (some ⟨nx2, 0, none⟩) 1 1), (37, .slice A2 x2.length c2), (0, .slice Ap0 a0.length cp0), (1, .slice Ap1 a1.length cp1), (2, .int .u64 a2), (7, .slice A2 x2.length c2), (8, .int .i64 x3)]) (nx' := nx2 + 1) (L' := [⟨nx2, [.int .i64 ((a0.getD (x3).toNat z32).f0), .int .i64 ((a0.getD (x3).toNat z32).f1), .int .i64 ((a0.getD (x3).toNat z32).f2), .int .i64 ((a0.getD (x3).toNat z32).f3), .int .u32 ((a0.getD (x3).toNat z32).f4), .int .i64 ((a0.getD (x3).toNat z32).f5.f0), .string ((a0.getD (x3).toNat z32).f5.f1), .slice A5_5_2_ (((a0.getD (x3).toNat z32).f5.f2).length) c5_5_2_], 32⟩]) [(⟨g5_, o5_ + (x3).toNat * 8, none⟩, .int .i64 ((a0.getD (x3).toNat z32).f0)), (⟨g5_, o5_ + (x3).toNat * 8 + 1, none⟩, .int .i64 ((a0.getD (x3).toNat z32).f1)), (⟨g5_, o5_ + (x3).toNat * 8 + 2, none⟩, .int .i64 ((a0.getD (x3).toNat z32).f2)), (⟨g5_, o5_ + (x3).toNat * 8 + 3, none⟩, .int .i64 ((a0.getD (x3).toNat z32).f3)), (⟨g5_, o5_ + (x3).toNat * 8 + 4, none⟩, .int .u32 ((a0.getD (x3).toNat z32).f4)), (⟨g5_, o5_ + (x3).toNat * 8 + 5, none⟩, .int .i64 ((a0.getD (x3).toNat z32).f5.f0)), (⟨g5_, o5_ + (x3).toNat * 8 + 6, none⟩, .string ((a0.getD (x3).toNat z32).f5.f1)), (⟨g5_, o5_ + (x3).toNat * 8 + 7, none⟩, .slice A5_5_2_ (((a0.getD (x3).toNat z32).f5.f2).length) c5_5_2_)] (RFacts.imm (hc5_ 0 _ rfl) (RFacts.imm (hc5_ 1 _ rfl) (RFacts.imm (hc5_ 2 _ rfl) (RFacts.imm (hc5_ 3 _ rfl) (RFacts.imm (hc5_ 4 _ rfl) (RFacts.imm (hc5_ 5 _ rfl) (RFacts.imm (hc5_ 6 _ rfl) (RFacts.imm (hc5_ 7 _ rfl) (RFacts.nil _ _ _))))))))) 2 [.r 0, .no] (by kernel_rfl) (by kernel_rfl) ?_
                by_cases hz3 : (x2.length + [(a0.getD (x3).toNat z32)].length) * 88 ≤ 140737488355328
                case neg => rw [if_neg hz3] at H; cases H
                rw [if_pos hz3] at H
                refine RL.appendB (T := 22) (e := 32) (S := A2) 8 88 22 c2 0 1 nx2 32 cs2 [.int .i64 ((a0.getD (x3).toNat z32).f0), .int .i64 ((a0.getD (x3).toNat z32).f1), .int .i64 ((a0.getD (x3).toNat z32).f2), .int .i64 ((a0.getD (x3).toNat z32).f3), .int .u32 ((a0.getD (x3).toNat z32).f4), .int .i64 ((a0.getD (x3).toNat z32).f5.f0), .string ((a0.getD (x3).toNat z32).f5.f1), .slice A5_5_2_ (((a0.getD (x3).toNat z32).f5.f2).length) c5_5_2_] t32 x2 [(a0.getD (x3).toNat z32)] 0 (some 43) (by kernel_rfl) (by kernel_rfl) (by kernel_rfl) (by kernel_rfl) (by kernel_rfl) (by decide) (by kernel_rfl) hp2 (by kernel_rfl) ⟨_, _, rfl, (t32_mk _ _ hl5_5_2_ hr5_5_2_), rfl⟩ hz3 (by omega) (fun A8 c8 nx9 cs8 hp10 => ?_)
                refine RL.sub (K' := [(43, .slice A8 ((x2 ++ [(a0.getD (x3).toNat z32)]).length) c8), (42, .slice (some ⟨nx2, 0, none⟩) 1 1), (0, .slice Ap0 a0.length cp0), (1, .slice Ap1 a1.length cp1), (2, .int .u64 a2), (8, .int .i64 x3)]) (L' := [⟨nx2, [.int .i64 ((a0.getD (x3).toNat z32).f0), .int .i64 ((a0.getD (x3).toNat z32).f1), .int .i64 ((a0.getD (x3).toNat z32).f2), .int .i64 ((a0.getD (x3).toNat z32).f3), .int .u32 ((a0.getD (x3).toNat z32).f4), .int .i64 ((a0.getD (x3).toNat z32).f5.f0), .string ((a0.getD (x3).toNat z32).f5.f1), .slice A5_5_2_ (((a0.getD (x3).toNat z32).f5.f2).length) c5_5_2_], 32⟩]) (X' := [orow 32 8 A8 ((x2 ++ [(a0.getD (x3).toNat z32)]).length) c8 cs8]) (by kernel_rfl) (.refl _) (.refl _) ?_
                refine RL.simP (K' := [(7, .slice A8 ((x2 ++ [(a0.getD (x3).toNat z32)]).length) c8), (0, .slice Ap0 a0.length cp0), (1, .slice Ap1 a1.length cp1), (2, .int .u64 a2), (8, .int .i64 x3)]) (nx' := nx9) (L' := [⟨nx2, [.int .i64 ((a0.getD (x3).toNat z32).f0), .int .i64 ((a0.getD (x3).toNat z32).f1), .int .i64 ((a0.getD (x3).toNat z32).f2), .int .i64 ((a0.getD (x3).toNat z32).f3), .int .u32 ((a0.getD (x3).toNat z32).f4), .int .i64 ((a0.getD (x3).toNat z32).f5.f0), .string ((a0.getD (x3).toNat z32).f5.f1), .slice A5_5_2_ (((a0.getD (x3).toNat z32).f5.f2).length) c5_5_2_], 32⟩]) [] (RFacts.nil _ _ _) 1 [.no] (by kernel_rfl) (by kernel_rfl) ?_
                refine RL.nil (by kernel_rfl) ?_
                obtain rfl := Option.some.inj H
                refine QN.sub (K' := [(0, .slice Ap0 a0.length cp0), (1, .slice Ap1 a1.length cp1), (2, .int .u64 a2), (7, .slice A8 ((x2 ++ [(a0.getD (x3).toNat z32)]).length) c8), (8, .int .i64 x3)]) (L' := []) (by kernel_rfl) (.cons _ .slnil) (.refl _) ?_
                exact hJ4 _ _ _ _ _ ⟨(x2 ++ [(a0.getD (x3).toNat z32)]), A8, c8, cs8, rfl, rfl, rfl, (Imm.le_refl _), hp10, HK3⟩
      · skip
        have hc := (of_decide_eq_false hb)
        rw [if_neg hc] at H
        clear hb
        refine OK.exit 0 (by kernel_rfl) ?_
        refine QN.thenE ?_
        refine QN.outE hQ2 ?_
        refine QN.blkE ?_
        obtain rfl := Option.some.inj H
        refine QN.sub (K' := [(7, .slice A2 x2.length c2)]) (L' := []) (by kernel_rfl) .slnil (.refl _) ?_
        exact hJ1 _ _ _ _ _ ⟨x2, A2, c2, cs2, rfl, rfl, rfl, hi2, hp2, HK1⟩

end Go.Proofs.Ytieakigoinebdaa
