/- What a function of the program computes, and the walk that shows it; made by a program of the session's out of the translation; no conditions beyond those that the theorems name. -/
import Derived.Test.YtieakigoinebdaaS
namespace Go.Proofs.Ytieakigoinebdaa
open Go Go.Proofs.Ytieakigoinebdaa.RW
set_option linter.unusedVariables false
set_option maxRecDepth 100000
set_option maxHeartbeats 8000000

/-! ### armillaryref27_Checksum: function 41, armillary/armillaryref27.Checksum -/
noncomputable def K41_0 : Code := cBody Try.f41
noncomputable def K41_1 : Code := cL K41_0
noncomputable def O41_1 : List Oper := cOps K41_1
noncomputable def K41_3 : Code := cR K41_0
noncomputable def K41_4 : Code := cL K41_3
noncomputable def O41_4 : List Oper := cOps K41_4
noncomputable def K41_6 : Code := cR K41_3
noncomputable def K41_7 : Code := cL K41_6
noncomputable def K41_8 : Code := cL K41_7
noncomputable def O41_8 : List Oper := cOps K41_8
noncomputable def K41_10 : Code := cR K41_7
noncomputable def K41_11 : Code := cL K41_10
noncomputable def K41_12 : Code := cL K41_11
noncomputable def K41_13 : Code := cL K41_12
noncomputable def K41_14 : Code := cL K41_13
noncomputable def O41_14 : List Oper := cOps K41_14
noncomputable def K41_16 : Code := cR K41_13
noncomputable def K41_17 : Code := cL K41_16
noncomputable def K41_18 : Code := cR K41_16
noncomputable def K41_19 : Code := cR K41_12
noncomputable def K41_20 : Code := cL K41_19
noncomputable def K41_21 : Code := cL K41_20
noncomputable def K41_22 : Code := cL K41_21
noncomputable def O41_22 : List Oper := cOps K41_22
noncomputable def K41_24 : Code := cR K41_21
noncomputable def K41_25 : Code := cL K41_24
noncomputable def O41_25 : List Oper := cOps K41_25
noncomputable def K41_27 : Code := cR K41_24
noncomputable def K41_28 : Code := cL K41_27
noncomputable def K41_29 : Code := cL K41_28
noncomputable def K41_30 : Code := cL K41_29
noncomputable def K41_31 : Code := cL K41_30
noncomputable def O41_31 : List Oper := cOps K41_31
noncomputable def K41_33 : Code := cR K41_30
noncomputable def K41_34 : Code := cL K41_33
noncomputable def K41_35 : Code := cR K41_33
noncomputable def K41_36 : Code := cR K41_29
noncomputable def K41_37 : Code := cL K41_36
noncomputable def K41_38 : Code := cL K41_37
noncomputable def K41_39 : Code := cL K41_38
noncomputable def O41_39 : List Oper := cOps K41_39
noncomputable def K41_41 : Code := cR K41_38
noncomputable def K41_42 : Code := cL K41_41
noncomputable def O41_42 : List Oper := cOps K41_42
noncomputable def K41_44 : Code := cR K41_41
noncomputable def O41_44 : List Oper := cOps K41_44
noncomputable def K41_46 : Code := cR K41_36
noncomputable def O41_46 : List Oper := cOps K41_46
noncomputable def K41_48 : Code := cR K41_19
noncomputable def O41_48 : List Oper := cOps K41_48
noncomputable def K41_50 : Code := cR K41_6
noncomputable def K41_51 : Code := cL K41_50
noncomputable def O41_51 : List Oper := cOps K41_51
noncomputable def K41_53 : Code := cR K41_50
def armillaryref27_Checksum.k1  (x1 : Int) : Option (Int) := (some (bXor .u32 x1 4294967295))
def armillaryref27_Checksum.k3  (x5 : Int) : Option (Int) := (some x5)
def armillaryref27_Checksum.l2 : Nat → Int → Int → Option (Int)
  | 0, _, _ => none
  | k + 1, x6, x7 => (if x7 < 8 then ((if (bAnd .u32 x6 1) = 1 then (some (bXor .u32 (Int.fdiv x6 2) 3988292384)) else (some (Int.fdiv x6 2))).bind (fun x8 => (armillaryref27_Checksum.l2 k x8 (W .i64 (x7 + 1))))) else (some x6))
def armillaryref27_Checksum.l1 (a0 : List Int) : Nat → Int → Int → Option (Int)
  | 0, _, _ => none
  | k + 1, x2, x3 => (if x3 < (a0.length : Int) then ((if 0 ≤ x3 then (if x3 < (a0.length : Int) then ((armillaryref27_Checksum.l2 k (bXor .u32 x2 (W .u32 ((a0.getD (x3).toNat 0)))) 0).bind (armillaryref27_Checksum.k3)) else none) else none).bind (fun x4 => (armillaryref27_Checksum.l1 a0 k x4 (W .i64 (x3 + 1))))) else (some x2))
def armillaryref27_Checksum.f (k : Nat) (a0 : List Int) : Option (Int) := ((armillaryref27_Checksum.l1 a0 k 4294967295 0).bind (armillaryref27_Checksum.k1))
def armillaryref27_Checksum.Post (I : Imm) (w : World) (r : Int) (v : Value) (w' : World) : Prop :=
  ∃ (J : Imm), v = .int .u32 r ∧ Got w w' I J []
theorem armillaryref27_Checksum.calls (k : Nat) (I0 : Imm) (a0 : List Int) (Ap0 : Option Addr) (cp0 : Nat) (w : World) (hI : I0.at_ w) (hlp0 : a0.length ≤ cp0) (hrp0 : Rd (Ty.int .u8) I0 Ap0 a0) (r : Int) (h : armillaryref27_Checksum.f k a0 = some r) :
    Calls Try.prog 41 [.slice Ap0 a0.length cp0].toArray w fun e w' => ∃ v, e = .returned v ∧ armillaryref27_Checksum.Post I0 w r v w' := by
  have H : ((armillaryref27_Checksum.l1 a0 k 4294967295 0).bind (armillaryref27_Checksum.k1)) = some r := h
  clear h
  refine calls_body Try.func41 (by kernel_rfl) 33 (by kernel_rfl) (by kernel_rfl) ⟨w, fun _ => False, I0⟩ I0 [] [(0, .slice Ap0 a0.length cp0)] (by kernel_rfl) (Sat.start w _ I0 hI) ?_
  generalize w.heap.size = nx0
  show OK _ K41_0 _ _ _ _ _ _ _ _
  refine OK.seq K41_1 K41_3 (by kernel_rfl) ?_
  refine OK.region 0 O41_1 (by kernel_rfl) ?_
  refine RL.simP (K' := [(0, .slice Ap0 a0.length cp0)]) (nx' := nx0) (L' := []) [] (RFacts.nil _ _ _) 1 [.no] (by kernel_rfl) (by kernel_rfl) ?_
  refine RL.nil (by kernel_rfl) ?_
  refine QN.then_ ?_
  refine OK.seq K41_4 K41_6 (by kernel_rfl) ?_
  refine OK.region 1 O41_4 (by kernel_rfl) ?_
  refine RL.simP (K' := [(3, .int .u32 4294967295), (0, .slice Ap0 a0.length cp0)]) (nx' := nx0) (L' := []) [] (RFacts.nil _ _ _) 1 [.no] (by kernel_rfl) (by kernel_rfl) ?_
  refine RL.nil (by kernel_rfl) ?_
  refine QN.then_ ?_
  refine OK.seq K41_7 K41_50 (by kernel_rfl) ?_
  refine OK.seq K41_8 K41_10 (by kernel_rfl) ?_
  refine OK.region 2 O41_8 (by kernel_rfl) ?_
  refine RL.simP (K' := [(4, .int .i64 0), (3, .int .u32 4294967295), (0, .slice Ap0 a0.length cp0)]) (nx' := nx0) (L' := []) [] (RFacts.nil _ _ _) 1 [.no] (by kernel_rfl) (by kernel_rfl) ?_
  refine RL.nil (by kernel_rfl) ?_
  refine QN.then_ ?_
  refine OK.join (fun K' I' _ L' X' => ∃ (x1 : Int), K' = [(3, .int .u32 x1)] ∧ L' = [] ∧ X' = [] ∧ Imm.le I0 I' ∧ armillaryref27_Checksum.k1 x1 = some r) ?_ ?_
  · rintro _ I1 nx1 _ _ ⟨x1, rfl, rfl, rfl, hi1, H⟩
    replace H : (some (bXor .u32 x1 4294967295)) = some r := H
    refine QN.then_ ?_
    refine OK.seq K41_51 K41_53 (by kernel_rfl) ?_
    refine OK.region 12 O41_51 (by kernel_rfl) ?_
    refine RL.simP (K' := [(2, .int .u32 (bXor .u32 x1 4294967295))]) (nx' := nx1) (L' := []) [] (RFacts.nil _ _ _) 3 [.no, .no, .no] (by kernel_rfl) (by kernel_rfl) ?_
    refine RL.nil (by kernel_rfl) ?_
    refine QN.then_ ?_
    refine OK.ret (by kernel_rfl) ?_
    obtain rfl := Option.some.inj H
    refine QN.body rfl [] (RFacts.nil _ _ _) (.no) (.int .u32 (bXor .u32 x1 4294967295)) (by kernel_rfl) (by kernel_rfl) (by kernel_rfl) ?_ _ (.inr rfl)
    exact fun w' hs' => ⟨_, rfl, I1, rfl, hs'.got _ .slnil⟩
  · intro Q_1 hJ1 hQ1
    obtain ⟨y1, H, HK1⟩ := Option.bind_eq_some_iff.mp H
    refine OK.block 0 K41_11 (by kernel_rfl) ?_
    refine OK.sub (K' := [(0, .slice Ap0 a0.length cp0), (3, .int .u32 4294967295), (4, .int .i64 0)]) (L' := []) (by kernel_rfl) .slnil (.refl _) ?_
    refine OK.loopInv K41_12 (by kernel_rfl) (fun n_ K' I' _ L' X' => ∃ (x2 : Int) (x3 : Int), K' = [(0, .slice Ap0 a0.length cp0), (3, .int .u32 x2), (4, .int .i64 x3)] ∧ L' = [] ∧ X' = [] ∧ Imm.le I0 I' ∧ armillaryref27_Checksum.l1 a0 n_ x2 x3 = some y1) k ⟨4294967295, 0, rfl, rfl, rfl, (Imm.le_refl _), H⟩ ?_ ?_
    · rintro _ _ _ _ _ ⟨x2, x3, rfl, rfl, rfl, _, H⟩
      cases H
    · rintro kq1 _ I2 nx2 _ _ ⟨x2, x3, rfl, rfl, rfl, hi2, H⟩ Q_l1 hJ2 hQ2
      replace H : (if x3 < (a0.length : Int) then ((if 0 ≤ x3 then (if x3 < (a0.length : Int) then ((armillaryref27_Checksum.l2 kq1 (bXor .u32 x2 (W .u32 ((a0.getD (x3).toNat 0)))) 0).bind (armillaryref27_Checksum.k3)) else none) else none).bind (fun x4 => (armillaryref27_Checksum.l1 a0 kq1 x4 (W .i64 (x3 + 1))))) else (some x2)) = some y1 := H
      refine OK.seq K41_13 K41_19 (by kernel_rfl) ?_
      refine OK.seq K41_14 K41_16 (by kernel_rfl) ?_
      refine OK.region 3 O41_14 (by kernel_rfl) ?_
      refine RL.simP (K' := [(9, .bool (decide (x3 < (a0.length : Int)))), (0, .slice Ap0 a0.length cp0), (3, .int .u32 x2), (4, .int .i64 x3)]) (nx' := nx2) (L' := []) [] (RFacts.nil _ _ _) 4 [.no, .no, .no, .no] (by kernel_rfl) (by kernel_rfl) ?_
      refine RL.nil (by kernel_rfl) ?_
      refine QN.then_ ?_
      refine OK.cond (.tmp 9) K41_17 K41_18 (decide (x3 < (a0.length : Int))) (by kernel_rfl) (by kernel_rfl) (by kernel_rfl) (fun hb => ?_) (fun hb => ?_)
      · skip
        have hc := (of_decide_eq_true hb)
        rw [if_pos hc] at H
        clear hb
        refine OK.skip (by kernel_rfl) ?_
        refine QN.then_ ?_
        refine OK.seq K41_20 K41_48 (by kernel_rfl) ?_
        refine OK.join (fun K' I' _ L' X' => ∃ (x4 : Int), K' = [(0, .slice Ap0 a0.length cp0), (3, .int .u32 x4), (4, .int .i64 x3)] ∧ L' = [] ∧ X' = [] ∧ Imm.le I2 I' ∧ (armillaryref27_Checksum.l1 a0 kq1 x4 (W .i64 (x3 + 1))) = some y1) ?_ ?_
        · rintro _ I3 nx3 _ _ ⟨x4, rfl, rfl, rfl, hi3, H⟩
          replace H : (armillaryref27_Checksum.l1 a0 kq1 x4 (W .i64 (x3 + 1))) = some y1 := H
          refine QN.then_ ?_
          refine OK.region 4 O41_48 (by kernel_rfl) ?_
          refine RL.simP (K' := [(4, .int .i64 (W .i64 (x3 + 1))), (0, .slice Ap0 a0.length cp0), (3, .int .u32 x4)]) (nx' := nx3) (L' := []) [] (RFacts.nil _ _ _) 3 [.no, .no, .no] (by kernel_rfl) (by kernel_rfl) ?_
          refine RL.nil (by kernel_rfl) ?_
          refine QN.sub (K' := [(0, .slice Ap0 a0.length cp0), (3, .int .u32 x4), (4, .int .i64 (W .i64 (x3 + 1)))]) (L' := []) (by kernel_rfl) .slnil (.refl _) ?_
          exact hJ2 _ _ _ _ _ ⟨x4, W .i64 (x3 + 1), rfl, rfl, rfl, (Imm.le_trans hi2 hi3), H⟩
        · intro Q_2 hJ3 hQ3
          obtain ⟨y2, H, HK2⟩ := Option.bind_eq_some_iff.mp H
          refine OK.block 1 K41_21 (by kernel_rfl) ?_
          refine OK.seq K41_22 K41_24 (by kernel_rfl) ?_
          refine OK.region 5 O41_22 (by kernel_rfl) ?_
          refine RL.simP (K' := [(14, .int .i64 x3), (13, .slice Ap0 a0.length cp0), (12, .int .u32 x2), (0, .slice Ap0 a0.length cp0), (3, .int .u32 x2), (4, .int .i64 x3)]) (nx' := nx2) (L' := []) [] (RFacts.nil _ _ _) 3 [.no, .no, .no] (by kernel_rfl) (by kernel_rfl) ?_
          by_cases hib0 : 0 ≤ x3
          case neg => rw [if_neg hib0] at H; cases H
          rw [if_pos hib0] at H
          by_cases hib1 : x3 < (a0.length : Int)
          case neg => rw [if_neg hib1] at H; cases H
          rw [if_pos hib1] at H
          obtain ⟨g1_, o1_, hA1_, hc1_⟩ := Ty.int_at (Rd.ext hi2 hrp0) x3 hib0 hib1
          refine RL.idx 1 .i64 x3 hA1_ a0.length cp0 (some 15) (by kernel_rfl) (by kernel_rfl) (T := 28) (e := 5) (by kernel_rfl) (by kernel_rfl) hib0 hib1 (K' := [(15, .pointer (some ⟨g1_, o1_ + (x3).toNat * 1, none⟩)), (14, .int .i64 x3), (13, .slice Ap0 a0.length cp0), (12, .int .u32 x2), (0, .slice Ap0 a0.length cp0), (3, .int .u32 x2), (4, .int .i64 x3)]) (by kernel_rfl) ?_
          refine RL.simP (K' := [(3, .int .u32 (bXor .u32 x2 (W .u32 ((a0.getD (x3).toNat 0))))), (0, .slice Ap0 a0.length cp0), (4, .int .i64 x3)]) (nx' := nx2) (L' := []) [(⟨g1_, o1_ + (x3).toNat * 1, none⟩, .int .u8 (a0.getD (x3).toNat 0))] (RFacts.imm (hc1_ 0 _ rfl) (RFacts.nil _ _ _)) 4 [.r 0, .no, .no, .no] (by kernel_rfl) (by kernel_rfl) ?_
          refine RL.nil (by kernel_rfl) ?_
          refine QN.then_ ?_
          refine OK.seq K41_25 K41_27 (by kernel_rfl) ?_
          refine OK.region 6 O41_25 (by kernel_rfl) ?_
          refine RL.simP (K' := [(5, .int .i64 0), (3, .int .u32 (bXor .u32 x2 (W .u32 ((a0.getD (x3).toNat 0))))), (0, .slice Ap0 a0.length cp0), (4, .int .i64 x3)]) (nx' := nx2) (L' := []) [] (RFacts.nil _ _ _) 1 [.no] (by kernel_rfl) (by kernel_rfl) ?_
          refine RL.nil (by kernel_rfl) ?_
          refine QN.then_ ?_
          refine OK.join (fun K' I' _ L' X' => ∃ (x5 : Int), K' = [(0, .slice Ap0 a0.length cp0), (3, .int .u32 x5), (4, .int .i64 x3)] ∧ L' = [] ∧ X' = [] ∧ Imm.le I2 I' ∧ armillaryref27_Checksum.k3 x5 = some y2) ?_ ?_
          · rintro _ I4 nx4 _ _ ⟨x5, rfl, rfl, rfl, hi4, H⟩
            replace H : (some x5) = some y2 := H
            refine QN.blkN ?_
            obtain rfl := Option.some.inj H
            refine QN.sub (K' := [(0, .slice Ap0 a0.length cp0), (3, .int .u32 x5), (4, .int .i64 x3)]) (L' := []) (by kernel_rfl) .slnil (.refl _) ?_
            exact hJ3 _ _ _ _ _ ⟨x5, rfl, rfl, rfl, hi4, HK2⟩
          · intro Q_3 hJ4 hQ4
            obtain ⟨y3, H, HK3⟩ := Option.bind_eq_some_iff.mp H
            refine OK.block 2 K41_28 (by kernel_rfl) ?_
            refine OK.sub (K' := [(0, .slice Ap0 a0.length cp0), (3, .int .u32 (bXor .u32 x2 (W .u32 ((a0.getD (x3).toNat 0))))), (4, .int .i64 x3), (5, .int .i64 0)]) (L' := []) (by kernel_rfl) .slnil (.refl _) ?_
            refine OK.loopInv K41_29 (by kernel_rfl) (fun n_ K' I' _ L' X' => ∃ (x6 : Int) (x7 : Int), K' = [(0, .slice Ap0 a0.length cp0), (3, .int .u32 x6), (4, .int .i64 x3), (5, .int .i64 x7)] ∧ L' = [] ∧ X' = [] ∧ Imm.le I2 I' ∧ armillaryref27_Checksum.l2 n_ x6 x7 = some y3) kq1 ⟨bXor .u32 x2 (W .u32 ((a0.getD (x3).toNat 0))), 0, rfl, rfl, rfl, (Imm.le_refl _), H⟩ ?_ ?_
            · rintro _ _ _ _ _ ⟨x6, x7, rfl, rfl, rfl, _, H⟩
              cases H
            · rintro kq2 _ I5 nx5 _ _ ⟨x6, x7, rfl, rfl, rfl, hi5, H⟩ Q_l2 hJ5 hQ5
              replace H : (if x7 < 8 then ((if (bAnd .u32 x6 1) = 1 then (some (bXor .u32 (Int.fdiv x6 2) 3988292384)) else (some (Int.fdiv x6 2))).bind (fun x8 => (armillaryref27_Checksum.l2 kq2 x8 (W .i64 (x7 + 1))))) else (some x6)) = some y3 := H
              refine OK.seq K41_30 K41_36 (by kernel_rfl) ?_
              refine OK.seq K41_31 K41_33 (by kernel_rfl) ?_
              refine OK.region 7 O41_31 (by kernel_rfl) ?_
              refine RL.simP (K' := [(20, .bool (decide (x7 < 8))), (0, .slice Ap0 a0.length cp0), (3, .int .u32 x6), (4, .int .i64 x3), (5, .int .i64 x7)]) (nx' := nx5) (L' := []) [] (RFacts.nil _ _ _) 2 [.no, .no] (by kernel_rfl) (by kernel_rfl) ?_
              refine RL.nil (by kernel_rfl) ?_
              refine QN.then_ ?_
              refine OK.cond (.tmp 20) K41_34 K41_35 (decide (x7 < 8)) (by kernel_rfl) (by kernel_rfl) (by kernel_rfl) (fun hb => ?_) (fun hb => ?_)
              · skip
                have hc := (of_decide_eq_true hb)
                rw [if_pos hc] at H
                clear hb
                refine OK.skip (by kernel_rfl) ?_
                refine QN.then_ ?_
                refine OK.seq K41_37 K41_46 (by kernel_rfl) ?_
                refine OK.block 3 K41_38 (by kernel_rfl) ?_
                refine OK.seq K41_39 K41_41 (by kernel_rfl) ?_
                refine OK.region 9 O41_39 (by kernel_rfl) ?_
                refine RL.simP (K' := [(25, .bool ((bAnd .u32 x6 1) == 1)), (0, .slice Ap0 a0.length cp0), (3, .int .u32 x6), (4, .int .i64 x3), (5, .int .i64 x7)]) (nx' := nx5) (L' := []) [] (RFacts.nil _ _ _) 3 [.no, .no, .no] (by kernel_rfl) (by kernel_rfl) ?_
                refine RL.nil (by kernel_rfl) ?_
                refine QN.then_ ?_
                refine OK.join (fun K' I' _ L' X' => ∃ (x8 : Int), K' = [(0, .slice Ap0 a0.length cp0), (3, .int .u32 x8), (4, .int .i64 x3), (5, .int .i64 x7)] ∧ L' = [] ∧ X' = [] ∧ Imm.le I5 I' ∧ (armillaryref27_Checksum.l2 kq2 x8 (W .i64 (x7 + 1))) = some y3) ?_ ?_
                · rintro _ I6 nx6 _ _ ⟨x8, rfl, rfl, rfl, hi6, H⟩
                  replace H : (armillaryref27_Checksum.l2 kq2 x8 (W .i64 (x7 + 1))) = some y3 := H
                  refine QN.blkN ?_
                  refine QN.then_ ?_
                  refine OK.region 8 O41_46 (by kernel_rfl) ?_
                  refine RL.simP (K' := [(5, .int .i64 (W .i64 (x7 + 1))), (0, .slice Ap0 a0.length cp0), (3, .int .u32 x8), (4, .int .i64 x3)]) (nx' := nx6) (L' := []) [] (RFacts.nil _ _ _) 3 [.no, .no, .no] (by kernel_rfl) (by kernel_rfl) ?_
                  refine RL.nil (by kernel_rfl) ?_
                  refine QN.sub (K' := [(0, .slice Ap0 a0.length cp0), (3, .int .u32 x8), (4, .int .i64 x3), (5, .int .i64 (W .i64 (x7 + 1)))]) (L' := []) (by kernel_rfl) .slnil (.refl _) ?_
                  exact hJ5 _ _ _ _ _ ⟨x8, W .i64 (x7 + 1), rfl, rfl, rfl, (Imm.le_trans hi5 hi6), H⟩
                · intro Q_4 hJ6 hQ6
                  obtain ⟨y4, H, HK4⟩ := Option.bind_eq_some_iff.mp H
                  refine OK.cond (.tmp 25) K41_42 K41_44 ((bAnd .u32 x6 1) == 1) (by kernel_rfl) (by kernel_rfl) (by kernel_rfl) (fun hb => ?_) (fun hb => ?_)
                  · skip
                    have hc := (beq_iff_eq.1 hb)
                    rw [if_pos hc] at H
                    clear hb
                    refine OK.region 10 O41_42 (by kernel_rfl) ?_
                    refine RL.simP (K' := [(3, .int .u32 (bXor .u32 (Int.fdiv x6 2) 3988292384)), (0, .slice Ap0 a0.length cp0), (4, .int .i64 x3), (5, .int .i64 x7)]) (nx' := nx5) (L' := []) [] (RFacts.nil _ _ _) 4 [.no, .no, .no, .no] (by kernel_rfl) (by kernel_rfl) ?_
                    refine RL.nil (by kernel_rfl) ?_
                    obtain rfl := Option.some.inj H
                    refine QN.sub (K' := [(0, .slice Ap0 a0.length cp0), (3, .int .u32 (bXor .u32 (Int.fdiv x6 2) 3988292384)), (4, .int .i64 x3), (5, .int .i64 x7)]) (L' := []) (by kernel_rfl) .slnil (.refl _) ?_
                    exact hJ6 _ _ _ _ _ ⟨bXor .u32 (Int.fdiv x6 2) 3988292384, rfl, rfl, rfl, (Imm.le_refl _), HK4⟩
                  · skip
                    have hc := (beq_eq_false_iff_ne.1 hb)
                    rw [if_neg hc] at H
                    clear hb
                    refine OK.region 11 O41_44 (by kernel_rfl) ?_
                    refine RL.simP (K' := [(3, .int .u32 (Int.fdiv x6 2)), (0, .slice Ap0 a0.length cp0), (4, .int .i64 x3), (5, .int .i64 x7)]) (nx' := nx5) (L' := []) [] (RFacts.nil _ _ _) 3 [.no, .no, .no] (by kernel_rfl) (by kernel_rfl) ?_
                    refine RL.nil (by kernel_rfl) ?_
                    obtain rfl := Option.some.inj H
                    refine QN.sub (K' := [(0, .slice Ap0 a0.length cp0), (3, .int .u32 (Int.fdiv x6 2)), (4, .int .i64 x3), (5, .int .i64 x7)]) (L' := []) (by kernel_rfl) .slnil (.refl _) ?_
                    exact hJ6 _ _ _ _ _ ⟨Int.fdiv x6 2, rfl, rfl, rfl, (Imm.le_refl _), HK4⟩
              · skip
                have hc := (of_decide_eq_false hb)
                rw [if_neg hc] at H
                clear hb
                refine OK.exit 2 (by kernel_rfl) ?_
                refine QN.thenE ?_
                refine QN.outE hQ5 ?_
                refine QN.blkE ?_
                obtain rfl := Option.some.inj H
                refine QN.sub (K' := [(0, .slice Ap0 a0.length cp0), (3, .int .u32 x6), (4, .int .i64 x3)]) (L' := []) (by kernel_rfl) .slnil (.refl _) ?_
                exact hJ4 _ _ _ _ _ ⟨x6, rfl, rfl, rfl, hi5, HK3⟩
      · skip
        have hc := (of_decide_eq_false hb)
        rw [if_neg hc] at H
        clear hb
        refine OK.exit 0 (by kernel_rfl) ?_
        refine QN.thenE ?_
        refine QN.outE hQ2 ?_
        refine QN.blkE ?_
        obtain rfl := Option.some.inj H
        refine QN.sub (K' := [(3, .int .u32 x2)]) (L' := []) (by kernel_rfl) .slnil (.refl _) ?_
        exact hJ1 _ _ _ _ _ ⟨x2, rfl, rfl, rfl, hi2, HK1⟩

end Go.Proofs.Ytieakigoinebdaa
