/- What a function of the program computes, and the walk that shows it; made by a program of the session's out of the translation; no conditions beyond those that the theorems name. -/
import Derived.Test.YtieakigoinebdaaS
namespace Go.Proofs.Ytieakigoinebdaa
open Go Go.Proofs.Ytieakigoinebdaa.RW
set_option linter.unusedVariables false
set_option maxRecDepth 100000
set_option maxHeartbeats 8000000

/-! ### codec_validEntry: function 49, armillary/codec.validEntry -/
noncomputable def K49_0 : Code := cBody Try.f49
noncomputable def K49_1 : Code := cL K49_0
noncomputable def O49_1 : List Oper := cOps K49_1
noncomputable def K49_3 : Code := cR K49_0
noncomputable def K49_4 : Code := cL K49_3
noncomputable def O49_4 : List Oper := cOps K49_4
noncomputable def K49_6 : Code := cR K49_3
def codec_validEntry.k1  (x1 : Bool) : Option (Bool) := (some x1)
def codec_validEntry.f (a0 : S30) : Option (Bool) := ((if a0.f0 ≥ 1 then (if a0.f0 ≤ 4 then (if (a0.f1.size : Int) ≥ 1 then (if (a0.f1.size : Int) ≤ 40 then (some (decide ((a0.f2.length : Int) ≤ 20000))) else (some false)) else (some false)) else (some false)) else (some false)).bind (codec_validEntry.k1))
def codec_validEntry.Post (I : Imm) (w : World) (r : Bool) (v : Value) (w' : World) : Prop :=
  ∃ (J : Imm), v = .bool r ∧ Got w w' I J []
theorem codec_validEntry.calls (I0 : Imm) (a0 : S30) (Ap0_2 : Option Addr) (cp0_2 : Nat) (w : World) (hI : I0.at_ w) (hlp0_2 : a0.f2.length ≤ cp0_2) (hrp0_2 : Rd (Ty.int .u8) I0 Ap0_2 a0.f2) (r : Bool) (h : codec_validEntry.f a0 = some r) :
    Calls Try.prog 49 [.agg #[.int .i64 a0.f0, .string a0.f1, .slice Ap0_2 a0.f2.length cp0_2]].toArray w fun e w' => ∃ v, e = .returned v ∧ codec_validEntry.Post I0 w r v w' := by
  have H : ((if a0.f0 ≥ 1 then (if a0.f0 ≤ 4 then (if (a0.f1.size : Int) ≥ 1 then (if (a0.f1.size : Int) ≤ 40 then (some (decide ((a0.f2.length : Int) ≤ 20000))) else (some false)) else (some false)) else (some false)) else (some false)).bind (codec_validEntry.k1)) = some r := h
  clear h
  refine calls_body Try.func49 (by kernel_rfl) 29 (by kernel_rfl) (by kernel_rfl) ⟨w, fun _ => False, I0⟩ I0 [] [(0, .agg #[.int .i64 a0.f0, .string a0.f1, .slice Ap0_2 a0.f2.length cp0_2])] (by kernel_rfl) (Sat.start w _ I0 hI) ?_
  generalize w.heap.size = nx0
  show OK _ K49_0 _ _ _ _ _ _ _ _
  refine OK.seq K49_1 K49_3 (by kernel_rfl) ?_
  refine OK.region 0 O49_1 (by kernel_rfl) ?_
  refine RL.simP (K' := [(1, .pointer (some ⟨nx0, 0, none⟩))]) (nx' := nx0 + 1) (L' := [⟨nx0, [.int .i64 a0.f0, .string a0.f1, .slice Ap0_2 a0.f2.length cp0_2], 30⟩]) [] (RFacts.nil _ _ _) 2 [.no, .no] (by kernel_rfl) (by kernel_rfl) ?_
  refine RL.nil (by kernel_rfl) ?_
  refine QN.then_ ?_
  refine OK.seq K49_4 K49_6 (by kernel_rfl) ?_
  refine OK.join (fun K' I' _ L' X' => ∃ (x1 : Bool), K' = [(2, .bool x1)] ∧ L' = [⟨nx0, [.int .i64 a0.f0, .string a0.f1, .slice Ap0_2 a0.f2.length cp0_2], 30⟩] ∧ X' = [] ∧ Imm.le I0 I' ∧ codec_validEntry.k1 x1 = some r) ?_ ?_
  · rintro _ I1 nx1 _ _ ⟨x1, rfl, rfl, rfl, hi1, H⟩
    replace H : (some x1) = some r := H
    refine QN.then_ ?_
    refine OK.ret (by kernel_rfl) ?_
    obtain rfl := Option.some.inj H
    refine QN.body rfl [] (RFacts.nil _ _ _) (.no) (.bool x1) (by kernel_rfl) (by kernel_rfl) (by kernel_rfl) ?_ _ (.inr rfl)
    exact fun w' hs' => ⟨_, rfl, I1, rfl, hs'.got _ .slnil⟩
  · intro Q_1 hJ1 hQ1
    obtain ⟨y1, H, HK1⟩ := Option.bind_eq_some_iff.mp H
    refine OK.region 1 O49_4 (by kernel_rfl) ?_
    refine RL.simP (K' := [(6, .bool (decide (a0.f0 ≥ 1))), (1, .pointer (some ⟨nx0, 0, none⟩))]) (nx' := nx0 + 1) (L' := [⟨nx0, [.int .i64 a0.f0, .string a0.f1, .slice Ap0_2 a0.f2.length cp0_2], 30⟩]) [] (RFacts.nil _ _ _) 4 [.no, .l 0, .no, .no] (by kernel_rfl) (by kernel_rfl) ?_
    refine RL.cases (decide (a0.f0 ≥ 1)) (fun hb => ?_) (fun hb => ?_)
    · have hc := (of_decide_eq_true hb)
      refine RL.norm (K' := [(6, .bool true), (1, .pointer (some ⟨nx0, 0, none⟩))]) (L' := [⟨nx0, [.int .i64 a0.f0, .string a0.f1, .slice Ap0_2 a0.f2.length cp0_2], 30⟩]) (by rw [hb]; try rfl) rfl (by first | rfl | (rw [hb]; try rfl)) rfl ?_
      rw [if_pos hc] at H; clear hb
      refine RL.simP (K' := [(11, .bool (decide (a0.f0 ≤ 4))), (1, .pointer (some ⟨nx0, 0, none⟩))]) (nx' := nx0 + 1) (L' := [⟨nx0, [.int .i64 a0.f0, .string a0.f1, .slice Ap0_2 a0.f2.length cp0_2], 30⟩]) [] (RFacts.nil _ _ _) 5 [.no, .l 0, .no, .no, .no] (by kernel_rfl) (by kernel_rfl) ?_
      refine RL.cases (decide (a0.f0 ≤ 4)) (fun hb => ?_) (fun hb => ?_)
      · have hc := (of_decide_eq_true hb)
        refine RL.norm (K' := [(11, .bool true), (1, .pointer (some ⟨nx0, 0, none⟩))]) (L' := [⟨nx0, [.int .i64 a0.f0, .string a0.f1, .slice Ap0_2 a0.f2.length cp0_2], 30⟩]) (by rw [hb]; try rfl) rfl (by first | rfl | (rw [hb]; try rfl)) rfl ?_
        rw [if_pos hc] at H; clear hb
        refine RL.simP (K' := [(17, .bool (decide ((a0.f1.size : Int) ≥ 1))), (1, .pointer (some ⟨nx0, 0, none⟩))]) (nx' := nx0 + 1) (L' := [⟨nx0, [.int .i64 a0.f0, .string a0.f1, .slice Ap0_2 a0.f2.length cp0_2], 30⟩]) [] (RFacts.nil _ _ _) 6 [.no, .l 0, .no, .no, .no, .no] (by kernel_rfl) (by kernel_rfl) ?_
        refine RL.cases (decide ((a0.f1.size : Int) ≥ 1)) (fun hb => ?_) (fun hb => ?_)
        · have hc := (of_decide_eq_true hb)
          refine RL.norm (K' := [(17, .bool true), (1, .pointer (some ⟨nx0, 0, none⟩))]) (L' := [⟨nx0, [.int .i64 a0.f0, .string a0.f1, .slice Ap0_2 a0.f2.length cp0_2], 30⟩]) (by rw [hb]; try rfl) rfl (by first | rfl | (rw [hb]; try rfl)) rfl ?_
          rw [if_pos hc] at H; clear hb
          refine RL.simP (K' := [(23, .bool (decide ((a0.f1.size : Int) ≤ 40))), (1, .pointer (some ⟨nx0, 0, none⟩))]) (nx' := nx0 + 1) (L' := [⟨nx0, [.int .i64 a0.f0, .string a0.f1, .slice Ap0_2 a0.f2.length cp0_2], 30⟩]) [] (RFacts.nil _ _ _) 6 [.no, .l 0, .no, .no, .no, .no] (by kernel_rfl) (by kernel_rfl) ?_
          refine RL.cases (decide ((a0.f1.size : Int) ≤ 40)) (fun hb => ?_) (fun hb => ?_)
          · have hc := (of_decide_eq_true hb)
            refine RL.norm (K' := [(23, .bool true), (1, .pointer (some ⟨nx0, 0, none⟩))]) (L' := [⟨nx0, [.int .i64 a0.f0, .string a0.f1, .slice Ap0_2 a0.f2.length cp0_2], 30⟩]) (by rw [hb]; try rfl) rfl (by first | rfl | (rw [hb]; try rfl)) rfl ?_
            rw [if_pos hc] at H; clear hb
            refine RL.simP (K' := [(2, .bool (decide ((a0.f2.length : Int) ≤ 20000)))]) (nx' := nx0 + 1) (L' := [⟨nx0, [.int .i64 a0.f0, .string a0.f1, .slice Ap0_2 a0.f2.length cp0_2], 30⟩]) [] (RFacts.nil _ _ _) 6 [.no, .l 0, .no, .no, .no, .no] (by kernel_rfl) (by kernel_rfl) ?_
            refine RL.nil (by kernel_rfl) ?_
            obtain rfl := Option.some.inj H
            refine QN.sub (K' := [(2, .bool (decide ((a0.f2.length : Int) ≤ 20000)))]) (L' := [⟨nx0, [.int .i64 a0.f0, .string a0.f1, .slice Ap0_2 a0.f2.length cp0_2], 30⟩]) (by kernel_rfl) (.cons_cons _ .slnil) (.refl _) ?_
            exact hJ1 _ _ _ _ _ ⟨(decide ((a0.f2.length : Int) ≤ 20000)), rfl, rfl, rfl, (Imm.le_refl _), HK1⟩
          · have hc := (of_decide_eq_false hb)
            refine RL.norm (K' := [(23, .bool false), (1, .pointer (some ⟨nx0, 0, none⟩))]) (L' := [⟨nx0, [.int .i64 a0.f0, .string a0.f1, .slice Ap0_2 a0.f2.length cp0_2], 30⟩]) (by rw [hb]; try rfl) rfl (by first | rfl | (rw [hb]; try rfl)) rfl ?_
            rw [if_neg hc] at H; clear hb
            refine RL.simP (K' := [(2, .bool false)]) (nx' := nx0 + 1) (L' := [⟨nx0, [.int .i64 a0.f0, .string a0.f1, .slice Ap0_2 a0.f2.length cp0_2], 30⟩]) [] (RFacts.nil _ _ _) 6 [.no, .no, .no, .no, .no, .no] (by kernel_rfl) (by kernel_rfl) ?_
            refine RL.nil (by kernel_rfl) ?_
            obtain rfl := Option.some.inj H
            refine QN.sub (K' := [(2, .bool false)]) (L' := [⟨nx0, [.int .i64 a0.f0, .string a0.f1, .slice Ap0_2 a0.f2.length cp0_2], 30⟩]) (by kernel_rfl) (.cons_cons _ .slnil) (.refl _) ?_
            exact hJ1 _ _ _ _ _ ⟨false, rfl, rfl, rfl, (Imm.le_refl _), HK1⟩
        · have hc := (of_decide_eq_false hb)
          refine RL.norm (K' := [(17, .bool false), (1, .pointer (some ⟨nx0, 0, none⟩))]) (L' := [⟨nx0, [.int .i64 a0.f0, .string a0.f1, .slice Ap0_2 a0.f2.length cp0_2], 30⟩]) (by rw [hb]; try rfl) rfl (by first | rfl | (rw [hb]; try rfl)) rfl ?_
          rw [if_neg hc] at H; clear hb
          refine RL.simP (K' := [(2, .bool false)]) (nx' := nx0 + 1) (L' := [⟨nx0, [.int .i64 a0.f0, .string a0.f1, .slice Ap0_2 a0.f2.length cp0_2], 30⟩]) [] (RFacts.nil _ _ _) 12 [.no, .no, .no, .no, .no, .no, .no, .no, .no, .no, .no, .no] (by kernel_rfl) (by kernel_rfl) ?_
          refine RL.nil (by kernel_rfl) ?_
          obtain rfl := Option.some.inj H
          refine QN.sub (K' := [(2, .bool false)]) (L' := [⟨nx0, [.int .i64 a0.f0, .string a0.f1, .slice Ap0_2 a0.f2.length cp0_2], 30⟩]) (by kernel_rfl) (.cons_cons _ .slnil) (.refl _) ?_
          exact hJ1 _ _ _ _ _ ⟨false, rfl, rfl, rfl, (Imm.le_refl _), HK1⟩
      · have hc := (of_decide_eq_false hb)
        refine RL.norm (K' := [(11, .bool false), (1, .pointer (some ⟨nx0, 0, none⟩))]) (L' := [⟨nx0, [.int .i64 a0.f0, .string a0.f1, .slice Ap0_2 a0.f2.length cp0_2], 30⟩]) (by rw [hb]; try rfl) rfl (by first | rfl | (rw [hb]; try rfl)) rfl ?_
        rw [if_neg hc] at H; clear hb
        refine RL.simP (K' := [(2, .bool false)]) (nx' := nx0 + 1) (L' := [⟨nx0, [.int .i64 a0.f0, .string a0.f1, .slice Ap0_2 a0.f2.length cp0_2], 30⟩]) [] (RFacts.nil _ _ _) 18 [.no, .no, .no, .no, .no, .no, .no, .no, .no, .no, .no, .no, .no, .no, .no, .no, .no, .no] (by kernel_rfl) (by kernel_rfl) ?_
        refine RL.nil (by kernel_rfl) ?_
        obtain rfl := Option.some.inj H
        refine QN.sub (K' := [(2, .bool false)]) (L' := [⟨nx0, [.int .i64 a0.f0, .string a0.f1, .slice Ap0_2 a0.f2.length cp0_2], 30⟩]) (by kernel_rfl) (.cons_cons _ .slnil) (.refl _) ?_
        exact hJ1 _ _ _ _ _ ⟨false, rfl, rfl, rfl, (Imm.le_refl _), HK1⟩
    · have hc := (of_decide_eq_false hb)
      refine RL.norm (K' := [(6, .bool false), (1, .pointer (some ⟨nx0, 0, none⟩))]) (L' := [⟨nx0, [.int .i64 a0.f0, .string a0.f1, .slice Ap0_2 a0.f2.length cp0_2], 30⟩]) (by rw [hb]; try rfl) rfl (by first | rfl | (rw [hb]; try rfl)) rfl ?_
      rw [if_neg hc] at H; clear hb
      refine RL.simP (K' := [(2, .bool false)]) (nx' := nx0 + 1) (L' := [⟨nx0, [.int .i64 a0.f0, .string a0.f1, .slice Ap0_2 a0.f2.length cp0_2], 30⟩]) [] (RFacts.nil _ _ _) 23 [.no, .no, .no, .no, .no, .no, .no, .no, .no, .no, .no, .no, .no, .no, .no, .no, .no, .no, .no, .no, .no, .no, .no] (by kernel_rfl) (by kernel_rfl) ?_
      refine RL.nil (by kernel_rfl) ?_
      obtain rfl := Option.some.inj H
      refine QN.sub (K' := [(2, .bool false)]) (L' := [⟨nx0, [.int .i64 a0.f0, .string a0.f1, .slice Ap0_2 a0.f2.length cp0_2], 30⟩]) (by kernel_rfl) (.cons_cons _ .slnil) (.refl _) ?_
      exact hJ1 _ _ _ _ _ ⟨false, rfl, rfl, rfl, (Imm.le_refl _), HK1⟩

end Go.Proofs.Ytieakigoinebdaa
