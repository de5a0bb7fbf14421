/- What a function of the program computes, and the walk that shows it; made by a program of the session's out of the translation; no conditions beyond those that the theorems name. -/
import Derived.Test.YtieakigoinebdaaS
namespace Go.Proofs.Ytieakigoinebdaa
open Go Go.Proofs.Ytieakigoinebdaa.RW
set_option linter.unusedVariables false
set_option maxRecDepth 100000
set_option maxHeartbeats 8000000

/-! ### quorum_bare: function 44, armillary/quorum.bare -/
noncomputable def K44_0 : Code := cBody Try.f44
noncomputable def K44_1 : Code := cL K44_0
noncomputable def O44_1 : List Oper := cOps K44_1
noncomputable def K44_3 : Code := cR K44_0
noncomputable def K44_4 : Code := cL K44_3
noncomputable def O44_4 : List Oper := cOps K44_4
noncomputable def K44_6 : Code := cR K44_3
def quorum_bare.k1  (x1 : Bool) : Option (Bool) := (some x1)
def quorum_bare.f (a0 : S32) : Option (Bool) := ((if a0.f5.f0 = 0 then (if a0.f5.f1.toList = (⟨#[]⟩ : ByteArray).toList then (some ((a0.f5.f2.length : Int) == 0)) else (some false)) else (some false)).bind (quorum_bare.k1))
def quorum_bare.Post (I : Imm) (w : World) (r : Bool) (v : Value) (w' : World) : Prop :=
  ∃ (J : Imm), v = .bool r ∧ Got w w' I J []
theorem quorum_bare.calls (I0 : Imm) (a0 : S32) (Ap0_5_2 : Option Addr) (cp0_5_2 : Nat) (w : World) (hI : I0.at_ w) (hlp0_5_2 : a0.f5.f2.length ≤ cp0_5_2) (hrp0_5_2 : Rd (Ty.int .u8) I0 Ap0_5_2 a0.f5.f2) (r : Bool) (h : quorum_bare.f a0 = some r) :
    Calls Try.prog 44 [.agg #[.int .i64 a0.f0, .int .i64 a0.f1, .int .i64 a0.f2, .int .i64 a0.f3, .int .u32 a0.f4, .int .i64 a0.f5.f0, .string a0.f5.f1, .slice Ap0_5_2 a0.f5.f2.length cp0_5_2]].toArray w fun e w' => ∃ v, e = .returned v ∧ quorum_bare.Post I0 w r v w' := by
  have H : ((if a0.f5.f0 = 0 then (if a0.f5.f1.toList = (⟨#[]⟩ : ByteArray).toList then (some ((a0.f5.f2.length : Int) == 0)) else (some false)) else (some false)).bind (quorum_bare.k1)) = some r := h
  clear h
  refine calls_body Try.func44 (by kernel_rfl) 20 (by kernel_rfl) (by kernel_rfl) ⟨w, fun _ => False, I0⟩ I0 [] [(0, .agg #[.int .i64 a0.f0, .int .i64 a0.f1, .int .i64 a0.f2, .int .i64 a0.f3, .int .u32 a0.f4, .int .i64 a0.f5.f0, .string a0.f5.f1, .slice Ap0_5_2 a0.f5.f2.length cp0_5_2])] (by kernel_rfl) (Sat.start w _ I0 hI) ?_
  generalize w.heap.size = nx0
  show OK _ K44_0 _ _ _ _ _ _ _ _
  refine OK.seq K44_1 K44_3 (by kernel_rfl) ?_
  refine OK.region 0 O44_1 (by kernel_rfl) ?_
  refine RL.simP (K' := [(1, .pointer (some ⟨nx0, 0, none⟩))]) (nx' := nx0 + 1) (L' := [⟨nx0, [.int .i64 a0.f0, .int .i64 a0.f1, .int .i64 a0.f2, .int .i64 a0.f3, .int .u32 a0.f4, .int .i64 a0.f5.f0, .string a0.f5.f1, .slice Ap0_5_2 a0.f5.f2.length cp0_5_2], 32⟩]) [] (RFacts.nil _ _ _) 2 [.no, .no] (by kernel_rfl) (by kernel_rfl) ?_
  refine RL.nil (by kernel_rfl) ?_
  refine QN.then_ ?_
  refine OK.seq K44_4 K44_6 (by kernel_rfl) ?_
  refine OK.join (fun K' I' _ L' X' => ∃ (x1 : Bool), K' = [(2, .bool x1)] ∧ L' = [⟨nx0, [.int .i64 a0.f0, .int .i64 a0.f1, .int .i64 a0.f2, .int .i64 a0.f3, .int .u32 a0.f4, .int .i64 a0.f5.f0, .string a0.f5.f1, .slice Ap0_5_2 a0.f5.f2.length cp0_5_2], 32⟩] ∧ X' = [] ∧ Imm.le I0 I' ∧ quorum_bare.k1 x1 = some r) ?_ ?_
  · rintro _ I1 nx1 _ _ ⟨x1, rfl, rfl, rfl, hi1, H⟩
    replace H : (some x1) = some r := H
    refine QN.then_ ?_
    refine OK.ret (by kernel_rfl) ?_
    obtain rfl := Option.some.inj H
    refine QN.body rfl [] (RFacts.nil _ _ _) (.no) (.bool x1) (by kernel_rfl) (by kernel_rfl) (by kernel_rfl) ?_ _ (.inr rfl)
    exact fun w' hs' => ⟨_, rfl, I1, rfl, hs'.got _ .slnil⟩
  · intro Q_1 hJ1 hQ1
    obtain ⟨y1, H, HK1⟩ := Option.bind_eq_some_iff.mp H
    refine OK.region 1 O44_4 (by kernel_rfl) ?_
    refine RL.simP (K' := [(7, .bool (a0.f5.f0 == 0)), (1, .pointer (some ⟨nx0, 0, none⟩))]) (nx' := nx0 + 1) (L' := [⟨nx0, [.int .i64 a0.f0, .int .i64 a0.f1, .int .i64 a0.f2, .int .i64 a0.f3, .int .u32 a0.f4, .int .i64 a0.f5.f0, .string a0.f5.f1, .slice Ap0_5_2 a0.f5.f2.length cp0_5_2], 32⟩]) [] (RFacts.nil _ _ _) 5 [.no, .no, .l 0, .no, .no] (by kernel_rfl) (by kernel_rfl) ?_
    refine RL.cases (a0.f5.f0 == 0) (fun hb => ?_) (fun hb => ?_)
    · have hc := (beq_iff_eq.1 hb)
      refine RL.norm (K' := [(7, .bool true), (1, .pointer (some ⟨nx0, 0, none⟩))]) (L' := [⟨nx0, [.int .i64 a0.f0, .int .i64 a0.f1, .int .i64 a0.f2, .int .i64 a0.f3, .int .u32 a0.f4, .int .i64 a0.f5.f0, .string a0.f5.f1, .slice Ap0_5_2 a0.f5.f2.length cp0_5_2], 32⟩]) (by rw [hb]; try rfl) rfl (by first | rfl | (rw [hb]; try rfl)) rfl ?_
      rw [if_pos hc] at H; clear hb
      refine RL.simP (K' := [(13, .bool (a0.f5.f1.toList == (⟨#[]⟩ : ByteArray).toList)), (1, .pointer (some ⟨nx0, 0, none⟩))]) (nx' := nx0 + 1) (L' := [⟨nx0, [.int .i64 a0.f0, .int .i64 a0.f1, .int .i64 a0.f2, .int .i64 a0.f3, .int .u32 a0.f4, .int .i64 a0.f5.f0, .string a0.f5.f1, .slice Ap0_5_2 a0.f5.f2.length cp0_5_2], 32⟩]) [] (RFacts.nil _ _ _) 6 [.no, .no, .l 0, .no, .no, .no] (by kernel_rfl) (by kernel_rfl) ?_
      refine RL.cases (a0.f5.f1.toList == (⟨#[]⟩ : ByteArray).toList) (fun hb => ?_) (fun hb => ?_)
      · have hc := (beq_iff_eq.1 hb)
        refine RL.norm (K' := [(13, .bool true), (1, .pointer (some ⟨nx0, 0, none⟩))]) (L' := [⟨nx0, [.int .i64 a0.f0, .int .i64 a0.f1, .int .i64 a0.f2, .int .i64 a0.f3, .int .u32 a0.f4, .int .i64 a0.f5.f0, .string a0.f5.f1, .slice Ap0_5_2 a0.f5.f2.length cp0_5_2], 32⟩]) (by rw [hb]; try rfl) rfl (by first | rfl | (rw [hb]; try rfl)) rfl ?_
        rw [if_pos hc] at H; clear hb
        refine RL.simP (K' := [(2, .bool ((a0.f5.f2.length : Int) == 0))]) (nx' := nx0 + 1) (L' := [⟨nx0, [.int .i64 a0.f0, .int .i64 a0.f1, .int .i64 a0.f2, .int .i64 a0.f3, .int .u32 a0.f4, .int .i64 a0.f5.f0, .string a0.f5.f1, .slice Ap0_5_2 a0.f5.f2.length cp0_5_2], 32⟩]) [] (RFacts.nil _ _ _) 7 [.no, .no, .l 0, .no, .no, .no, .no] (by kernel_rfl) (by kernel_rfl) ?_
        refine RL.nil (by kernel_rfl) ?_
        obtain rfl := Option.some.inj H
        refine QN.sub (K' := [(2, .bool ((a0.f5.f2.length : Int) == 0))]) (L' := [⟨nx0, [.int .i64 a0.f0, .int .i64 a0.f1, .int .i64 a0.f2, .int .i64 a0.f3, .int .u32 a0.f4, .int .i64 a0.f5.f0, .string a0.f5.f1, .slice Ap0_5_2 a0.f5.f2.length cp0_5_2], 32⟩]) (by kernel_rfl) (.cons_cons _ .slnil) (.refl _) ?_
        exact hJ1 _ _ _ _ _ ⟨((a0.f5.f2.length : Int) == 0), rfl, rfl, rfl, (Imm.le_refl _), HK1⟩
      · have hc := (beq_eq_false_iff_ne.1 hb)
        refine RL.norm (K' := [(13, .bool false), (1, .pointer (some ⟨nx0, 0, none⟩))]) (L' := [⟨nx0, [.int .i64 a0.f0, .int .i64 a0.f1, .int .i64 a0.f2, .int .i64 a0.f3, .int .u32 a0.f4, .int .i64 a0.f5.f0, .string a0.f5.f1, .slice Ap0_5_2 a0.f5.f2.length cp0_5_2], 32⟩]) (by rw [hb]; try rfl) rfl (by first | rfl | (rw [hb]; try rfl)) rfl ?_
        rw [if_neg hc] at H; clear hb
        refine RL.simP (K' := [(2, .bool false)]) (nx' := nx0 + 1) (L' := [⟨nx0, [.int .i64 a0.f0, .int .i64 a0.f1, .int .i64 a0.f2, .int .i64 a0.f3, .int .u32 a0.f4, .int .i64 a0.f5.f0, .string a0.f5.f1, .slice Ap0_5_2 a0.f5.f2.length cp0_5_2], 32⟩]) [] (RFacts.nil _ _ _) 7 [.no, .no, .no, .no, .no, .no, .no] (by kernel_rfl) (by kernel_rfl) ?_
        refine RL.nil (by kernel_rfl) ?_
        obtain rfl := Option.some.inj H
        refine QN.sub (K' := [(2, .bool false)]) (L' := [⟨nx0, [.int .i64 a0.f0, .int .i64 a0.f1, .int .i64 a0.f2, .int .i64 a0.f3, .int .u32 a0.f4, .int .i64 a0.f5.f0, .string a0.f5.f1, .slice Ap0_5_2 a0.f5.f2.length cp0_5_2], 32⟩]) (by kernel_rfl) (.cons_cons _ .slnil) (.refl _) ?_
        exact hJ1 _ _ _ _ _ ⟨false, rfl, rfl, rfl, (Imm.le_refl _), HK1⟩
    · have hc := (beq_eq_false_iff_ne.1 hb)
      refine RL.norm (K' := [(7, .bool false), (1, .pointer (some ⟨nx0, 0, none⟩))]) (L' := [⟨nx0, [.int .i64 a0.f0, .int .i64 a0.f1, .int .i64 a0.f2, .int .i64 a0.f3, .int .u32 a0.f4, .int .i64 a0.f5.f0, .string a0.f5.f1, .slice Ap0_5_2 a0.f5.f2.length cp0_5_2], 32⟩]) (by rw [hb]; try rfl) rfl (by first | rfl | (rw [hb]; try rfl)) rfl ?_
      rw [if_neg hc] at H; clear hb
      refine RL.simP (K' := [(2, .bool false)]) (nx' := nx0 + 1) (L' := [⟨nx0, [.int .i64 a0.f0, .int .i64 a0.f1, .int .i64 a0.f2, .int .i64 a0.f3, .int .u32 a0.f4, .int .i64 a0.f5.f0, .string a0.f5.f1, .slice Ap0_5_2 a0.f5.f2.length cp0_5_2], 32⟩]) [] (RFacts.nil _ _ _) 13 [.no, .no, .no, .no, .no, .no, .no, .no, .no, .no, .no, .no, .no] (by kernel_rfl) (by kernel_rfl) ?_
      refine RL.nil (by kernel_rfl) ?_
      obtain rfl := Option.some.inj H
      refine QN.sub (K' := [(2, .bool false)]) (L' := [⟨nx0, [.int .i64 a0.f0, .int .i64 a0.f1, .int .i64 a0.f2, .int .i64 a0.f3, .int .u32 a0.f4, .int .i64 a0.f5.f0, .string a0.f5.f1, .slice Ap0_5_2 a0.f5.f2.length cp0_5_2], 32⟩]) (by kernel_rfl) (.cons_cons _ .slnil) (.refl _) ?_
      exact hJ1 _ _ _ _ _ ⟨false, rfl, rfl, rfl, (Imm.le_refl _), HK1⟩

end Go.Proofs.Ytieakigoinebdaa
