/- What a function of the program computes, and the walk that shows it; made by a program of the session's out of the translation; no conditions beyond those that the theorems name. -/
import Derived.Test.YtieakigoinebdaaS
namespace Go.Proofs.Ytieakigoinebdaa
open Go Go.Proofs.Ytieakigoinebdaa.RW
set_option linter.unusedVariables false
set_option maxRecDepth 100000
set_option maxHeartbeats 8000000

/-! ### armillaryref27_Same: function 38, armillary/armillaryref27.Same -/
noncomputable def K38_0 : Code := cBody Try.f38
noncomputable def K38_1 : Code := cL K38_0
noncomputable def O38_1 : List Oper := cOps K38_1
noncomputable def K38_3 : Code := cR K38_0
noncomputable def K38_4 : Code := cL K38_3
noncomputable def O38_4 : List Oper := cOps K38_4
noncomputable def K38_6 : Code := cR K38_3
def armillaryref27_Same.k1  (x1 : Bool) : Option (Bool) := (some x1)
def armillaryref27_Same.f (a0 : S30) (a1 : S30) : Option (Bool) := ((if a0.f0 = a1.f0 then (if a0.f1.toList = a1.f1.toList then (some ((strOfNums a0.f2).toList == (strOfNums a1.f2).toList)) else (some false)) else (some false)).bind (armillaryref27_Same.k1))
def armillaryref27_Same.Post (I : Imm) (w : World) (r : Bool) (v : Value) (w' : World) : Prop :=
  ∃ (J : Imm), v = .bool r ∧ Got w w' I J []
theorem armillaryref27_Same.calls (I0 : Imm) (a0 : S30) (Ap0_2 : Option Addr) (cp0_2 : Nat) (a1 : S30) (Ap1_2 : Option Addr) (cp1_2 : Nat) (w : World) (hI : I0.at_ w) (hlp0_2 : a0.f2.length ≤ cp0_2) (hrp0_2 : Rd (Ty.int .u8) I0 Ap0_2 a0.f2) (hlp1_2 : a1.f2.length ≤ cp1_2) (hrp1_2 : Rd (Ty.int .u8) I0 Ap1_2 a1.f2) (r : Bool) (h : armillaryref27_Same.f a0 a1 = some r) :
    Calls Try.prog 38 [.agg #[.int .i64 a0.f0, .string a0.f1, .slice Ap0_2 a0.f2.length cp0_2], .agg #[.int .i64 a1.f0, .string a1.f1, .slice Ap1_2 a1.f2.length cp1_2]].toArray w fun e w' => ∃ v, e = .returned v ∧ armillaryref27_Same.Post I0 w r v w' := by
  have H : ((if a0.f0 = a1.f0 then (if a0.f1.toList = a1.f1.toList then (some ((strOfNums a0.f2).toList == (strOfNums a1.f2).toList)) else (some false)) else (some false)).bind (armillaryref27_Same.k1)) = some r := h
  clear h
  refine calls_body Try.func38 (by kernel_rfl) 26 (by kernel_rfl) (by kernel_rfl) ⟨w, fun _ => False, I0⟩ I0 [] [(0, .agg #[.int .i64 a0.f0, .string a0.f1, .slice Ap0_2 a0.f2.length cp0_2]), (1, .agg #[.int .i64 a1.f0, .string a1.f1, .slice Ap1_2 a1.f2.length cp1_2])] (by kernel_rfl) (Sat.start w _ I0 hI) ?_
  generalize w.heap.size = nx0
  show OK _ K38_0 _ _ _ _ _ _ _ _
  refine OK.seq K38_1 K38_3 (by kernel_rfl) ?_
  refine OK.region 0 O38_1 (by kernel_rfl) ?_
  refine RL.simP (K' := [(3, .pointer (some ⟨nx0 + 1, 0, none⟩)), (2, .pointer (some ⟨nx0, 0, none⟩))]) (nx' := nx0 + 2) (L' := [⟨nx0, [.int .i64 a0.f0, .string a0.f1, .slice Ap0_2 a0.f2.length cp0_2], 30⟩, ⟨nx0 + 1, [.int .i64 a1.f0, .string a1.f1, .slice Ap1_2 a1.f2.length cp1_2], 30⟩]) [] (RFacts.nil _ _ _) 3 [.no, .no, .no] (by kernel_rfl) (by kernel_rfl) ?_
  refine RL.nil (by kernel_rfl) ?_
  refine QN.then_ ?_
  refine OK.seq K38_4 K38_6 (by kernel_rfl) ?_
  refine OK.join (fun K' I' _ L' X' => ∃ (x1 : Bool), K' = [(4, .bool x1)] ∧ L' = [⟨nx0, [.int .i64 a0.f0, .string a0.f1, .slice Ap0_2 a0.f2.length cp0_2], 30⟩, ⟨nx0 + 1, [.int .i64 a1.f0, .string a1.f1, .slice Ap1_2 a1.f2.length cp1_2], 30⟩] ∧ X' = [] ∧ Imm.le I0 I' ∧ armillaryref27_Same.k1 x1 = some r) ?_ ?_
  · rintro _ I1 nx1 _ _ ⟨x1, rfl, rfl, rfl, hi1, H⟩
    replace H : (some x1) = some r := H
    refine QN.then_ ?_
    refine OK.ret (by kernel_rfl) ?_
    obtain rfl := Option.some.inj H
    refine QN.body rfl [] (RFacts.nil _ _ _) (.no) (.bool x1) (by kernel_rfl) (by kernel_rfl) (by kernel_rfl) ?_ _ (.inr rfl)
    exact fun w' hs' => ⟨_, rfl, I1, rfl, hs'.got _ .slnil⟩
  · intro Q_1 hJ1 hQ1
    obtain ⟨y1, H, HK1⟩ := Option.bind_eq_some_iff.mp H
    refine OK.region 1 O38_4 (by kernel_rfl) ?_
    refine RL.simP (K' := [(10, .bool (a0.f0 == a1.f0)), (3, .pointer (some ⟨nx0 + 1, 0, none⟩)), (2, .pointer (some ⟨nx0, 0, none⟩))]) (nx' := nx0 + 2) (L' := [⟨nx0, [.int .i64 a0.f0, .string a0.f1, .slice Ap0_2 a0.f2.length cp0_2], 30⟩, ⟨nx0 + 1, [.int .i64 a1.f0, .string a1.f1, .slice Ap1_2 a1.f2.length cp1_2], 30⟩]) [] (RFacts.nil _ _ _) 6 [.no, .l 0, .no, .l 1, .no, .no] (by kernel_rfl) (by kernel_rfl) ?_
    refine RL.cases (a0.f0 == a1.f0) (fun hb => ?_) (fun hb => ?_)
    · have hc := (beq_iff_eq.1 hb)
      refine RL.norm (K' := [(10, .bool true), (3, .pointer (some ⟨nx0 + 1, 0, none⟩)), (2, .pointer (some ⟨nx0, 0, none⟩))]) (L' := [⟨nx0, [.int .i64 a0.f0, .string a0.f1, .slice Ap0_2 a0.f2.length cp0_2], 30⟩, ⟨nx0 + 1, [.int .i64 a1.f0, .string a1.f1, .slice Ap1_2 a1.f2.length cp1_2], 30⟩]) (by rw [hb]; try rfl) rfl (by first | rfl | (rw [hb]; try rfl)) rfl ?_
      rw [if_pos hc] at H; clear hb
      refine RL.simP (K' := [(17, .bool (a0.f1.toList == a1.f1.toList)), (3, .pointer (some ⟨nx0 + 1, 0, none⟩)), (2, .pointer (some ⟨nx0, 0, none⟩))]) (nx' := nx0 + 2) (L' := [⟨nx0, [.int .i64 a0.f0, .string a0.f1, .slice Ap0_2 a0.f2.length cp0_2], 30⟩, ⟨nx0 + 1, [.int .i64 a1.f0, .string a1.f1, .slice Ap1_2 a1.f2.length cp1_2], 30⟩]) [] (RFacts.nil _ _ _) 7 [.no, .l 0, .no, .l 1, .no, .no, .no] (by kernel_rfl) (by kernel_rfl) ?_
      refine RL.cases (a0.f1.toList == a1.f1.toList) (fun hb => ?_) (fun hb => ?_)
      · have hc := (beq_iff_eq.1 hb)
        refine RL.norm (K' := [(17, .bool true), (3, .pointer (some ⟨nx0 + 1, 0, none⟩)), (2, .pointer (some ⟨nx0, 0, none⟩))]) (L' := [⟨nx0, [.int .i64 a0.f0, .string a0.f1, .slice Ap0_2 a0.f2.length cp0_2], 30⟩, ⟨nx0 + 1, [.int .i64 a1.f0, .string a1.f1, .slice Ap1_2 a1.f2.length cp1_2], 30⟩]) (by rw [hb]; try rfl) rfl (by first | rfl | (rw [hb]; try rfl)) rfl ?_
        rw [if_pos hc] at H; clear hb
        refine RL.simP (K' := [(19, .slice Ap0_2 a0.f2.length cp0_2), (17, .bool true), (3, .pointer (some ⟨nx0 + 1, 0, none⟩))]) (nx' := nx0 + 2) (L' := [⟨nx0, [.int .i64 a0.f0, .string a0.f1, .slice Ap0_2 a0.f2.length cp0_2], 30⟩, ⟨nx0 + 1, [.int .i64 a1.f0, .string a1.f1, .slice Ap1_2 a1.f2.length cp1_2], 30⟩]) [] (RFacts.nil _ _ _) 2 [.no, .l 0] (by kernel_rfl) (by kernel_rfl) ?_
        refine RL.ofBytes (src := 28) (dst := 9) (e := 5) (S := Ap0_2) (l := a0.f2) (cap := cp0_2) (some 20) (by kernel_rfl) (by kernel_rfl) hrp0_2 (by kernel_rfl) (by kernel_rfl) (by kernel_rfl) (K' := [(20, .string (strOfNums a0.f2)), (19, .slice Ap0_2 a0.f2.length cp0_2), (17, .bool true), (3, .pointer (some ⟨nx0 + 1, 0, none⟩))]) (by kernel_rfl) ?_
        refine RL.simP (K' := [(22, .slice Ap1_2 a1.f2.length cp1_2), (20, .string (strOfNums a0.f2)), (17, .bool true)]) (nx' := nx0 + 2) (L' := [⟨nx0, [.int .i64 a0.f0, .string a0.f1, .slice Ap0_2 a0.f2.length cp0_2], 30⟩, ⟨nx0 + 1, [.int .i64 a1.f0, .string a1.f1, .slice Ap1_2 a1.f2.length cp1_2], 30⟩]) [] (RFacts.nil _ _ _) 2 [.no, .l 1] (by kernel_rfl) (by kernel_rfl) ?_
        refine RL.ofBytes (src := 28) (dst := 9) (e := 5) (S := Ap1_2) (l := a1.f2) (cap := cp1_2) (some 23) (by kernel_rfl) (by kernel_rfl) hrp1_2 (by kernel_rfl) (by kernel_rfl) (by kernel_rfl) (K' := [(23, .string (strOfNums a1.f2)), (22, .slice Ap1_2 a1.f2.length cp1_2), (20, .string (strOfNums a0.f2)), (17, .bool true)]) (by kernel_rfl) ?_
        refine RL.simP (K' := [(4, .bool ((strOfNums a0.f2).toList == (strOfNums a1.f2).toList))]) (nx' := nx0 + 2) (L' := [⟨nx0, [.int .i64 a0.f0, .string a0.f1, .slice Ap0_2 a0.f2.length cp0_2], 30⟩, ⟨nx0 + 1, [.int .i64 a1.f0, .string a1.f1, .slice Ap1_2 a1.f2.length cp1_2], 30⟩]) [] (RFacts.nil _ _ _) 3 [.no, .no, .no] (by kernel_rfl) (by kernel_rfl) ?_
        refine RL.nil (by kernel_rfl) ?_
        obtain rfl := Option.some.inj H
        refine QN.sub (K' := [(4, .bool ((strOfNums a0.f2).toList == (strOfNums a1.f2).toList))]) (L' := [⟨nx0, [.int .i64 a0.f0, .string a0.f1, .slice Ap0_2 a0.f2.length cp0_2], 30⟩, ⟨nx0 + 1, [.int .i64 a1.f0, .string a1.f1, .slice Ap1_2 a1.f2.length cp1_2], 30⟩]) (by kernel_rfl) (.cons_cons _ (.cons_cons _ .slnil)) (.refl _) ?_
        exact hJ1 _ _ _ _ _ ⟨((strOfNums a0.f2).toList == (strOfNums a1.f2).toList), rfl, rfl, rfl, (Imm.le_refl _), HK1⟩
      · have hc := (beq_eq_false_iff_ne.1 hb)
        refine RL.norm (K' := [(17, .bool false), (3, .pointer (some ⟨nx0 + 1, 0, none⟩)), (2, .pointer (some ⟨nx0, 0, none⟩))]) (L' := [⟨nx0, [.int .i64 a0.f0, .string a0.f1, .slice Ap0_2 a0.f2.length cp0_2], 30⟩, ⟨nx0 + 1, [.int .i64 a1.f0, .string a1.f1, .slice Ap1_2 a1.f2.length cp1_2], 30⟩]) (by rw [hb]; try rfl) rfl (by first | rfl | (rw [hb]; try rfl)) rfl ?_
        rw [if_neg hc] at H; clear hb
        refine RL.simP (K' := [(4, .bool false)]) (nx' := nx0 + 2) (L' := [⟨nx0, [.int .i64 a0.f0, .string a0.f1, .slice Ap0_2 a0.f2.length cp0_2], 30⟩, ⟨nx0 + 1, [.int .i64 a1.f0, .string a1.f1, .slice Ap1_2 a1.f2.length cp1_2], 30⟩]) [] (RFacts.nil _ _ _) 9 [.no, .no, .no, .no, .no, .no, .no, .no, .no] (by kernel_rfl) (by kernel_rfl) ?_
        refine RL.nil (by kernel_rfl) ?_
        obtain rfl := Option.some.inj H
        refine QN.sub (K' := [(4, .bool false)]) (L' := [⟨nx0, [.int .i64 a0.f0, .string a0.f1, .slice Ap0_2 a0.f2.length cp0_2], 30⟩, ⟨nx0 + 1, [.int .i64 a1.f0, .string a1.f1, .slice Ap1_2 a1.f2.length cp1_2], 30⟩]) (by kernel_rfl) (.cons_cons _ (.cons_cons _ .slnil)) (.refl _) ?_
        exact hJ1 _ _ _ _ _ ⟨false, rfl, rfl, rfl, (Imm.le_refl _), HK1⟩
    · have hc := (beq_eq_false_iff_ne.1 hb)
      refine RL.norm (K' := [(10, .bool false), (3, .pointer (some ⟨nx0 + 1, 0, none⟩)), (2, .pointer (some ⟨nx0, 0, none⟩))]) (L' := [⟨nx0, [.int .i64 a0.f0, .string a0.f1, .slice Ap0_2 a0.f2.length cp0_2], 30⟩, ⟨nx0 + 1, [.int .i64 a1.f0, .string a1.f1, .slice Ap1_2 a1.f2.length cp1_2], 30⟩]) (by rw [hb]; try rfl) rfl (by first | rfl | (rw [hb]; try rfl)) rfl ?_
      rw [if_neg hc] at H; clear hb
      refine RL.simP (K' := [(4, .bool false)]) (nx' := nx0 + 2) (L' := [⟨nx0, [.int .i64 a0.f0, .string a0.f1, .slice Ap0_2 a0.f2.length cp0_2], 30⟩, ⟨nx0 + 1, [.int .i64 a1.f0, .string a1.f1, .slice Ap1_2 a1.f2.length cp1_2], 30⟩]) [] (RFacts.nil _ _ _) 16 [.no, .no, .no, .no, .no, .no, .no, .no, .no, .no, .no, .no, .no, .no, .no, .no] (by kernel_rfl) (by kernel_rfl) ?_
      refine RL.nil (by kernel_rfl) ?_
      obtain rfl := Option.some.inj H
      refine QN.sub (K' := [(4, .bool false)]) (L' := [⟨nx0, [.int .i64 a0.f0, .string a0.f1, .slice Ap0_2 a0.f2.length cp0_2], 30⟩, ⟨nx0 + 1, [.int .i64 a1.f0, .string a1.f1, .slice Ap1_2 a1.f2.length cp1_2], 30⟩]) (by kernel_rfl) (.cons_cons _ (.cons_cons _ .slnil)) (.refl _) ?_
      exact hJ1 _ _ _ _ _ ⟨false, rfl, rfl, rfl, (Imm.le_refl _), HK1⟩

end Go.Proofs.Ytieakigoinebdaa
