/- What a function of the program computes, and the walk that shows it; made by a program of the session's out of the translation; no conditions beyond those that the theorems name. -/
import Derived.Test.YtieakigoinebdaaS
import Derived.Test.YtieakigoinebdaaG40
import Derived.Test.YtieakigoinebdaaG41
namespace Go.Proofs.Ytieakigoinebdaa
open Go Go.Proofs.Ytieakigoinebdaa.RW
set_option linter.unusedVariables false
set_option maxRecDepth 100000
set_option maxHeartbeats 8000000

/-! ### armillaryref29_Sum: function 31, armillary/armillaryref29.Sum -/
noncomputable def K31_0 : Code := cBody Try.f31
noncomputable def K31_1 : Code := cL K31_0
noncomputable def O31_1 : List Oper := cOps K31_1
noncomputable def K31_3 : Code := cR K31_0
noncomputable def K31_4 : Code := cL K31_3
noncomputable def O31_4 : List Oper := cOps K31_4
noncomputable def K31_6 : Code := cR K31_3
noncomputable def K31_7 : Code := cL K31_6
noncomputable def O31_7 : List Oper := cOps K31_7
noncomputable def K31_9 : Code := cR K31_6
def armillaryref29_Sum.f (k : Nat) (a0 : S30) : Option (Int × Bool) := ((armillaryref27_EncodeEntry.f k a0).bind fun t1 => ((armillaryref27_Checksum.f k t1.1).bind fun t2 => (some (t2, (t1.2 == 0)))))
def armillaryref29_Sum.Post (I : Imm) (w : World) (r : Int × Bool) (v : Value) (w' : World) : Prop :=
  ∃ (J : Imm), v = .tuple #[.int .u32 r.1, .bool r.2] ∧ Got w w' I J []
theorem armillaryref29_Sum.calls (k : Nat) (I0 : Imm) (a0 : S30) (Ap0_2 : Option Addr) (cp0_2 : Nat) (w : World) (hI : I0.at_ w) (hlp0_2 : a0.f2.length ≤ cp0_2) (hrp0_2 : Rd (Ty.int .u8) I0 Ap0_2 a0.f2) (r : Int × Bool) (h : armillaryref29_Sum.f k a0 = some r) :
    Calls Try.prog 31 [.agg #[.int .i64 a0.f0, .string a0.f1, .slice Ap0_2 a0.f2.length cp0_2]].toArray w fun e w' => ∃ v, e = .returned v ∧ armillaryref29_Sum.Post I0 w r v w' := by
  have H : ((armillaryref27_EncodeEntry.f k a0).bind fun t1 => ((armillaryref27_Checksum.f k t1.1).bind fun t2 => (some (t2, (t1.2 == 0))))) = some r := h
  clear h
  refine calls_body Try.func31 (by kernel_rfl) 15 (by kernel_rfl) (by kernel_rfl) ⟨w, fun _ => False, I0⟩ I0 [] [(0, .agg #[.int .i64 a0.f0, .string a0.f1, .slice Ap0_2 a0.f2.length cp0_2])] (by kernel_rfl) (Sat.start w _ I0 hI) ?_
  generalize w.heap.size = nx0
  show OK _ K31_0 _ _ _ _ _ _ _ _
  refine OK.seq K31_1 K31_3 (by kernel_rfl) ?_
  refine OK.region 0 O31_1 (by kernel_rfl) ?_
  refine RL.simP (K' := [(1, .pointer (some ⟨nx0, 0, none⟩))]) (nx' := nx0 + 1) (L' := [⟨nx0, [.int .i64 a0.f0, .string a0.f1, .slice Ap0_2 a0.f2.length cp0_2], 30⟩]) [] (RFacts.nil _ _ _) 3 [.no, .no, .no] (by kernel_rfl) (by kernel_rfl) ?_
  refine RL.nil (by kernel_rfl) ?_
  refine QN.then_ ?_
  refine OK.seq K31_4 K31_6 (by kernel_rfl) ?_
  refine OK.region 1 O31_4 (by kernel_rfl) ?_
  refine RL.simP (K' := [(7, .agg #[.int .i64 a0.f0, .string a0.f1, .slice Ap0_2 a0.f2.length cp0_2])]) (nx' := nx0 + 1) (L' := [⟨nx0, [.int .i64 a0.f0, .string a0.f1, .slice Ap0_2 a0.f2.length cp0_2], 30⟩]) [] (RFacts.nil _ _ _) 1 [.l 0] (by kernel_rfl) (by kernel_rfl) ?_
  obtain ⟨t1, hA1, H⟩ := Option.bind_eq_some_iff.mp H
  refine RL.callP 40 [.agg #[.int .i64 a0.f0, .string a0.f1, .slice Ap0_2 a0.f2.length cp0_2]] (some 8) (fun w => armillaryref27_EncodeEntry.Post I0 w t1) (by kernel_rfl) (by kernel_rfl) (fun w hs => armillaryref27_EncodeEntry.calls k I0 a0 Ap0_2 cp0_2 w hs.im hlp0_2 hrp0_2 t1 hA1) ?_
  rintro w v w' hs ⟨I1, A1, c1, cs1, rfl, hg, hp1⟩
  have hi1 := hg.le
  refine RL.resume (K' := [(8, .tuple #[.slice A1 t1.1.length c1, .int .i64 t1.2]), (7, .agg #[.int .i64 a0.f0, .string a0.f1, .slice Ap0_2 a0.f2.length cp0_2])]) (X' := [orow 5 1 A1 t1.1.length c1 cs1]) (by kernel_rfl) (hs.call hg) ?_
  clear hs hg
  generalize w'.heap.size = nx1
  clear w w'
  refine RL.simP (K' := [(5, .int .i64 t1.2), (4, .slice A1 t1.1.length c1)]) (nx' := nx1) (L' := [⟨nx0, [.int .i64 a0.f0, .string a0.f1, .slice Ap0_2 a0.f2.length cp0_2], 30⟩]) [] (RFacts.nil _ _ _) 5 [.no, .no, .no, .no, .no] (by kernel_rfl) (by kernel_rfl) ?_
  refine RL.nil (by kernel_rfl) ?_
  refine QN.then_ ?_
  refine OK.seq K31_7 K31_9 (by kernel_rfl) ?_
  refine OK.region 2 O31_7 (by kernel_rfl) ?_
  refine RL.simP (K' := [(11, .slice A1 t1.1.length c1), (5, .int .i64 t1.2)]) (nx' := nx1) (L' := [⟨nx0, [.int .i64 a0.f0, .string a0.f1, .slice Ap0_2 a0.f2.length cp0_2], 30⟩]) [] (RFacts.nil _ _ _) 1 [.no] (by kernel_rfl) (by kernel_rfl) ?_
  refine RL.freeze (e := 5) (sz := 1) (S := A1) (n := t1.1.length) (cap := c1) 0 (by kernel_rfl) hp1 rfl (fun _ h => h.elim) (fun I2 hi2 hl1 hr1 => ?_)
  skip
  obtain ⟨t2, hA2, H⟩ := Option.bind_eq_some_iff.mp H
  refine RL.callP 41 [.slice A1 t1.1.length c1] (some 12) (fun w => armillaryref27_Checksum.Post I2 w t2) (by kernel_rfl) (by kernel_rfl) (fun w hs => armillaryref27_Checksum.calls k I2 t1.1 A1 c1 w hs.im hl1 hr1 t2 hA2) ?_
  rintro w v w' hs ⟨I3, rfl, hg⟩
  have hi3 := hg.le
  refine RL.resume (K' := [(12, .int .u32 t2), (11, .slice A1 t1.1.length c1), (5, .int .i64 t1.2)]) (X' := []) (by kernel_rfl) (hs.call hg) ?_
  clear hs hg
  generalize w'.heap.size = nx2
  clear w w'
  refine RL.simP (K' := [(3, .bool (t1.2 == 0)), (2, .int .u32 t2)]) (nx' := nx2) (L' := [⟨nx0, [.int .i64 a0.f0, .string a0.f1, .slice Ap0_2 a0.f2.length cp0_2], 30⟩]) [] (RFacts.nil _ _ _) 4 [.no, .no, .no, .no] (by kernel_rfl) (by kernel_rfl) ?_
  refine RL.nil (by kernel_rfl) ?_
  refine QN.then_ ?_
  refine OK.ret (by kernel_rfl) ?_
  obtain rfl := Option.some.inj H
  refine QN.body rfl [] (RFacts.nil _ _ _) (.no) (.tuple #[.int .u32 t2, .bool (t1.2 == 0)]) (by kernel_rfl) (by kernel_rfl) (by kernel_rfl) ?_ _ (.inr rfl)
  exact fun w' hs' => ⟨_, rfl, I3, rfl, hs'.got _ .slnil⟩

end Go.Proofs.Ytieakigoinebdaa
