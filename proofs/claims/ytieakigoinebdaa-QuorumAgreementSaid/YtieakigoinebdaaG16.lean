/- What a function of the program computes, and the walk that shows it; made by a program of the session's out of the translation; no conditions beyond those that the theorems name. -/
import Derived.Test.YtieakigoinebdaaS
import Derived.Test.YtieakigoinebdaaT
namespace Go.Proofs.Ytieakigoinebdaa
open Go Go.Proofs.Ytieakigoinebdaa.RW
set_option linter.unusedVariables false
set_option maxRecDepth 100000
set_option maxHeartbeats 8000000

/-! ### quorum_Committed: function 16, armillary/quorum.Committed -/
noncomputable def K16_0 : Code := cBody Try.f16
noncomputable def K16_1 : Code := cL K16_0
noncomputable def O16_1 : List Oper := cOps K16_1
noncomputable def K16_3 : Code := cR K16_0
noncomputable def K16_4 : Code := cL K16_3
noncomputable def O16_4 : List Oper := cOps K16_4
noncomputable def K16_6 : Code := cR K16_3
noncomputable def K16_7 : Code := cL K16_6
noncomputable def O16_7 : List Oper := cOps K16_7
noncomputable def K16_9 : Code := cR K16_6
def quorum_Committed.f (k : Nat) (a0 : List S32) (a1 : Int) (a2 : S24) : Option (Int × Bool) := ((quorum_tally.f k a0 a1).bind fun t1 => (some ((mget t1 (3, 0, a2.f0, a2.f1)).getD 0, (mget t1 (3, 0, a2.f0, a2.f1)).isSome)))
def quorum_Committed.Post (I : Imm) (w : World) (r : Int × Bool) (v : Value) (w' : World) : Prop :=
  ∃ (J : Imm), v = .tuple #[.int .u32 r.1, .bool r.2] ∧ Got w w' I J []
theorem quorum_Committed.a16_4 : ancs O16_4 [] = [0, 0, 3, 0, 8, 31, 63, 127, 127, 255, 1023] := by kernel_rfl
theorem quorum_Committed.a16_4o : drawOk O16_4 [0, 0, 3, 0, 8, 31, 63, 127, 127, 255, 1023] 10 = true := by kernel_rfl
noncomputable def quorum_Committed.d1l (t1 : (List (VK × Int))) : List Ld :=
  [⟨2, fun x => .map (some ((x 0).2.1)), fun x => [], fun x J => Mp kV (Value.int .u32) J (x 0).2.1 t1 ∧ True, fun x J J' h f => ⟨Mp.ext h f.1, trivial⟩⟩]
noncomputable def quorum_Committed.d1g (a2 : S24) (t1 : (List (VK × Int))) : List (Nat × ((Nat → Wt) → Value)) := [(5, fun u => .tuple #[.int .u32 ((mget t1 (3, 0, a2.f0, a2.f1)).getD 0), .bool (mget t1 (3, 0, a2.f0, a2.f1)).isSome])]
noncomputable def quorum_Committed.d1q (a0 : List S32) (Ap0 : Option Addr) (cp0 : Nat) (a1 : Int) (a2 : S24) (nx0 : Nat) (t1 : (List (VK × Int))) (u : Nat → Wt) : Option (List Value × List (Nat × Value) × List (Nat × Nat)) := qSim Try.prog [] [⟨nx0, [.int .i64 a2.f0, .int .i64 a2.f1], 24⟩] O16_4 ⟨21, []⟩ (Ld.vl (quorum_Committed.d1l t1)) (quorum_Committed.d1g a2 t1) u [.no, .no, .no, .l 0, .no, .no, .no, .no, .no, .no] 0 (O16_4.take 10) [(5, .pointer (some ⟨nx0, 0, none⟩)), (0, .slice Ap0 a0.length cp0), (1, .int .i64 a1)]
noncomputable def quorum_Committed.d1s (a0 : List S32) (Ap0 : Option Addr) (cp0 : Nat) (a1 : Int) (a2 : S24) (t1 : (List (VK × Int))) (u : Nat → Wt) : List Value := [.slice Ap0 a0.length cp0, .int .i64 a1, .map (some ((u 2 0).2.1)), .agg #[.int .i64 a2.f0, .int .i64 a2.f1], .agg #[.int .i64 3, .int .i64 0, .int .i64 a2.f0, .int .i64 a2.f1], .tuple #[.int .u32 ((mget t1 (3, 0, a2.f0, a2.f1)).getD 0), .bool (mget t1 (3, 0, a2.f0, a2.f1)).isSome], .tuple #[.int .u32 ((mget t1 (3, 0, a2.f0, a2.f1)).getD 0), .bool (mget t1 (3, 0, a2.f0, a2.f1)).isSome], .int .u32 ((mget t1 (3, 0, a2.f0, a2.f1)).getD 0), .bool (mget t1 (3, 0, a2.f0, a2.f1)).isSome, .int .u32 ((mget t1 (3, 0, a2.f0, a2.f1)).getD 0)]
noncomputable def quorum_Committed.d1k (a0 : List S32) (Ap0 : Option Addr) (cp0 : Nat) (a1 : Int) (a2 : S24) (nx0 : Nat) (t1 : (List (VK × Int))) (u : Nat → Wt) : List (Nat × Value) := [(8, .int .u32 ((mget t1 (3, 0, a2.f0, a2.f1)).getD 0)), (18, .bool (mget t1 (3, 0, a2.f0, a2.f1)).isSome), (17, .int .u32 ((mget t1 (3, 0, a2.f0, a2.f1)).getD 0)), (10, .tuple #[.int .u32 ((mget t1 (3, 0, a2.f0, a2.f1)).getD 0), .bool (mget t1 (3, 0, a2.f0, a2.f1)).isSome]), (16, .tuple #[.int .u32 ((mget t1 (3, 0, a2.f0, a2.f1)).getD 0), .bool (mget t1 (3, 0, a2.f0, a2.f1)).isSome]), (15, .agg #[.int .i64 3, .int .i64 0, .int .i64 a2.f0, .int .i64 a2.f1]), (14, .agg #[.int .i64 a2.f0, .int .i64 a2.f1]), (13, .map (some ((u 2 0).2.1))), (12, .int .i64 a1), (11, .slice Ap0 a0.length cp0), (5, .pointer (some ⟨nx0, 0, none⟩)), (0, .slice Ap0 a0.length cp0), (1, .int .i64 a1)]
theorem quorum_Committed.d1v (a0 : List S32) (Ap0 : Option Addr) (cp0 : Nat) (a1 : Int) (a2 : S24) (nx0 : Nat) (t1 : (List (VK × Int))) (u : Nat → Wt) : (quorum_Committed.d1q a0 Ap0 cp0 a1 a2 nx0 t1 u).map (fun x => (x.1, x.2.1)) = some ((quorum_Committed.d1s a0 Ap0 cp0 a1 a2 t1) u, (quorum_Committed.d1k a0 Ap0 cp0 a1 a2 nx0 t1) u) := by kernel_rfl
theorem quorum_Committed.d1e (a0 : List S32) (Ap0 : Option Addr) (cp0 : Nat) (a1 : Int) (a2 : S24) (nx0 : Nat) (t1 : (List (VK × Int))) (u : Nat → Wt) : (quorum_Committed.d1q a0 Ap0 cp0 a1 a2 nx0 t1 u).map (fun x => x.2.2.map (·.1)) = (quorum_Committed.d1q a0 Ap0 cp0 a1 a2 nx0 t1 u).map (fun x => x.2.2.map (·.2)) := by kernel_rfl
theorem quorum_Committed.calls (k : Nat) (I0 : Imm) (a0 : List S32) (Ap0 : Option Addr) (cp0 : Nat) (a1 : Int) (a2 : S24) (w : World) (hI : I0.at_ w) (hlp0 : a0.length ≤ cp0) (hrp0 : Rd t32 I0 Ap0 a0) (r : Int × Bool) (h : quorum_Committed.f k a0 a1 a2 = some r) :
    Calls Try.prog 16 [.slice Ap0 a0.length cp0, .int .i64 a1, .agg #[.int .i64 a2.f0, .int .i64 a2.f1]].toArray w fun e w' => ∃ v, e = .returned v ∧ quorum_Committed.Post I0 w r v w' := by
  have H : ((quorum_tally.f k a0 a1).bind fun t1 => (some ((mget t1 (3, 0, a2.f0, a2.f1)).getD 0, (mget t1 (3, 0, a2.f0, a2.f1)).isSome))) = some r := h
  clear h
  refine calls_body Try.func16 (by kernel_rfl) 21 (by kernel_rfl) (by kernel_rfl) ⟨w, fun _ => False, I0⟩ I0 [] [(0, .slice Ap0 a0.length cp0), (1, .int .i64 a1), (2, .agg #[.int .i64 a2.f0, .int .i64 a2.f1])] (by kernel_rfl) (Sat.start w _ I0 hI) ?_
  generalize w.heap.size = nx0
  show OK _ K16_0 _ _ _ _ _ _ _ _
  refine OK.seq K16_1 K16_3 (by kernel_rfl) ?_
  refine OK.region 0 O16_1 (by kernel_rfl) ?_
  refine RL.simP (K' := [(5, .pointer (some ⟨nx0, 0, none⟩)), (0, .slice Ap0 a0.length cp0), (1, .int .i64 a1)]) (nx' := nx0 + 1) (L' := [⟨nx0, [.int .i64 a2.f0, .int .i64 a2.f1], 24⟩]) [] (RFacts.nil _ _ _) 3 [.no, .no, .no] (by kernel_rfl) (by kernel_rfl) ?_
  refine RL.nil (by kernel_rfl) ?_
  refine QN.then_ ?_
  refine OK.seq K16_4 K16_6 (by kernel_rfl) ?_
  obtain ⟨t1, hA1, H⟩ := Option.bind_eq_some_iff.mp H
  refine OK.drawnC 1 10 O16_4 [0, 0, 3, 0, 8, 31, 63, 127, 127, 255, 1023] (by kernel_rfl) (by kernel_rfl) (quorum_Committed.d1l t1) (quorum_Committed.d1g a2 t1) [] (RI.nil _) [.no, .no, .no, .l 0, .no, .no, .no, .no, .no, .no] quorum_Committed.a16_4 quorum_Committed.a16_4o (by kernel_rfl) (by kernel_rfl) (quorum_Committed.d1s a0 Ap0 cp0 a1 a2 t1) (quorum_Committed.d1k a0 Ap0 cp0 a1 a2 nx0 t1) (quorum_Committed.d1v a0 Ap0 cp0 a1 a2 nx0 t1) (quorum_Committed.d1e a0 Ap0 cp0 a1 a2 nx0 t1) [fun u => [(12, .int .i64 a1), (11, .slice Ap0 a0.length cp0), (5, .pointer (some ⟨nx0, 0, none⟩)), (0, .slice Ap0 a0.length cp0), (1, .int .i64 a1)]] (framesOk.cons (fun u => by kernel_rfl) framesOk.nil) ?_ [fun u => [(15, .agg #[.int .i64 3, .int .i64 0, .int .i64 a2.f0, .int .i64 a2.f1]), (14, .agg #[.int .i64 a2.f0, .int .i64 a2.f1]), (13, .map (some ((u 2 0).2.1))), (12, .int .i64 a1), (11, .slice Ap0 a0.length cp0), (5, .pointer (some ⟨nx0, 0, none⟩)), (0, .slice Ap0 a0.length cp0), (1, .int .i64 a1)]] (framesOk.cons (fun u => by kernel_rfl) framesOk.nil) ?_ ?_
  · refine LoudsG.cons ?_ (LoudsG.nil)
    · intro D u J w hp hJ hs hF
      refine Does.call 35 [.slice Ap0 a0.length cp0, .int .i64 a1] (by kernel_rfl) ((quorum_tally.calls k J a0 Ap0 cp0 a1 w hs.im hlp0 (Rd.ext hJ hrp0) t1 hA1).mono ?_)
      rintro e w' ⟨v, rfl, J2, g0_, rfl, hg, hm0_⟩
      exact ⟨_, rfl, fun _ => (none, g0_, []), J2, rfl, hg, hm0_, trivial⟩
  · refine Givens.consS (fun D u w hp hS =>  ?_) (fun _ _ _ => rfl) (Givens.nil)
    · obtain ⟨J, hJ, hs, hF⟩ := hS
      exact giv_look mt69 (3, 0, a2.f0, a2.f1) (((hF.1 (hp 2 (by kernel_rfl) (by kernel_rfl))).1)) hs.im (by kernel_rfl)
  intro u I1 nx1 hi1 hF
  have hf1 := ((hF.1 rfl).1)
  clear hF
  show RL _ _ _ 10 _ [(8, .int .u32 ((mget t1 (3, 0, a2.f0, a2.f1)).getD 0)), (18, .bool (mget t1 (3, 0, a2.f0, a2.f1)).isSome), (17, .int .u32 ((mget t1 (3, 0, a2.f0, a2.f1)).getD 0)), (10, .tuple #[.int .u32 ((mget t1 (3, 0, a2.f0, a2.f1)).getD 0), .bool (mget t1 (3, 0, a2.f0, a2.f1)).isSome]), (16, .tuple #[.int .u32 ((mget t1 (3, 0, a2.f0, a2.f1)).getD 0), .bool (mget t1 (3, 0, a2.f0, a2.f1)).isSome]), (15, .agg #[.int .i64 3, .int .i64 0, .int .i64 a2.f0, .int .i64 a2.f1]), (14, .agg #[.int .i64 a2.f0, .int .i64 a2.f1]), (13, .map (some ((u 2 0).2.1))), (12, .int .i64 a1), (11, .slice Ap0 a0.length cp0), (5, .pointer (some ⟨nx0, 0, none⟩)), (0, .slice Ap0 a0.length cp0), (1, .int .i64 a1)] _ _ _ [⟨nx0, [.int .i64 a2.f0, .int .i64 a2.f1], 24⟩] []
  revert hf1
  generalize (u 2 0).1 = A1
  generalize (u 2 0).2.1 = c1
  generalize (u 2 0).2.2 = cs1
  intro hf1
  clear u
  refine RL.simP (K' := [(9, .bool (mget t1 (3, 0, a2.f0, a2.f1)).isSome), (8, .int .u32 ((mget t1 (3, 0, a2.f0, a2.f1)).getD 0))]) (nx' := nx1) (L' := [⟨nx0, [.int .i64 a2.f0, .int .i64 a2.f1], 24⟩]) [] (RFacts.nil _ _ _) 1 [.no] (by kernel_rfl) (by kernel_rfl) ?_
  refine RL.nil (by kernel_rfl) ?_
  refine QN.then_ ?_
  refine OK.seq K16_7 K16_9 (by kernel_rfl) ?_
  refine OK.region 2 O16_7 (by kernel_rfl) ?_
  refine RL.simP (K' := [(7, .bool (mget t1 (3, 0, a2.f0, a2.f1)).isSome), (6, .int .u32 ((mget t1 (3, 0, a2.f0, a2.f1)).getD 0))]) (nx' := nx1) (L' := [⟨nx0, [.int .i64 a2.f0, .int .i64 a2.f1], 24⟩]) [] (RFacts.nil _ _ _) 4 [.no, .no, .no, .no] (by kernel_rfl) (by kernel_rfl) ?_
  refine RL.nil (by kernel_rfl) ?_
  refine QN.then_ ?_
  refine OK.ret (by kernel_rfl) ?_
  obtain rfl := Option.some.inj H
  refine QN.body rfl [] (RFacts.nil _ _ _) (.no) (.tuple #[.int .u32 ((mget t1 (3, 0, a2.f0, a2.f1)).getD 0), .bool (mget t1 (3, 0, a2.f0, a2.f1)).isSome]) (by kernel_rfl) (by kernel_rfl) (by kernel_rfl) ?_ _ (.inr rfl)
  exact fun w' hs' => ⟨_, rfl, I1, rfl, hs'.got _ .slnil⟩

end Go.Proofs.Ytieakigoinebdaa
