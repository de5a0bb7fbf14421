/- What a function of the program computes, and the walk that shows it; made by a program of the session's out of the translation; no conditions beyond those that the theorems name. -/
import Derived.Test.YtieakigoinebdaaS
import Derived.Test.YtieakigoinebdaaG28
namespace Go.Proofs.Ytieakigoinebdaa
open Go Go.Proofs.Ytieakigoinebdaa.RW
set_option linter.unusedVariables false
set_option maxRecDepth 100000
set_option maxHeartbeats 8000000

/-! ### armillarylaw29_made: function 11, armillary/armillarylaw29.made -/
noncomputable def K11_0 : Code := cBody Try.f11
noncomputable def K11_1 : Code := cL K11_0
noncomputable def O11_1 : List Oper := cOps K11_1
noncomputable def K11_3 : Code := cR K11_0
noncomputable def K11_4 : Code := cL K11_3
noncomputable def O11_4 : List Oper := cOps K11_4
noncomputable def K11_6 : Code := cR K11_3
noncomputable def K11_7 : Code := cL K11_6
noncomputable def O11_7 : List Oper := cOps K11_7
noncomputable def K11_9 : Code := cR K11_6
def armillarylaw29_made.f (k : Nat) (a0 : S26) : Option (List S32 × Int × S24) := ((armillaryref29_MadeAll.f k a0.f0 (W .i64 (1 + (W .i64 (a0.f1.tmod 13)))) 40).bind fun t1 => (some (t1, W .i64 (1 + (W .i64 (a0.f1.tmod 13))), (⟨(bAnd .i64 a0.f2.f0 255).tmod 4, (bAnd .i64 a0.f2.f1 255).tmod 3⟩ : S24))))
def armillarylaw29_made.Post (I : Imm) (w : World) (r : List S32 × Int × S24) (v : Value) (w' : World) : Prop :=
  ∃ (J : Imm) (A0 : Option Addr) (c0 : Nat) (cs0 : List Value), v = .tuple #[.slice A0 r.1.length c0, .int .i64 r.2.1, .agg #[.int .i64 r.2.2.f0, .int .i64 r.2.2.f1]] ∧ Got w w' I J [orow 32 8 A0 r.1.length c0 cs0] ∧ Reps t32 J r.1 cs0
theorem armillarylaw29_made.a11_7 : ancs O11_7 [] = [0, 1, 0, 7, 0, 0, 32, 96, 224, 480, 0, 1024, 3072, 7168, 15360, 32736, 15, 65567, 262143] := by kernel_rfl
theorem armillarylaw29_made.a11_7o : drawOk O11_7 [0, 1, 0, 7, 0, 0, 32, 96, 224, 480, 0, 1024, 3072, 7168, 15360, 32736, 15, 65567, 262143] 18 = true := by kernel_rfl
noncomputable def armillarylaw29_made.d1l (t1 : List S32) : List Ld :=
  [⟨3, fun x => .slice ((x 0).1) t1.length ((x 0).2.1), fun x => [orow 32 8 (x 0).1 t1.length (x 0).2.1 (x 0).2.2], fun x J => Reps t32 J t1 (x 0).2.2 ∧ True, fun x J J' h f => ⟨Reps.ext h f.1, trivial⟩⟩]
noncomputable def armillarylaw29_made.d1g  : List (Nat × ((Nat → Wt) → Value)) := []
noncomputable def armillarylaw29_made.d1q (a0 : S26) (Ap0_0 : Option Addr) (cp0_0 : Nat) (nx0 : Nat) (t1 : List S32) (u : Nat → Wt) : Option (List Value × List (Nat × Value) × List (Nat × Nat)) := qSim Try.prog [] [⟨nx0, [.slice Ap0_0 a0.f0.length cp0_0, .int .u8 a0.f1, .int .i64 a0.f2.f0, .int .i64 a0.f2.f1], 26⟩, ⟨nx0 + 1, [.int .i64 0, .int .i64 0], 24⟩] O11_7 ⟨27, []⟩ (Ld.vl (armillarylaw29_made.d1l t1)) armillarylaw29_made.d1g u [.no, .l 0, .no, .no, .no, .no, .no, .l 0, .no, .no, .no, .no, .l 0, .no, .no, .no, .no, .no] 0 (O11_7.take 18) [(5, .int .i64 (W .i64 (1 + (W .i64 (a0.f1.tmod 13))))), (4, .pointer (some ⟨nx0 + 1, 0, none⟩)), (1, .pointer (some ⟨nx0, 0, none⟩))]
noncomputable def armillarylaw29_made.d1s (a0 : S26) (Ap0_0 : Option Addr) (cp0_0 : Nat) (nx0 : Nat) (t1 : List S32) (u : Nat → Wt) : List Value := [.pointer (some ⟨nx0, 0, none⟩), .slice Ap0_0 a0.f0.length cp0_0, .int .i64 (W .i64 (1 + (W .i64 (a0.f1.tmod 13)))), .slice ((u 3 0).1) t1.length ((u 3 0).2.1), .int .i64 (W .i64 (1 + (W .i64 (a0.f1.tmod 13)))), .pointer (some ⟨nx0, 2, none⟩), .pointer (some ⟨nx0, 2, none⟩), .int .i64 a0.f2.f0, .int .i64 (bAnd .i64 a0.f2.f0 255), .int .i64 ((bAnd .i64 a0.f2.f0 255).tmod 4), .pointer (some ⟨nx0, 2, none⟩), .pointer (some ⟨nx0, 3, none⟩), .int .i64 a0.f2.f1, .int .i64 (bAnd .i64 a0.f2.f1 255), .int .i64 ((bAnd .i64 a0.f2.f1 255).tmod 3), .agg #[.int .i64 ((bAnd .i64 a0.f2.f0 255).tmod 4), .int .i64 ((bAnd .i64 a0.f2.f1 255).tmod 3)], .slice ((u 3 0).1) t1.length ((u 3 0).2.1), .int .i64 (W .i64 (1 + (W .i64 (a0.f1.tmod 13))))]
noncomputable def armillarylaw29_made.d1k (a0 : S26) (Ap0_0 : Option Addr) (cp0_0 : Nat) (nx0 : Nat) (t1 : List S32) (u : Nat → Wt) : List (Nat × Value) := [(3, .int .i64 (W .i64 (1 + (W .i64 (a0.f1.tmod 13))))), (2, .slice ((u 3 0).1) t1.length ((u 3 0).2.1)), (26, .agg #[.int .i64 ((bAnd .i64 a0.f2.f0 255).tmod 4), .int .i64 ((bAnd .i64 a0.f2.f1 255).tmod 3)]), (25, .int .i64 ((bAnd .i64 a0.f2.f1 255).tmod 3)), (24, .int .i64 (bAnd .i64 a0.f2.f1 255)), (23, .int .i64 a0.f2.f1), (22, .pointer (some ⟨nx0, 3, none⟩)), (21, .pointer (some ⟨nx0, 2, none⟩)), (20, .int .i64 ((bAnd .i64 a0.f2.f0 255).tmod 4)), (19, .int .i64 (bAnd .i64 a0.f2.f0 255)), (18, .int .i64 a0.f2.f0), (17, .pointer (some ⟨nx0, 2, none⟩)), (16, .pointer (some ⟨nx0, 2, none⟩)), (15, .int .i64 (W .i64 (1 + (W .i64 (a0.f1.tmod 13))))), (14, .slice ((u 3 0).1) t1.length ((u 3 0).2.1)), (13, .int .i64 (W .i64 (1 + (W .i64 (a0.f1.tmod 13))))), (12, .slice Ap0_0 a0.f0.length cp0_0), (11, .pointer (some ⟨nx0, 0, none⟩)), (5, .int .i64 (W .i64 (1 + (W .i64 (a0.f1.tmod 13))))), (4, .pointer (some ⟨nx0 + 1, 0, none⟩)), (1, .pointer (some ⟨nx0, 0, none⟩))]
theorem armillarylaw29_made.d1v (a0 : S26) (Ap0_0 : Option Addr) (cp0_0 : Nat) (nx0 : Nat) (t1 : List S32) (u : Nat → Wt) : (armillarylaw29_made.d1q a0 Ap0_0 cp0_0 nx0 t1 u).map (fun x => (x.1, x.2.1)) = some ((armillarylaw29_made.d1s a0 Ap0_0 cp0_0 nx0 t1) u, (armillarylaw29_made.d1k a0 Ap0_0 cp0_0 nx0 t1) u) := by kernel_rfl
theorem armillarylaw29_made.d1e (a0 : S26) (Ap0_0 : Option Addr) (cp0_0 : Nat) (nx0 : Nat) (t1 : List S32) (u : Nat → Wt) : (armillarylaw29_made.d1q a0 Ap0_0 cp0_0 nx0 t1 u).map (fun x => x.2.2.map (·.1)) = (armillarylaw29_made.d1q a0 Ap0_0 cp0_0 nx0 t1 u).map (fun x => x.2.2.map (·.2)) := by kernel_rfl
theorem armillarylaw29_made.calls (k : Nat) (I0 : Imm) (a0 : S26) (Ap0_0 : Option Addr) (cp0_0 : Nat) (w : World) (hI : I0.at_ w) (hlp0_0 : a0.f0.length ≤ cp0_0) (hrp0_0 : Rd t32 I0 Ap0_0 a0.f0) (r : List S32 × Int × S24) (h : armillarylaw29_made.f k a0 = some r) :
    Calls Try.prog 11 [.agg #[.slice Ap0_0 a0.f0.length cp0_0, .int .u8 a0.f1, .int .i64 a0.f2.f0, .int .i64 a0.f2.f1]].toArray w fun e w' => ∃ v, e = .returned v ∧ armillarylaw29_made.Post I0 w r v w' := by
  have H : ((armillaryref29_MadeAll.f k a0.f0 (W .i64 (1 + (W .i64 (a0.f1.tmod 13)))) 40).bind fun t1 => (some (t1, W .i64 (1 + (W .i64 (a0.f1.tmod 13))), (⟨(bAnd .i64 a0.f2.f0 255).tmod 4, (bAnd .i64 a0.f2.f1 255).tmod 3⟩ : S24)))) = some r := h
  clear h
  refine calls_body Try.func11 (by kernel_rfl) 27 (by kernel_rfl) (by kernel_rfl) ⟨w, fun _ => False, I0⟩ I0 [] [(0, .agg #[.slice Ap0_0 a0.f0.length cp0_0, .int .u8 a0.f1, .int .i64 a0.f2.f0, .int .i64 a0.f2.f1])] (by kernel_rfl) (Sat.start w _ I0 hI) ?_
  generalize w.heap.size = nx0
  show OK _ K11_0 _ _ _ _ _ _ _ _
  refine OK.seq K11_1 K11_3 (by kernel_rfl) ?_
  refine OK.region 0 O11_1 (by kernel_rfl) ?_
  refine RL.simP (K' := [(4, .pointer (some ⟨nx0 + 1, 0, none⟩)), (1, .pointer (some ⟨nx0, 0, none⟩))]) (nx' := nx0 + 2) (L' := [⟨nx0, [.slice Ap0_0 a0.f0.length cp0_0, .int .u8 a0.f1, .int .i64 a0.f2.f0, .int .i64 a0.f2.f1], 26⟩, ⟨nx0 + 1, [.int .i64 0, .int .i64 0], 24⟩]) [] (RFacts.nil _ _ _) 4 [.no, .no, .no, .no] (by kernel_rfl) (by kernel_rfl) ?_
  refine RL.nil (by kernel_rfl) ?_
  refine QN.then_ ?_
  refine OK.seq K11_4 K11_6 (by kernel_rfl) ?_
  refine OK.region 1 O11_4 (by kernel_rfl) ?_
  refine RL.simP (K' := [(5, .int .i64 (W .i64 (1 + (W .i64 (a0.f1.tmod 13))))), (4, .pointer (some ⟨nx0 + 1, 0, none⟩)), (1, .pointer (some ⟨nx0, 0, none⟩))]) (nx' := nx0 + 2) (L' := [⟨nx0, [.slice Ap0_0 a0.f0.length cp0_0, .int .u8 a0.f1, .int .i64 a0.f2.f0, .int .i64 a0.f2.f1], 26⟩, ⟨nx0 + 1, [.int .i64 0, .int .i64 0], 24⟩]) [] (RFacts.nil _ _ _) 6 [.no, .l 0, .no, .no, .no, .no] (by kernel_rfl) (by kernel_rfl) ?_
  refine RL.nil (by kernel_rfl) ?_
  refine QN.then_ ?_
  refine OK.seq K11_7 K11_9 (by kernel_rfl) ?_
  obtain ⟨t1, hA1, H⟩ := Option.bind_eq_some_iff.mp H
  refine OK.drawnC 2 18 O11_7 [0, 1, 0, 7, 0, 0, 32, 96, 224, 480, 0, 1024, 3072, 7168, 15360, 32736, 15, 65567, 262143] (by kernel_rfl) (by kernel_rfl) (armillarylaw29_made.d1l t1) armillarylaw29_made.d1g [] (RI.nil _) [.no, .l 0, .no, .no, .no, .no, .no, .l 0, .no, .no, .no, .no, .l 0, .no, .no, .no, .no, .no] armillarylaw29_made.a11_7 armillarylaw29_made.a11_7o (by kernel_rfl) (by kernel_rfl) (armillarylaw29_made.d1s a0 Ap0_0 cp0_0 nx0 t1) (armillarylaw29_made.d1k a0 Ap0_0 cp0_0 nx0 t1) (armillarylaw29_made.d1v a0 Ap0_0 cp0_0 nx0 t1) (armillarylaw29_made.d1e a0 Ap0_0 cp0_0 nx0 t1) [fun u => [(13, .int .i64 (W .i64 (1 + (W .i64 (a0.f1.tmod 13))))), (12, .slice Ap0_0 a0.f0.length cp0_0), (11, .pointer (some ⟨nx0, 0, none⟩)), (5, .int .i64 (W .i64 (1 + (W .i64 (a0.f1.tmod 13))))), (4, .pointer (some ⟨nx0 + 1, 0, none⟩)), (1, .pointer (some ⟨nx0, 0, none⟩))]] (framesOk.cons (fun u => by kernel_rfl) framesOk.nil) ?_ [] framesOk.nil ?_ ?_
  · refine LoudsG.cons ?_ (LoudsG.nil)
    · intro D u J w hp hJ hs hF
      refine Does.call 28 [.slice Ap0_0 a0.f0.length cp0_0, .int .i64 (W .i64 (1 + (W .i64 (a0.f1.tmod 13)))), .int .i64 40] (by kernel_rfl) ((armillaryref29_MadeAll.calls k J a0.f0 Ap0_0 cp0_0 (W .i64 (1 + (W .i64 (a0.f1.tmod 13)))) 40 w hs.im hlp0_0 (Rd.ext hJ hrp0_0) t1 hA1).mono ?_)
      rintro e w' ⟨v, rfl, J2, A0_, c0_, cs0_, rfl, hg, hp0_⟩
      exact ⟨_, rfl, fun _ => (A0_, c0_, cs0_), J2, rfl, hg, hp0_, trivial⟩
  · refine Givens.nil
  intro u I1 nx1 hi1 hF
  have hf1 := ((hF.1 rfl).1)
  clear hF
  show RL _ _ _ 18 _ [(3, .int .i64 (W .i64 (1 + (W .i64 (a0.f1.tmod 13))))), (2, .slice ((u 3 0).1) t1.length ((u 3 0).2.1)), (26, .agg #[.int .i64 ((bAnd .i64 a0.f2.f0 255).tmod 4), .int .i64 ((bAnd .i64 a0.f2.f1 255).tmod 3)]), (25, .int .i64 ((bAnd .i64 a0.f2.f1 255).tmod 3)), (24, .int .i64 (bAnd .i64 a0.f2.f1 255)), (23, .int .i64 a0.f2.f1), (22, .pointer (some ⟨nx0, 3, none⟩)), (21, .pointer (some ⟨nx0, 2, none⟩)), (20, .int .i64 ((bAnd .i64 a0.f2.f0 255).tmod 4)), (19, .int .i64 (bAnd .i64 a0.f2.f0 255)), (18, .int .i64 a0.f2.f0), (17, .pointer (some ⟨nx0, 2, none⟩)), (16, .pointer (some ⟨nx0, 2, none⟩)), (15, .int .i64 (W .i64 (1 + (W .i64 (a0.f1.tmod 13))))), (14, .slice ((u 3 0).1) t1.length ((u 3 0).2.1)), (13, .int .i64 (W .i64 (1 + (W .i64 (a0.f1.tmod 13))))), (12, .slice Ap0_0 a0.f0.length cp0_0), (11, .pointer (some ⟨nx0, 0, none⟩)), (5, .int .i64 (W .i64 (1 + (W .i64 (a0.f1.tmod 13))))), (4, .pointer (some ⟨nx0 + 1, 0, none⟩)), (1, .pointer (some ⟨nx0, 0, none⟩))] _ _ _ [⟨nx0, [.slice Ap0_0 a0.f0.length cp0_0, .int .u8 a0.f1, .int .i64 a0.f2.f0, .int .i64 a0.f2.f1], 26⟩, ⟨nx0 + 1, [.int .i64 0, .int .i64 0], 24⟩] [orow 32 8 (u 3 0).1 t1.length (u 3 0).2.1 (u 3 0).2.2]
  revert hf1
  generalize (u 3 0).1 = A1
  generalize (u 3 0).2.1 = c1
  generalize (u 3 0).2.2 = cs1
  intro hf1
  clear u
  refine RL.simP (K' := [(3, .int .i64 (W .i64 (1 + (W .i64 (a0.f1.tmod 13))))), (2, .slice A1 t1.length c1), (4, .pointer (some ⟨nx0 + 1, 0, none⟩))]) (nx' := nx1) (L' := [⟨nx0, [.slice Ap0_0 a0.f0.length cp0_0, .int .u8 a0.f1, .int .i64 a0.f2.f0, .int .i64 a0.f2.f1], 26⟩, ⟨nx0 + 1, [.int .i64 ((bAnd .i64 a0.f2.f0 255).tmod 4), .int .i64 ((bAnd .i64 a0.f2.f1 255).tmod 3)], 24⟩]) [] (RFacts.nil _ _ _) 1 [.l 1] (by kernel_rfl) (by kernel_rfl) ?_
  refine RL.nil (by kernel_rfl) ?_
  refine QN.then_ ?_
  refine OK.ret (by kernel_rfl) ?_
  obtain rfl := Option.some.inj H
  refine QN.body rfl [] (RFacts.nil _ _ _) (.l 1) (.tuple #[.slice A1 t1.length c1, .int .i64 (W .i64 (1 + (W .i64 (a0.f1.tmod 13)))), .agg #[.int .i64 ((bAnd .i64 a0.f2.f0 255).tmod 4), .int .i64 ((bAnd .i64 a0.f2.f1 255).tmod 3)]]) (by kernel_rfl) (by kernel_rfl) (by kernel_rfl) ?_ _ (.inr rfl)
  exact fun w' hs' => ⟨_, rfl, I1, A1, c1, cs1, rfl, hs'.got _ (.cons_cons _ .slnil), hf1⟩

end Go.Proofs.Ytieakigoinebdaa
