/- What a function of the program computes, and the walk that shows it; made by a program of the session's out of the translation; no conditions beyond those that the theorems name. -/
import Derived.Test.YtieakigoinebdaaS
import Derived.Test.YtieakigoinebdaaG54
namespace Go.Proofs.Ytieakigoinebdaa
open Go Go.Proofs.Ytieakigoinebdaa.RW
set_option linter.unusedVariables false
set_option maxRecDepth 100000
set_option maxHeartbeats 8000000

/-! ### codec_AppendVarint: function 51, armillary/codec.AppendVarint -/
noncomputable def K51_0 : Code := cBody Try.f51
noncomputable def K51_1 : Code := cL K51_0
noncomputable def O51_1 : List Oper := cOps K51_1
noncomputable def K51_3 : Code := cR K51_0
noncomputable def K51_4 : Code := cL K51_3
noncomputable def O51_4 : List Oper := cOps K51_4
noncomputable def K51_6 : Code := cR K51_3
noncomputable def K51_7 : Code := cL K51_6
noncomputable def O51_7 : List Oper := cOps K51_7
noncomputable def K51_9 : Code := cR K51_6
noncomputable def K51_10 : Code := cL K51_9
noncomputable def K51_11 : Code := cL K51_10
noncomputable def K51_12 : Code := cL K51_11
noncomputable def K51_13 : Code := cL K51_12
noncomputable def K51_14 : Code := cL K51_13
noncomputable def O51_14 : List Oper := cOps K51_14
noncomputable def K51_16 : Code := cR K51_13
noncomputable def K51_17 : Code := cL K51_16
noncomputable def K51_18 : Code := cR K51_16
noncomputable def K51_19 : Code := cR K51_12
noncomputable def K51_20 : Code := cL K51_19
noncomputable def K51_21 : Code := cL K51_20
noncomputable def O51_21 : List Oper := cOps K51_21
noncomputable def K51_23 : Code := cR K51_19
noncomputable def O51_23 : List Oper := cOps K51_23
noncomputable def K51_25 : Code := cR K51_9
noncomputable def K51_26 : Code := cL K51_25
noncomputable def O51_26 : List Oper := cOps K51_26
noncomputable def K51_28 : Code := cR K51_25
def codec_AppendVarint.l1 : Nat → (List Int) → Int → Option (List Int)
  | 0, _, _ => none
  | k + 1, x1, x2 => (if x2 ≥ 128 then (if (x1.length + [bOr .u8 (W .u8 (x2)) 128].length) * 1 ≤ 140737488355328 then (codec_AppendVarint.l1 k (x1 ++ [bOr .u8 (W .u8 (x2)) 128]) (Int.fdiv x2 128)) else none) else (if (x1.length + [W .u8 (x2)].length) * 1 ≤ 140737488355328 then (some (x1 ++ [W .u8 (x2)])) else none))
def codec_AppendVarint.f (k : Nat) (a0 : List Int) (a1 : Int) : Option (List Int) := ((slices_Clip_byte_byte.f a0).bind fun t1 => (if (bXor .u64 (W .u64 (W .i64 (a1 * 2))) (W .u64 (Int.fdiv a1 9223372036854775808))) ≥ 128 then (if (t1.length + [bOr .u8 (W .u8 (bXor .u64 (W .u64 (W .i64 (a1 * 2))) (W .u64 (Int.fdiv a1 9223372036854775808)))) 128].length) * 1 ≤ 140737488355328 then (codec_AppendVarint.l1 k (t1 ++ [bOr .u8 (W .u8 (bXor .u64 (W .u64 (W .i64 (a1 * 2))) (W .u64 (Int.fdiv a1 9223372036854775808)))) 128]) (Int.fdiv (bXor .u64 (W .u64 (W .i64 (a1 * 2))) (W .u64 (Int.fdiv a1 9223372036854775808))) 128)) else none) else (if (t1.length + [W .u8 (bXor .u64 (W .u64 (W .i64 (a1 * 2))) (W .u64 (Int.fdiv a1 9223372036854775808)))].length) * 1 ≤ 140737488355328 then (some (t1 ++ [W .u8 (bXor .u64 (W .u64 (W .i64 (a1 * 2))) (W .u64 (Int.fdiv a1 9223372036854775808)))])) else none)))
def codec_AppendVarint.Post (I : Imm) (w : World) (r : List Int) (v : Value) (w' : World) : Prop :=
  ∃ (J : Imm) (A0 : Option Addr) (c0 : Nat) (cs0 : List Value), v = .slice A0 r.length c0 ∧ Got w w' I J [orow 5 1 A0 r.length c0 cs0] ∧ Reps (Ty.int .u8) J r cs0
theorem codec_AppendVarint.calls (k : Nat) (I0 : Imm) (a0 : List Int) (Ap0 : Option Addr) (cp0 : Nat) (a1 : Int) (w : World) (hI : I0.at_ w) (hlp0 : a0.length ≤ cp0) (hrp0 : Rd (Ty.int .u8) I0 Ap0 a0) (r : List Int) (h : codec_AppendVarint.f k a0 a1 = some r) :
    Calls Try.prog 51 [.slice Ap0 a0.length cp0, .int .i64 a1].toArray w fun e w' => ∃ v, e = .returned v ∧ codec_AppendVarint.Post I0 w r v w' := by
  have H : ((slices_Clip_byte_byte.f a0).bind fun t1 => (if (bXor .u64 (W .u64 (W .i64 (a1 * 2))) (W .u64 (Int.fdiv a1 9223372036854775808))) ≥ 128 then (if (t1.length + [bOr .u8 (W .u8 (bXor .u64 (W .u64 (W .i64 (a1 * 2))) (W .u64 (Int.fdiv a1 9223372036854775808)))) 128].length) * 1 ≤ 140737488355328 then (codec_AppendVarint.l1 k (t1 ++ [bOr .u8 (W .u8 (bXor .u64 (W .u64 (W .i64 (a1 * 2))) (W .u64 (Int.fdiv a1 9223372036854775808)))) 128]) (Int.fdiv (bXor .u64 (W .u64 (W .i64 (a1 * 2))) (W .u64 (Int.fdiv a1 9223372036854775808))) 128)) else none) else (if (t1.length + [W .u8 (bXor .u64 (W .u64 (W .i64 (a1 * 2))) (W .u64 (Int.fdiv a1 9223372036854775808)))].length) * 1 ≤ 140737488355328 then (some (t1 ++ [W .u8 (bXor .u64 (W .u64 (W .i64 (a1 * 2))) (W .u64 (Int.fdiv a1 9223372036854775808)))])) else none))) = some r := h
  clear h
  refine calls_body Try.func51 (by kernel_rfl) 30 (by kernel_rfl) (by kernel_rfl) ⟨w, fun _ => False, I0⟩ I0 [] [(0, .slice Ap0 a0.length cp0), (1, .int .i64 a1)] (by kernel_rfl) (Sat.start w _ I0 hI) ?_
  generalize w.heap.size = nx0
  show OK _ K51_0 _ _ _ _ _ _ _ _
  refine OK.seq K51_1 K51_3 (by kernel_rfl) ?_
  refine OK.region 0 O51_1 (by kernel_rfl) ?_
  refine RL.simP (K' := [(0, .slice Ap0 a0.length cp0), (1, .int .i64 a1)]) (nx' := nx0) (L' := []) [] (RFacts.nil _ _ _) 1 [.no] (by kernel_rfl) (by kernel_rfl) ?_
  refine RL.nil (by kernel_rfl) ?_
  refine QN.then_ ?_
  refine OK.seq K51_4 K51_6 (by kernel_rfl) ?_
  refine OK.region 1 O51_4 (by kernel_rfl) ?_
  refine RL.simP (K' := [(5, .int .u64 (bXor .u64 (W .u64 (W .i64 (a1 * 2))) (W .u64 (Int.fdiv a1 9223372036854775808)))), (0, .slice Ap0 a0.length cp0)]) (nx' := nx0) (L' := []) [] (RFacts.nil _ _ _) 8 [.no, .no, .no, .no, .no, .no, .no, .no] (by kernel_rfl) (by kernel_rfl) ?_
  refine RL.nil (by kernel_rfl) ?_
  refine QN.then_ ?_
  refine OK.seq K51_7 K51_9 (by kernel_rfl) ?_
  refine OK.region 2 O51_7 (by kernel_rfl) ?_
  refine RL.simP (K' := [(13, .slice Ap0 a0.length cp0), (5, .int .u64 (bXor .u64 (W .u64 (W .i64 (a1 * 2))) (W .u64 (Int.fdiv a1 9223372036854775808)))), (0, .slice Ap0 a0.length cp0)]) (nx' := nx0) (L' := []) [] (RFacts.nil _ _ _) 1 [.no] (by kernel_rfl) (by kernel_rfl) ?_
  obtain ⟨t1, hA1, H⟩ := Option.bind_eq_some_iff.mp H
  refine RL.callP 54 [.slice Ap0 a0.length cp0] (some 14) (fun w => slices_Clip_byte_byte.Post I0 w t1) (by kernel_rfl) (by kernel_rfl) (fun w hs => slices_Clip_byte_byte.calls I0 a0 Ap0 cp0 w hs.im hlp0 hrp0 t1 hA1) ?_
  rintro w v w' hs ⟨I1, A1, rfl, hg, hr1⟩
  have hi1 := hg.le
  refine RL.resume (K' := [(14, .slice A1 t1.length t1.length), (13, .slice Ap0 a0.length cp0), (5, .int .u64 (bXor .u64 (W .u64 (W .i64 (a1 * 2))) (W .u64 (Int.fdiv a1 9223372036854775808)))), (0, .slice Ap0 a0.length cp0)]) (X' := []) (by kernel_rfl) (hs.call hg) ?_
  clear hs hg
  generalize w'.heap.size = nx1
  clear w w'
  refine RL.simP (K' := [(0, .slice A1 t1.length t1.length), (5, .int .u64 (bXor .u64 (W .u64 (W .i64 (a1 * 2))) (W .u64 (Int.fdiv a1 9223372036854775808))))]) (nx' := nx1) (L' := []) [] (RFacts.nil _ _ _) 1 [.no] (by kernel_rfl) (by kernel_rfl) ?_
  refine RL.nil (by kernel_rfl) ?_
  refine QN.then_ ?_
  refine OK.seq K51_10 K51_25 (by kernel_rfl) ?_
  refine OK.block 0 K51_11 (by kernel_rfl) ?_
  refine OK.loopPeel K51_12 (by kernel_rfl) (fun n_ K' I' _ L' X' => ∃ (x1 : List Int) (x2 : Int) (A2 : Option Addr) (c2 : Nat) (cs1 : List Value), K' = [(0, .slice A2 x1.length c2), (5, .int .u64 x2)] ∧ L' = [] ∧ X' = [orow 5 1 A2 x1.length c2 cs1] ∧ Imm.le I1 I' ∧ Reps (Ty.int .u8) I' x1 cs1 ∧ codec_AppendVarint.l1 n_ x1 x2 = some r) k ?_ ?_ ?_
  · rintro _ _ _ _ _ ⟨x1, x2, A2, c2, cs1, rfl, rfl, rfl, _, hp1, H⟩
    cases H
  · intro Q_f1 hJ2 hQ2
    refine OK.seq K51_13 K51_19 (by kernel_rfl) ?_
    refine OK.seq K51_14 K51_16 (by kernel_rfl) ?_
    refine OK.region 3 O51_14 (by kernel_rfl) ?_
    refine RL.simP (K' := [(16, .bool (decide ((bXor .u64 (W .u64 (W .i64 (a1 * 2))) (W .u64 (Int.fdiv a1 9223372036854775808))) ≥ 128))), (0, .slice A1 t1.length t1.length), (5, .int .u64 (bXor .u64 (W .u64 (W .i64 (a1 * 2))) (W .u64 (Int.fdiv a1 9223372036854775808))))]) (nx' := nx1) (L' := []) [] (RFacts.nil _ _ _) 2 [.no, .no] (by kernel_rfl) (by kernel_rfl) ?_
    refine RL.nil (by kernel_rfl) ?_
    refine QN.then_ ?_
    refine OK.cond (.tmp 16) K51_17 K51_18 (decide ((bXor .u64 (W .u64 (W .i64 (a1 * 2))) (W .u64 (Int.fdiv a1 9223372036854775808))) ≥ 128)) (by kernel_rfl) (by kernel_rfl) (by kernel_rfl) (fun hb => ?_) (fun hb => ?_)
    · skip
      have hc := (of_decide_eq_true hb)
      rw [if_pos hc] at H
      clear hb
      refine OK.skip (by kernel_rfl) ?_
      refine QN.then_ ?_
      refine OK.seq K51_20 K51_23 (by kernel_rfl) ?_
      refine OK.block 1 K51_21 (by kernel_rfl) ?_
      refine OK.region 5 O51_21 (by kernel_rfl) ?_
      refine RL.simP (K' := [(23, .slice (some ⟨nx1, 0, none⟩) 1 1), (19, .slice A1 t1.length t1.length), (0, .slice A1 t1.length t1.length), (5, .int .u64 (bXor .u64 (W .u64 (W .i64 (a1 * 2))) (W .u64 (Int.fdiv a1 9223372036854775808))))]) (nx' := nx1 + 1) (L' := [⟨nx1, [.int .u8 (bOr .u8 (W .u8 (bXor .u64 (W .u64 (W .i64 (a1 * 2))) (W .u64 (Int.fdiv a1 9223372036854775808)))) 128)], 5⟩]) [] (RFacts.nil _ _ _) 5 [.no, .no, .no, .no, .no] (by kernel_rfl) (by kernel_rfl) ?_
      by_cases hz3 : (t1.length + [bOr .u8 (W .u8 (bXor .u64 (W .u64 (W .i64 (a1 * 2))) (W .u64 (Int.fdiv a1 9223372036854775808)))) 128].length) * 1 ≤ 140737488355328
      case neg => rw [if_neg hz3] at H; cases H
      rw [if_pos hz3] at H
      refine RL.appendClip (T := 28) (e := 5) (S := A1) 1 1 28 0 1 nx1 5 [.int .u8 (bOr .u8 (W .u8 (bXor .u64 (W .u64 (W .i64 (a1 * 2))) (W .u64 (Int.fdiv a1 9223372036854775808)))) 128)] (Ty.int .u8) t1 [bOr .u8 (W .u8 (bXor .u64 (W .u64 (W .i64 (a1 * 2))) (W .u64 (Int.fdiv a1 9223372036854775808)))) 128] (some 24) (by kernel_rfl) (by kernel_rfl) (by kernel_rfl) (by kernel_rfl) (by kernel_rfl) (by decide) hr1 (by kernel_rfl) ⟨_, _, rfl, rfl, rfl⟩ (Nat.zero_lt_succ _) hz3 (by omega) (fun A5 c5 nx5 cs4 hp4 => ?_)
      refine RL.sub (K' := [(24, .slice A5 ((t1 ++ [bOr .u8 (W .u8 (bXor .u64 (W .u64 (W .i64 (a1 * 2))) (W .u64 (Int.fdiv a1 9223372036854775808)))) 128]).length) c5), (23, .slice (some ⟨nx1, 0, none⟩) 1 1), (19, .slice A1 t1.length t1.length), (0, .slice A1 t1.length t1.length), (5, .int .u64 (bXor .u64 (W .u64 (W .i64 (a1 * 2))) (W .u64 (Int.fdiv a1 9223372036854775808))))]) (L' := [⟨nx1, [.int .u8 (bOr .u8 (W .u8 (bXor .u64 (W .u64 (W .i64 (a1 * 2))) (W .u64 (Int.fdiv a1 9223372036854775808)))) 128)], 5⟩]) (X' := [orow 5 1 A5 ((t1 ++ [bOr .u8 (W .u8 (bXor .u64 (W .u64 (W .i64 (a1 * 2))) (W .u64 (Int.fdiv a1 9223372036854775808)))) 128]).length) c5 cs4]) (by kernel_rfl) (.refl _) (.refl _) ?_
      refine RL.simP (K' := [(0, .slice A5 ((t1 ++ [bOr .u8 (W .u8 (bXor .u64 (W .u64 (W .i64 (a1 * 2))) (W .u64 (Int.fdiv a1 9223372036854775808)))) 128]).length) c5), (5, .int .u64 (bXor .u64 (W .u64 (W .i64 (a1 * 2))) (W .u64 (Int.fdiv a1 9223372036854775808))))]) (nx' := nx5) (L' := [⟨nx1, [.int .u8 (bOr .u8 (W .u8 (bXor .u64 (W .u64 (W .i64 (a1 * 2))) (W .u64 (Int.fdiv a1 9223372036854775808)))) 128)], 5⟩]) [] (RFacts.nil _ _ _) 1 [.no] (by kernel_rfl) (by kernel_rfl) ?_
      refine RL.nil (by kernel_rfl) ?_
      refine QN.blkN ?_
      refine QN.then_ ?_
      refine OK.region 4 O51_23 (by kernel_rfl) ?_
      refine RL.simP (K' := [(5, .int .u64 (Int.fdiv (bXor .u64 (W .u64 (W .i64 (a1 * 2))) (W .u64 (Int.fdiv a1 9223372036854775808))) 128)), (0, .slice A5 ((t1 ++ [bOr .u8 (W .u8 (bXor .u64 (W .u64 (W .i64 (a1 * 2))) (W .u64 (Int.fdiv a1 9223372036854775808)))) 128]).length) c5)]) (nx' := nx5) (L' := [⟨nx1, [.int .u8 (bOr .u8 (W .u8 (bXor .u64 (W .u64 (W .i64 (a1 * 2))) (W .u64 (Int.fdiv a1 9223372036854775808)))) 128)], 5⟩]) [] (RFacts.nil _ _ _) 3 [.no, .no, .no] (by kernel_rfl) (by kernel_rfl) ?_
      refine RL.nil (by kernel_rfl) ?_
      refine QN.sub (K' := [(0, .slice A5 ((t1 ++ [bOr .u8 (W .u8 (bXor .u64 (W .u64 (W .i64 (a1 * 2))) (W .u64 (Int.fdiv a1 9223372036854775808)))) 128]).length) c5), (5, .int .u64 (Int.fdiv (bXor .u64 (W .u64 (W .i64 (a1 * 2))) (W .u64 (Int.fdiv a1 9223372036854775808))) 128))]) (L' := []) (by kernel_rfl) (.cons _ .slnil) (.refl _) ?_
      exact hJ2 _ _ _ _ _ ⟨(t1 ++ [bOr .u8 (W .u8 (bXor .u64 (W .u64 (W .i64 (a1 * 2))) (W .u64 (Int.fdiv a1 9223372036854775808)))) 128]), Int.fdiv (bXor .u64 (W .u64 (W .i64 (a1 * 2))) (W .u64 (Int.fdiv a1 9223372036854775808))) 128, A5, c5, cs4, rfl, rfl, rfl, (Imm.le_refl _), hp4, H⟩
    · skip
      have hc := (of_decide_eq_false hb)
      rw [if_neg hc] at H
      clear hb
      refine OK.exit 0 (by kernel_rfl) ?_
      refine QN.thenE ?_
      refine QN.outE hQ2 ?_
      refine QN.blkE ?_
      refine QN.then_ ?_
      refine OK.seq K51_26 K51_28 (by kernel_rfl) ?_
      refine OK.region 6 O51_26 (by kernel_rfl) ?_
      refine RL.simP (K' := [(28, .slice (some ⟨nx1, 0, none⟩) 1 1), (25, .slice A1 t1.length t1.length)]) (nx' := nx1 + 1) (L' := [⟨nx1, [.int .u8 (W .u8 (bXor .u64 (W .u64 (W .i64 (a1 * 2))) (W .u64 (Int.fdiv a1 9223372036854775808))))], 5⟩]) [] (RFacts.nil _ _ _) 4 [.no, .no, .no, .no] (by kernel_rfl) (by kernel_rfl) ?_
      by_cases hz4 : (t1.length + [W .u8 (bXor .u64 (W .u64 (W .i64 (a1 * 2))) (W .u64 (Int.fdiv a1 9223372036854775808)))].length) * 1 ≤ 140737488355328
      case neg => rw [if_neg hz4] at H; cases H
      rw [if_pos hz4] at H
      refine RL.appendClip (T := 28) (e := 5) (S := A1) 1 1 28 0 1 nx1 5 [.int .u8 (W .u8 (bXor .u64 (W .u64 (W .i64 (a1 * 2))) (W .u64 (Int.fdiv a1 9223372036854775808))))] (Ty.int .u8) t1 [W .u8 (bXor .u64 (W .u64 (W .i64 (a1 * 2))) (W .u64 (Int.fdiv a1 9223372036854775808)))] (some 29) (by kernel_rfl) (by kernel_rfl) (by kernel_rfl) (by kernel_rfl) (by kernel_rfl) (by decide) hr1 (by kernel_rfl) ⟨_, _, rfl, rfl, rfl⟩ (Nat.zero_lt_succ _) hz4 (by omega) (fun A6 c6 nx6 cs5 hp5 => ?_)
      refine RL.sub (K' := [(29, .slice A6 ((t1 ++ [W .u8 (bXor .u64 (W .u64 (W .i64 (a1 * 2))) (W .u64 (Int.fdiv a1 9223372036854775808)))]).length) c6), (28, .slice (some ⟨nx1, 0, none⟩) 1 1), (25, .slice A1 t1.length t1.length)]) (L' := [⟨nx1, [.int .u8 (W .u8 (bXor .u64 (W .u64 (W .i64 (a1 * 2))) (W .u64 (Int.fdiv a1 9223372036854775808))))], 5⟩]) (X' := [orow 5 1 A6 ((t1 ++ [W .u8 (bXor .u64 (W .u64 (W .i64 (a1 * 2))) (W .u64 (Int.fdiv a1 9223372036854775808)))]).length) c6 cs5]) (by kernel_rfl) (.refl _) (.refl _) ?_
      refine RL.simP (K' := [(4, .slice A6 ((t1 ++ [W .u8 (bXor .u64 (W .u64 (W .i64 (a1 * 2))) (W .u64 (Int.fdiv a1 9223372036854775808)))]).length) c6)]) (nx' := nx6) (L' := [⟨nx1, [.int .u8 (W .u8 (bXor .u64 (W .u64 (W .i64 (a1 * 2))) (W .u64 (Int.fdiv a1 9223372036854775808))))], 5⟩]) [] (RFacts.nil _ _ _) 1 [.no] (by kernel_rfl) (by kernel_rfl) ?_
      refine RL.nil (by kernel_rfl) ?_
      refine QN.then_ ?_
      refine OK.ret (by kernel_rfl) ?_
      obtain rfl := Option.some.inj H
      refine QN.body rfl [] (RFacts.nil _ _ _) (.no) (.slice A6 ((t1 ++ [W .u8 (bXor .u64 (W .u64 (W .i64 (a1 * 2))) (W .u64 (Int.fdiv a1 9223372036854775808)))]).length) c6) (by kernel_rfl) (by kernel_rfl) (by kernel_rfl) ?_ _ (.inr rfl)
      exact fun w' hs' => ⟨_, rfl, I1, A6, c6, cs5, rfl, hs'.got _ (.cons_cons _ .slnil), hp5⟩
  · rintro kq1 _ I2 nx2 _ _ ⟨x1, x2, A2, c2, cs1, rfl, rfl, rfl, hi2, hp1, H⟩ Q_l1 hJ1 hQ1
    replace H : (if x2 ≥ 128 then (if (x1.length + [bOr .u8 (W .u8 (x2)) 128].length) * 1 ≤ 140737488355328 then (codec_AppendVarint.l1 kq1 (x1 ++ [bOr .u8 (W .u8 (x2)) 128]) (Int.fdiv x2 128)) else none) else (if (x1.length + [W .u8 (x2)].length) * 1 ≤ 140737488355328 then (some (x1 ++ [W .u8 (x2)])) else none)) = some r := H
    refine OK.seq K51_13 K51_19 (by kernel_rfl) ?_
    refine OK.seq K51_14 K51_16 (by kernel_rfl) ?_
    refine OK.region 3 O51_14 (by kernel_rfl) ?_
    refine RL.simP (K' := [(16, .bool (decide (x2 ≥ 128))), (0, .slice A2 x1.length c2), (5, .int .u64 x2)]) (nx' := nx2) (L' := []) [] (RFacts.nil _ _ _) 2 [.no, .no] (by kernel_rfl) (by kernel_rfl) ?_
    refine RL.nil (by kernel_rfl) ?_
    refine QN.then_ ?_
    refine OK.cond (.tmp 16) K51_17 K51_18 (decide (x2 ≥ 128)) (by kernel_rfl) (by kernel_rfl) (by kernel_rfl) (fun hb => ?_) (fun hb => ?_)
    · skip
      have hc := (of_decide_eq_true hb)
      rw [if_pos hc] at H
      clear hb
      refine OK.skip (by kernel_rfl) ?_
      refine QN.then_ ?_
      refine OK.seq K51_20 K51_23 (by kernel_rfl) ?_
      refine OK.block 1 K51_21 (by kernel_rfl) ?_
      refine OK.region 5 O51_21 (by kernel_rfl) ?_
      refine RL.simP (K' := [(23, .slice (some ⟨nx2, 0, none⟩) 1 1), (19, .slice A2 x1.length c2), (0, .slice A2 x1.length c2), (5, .int .u64 x2)]) (nx' := nx2 + 1) (L' := [⟨nx2, [.int .u8 (bOr .u8 (W .u8 (x2)) 128)], 5⟩]) [] (RFacts.nil _ _ _) 5 [.no, .no, .no, .no, .no] (by kernel_rfl) (by kernel_rfl) ?_
      by_cases hz1 : (x1.length + [bOr .u8 (W .u8 (x2)) 128].length) * 1 ≤ 140737488355328
      case neg => rw [if_neg hz1] at H; cases H
      rw [if_pos hz1] at H
      refine RL.appendB (T := 28) (e := 5) (S := A2) 1 1 28 c2 0 1 nx2 5 cs1 [.int .u8 (bOr .u8 (W .u8 (x2)) 128)] (Ty.int .u8) x1 [bOr .u8 (W .u8 (x2)) 128] 0 (some 24) (by kernel_rfl) (by kernel_rfl) (by kernel_rfl) (by kernel_rfl) (by kernel_rfl) (by decide) (by kernel_rfl) hp1 (by kernel_rfl) ⟨_, _, rfl, rfl, rfl⟩ hz1 (by omega) (fun A3 c3 nx3 cs2 hp2 => ?_)
      refine RL.sub (K' := [(24, .slice A3 ((x1 ++ [bOr .u8 (W .u8 (x2)) 128]).length) c3), (23, .slice (some ⟨nx2, 0, none⟩) 1 1), (5, .int .u64 x2)]) (L' := [⟨nx2, [.int .u8 (bOr .u8 (W .u8 (x2)) 128)], 5⟩]) (X' := [orow 5 1 A3 ((x1 ++ [bOr .u8 (W .u8 (x2)) 128]).length) c3 cs2]) (by kernel_rfl) (.refl _) (.refl _) ?_
      refine RL.simP (K' := [(0, .slice A3 ((x1 ++ [bOr .u8 (W .u8 (x2)) 128]).length) c3), (5, .int .u64 x2)]) (nx' := nx3) (L' := [⟨nx2, [.int .u8 (bOr .u8 (W .u8 (x2)) 128)], 5⟩]) [] (RFacts.nil _ _ _) 1 [.no] (by kernel_rfl) (by kernel_rfl) ?_
      refine RL.nil (by kernel_rfl) ?_
      refine QN.blkN ?_
      refine QN.then_ ?_
      refine OK.region 4 O51_23 (by kernel_rfl) ?_
      refine RL.simP (K' := [(5, .int .u64 (Int.fdiv x2 128)), (0, .slice A3 ((x1 ++ [bOr .u8 (W .u8 (x2)) 128]).length) c3)]) (nx' := nx3) (L' := [⟨nx2, [.int .u8 (bOr .u8 (W .u8 (x2)) 128)], 5⟩]) [] (RFacts.nil _ _ _) 3 [.no, .no, .no] (by kernel_rfl) (by kernel_rfl) ?_
      refine RL.nil (by kernel_rfl) ?_
      refine QN.sub (K' := [(0, .slice A3 ((x1 ++ [bOr .u8 (W .u8 (x2)) 128]).length) c3), (5, .int .u64 (Int.fdiv x2 128))]) (L' := []) (by kernel_rfl) (.cons _ .slnil) (.refl _) ?_
      exact hJ1 _ _ _ _ _ ⟨(x1 ++ [bOr .u8 (W .u8 (x2)) 128]), Int.fdiv x2 128, A3, c3, cs2, rfl, rfl, rfl, hi2, hp2, H⟩
    · skip
      have hc := (of_decide_eq_false hb)
      rw [if_neg hc] at H
      clear hb
      refine OK.exit 0 (by kernel_rfl) ?_
      refine QN.thenE ?_
      refine QN.outE hQ1 ?_
      refine QN.blkE ?_
      refine QN.then_ ?_
      refine OK.seq K51_26 K51_28 (by kernel_rfl) ?_
      refine OK.region 6 O51_26 (by kernel_rfl) ?_
      refine RL.simP (K' := [(28, .slice (some ⟨nx2, 0, none⟩) 1 1), (25, .slice A2 x1.length c2)]) (nx' := nx2 + 1) (L' := [⟨nx2, [.int .u8 (W .u8 (x2))], 5⟩]) [] (RFacts.nil _ _ _) 4 [.no, .no, .no, .no] (by kernel_rfl) (by kernel_rfl) ?_
      by_cases hz2 : (x1.length + [W .u8 (x2)].length) * 1 ≤ 140737488355328
      case neg => rw [if_neg hz2] at H; cases H
      rw [if_pos hz2] at H
      refine RL.appendB (T := 28) (e := 5) (S := A2) 1 1 28 c2 0 1 nx2 5 cs1 [.int .u8 (W .u8 (x2))] (Ty.int .u8) x1 [W .u8 (x2)] 0 (some 29) (by kernel_rfl) (by kernel_rfl) (by kernel_rfl) (by kernel_rfl) (by kernel_rfl) (by decide) (by kernel_rfl) hp1 (by kernel_rfl) ⟨_, _, rfl, rfl, rfl⟩ hz2 (by omega) (fun A4 c4 nx4 cs3 hp3 => ?_)
      refine RL.sub (K' := [(29, .slice A4 ((x1 ++ [W .u8 (x2)]).length) c4), (28, .slice (some ⟨nx2, 0, none⟩) 1 1)]) (L' := [⟨nx2, [.int .u8 (W .u8 (x2))], 5⟩]) (X' := [orow 5 1 A4 ((x1 ++ [W .u8 (x2)]).length) c4 cs3]) (by kernel_rfl) (.refl _) (.refl _) ?_
      refine RL.simP (K' := [(4, .slice A4 ((x1 ++ [W .u8 (x2)]).length) c4)]) (nx' := nx4) (L' := [⟨nx2, [.int .u8 (W .u8 (x2))], 5⟩]) [] (RFacts.nil _ _ _) 1 [.no] (by kernel_rfl) (by kernel_rfl) ?_
      refine RL.nil (by kernel_rfl) ?_
      refine QN.then_ ?_
      refine OK.ret (by kernel_rfl) ?_
      obtain rfl := Option.some.inj H
      refine QN.body rfl [] (RFacts.nil _ _ _) (.no) (.slice A4 ((x1 ++ [W .u8 (x2)]).length) c4) (by kernel_rfl) (by kernel_rfl) (by kernel_rfl) ?_ _ (.inr rfl)
      exact fun w' hs' => ⟨_, rfl, I2, A4, c4, cs3, rfl, hs'.got _ (.cons_cons _ .slnil), hp3⟩

end Go.Proofs.Ytieakigoinebdaa
