/- What a function of the program computes, and the walk that shows it; made by a program of the session's out of the translation; no conditions beyond those that the theorems name. -/
import Derived.Test.YtieakigoinebdaaS
import Derived.Test.YtieakigoinebdaaG49
import Derived.Test.YtieakigoinebdaaG50
import Derived.Test.YtieakigoinebdaaG51
namespace Go.Proofs.Ytieakigoinebdaa
open Go Go.Proofs.Ytieakigoinebdaa.RW
set_option linter.unusedVariables false
set_option maxRecDepth 100000
set_option maxHeartbeats 8000000

/-! ### codec_EncodeEntry: function 42, armillary/codec.EncodeEntry -/
noncomputable def K42_0 : Code := cBody Try.f42
noncomputable def K42_1 : Code := cL K42_0
noncomputable def O42_1 : List Oper := cOps K42_1
noncomputable def K42_3 : Code := cR K42_0
noncomputable def K42_4 : Code := cL K42_3
noncomputable def K42_5 : Code := cL K42_4
noncomputable def O42_5 : List Oper := cOps K42_5
noncomputable def K42_7 : Code := cR K42_4
noncomputable def K42_8 : Code := cL K42_7
noncomputable def K42_9 : Code := cL K42_8
noncomputable def O42_9 : List Oper := cOps K42_9
noncomputable def K42_11 : Code := cR K42_8
noncomputable def K42_12 : Code := cR K42_7
noncomputable def K42_13 : Code := cR K42_3
noncomputable def K42_14 : Code := cL K42_13
noncomputable def O42_14 : List Oper := cOps K42_14
noncomputable def K42_16 : Code := cR K42_13
noncomputable def K42_17 : Code := cL K42_16
noncomputable def O42_17 : List Oper := cOps K42_17
noncomputable def K42_19 : Code := cR K42_16
def codec_EncodeEntry.f (k : Nat) (a0 : S30) : Option (List Int × Int) := ((codec_validEntry.f a0).bind fun t1 => (if t1 = true then ((codec_AppendVarint.f k [] a0.f0).bind fun t2 => (if a0.f1.size ≤ 9223372036854775807 then ((codec_appendBytes.f k t2 (bytesOf a0.f1)).bind fun t3 => ((codec_appendBytes.f k t3 a0.f2).bind fun t4 => (some (t4, 0)))) else none)) else (some ([], 1))))
def codec_EncodeEntry.Post (I : Imm) (w : World) (r : List Int × Int) (v : Value) (w' : World) : Prop :=
  ∃ (J : Imm) (A0 : Option Addr) (c0 : Nat) (cs0 : List Value), v = .tuple #[.slice A0 r.1.length c0, .int .i64 r.2] ∧ Got w w' I J [orow 5 1 A0 r.1.length c0 cs0] ∧ Reps (Ty.int .u8) J r.1 cs0
theorem codec_EncodeEntry.a42_14 : ancs O42_14 [] = [0, 1, 3, 0, 8, 24, 63, 127] := by kernel_rfl
theorem codec_EncodeEntry.a42_14o : drawOk O42_14 [0, 1, 3, 0, 8, 24, 63, 127] 6 = true := by kernel_rfl
noncomputable def codec_EncodeEntry.d1l (a0 : S30) (t2 : List Int) : List Ld :=
  [⟨2, fun x => .slice ((x 0).1) t2.length ((x 0).2.1), fun x => [orow 5 1 (x 0).1 t2.length (x 0).2.1 (x 0).2.2], fun x J => Reps (Ty.int .u8) J t2 (x 0).2.2 ∧ True, fun x J J' h f => ⟨Reps.ext h f.1, trivial⟩⟩,
    ⟨5, fun x => .slice (some ⟨(x 0).2.1, 0, none⟩) ((bytesOf a0.f1).length) ((x 1).2.1), fun x => [], fun x J => (bytesOf a0.f1).length ≤ (x 1).2.1 ∧ Rd (Ty.int .u8) J (some ⟨(x 0).2.1, 0, none⟩) (bytesOf a0.f1) ∧ True, fun x J J' h f => ⟨f.1, Rd.ext h f.2.1, trivial⟩⟩]
noncomputable def codec_EncodeEntry.d1g  : List (Nat × ((Nat → Wt) → Value)) := []
noncomputable def codec_EncodeEntry.d1q (a0 : S30) (Ap0_2 : Option Addr) (cp0_2 : Nat) (nx0 : Nat) (t1 : Bool) (t2 : List Int) (u : Nat → Wt) : Option (List Value × List (Nat × Value) × List (Nat × Nat)) := qSim Try.prog [] [⟨nx0, [.int .i64 a0.f0, .string a0.f1, .slice Ap0_2 a0.f2.length cp0_2], 30⟩] O42_14 ⟨19, []⟩ (Ld.vl (codec_EncodeEntry.d1l a0 t2)) codec_EncodeEntry.d1g u [.no, .l 0, .no, .no, .l 0, .no] 0 (O42_14.take 6) [(7, .bool (!t1)), (1, .pointer (some ⟨nx0, 0, none⟩))]
noncomputable def codec_EncodeEntry.d1s (a0 : S30) (nx0 : Nat) (t2 : List Int) (u : Nat → Wt) : List Value := [.pointer (some ⟨nx0, 0, none⟩), .int .i64 a0.f0, .slice ((u 2 0).1) t2.length ((u 2 0).2.1), .pointer (some ⟨nx0, 1, none⟩), .string a0.f1, .slice (some ⟨(u 5 0).2.1, 0, none⟩) ((bytesOf a0.f1).length) ((u 5 1).2.1)]
noncomputable def codec_EncodeEntry.d1k (a0 : S30) (nx0 : Nat) (t1 : Bool) (t2 : List Int) (u : Nat → Wt) : List (Nat × Value) := [(13, .slice (some ⟨(u 5 0).2.1, 0, none⟩) ((bytesOf a0.f1).length) ((u 5 1).2.1)), (12, .string a0.f1), (11, .pointer (some ⟨nx0, 1, none⟩)), (10, .slice ((u 2 0).1) t2.length ((u 2 0).2.1)), (9, .int .i64 a0.f0), (8, .pointer (some ⟨nx0, 0, none⟩)), (7, .bool (!t1)), (1, .pointer (some ⟨nx0, 0, none⟩))]
theorem codec_EncodeEntry.d1v (a0 : S30) (Ap0_2 : Option Addr) (cp0_2 : Nat) (nx0 : Nat) (t1 : Bool) (t2 : List Int) (u : Nat → Wt) : (codec_EncodeEntry.d1q a0 Ap0_2 cp0_2 nx0 t1 t2 u).map (fun x => (x.1, x.2.1)) = some ((codec_EncodeEntry.d1s a0 nx0 t2) u, (codec_EncodeEntry.d1k a0 nx0 t1 t2) u) := by kernel_rfl
theorem codec_EncodeEntry.d1e (a0 : S30) (Ap0_2 : Option Addr) (cp0_2 : Nat) (nx0 : Nat) (t1 : Bool) (t2 : List Int) (u : Nat → Wt) : (codec_EncodeEntry.d1q a0 Ap0_2 cp0_2 nx0 t1 t2 u).map (fun x => x.2.2.map (·.1)) = (codec_EncodeEntry.d1q a0 Ap0_2 cp0_2 nx0 t1 t2 u).map (fun x => x.2.2.map (·.2)) := by kernel_rfl
theorem codec_EncodeEntry.calls (k : Nat) (I0 : Imm) (a0 : S30) (Ap0_2 : Option Addr) (cp0_2 : Nat) (w : World) (hI : I0.at_ w) (hlp0_2 : a0.f2.length ≤ cp0_2) (hrp0_2 : Rd (Ty.int .u8) I0 Ap0_2 a0.f2) (r : List Int × Int) (h : codec_EncodeEntry.f k a0 = some r) :
    Calls Try.prog 42 [.agg #[.int .i64 a0.f0, .string a0.f1, .slice Ap0_2 a0.f2.length cp0_2]].toArray w fun e w' => ∃ v, e = .returned v ∧ codec_EncodeEntry.Post I0 w r v w' := by
  have H : ((codec_validEntry.f a0).bind fun t1 => (if t1 = true then ((codec_AppendVarint.f k [] a0.f0).bind fun t2 => (if a0.f1.size ≤ 9223372036854775807 then ((codec_appendBytes.f k t2 (bytesOf a0.f1)).bind fun t3 => ((codec_appendBytes.f k t3 a0.f2).bind fun t4 => (some (t4, 0)))) else none)) else (some ([], 1)))) = some r := h
  clear h
  refine calls_body Try.func42 (by kernel_rfl) 19 (by kernel_rfl) (by kernel_rfl) ⟨w, fun _ => False, I0⟩ I0 [] [(0, .agg #[.int .i64 a0.f0, .string a0.f1, .slice Ap0_2 a0.f2.length cp0_2])] (by kernel_rfl) (Sat.start w _ I0 hI) ?_
  generalize w.heap.size = nx0
  show OK _ K42_0 _ _ _ _ _ _ _ _
  refine OK.seq K42_1 K42_3 (by kernel_rfl) ?_
  refine OK.region 0 O42_1 (by kernel_rfl) ?_
  refine RL.simP (K' := [(1, .pointer (some ⟨nx0, 0, none⟩))]) (nx' := nx0 + 1) (L' := [⟨nx0, [.int .i64 a0.f0, .string a0.f1, .slice Ap0_2 a0.f2.length cp0_2], 30⟩]) [] (RFacts.nil _ _ _) 3 [.no, .no, .no] (by kernel_rfl) (by kernel_rfl) ?_
  refine RL.nil (by kernel_rfl) ?_
  refine QN.then_ ?_
  refine OK.seq K42_4 K42_13 (by kernel_rfl) ?_
  refine OK.seq K42_5 K42_7 (by kernel_rfl) ?_
  refine OK.region 1 O42_5 (by kernel_rfl) ?_
  refine RL.simP (K' := [(5, .agg #[.int .i64 a0.f0, .string a0.f1, .slice Ap0_2 a0.f2.length cp0_2]), (1, .pointer (some ⟨nx0, 0, none⟩))]) (nx' := nx0 + 1) (L' := [⟨nx0, [.int .i64 a0.f0, .string a0.f1, .slice Ap0_2 a0.f2.length cp0_2], 30⟩]) [] (RFacts.nil _ _ _) 1 [.l 0] (by kernel_rfl) (by kernel_rfl) ?_
  obtain ⟨t1, hA1, H⟩ := Option.bind_eq_some_iff.mp H
  refine RL.callP 49 [.agg #[.int .i64 a0.f0, .string a0.f1, .slice Ap0_2 a0.f2.length cp0_2]] (some 6) (fun w => codec_validEntry.Post I0 w t1) (by kernel_rfl) (by kernel_rfl) (fun w hs => codec_validEntry.calls I0 a0 Ap0_2 cp0_2 w hs.im hlp0_2 hrp0_2 t1 hA1) ?_
  rintro w v w' hs ⟨I1, rfl, hg⟩
  have hi1 := hg.le
  refine RL.resume (K' := [(6, .bool t1), (5, .agg #[.int .i64 a0.f0, .string a0.f1, .slice Ap0_2 a0.f2.length cp0_2]), (1, .pointer (some ⟨nx0, 0, none⟩))]) (X' := []) (by kernel_rfl) (hs.call hg) ?_
  clear hs hg
  generalize w'.heap.size = nx1
  clear w w'
  refine RL.simP (K' := [(7, .bool (!t1)), (1, .pointer (some ⟨nx0, 0, none⟩))]) (nx' := nx1) (L' := [⟨nx0, [.int .i64 a0.f0, .string a0.f1, .slice Ap0_2 a0.f2.length cp0_2], 30⟩]) [] (RFacts.nil _ _ _) 1 [.no] (by kernel_rfl) (by kernel_rfl) ?_
  refine RL.nil (by kernel_rfl) ?_
  refine QN.then_ ?_
  refine OK.cond (.tmp 7) K42_8 K42_12 (!t1) (by kernel_rfl) (by kernel_rfl) (by kernel_rfl) (fun hb => ?_) (fun hb => ?_)
  · have hb : t1 = false := by simpa using hb
    have hc := (Bool.eq_false_iff.1 hb)
    rw [if_neg hc] at H
    clear hb
    refine OK.seq K42_9 K42_11 (by kernel_rfl) ?_
    refine OK.region 2 O42_9 (by kernel_rfl) ?_
    refine RL.simP (K' := [(3, .int .i64 1), (2, .slice none 0 0)]) (nx' := nx1) (L' := [⟨nx0, [.int .i64 a0.f0, .string a0.f1, .slice Ap0_2 a0.f2.length cp0_2], 30⟩]) [] (RFacts.nil _ _ _) 2 [.no, .no] (by kernel_rfl) (by kernel_rfl) ?_
    refine RL.nil (by kernel_rfl) ?_
    refine QN.then_ ?_
    refine OK.ret (by kernel_rfl) ?_
    refine QN.thenR ?_
    obtain rfl := Option.some.inj H
    refine QN.body rfl [] (RFacts.nil _ _ _) (.no) (.tuple #[.slice none 0 0, .int .i64 1]) (by kernel_rfl) (by kernel_rfl) (by kernel_rfl) ?_ _ (.inr rfl)
    exact fun w' hs' => ⟨_, rfl, I1, none, 0, [], rfl, gotNil1 (hs'.got [] (List.nil_sublist _)), rfl⟩
  · have hb : t1 = true := by simpa using hb
    have hc := hb
    rw [if_pos hc] at H
    clear hb
    refine OK.skip (by kernel_rfl) ?_
    refine QN.then_ ?_
    refine OK.seq K42_14 K42_16 (by kernel_rfl) ?_
    obtain ⟨t2, hA2, H⟩ := Option.bind_eq_some_iff.mp H
    by_cases hz1 : a0.f1.size ≤ 9223372036854775807
    case neg => rw [if_neg hz1] at H; cases H
    rw [if_pos hz1] at H
    refine OK.drawnC 3 6 O42_14 [0, 1, 3, 0, 8, 24, 63, 127] (by kernel_rfl) (by kernel_rfl) (codec_EncodeEntry.d1l a0 t2) codec_EncodeEntry.d1g [] (RI.nil _) [.no, .l 0, .no, .no, .l 0, .no] codec_EncodeEntry.a42_14 codec_EncodeEntry.a42_14o (by kernel_rfl) (by kernel_rfl) (codec_EncodeEntry.d1s a0 nx0 t2) (codec_EncodeEntry.d1k a0 nx0 t1 t2) (codec_EncodeEntry.d1v a0 Ap0_2 cp0_2 nx0 t1 t2) (codec_EncodeEntry.d1e a0 Ap0_2 cp0_2 nx0 t1 t2) [fun u => [(9, .int .i64 a0.f0), (8, .pointer (some ⟨nx0, 0, none⟩)), (7, .bool (!t1)), (1, .pointer (some ⟨nx0, 0, none⟩))], fun u => [(12, .string a0.f1), (11, .pointer (some ⟨nx0, 1, none⟩)), (10, .slice ((u 2 0).1) t2.length ((u 2 0).2.1)), (9, .int .i64 a0.f0), (8, .pointer (some ⟨nx0, 0, none⟩)), (7, .bool (!t1)), (1, .pointer (some ⟨nx0, 0, none⟩))]] (framesOk.cons (fun u => by kernel_rfl) (framesOk.cons (fun u => by kernel_rfl) framesOk.nil)) ?_ [] framesOk.nil ?_ ?_
    · refine LoudsG.cons ?_ (LoudsG.cons ?_ (LoudsG.nil))
      · intro D u J w hp hJ hs hF
        refine Does.call 51 [.slice none 0 0, .int .i64 a0.f0] (by kernel_rfl) ((codec_AppendVarint.calls k J [] none 0 a0.f0 w hs.im (Nat.le_refl _) (Rd.nil _ _ _) t2 hA2).mono ?_)
        rintro e w' ⟨v, rfl, J2, A0_, c0_, cs0_, rfl, hg, hp0_⟩
        exact ⟨_, rfl, fun _ => (A0_, c0_, cs0_), J2, rfl, hg, hp0_, trivial⟩
      · intro D u J w hp hJ hs hF
        refine (Does.toBytes (src := 9) (dst := 28) (e := 5) (s := a0.f1) (u := .string) hs.im (by kernel_rfl) (by kernel_rfl) (by kernel_rfl) hz1 (by kernel_rfl)).mono ?_
        rintro v w' ⟨J2, c_, rfl, hg, hl_, hr_⟩
        exact ⟨fun q_ => bif Nat.beq q_ 0 then (none, w.heap.size, []) else (none, c_, []), J2, rfl, hg, hl_, hr_, trivial⟩
    · refine Givens.nil
    intro u I2 nx2 hi2 hF
    have hf1 := ((hF.1 rfl).1)
    have hf2 := ((hF.2.1 rfl).1)
    have hf3 := ((hF.2.1 rfl).2.1)
    clear hF
    show RL _ _ _ 6 _ [(13, .slice (some ⟨(u 5 0).2.1, 0, none⟩) ((bytesOf a0.f1).length) ((u 5 1).2.1)), (12, .string a0.f1), (11, .pointer (some ⟨nx0, 1, none⟩)), (10, .slice ((u 2 0).1) t2.length ((u 2 0).2.1)), (9, .int .i64 a0.f0), (8, .pointer (some ⟨nx0, 0, none⟩)), (7, .bool (!t1)), (1, .pointer (some ⟨nx0, 0, none⟩))] _ _ _ [⟨nx0, [.int .i64 a0.f0, .string a0.f1, .slice Ap0_2 a0.f2.length cp0_2], 30⟩] [orow 5 1 (u 2 0).1 t2.length (u 2 0).2.1 (u 2 0).2.2]
    revert hf1 hf2 hf3
    generalize (u 2 0).1 = A1
    generalize (u 2 0).2.1 = c1
    generalize (u 2 0).2.2 = cs1
    generalize (u 5 0).1 = A2
    generalize (u 5 0).2.1 = c2
    generalize (u 5 0).2.2 = cs2
    generalize (u 5 1).1 = A3
    generalize (u 5 1).2.1 = c3
    generalize (u 5 1).2.2 = cs3
    intro hf1 hf2 hf3
    clear u
    refine RL.freeze (e := 5) (sz := 1) (S := A1) (n := t2.length) (cap := c1) 0 (by kernel_rfl) hf1 rfl (fun _ h => h.elim) (fun I3 hi3 hl1 hr1 => ?_)
    skip
    obtain ⟨t3, hA3, H⟩ := Option.bind_eq_some_iff.mp H
    refine RL.callP 50 [.slice A1 t2.length c1, .slice (some ⟨c2, 0, none⟩) ((bytesOf a0.f1).length) (c3)] (some 14) (fun w => codec_appendBytes.Post I3 w t3) (by kernel_rfl) (by kernel_rfl) (fun w hs => codec_appendBytes.calls k I3 t2 A1 c1 (bytesOf a0.f1) (some ⟨c2, 0, none⟩) (c3) w hs.im hl1 hr1 hf2 (Rd.ext hi3 hf3) t3 hA3) ?_
    rintro w v w' hs ⟨I4, A4, c4, cs4, rfl, hg, hp1⟩
    have hi4 := hg.le
    refine RL.resume (K' := [(14, .slice A4 t3.length c4), (13, .slice (some ⟨c2, 0, none⟩) ((bytesOf a0.f1).length) (c3)), (12, .string a0.f1), (11, .pointer (some ⟨nx0, 1, none⟩)), (10, .slice A1 t2.length c1), (9, .int .i64 a0.f0), (8, .pointer (some ⟨nx0, 0, none⟩)), (7, .bool (!t1)), (1, .pointer (some ⟨nx0, 0, none⟩))]) (X' := [orow 5 1 A4 t3.length c4 cs4]) (by kernel_rfl) (hs.call hg) ?_
    clear hs hg
    generalize w'.heap.size = nx3
    clear w w'
    refine RL.simP (K' := [(4, .slice A4 t3.length c4), (1, .pointer (some ⟨nx0, 0, none⟩))]) (nx' := nx3) (L' := [⟨nx0, [.int .i64 a0.f0, .string a0.f1, .slice Ap0_2 a0.f2.length cp0_2], 30⟩]) [] (RFacts.nil _ _ _) 1 [.no] (by kernel_rfl) (by kernel_rfl) ?_
    refine RL.nil (by kernel_rfl) ?_
    refine QN.then_ ?_
    refine OK.seq K42_17 K42_19 (by kernel_rfl) ?_
    refine OK.region 4 O42_17 (by kernel_rfl) ?_
    refine RL.simP (K' := [(17, .slice Ap0_2 a0.f2.length cp0_2), (15, .slice A4 t3.length c4)]) (nx' := nx3) (L' := [⟨nx0, [.int .i64 a0.f0, .string a0.f1, .slice Ap0_2 a0.f2.length cp0_2], 30⟩]) [] (RFacts.nil _ _ _) 3 [.no, .no, .l 0] (by kernel_rfl) (by kernel_rfl) ?_
    refine RL.freeze (e := 5) (sz := 1) (S := A4) (n := t3.length) (cap := c4) 0 (by kernel_rfl) hp1 rfl (fun _ h => h.elim) (fun I5 hi5 hl2 hr2 => ?_)
    skip
    obtain ⟨t4, hA4, H⟩ := Option.bind_eq_some_iff.mp H
    refine RL.callP 50 [.slice A4 t3.length c4, .slice Ap0_2 a0.f2.length cp0_2] (some 18) (fun w => codec_appendBytes.Post I5 w t4) (by kernel_rfl) (by kernel_rfl) (fun w hs => codec_appendBytes.calls k I5 t3 A4 c4 a0.f2 Ap0_2 cp0_2 w hs.im hl2 hr2 hlp0_2 (Rd.ext (Imm.le_trans (Imm.le_trans (Imm.le_trans (Imm.le_trans hi1 hi2) hi3) hi4) hi5) hrp0_2) t4 hA4) ?_
    rintro w v w' hs ⟨I6, A5, c5, cs5, rfl, hg, hp2⟩
    have hi6 := hg.le
    refine RL.resume (K' := [(18, .slice A5 t4.length c5), (17, .slice Ap0_2 a0.f2.length cp0_2), (15, .slice A4 t3.length c4)]) (X' := [orow 5 1 A5 t4.length c5 cs5]) (by kernel_rfl) (hs.call hg) ?_
    clear hs hg
    generalize w'.heap.size = nx4
    clear w w'
    refine RL.simP (K' := [(3, .int .i64 0), (2, .slice A5 t4.length c5)]) (nx' := nx4) (L' := [⟨nx0, [.int .i64 a0.f0, .string a0.f1, .slice Ap0_2 a0.f2.length cp0_2], 30⟩]) [] (RFacts.nil _ _ _) 2 [.no, .no] (by kernel_rfl) (by kernel_rfl) ?_
    refine RL.nil (by kernel_rfl) ?_
    refine QN.then_ ?_
    refine OK.ret (by kernel_rfl) ?_
    obtain rfl := Option.some.inj H
    refine QN.body rfl [] (RFacts.nil _ _ _) (.no) (.tuple #[.slice A5 t4.length c5, .int .i64 0]) (by kernel_rfl) (by kernel_rfl) (by kernel_rfl) ?_ _ (.inr rfl)
    exact fun w' hs' => ⟨_, rfl, I6, A5, c5, cs5, rfl, hs'.got _ (.cons_cons _ .slnil), hp2⟩

end Go.Proofs.Ytieakigoinebdaa
