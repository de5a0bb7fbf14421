/- Words of the walk, the functions' walks and plain laws, joined; no conditions beyond those that the theorems name. -/
import Derived.Test.YtieakigoinebdaaX32
namespace Go.Proofs.Ytieakigoinebdaa
open Go Go.Proofs.Ytieakigoinebdaa.RW
set_option linter.unusedVariables false
set_option maxRecDepth 100000
set_option maxHeartbeats 8000000

/-! ### codec_validEntry: function 49, armillary/codec.validEntry -/
noncomputable def K49_0 : Code := cBody Try.f49
noncomputable def K49_1 : Code := cL K49_0
noncomputable def O49_1 : List Oper := cOps K49_1
noncomputable def K49_3 : Code := cR K49_0
noncomputable def K49_4 : Code := cL K49_3
noncomputable def O49_4 : List Oper := cOps K49_4
noncomputable def K49_6 : Code := cR K49_3
def codec_validEntry.k1  (x1 : Bool) : Option (Bool) := (some x1)
def codec_validEntry.f (a0 : S30) : Option (Bool) := ((if a0.f0 ≥ 1 then (if a0.f0 ≤ 4 then (if (a0.f1.size : Int) ≥ 1 then (if (a0.f1.size : Int) ≤ 40 then (some (decide ((a0.f2.length : Int) ≤ 20000))) else (some false)) else (some false)) else (some false)) else (some false)).bind (codec_validEntry.k1))
def codec_validEntry.Post (I : Imm) (w : World) (r : Bool) (v : Value) (w' : World) : Prop :=
 ∃ (J : Imm), v = .bool r ∧ Got w w' I J []
theorem codec_validEntry.calls (I0 : Imm) (a0 : S30) (Ap0_2 : Option Addr) (cp0_2 : Nat) (w : World) (hI : I0.at_ w) (hlp0_2 : a0.f2.length ≤ cp0_2) (hrp0_2 : Rd (Ty.int .u8) I0 Ap0_2 a0.f2) (r : Bool) (h : codec_validEntry.f a0 = some r) :
  Calls Try.prog 49 [.agg #[.int .i64 a0.f0, .string a0.f1, .slice Ap0_2 a0.f2.length cp0_2]].toArray w fun e w' => ∃ v, e = .returned v ∧ codec_validEntry.Post I0 w r v w' := by
 have H : ((if a0.f0 ≥ 1 then (if a0.f0 ≤ 4 then (if (a0.f1.size : Int) ≥ 1 then (if (a0.f1.size : Int) ≤ 40 then (some (decide ((a0.f2.length : Int) ≤ 20000))) else (some false)) else (some false)) else (some false)) else (some false)).bind (codec_validEntry.k1)) = some r := h
 clear h
 refine calls_body Try.func49 (by kernel_rfl) 29 (by kernel_rfl) (by kernel_rfl) ⟨w, fun _ => False, I0⟩ I0 [] [(0, .agg #[.int .i64 a0.f0, .string a0.f1, .slice Ap0_2 a0.f2.length cp0_2])] (by kernel_rfl) (Sat.start w _ I0 hI) ?_
 generalize w.heap.size = nx0
 show OK _ K49_0 _ _ _ _ _ _ _ _
 refine OK.seq K49_1 K49_3 (by kernel_rfl) ?_
 refine OK.region 0 O49_1 (by kernel_rfl) ?_
 refine RL.simP (K' := [(1, .pointer (some ⟨nx0, 0, none⟩))]) (nx' := nx0 + 1) (L' := [⟨nx0, [.int .i64 a0.f0, .string a0.f1, .slice Ap0_2 a0.f2.length cp0_2], 30⟩]) [] (RFacts.nil _ _ _) 2 [.no, .no] (by kernel_rfl) (by kernel_rfl) ?_
 refine RL.nil (by kernel_rfl) ?_
 refine QN.then_ ?_
 refine OK.seq K49_4 K49_6 (by kernel_rfl) ?_
 refine OK.join (fun K' I' _ L' X' => ∃ (x1 : Bool), K' = [(2, .bool x1)] ∧ L' = [⟨nx0, [.int .i64 a0.f0, .string a0.f1, .slice Ap0_2 a0.f2.length cp0_2], 30⟩] ∧ X' = [] ∧ Imm.le I0 I' ∧ codec_validEntry.k1 x1 = some r) ?_ ?_
 ·rintro _ I1 nx1 _ _ ⟨x1, rfl, rfl, rfl, hi1, H⟩
  replace H : (some x1) = some r := H
  refine QN.then_ ?_
  refine OK.ret (by kernel_rfl) ?_
  obtain rfl := Option.some.inj H
  refine QN.body rfl [] (RFacts.nil _ _ _) (.no) (.bool x1) (by kernel_rfl) (by kernel_rfl) (by kernel_rfl) ?_ _ (.inr rfl)
  exact fun w' hs' => ⟨_, rfl, I1, rfl, hs'.got _ .slnil⟩
 ·intro Q_1 hJ1 hQ1
  obtain ⟨y1, H, HK1⟩ := Option.bind_eq_some_iff.mp H
  refine OK.region 1 O49_4 (by kernel_rfl) ?_
  refine RL.simK (K' := [(6, .bool (decide (a0.f0 ≥ 1))), (1, .pointer (some ⟨nx0, 0, none⟩))]) [] (RFacts.nil _ _ _) 4 [.no, .l 0, .no, .no] (by kernel_rfl) (by kernel_rfl) ?_
  refine RL.cases (decide (a0.f0 ≥ 1)) (fun hb => ?_) (fun hb => ?_)
  ·have hc := (of_decide_eq_true hb)
   rw [hb]
   rw [if_pos hc] at H; clear hb
   refine RL.simK (K' := [(11, .bool (decide (a0.f0 ≤ 4))), (1, .pointer (some ⟨nx0, 0, none⟩))]) [] (RFacts.nil _ _ _) 5 [.no, .l 0, .no, .no, .no] (by kernel_rfl) (by kernel_rfl) ?_
   refine RL.cases (decide (a0.f0 ≤ 4)) (fun hb => ?_) (fun hb => ?_)
   ·have hc := (of_decide_eq_true hb)
    rw [hb]
    rw [if_pos hc] at H; clear hb
    refine RL.simK (K' := [(17, .bool (decide ((a0.f1.size : Int) ≥ 1))), (1, .pointer (some ⟨nx0, 0, none⟩))]) [] (RFacts.nil _ _ _) 6 [.no, .l 0, .no, .no, .no, .no] (by kernel_rfl) (by kernel_rfl) ?_
    refine RL.cases (decide ((a0.f1.size : Int) ≥ 1)) (fun hb => ?_) (fun hb => ?_)
    ·have hc := (of_decide_eq_true hb)
     rw [hb]
     rw [if_pos hc] at H; clear hb
     refine RL.simK (K' := [(23, .bool (decide ((a0.f1.size : Int) ≤ 40))), (1, .pointer (some ⟨nx0, 0, none⟩))]) [] (RFacts.nil _ _ _) 6 [.no, .l 0, .no, .no, .no, .no] (by kernel_rfl) (by kernel_rfl) ?_
     refine RL.cases (decide ((a0.f1.size : Int) ≤ 40)) (fun hb => ?_) (fun hb => ?_)
     ·have hc := (of_decide_eq_true hb)
      rw [hb]
      rw [if_pos hc] at H; clear hb
      refine RL.simK (K' := [(2, .bool (decide ((a0.f2.length : Int) ≤ 20000)))]) [] (RFacts.nil _ _ _) 6 [.no, .l 0, .no, .no, .no, .no] (by kernel_rfl) (by kernel_rfl) ?_
      refine RL.nil (by kernel_rfl) ?_
      obtain rfl := Option.some.inj H
      refine QN.sub (K' := [(2, .bool (decide ((a0.f2.length : Int) ≤ 20000)))]) (L' := [⟨nx0, [.int .i64 a0.f0, .string a0.f1, .slice Ap0_2 a0.f2.length cp0_2], 30⟩]) (by kernel_rfl) (.cons_cons _ .slnil) (.refl _) ?_
      exact hJ1 _ _ _ _ _ ⟨(decide ((a0.f2.length : Int) ≤ 20000)), rfl, rfl, rfl, (Imm.le_refl _), HK1⟩
     ·have hc := (of_decide_eq_false hb)
      rw [hb]
      rw [if_neg hc] at H; clear hb
      refine RL.simK (K' := [(2, .bool false)]) [] (RFacts.nil _ _ _) 6 [.no, .no, .no, .no, .no, .no] (by kernel_rfl) (by kernel_rfl) ?_
      refine RL.nil (by kernel_rfl) ?_
      obtain rfl := Option.some.inj H
      refine QN.sub (K' := [(2, .bool false)]) (L' := [⟨nx0, [.int .i64 a0.f0, .string a0.f1, .slice Ap0_2 a0.f2.length cp0_2], 30⟩]) (by kernel_rfl) (.cons_cons _ .slnil) (.refl _) ?_
      exact hJ1 _ _ _ _ _ ⟨false, rfl, rfl, rfl, (Imm.le_refl _), HK1⟩
    ·have hc := (of_decide_eq_false hb)
     rw [hb]
     rw [if_neg hc] at H; clear hb
     refine RL.simK (K' := [(2, .bool false)]) [] (RFacts.nil _ _ _) 12 [.no, .no, .no, .no, .no, .no, .no, .no, .no, .no, .no, .no] (by kernel_rfl) (by kernel_rfl) ?_
     refine RL.nil (by kernel_rfl) ?_
     obtain rfl := Option.some.inj H
     refine QN.sub (K' := [(2, .bool false)]) (L' := [⟨nx0, [.int .i64 a0.f0, .string a0.f1, .slice Ap0_2 a0.f2.length cp0_2], 30⟩]) (by kernel_rfl) (.cons_cons _ .slnil) (.refl _) ?_
     exact hJ1 _ _ _ _ _ ⟨false, rfl, rfl, rfl, (Imm.le_refl _), HK1⟩
   ·have hc := (of_decide_eq_false hb)
    rw [hb]
    rw [if_neg hc] at H; clear hb
    refine RL.simK (K' := [(2, .bool false)]) [] (RFacts.nil _ _ _) 18 [.no, .no, .no, .no, .no, .no, .no, .no, .no, .no, .no, .no, .no, .no, .no, .no, .no, .no] (by kernel_rfl) (by kernel_rfl) ?_
    refine RL.nil (by kernel_rfl) ?_
    obtain rfl := Option.some.inj H
    refine QN.sub (K' := [(2, .bool false)]) (L' := [⟨nx0, [.int .i64 a0.f0, .string a0.f1, .slice Ap0_2 a0.f2.length cp0_2], 30⟩]) (by kernel_rfl) (.cons_cons _ .slnil) (.refl _) ?_
    exact hJ1 _ _ _ _ _ ⟨false, rfl, rfl, rfl, (Imm.le_refl _), HK1⟩
  ·have hc := (of_decide_eq_false hb)
   rw [hb]
   rw [if_neg hc] at H; clear hb
   refine RL.simK (K' := [(2, .bool false)]) [] (RFacts.nil _ _ _) 23 [.no, .no, .no, .no, .no, .no, .no, .no, .no, .no, .no, .no, .no, .no, .no, .no, .no, .no, .no, .no, .no, .no, .no] (by kernel_rfl) (by kernel_rfl) ?_
   refine RL.nil (by kernel_rfl) ?_
   obtain rfl := Option.some.inj H
   refine QN.sub (K' := [(2, .bool false)]) (L' := [⟨nx0, [.int .i64 a0.f0, .string a0.f1, .slice Ap0_2 a0.f2.length cp0_2], 30⟩]) (by kernel_rfl) (.cons_cons _ .slnil) (.refl _) ?_
   exact hJ1 _ _ _ _ _ ⟨false, rfl, rfl, rfl, (Imm.le_refl _), HK1⟩

end Go.Proofs.Ytieakigoinebdaa
namespace Go.Proofs.Ytieakigoinebdaa
open Go Go.Proofs.Ytieakigoinebdaa.RW
set_option linter.unusedVariables false
set_option maxRecDepth 100000
set_option maxHeartbeats 8000000

/-! ### slices_Clip_byte_byte: function 54, slices.Clip[[]byte,byte] -/
noncomputable def K54_0 : Code := cBody Try.f54
noncomputable def K54_1 : Code := cL K54_0
noncomputable def O54_1 : List Oper := cOps K54_1
noncomputable def K54_3 : Code := cR K54_0
noncomputable def K54_4 : Code := cL K54_3
noncomputable def O54_4 : List Oper := cOps K54_4
noncomputable def K54_6 : Code := cR K54_3
def slices_Clip_byte_byte.f (a0 : List Int) : Option (List Int) := (some a0)
def slices_Clip_byte_byte.Post (I : Imm) (w : World) (r : List Int) (v : Value) (w' : World) : Prop :=
 ∃ (J : Imm) (A0 : Option Addr), v = .slice A0 r.length r.length ∧ Got w w' I J [] ∧ Rd (Ty.int .u8) J A0 r
theorem slices_Clip_byte_byte.calls (I0 : Imm) (a0 : List Int) (Ap0 : Option Addr) (cp0 : Nat) (w : World) (hI : I0.at_ w) (hlp0 : a0.length ≤ cp0) (hrp0 : Rd (Ty.int .u8) I0 Ap0 a0) (r : List Int) (h : slices_Clip_byte_byte.f a0 = some r) :
  Calls Try.prog 54 [.slice Ap0 a0.length cp0].toArray w fun e w' => ∃ v, e = .returned v ∧ slices_Clip_byte_byte.Post I0 w r v w' := by
 have H : (some a0) = some r := h
 clear h
 refine calls_body Try.func54 (by kernel_rfl) 9 (by kernel_rfl) (by kernel_rfl) ⟨w, fun _ => False, I0⟩ I0 [] [(0, .slice Ap0 a0.length cp0)] (by kernel_rfl) (Sat.start w _ I0 hI) ?_
 generalize w.heap.size = nx0
 show OK _ K54_0 _ _ _ _ _ _ _ _
 refine OK.seq K54_1 K54_3 (by kernel_rfl) ?_
 refine OK.region 0 O54_1 (by kernel_rfl) ?_
 refine RL.simK (K' := [(0, .slice Ap0 a0.length cp0)]) [] (RFacts.nil _ _ _) 1 [.no] (by kernel_rfl) (by kernel_rfl) ?_
 refine RL.nil (by kernel_rfl) ?_
 refine QN.then_ ?_
 refine OK.seq K54_4 K54_6 (by kernel_rfl) ?_
 refine OK.region 1 O54_4 (by kernel_rfl) ?_
 refine RL.simK (K' := [(7, .int .i64 (a0.length : Int)), (5, .int .i64 (a0.length : Int)), (3, .slice Ap0 a0.length cp0)]) [] (RFacts.nil _ _ _) 5 [.no, .no, .no, .no, .no] (by kernel_rfl) (by kernel_rfl) ?_
 refine RL.clip (T := 28) (e := 5) (l := a0) (S := Ap0) (cap := cp0) 1 .i64 .i64 (some 8) (by kernel_rfl) (by kernel_rfl) (by kernel_rfl) (by kernel_rfl) hlp0 (K' := [(8, .slice (slA Ap0 0 a0.length 1) a0.length a0.length), (7, .int .i64 (a0.length : Int)), (5, .int .i64 (a0.length : Int)), (3, .slice Ap0 a0.length cp0)]) (by kernel_rfl) ?_
 refine RL.simK (K' := [(2, .slice (slA Ap0 0 a0.length 1) a0.length a0.length)]) [] (RFacts.nil _ _ _) 1 [.no] (by kernel_rfl) (by kernel_rfl) ?_
 refine RL.nil (by kernel_rfl) ?_
 refine QN.then_ ?_
 refine OK.ret (by kernel_rfl) ?_
 obtain rfl := Option.some.inj H
 refine QN.body rfl [] (RFacts.nil _ _ _) (.no) (.slice (slA Ap0 0 a0.length 1) a0.length a0.length) (by kernel_rfl) (by kernel_rfl) (by kernel_rfl) ?_ _ (.inr rfl)
 exact fun w' hs' => ⟨_, rfl, I0, (slA Ap0 0 a0.length 1), rfl, hs'.got _ .slnil, (rd_clip hrp0)⟩

end Go.Proofs.Ytieakigoinebdaa
namespace Go.Proofs.Ytieakigoinebdaa
open Go Go.Proofs.Ytieakigoinebdaa.RW
set_option linter.unusedVariables false
set_option maxRecDepth 100000
set_option maxHeartbeats 8000000

/-! ### codec_AppendVarint: function 51, armillary/codec.AppendVarint -/
noncomputable def K51_0 : Code := cBody Try.f51
noncomputable def K51_1 : Code := cL K51_0
noncomputable def O51_1 : List Oper := cOps K51_1
noncomputable def K51_3 : Code := cR K51_0
noncomputable def K51_4 : Code := cL K51_3
noncomputable def O51_4 : List Oper := cOps K51_4
noncomputable def K51_6 : Code := cR K51_3
noncomputable def K51_7 : Code := cL K51_6
noncomputable def O51_7 : List Oper := cOps K51_7
noncomputable def K51_9 : Code := cR K51_6
noncomputable def K51_10 : Code := cL K51_9
noncomputable def K51_11 : Code := cL K51_10
noncomputable def K51_12 : Code := cL K51_11
noncomputable def K51_13 : Code := cL K51_12
noncomputable def K51_14 : Code := cL K51_13
noncomputable def O51_14 : List Oper := cOps K51_14
noncomputable def K51_16 : Code := cR K51_13
noncomputable def K51_17 : Code := cL K51_16
noncomputable def K51_18 : Code := cR K51_16
noncomputable def K51_19 : Code := cR K51_12
noncomputable def K51_20 : Code := cL K51_19
noncomputable def K51_21 : Code := cL K51_20
noncomputable def O51_21 : List Oper := cOps K51_21
noncomputable def K51_23 : Code := cR K51_19
noncomputable def O51_23 : List Oper := cOps K51_23
noncomputable def K51_25 : Code := cR K51_9
noncomputable def K51_26 : Code := cL K51_25
noncomputable def O51_26 : List Oper := cOps K51_26
noncomputable def K51_28 : Code := cR K51_25
def codec_AppendVarint.l1 : Nat → (List Int) → Int → Option (List Int)
 | 0, _, _ => none
 | k + 1, x1, x2 => (if x2 ≥ 128 then (if (x1.length + [bOr .u8 (W .u8 (x2)) 128].length) * 1 ≤ 140737488355328 then (codec_AppendVarint.l1 k (x1 ++ [bOr .u8 (W .u8 (x2)) 128]) (Int.fdiv x2 128)) else none) else (if (x1.length + [W .u8 (x2)].length) * 1 ≤ 140737488355328 then (some (x1 ++ [W .u8 (x2)])) else none))
def codec_AppendVarint.f (k : Nat) (a0 : List Int) (a1 : Int) : Option (List Int) := ((slices_Clip_byte_byte.f a0).bind fun t1 => (if (bXor .u64 (W .u64 (W .i64 (a1 * 2))) (W .u64 (Int.fdiv a1 9223372036854775808))) ≥ 128 then (if (t1.length + [bOr .u8 (W .u8 (bXor .u64 (W .u64 (W .i64 (a1 * 2))) (W .u64 (Int.fdiv a1 9223372036854775808)))) 128].length) * 1 ≤ 140737488355328 then (codec_AppendVarint.l1 k (t1 ++ [bOr .u8 (W .u8 (bXor .u64 (W .u64 (W .i64 (a1 * 2))) (W .u64 (Int.fdiv a1 9223372036854775808)))) 128]) (Int.fdiv (bXor .u64 (W .u64 (W .i64 (a1 * 2))) (W .u64 (Int.fdiv a1 9223372036854775808))) 128)) else none) else (if (t1.length + [W .u8 (bXor .u64 (W .u64 (W .i64 (a1 * 2))) (W .u64 (Int.fdiv a1 9223372036854775808)))].length) * 1 ≤ 140737488355328 then (some (t1 ++ [W .u8 (bXor .u64 (W .u64 (W .i64 (a1 * 2))) (W .u64 (Int.fdiv a1 9223372036854775808)))])) else none)))
def codec_AppendVarint.Post (I : Imm) (w : World) (r : List Int) (v : Value) (w' : World) : Prop :=
 ∃ (J : Imm) (A0 : Option Addr) (c0 : Nat) (cs0 : List Value), v = .slice A0 r.length c0 ∧ Got w w' I J [orow 5 1 A0 r.length c0 cs0] ∧ Reps (Ty.int .u8) J r cs0
theorem codec_AppendVarint.calls (k : Nat) (I0 : Imm) (a0 : List Int) (Ap0 : Option Addr) (cp0 : Nat) (a1 : Int) (w : World) (hI : I0.at_ w) (hlp0 : a0.length ≤ cp0) (hrp0 : Rd (Ty.int .u8) I0 Ap0 a0) (r : List Int) (h : codec_AppendVarint.f k a0 a1 = some r) :
  Calls Try.prog 51 [.slice Ap0 a0.length cp0, .int .i64 a1].toArray w fun e w' => ∃ v, e = .returned v ∧ codec_AppendVarint.Post I0 w r v w' := by
 have H : ((slices_Clip_byte_byte.f a0).bind fun t1 => (if (bXor .u64 (W .u64 (W .i64 (a1 * 2))) (W .u64 (Int.fdiv a1 9223372036854775808))) ≥ 128 then (if (t1.length + [bOr .u8 (W .u8 (bXor .u64 (W .u64 (W .i64 (a1 * 2))) (W .u64 (Int.fdiv a1 9223372036854775808)))) 128].length) * 1 ≤ 140737488355328 then (codec_AppendVarint.l1 k (t1 ++ [bOr .u8 (W .u8 (bXor .u64 (W .u64 (W .i64 (a1 * 2))) (W .u64 (Int.fdiv a1 9223372036854775808)))) 128]) (Int.fdiv (bXor .u64 (W .u64 (W .i64 (a1 * 2))) (W .u64 (Int.fdiv a1 9223372036854775808))) 128)) else none) else (if (t1.length + [W .u8 (bXor .u64 (W .u64 (W .i64 (a1 * 2))) (W .u64 (Int.fdiv a1 9223372036854775808)))].length) * 1 ≤ 140737488355328 then (some (t1 ++ [W .u8 (bXor .u64 (W .u64 (W .i64 (a1 * 2))) (W .u64 (Int.fdiv a1 9223372036854775808)))])) else none))) = some r := h
 clear h
 refine calls_body Try.func51 (by kernel_rfl) 30 (by kernel_rfl) (by kernel_rfl) ⟨w, fun _ => False, I0⟩ I0 [] [(0, .slice Ap0 a0.length cp0), (1, .int .i64 a1)] (by kernel_rfl) (Sat.start w _ I0 hI) ?_
 generalize w.heap.size = nx0
 show OK _ K51_0 _ _ _ _ _ _ _ _
 refine OK.seq K51_1 K51_3 (by kernel_rfl) ?_
 refine OK.region 0 O51_1 (by kernel_rfl) ?_
 refine RL.simK (K' := [(0, .slice Ap0 a0.length cp0), (1, .int .i64 a1)]) [] (RFacts.nil _ _ _) 1 [.no] (by kernel_rfl) (by kernel_rfl) ?_
 refine RL.nil (by kernel_rfl) ?_
 refine QN.then_ ?_
 refine OK.seq K51_4 K51_6 (by kernel_rfl) ?_
 refine OK.region 1 O51_4 (by kernel_rfl) ?_
 refine RL.simK (K' := [(5, .int .u64 (bXor .u64 (W .u64 (W .i64 (a1 * 2))) (W .u64 (Int.fdiv a1 9223372036854775808)))), (0, .slice Ap0 a0.length cp0)]) [] (RFacts.nil _ _ _) 8 [.no, .no, .no, .no, .no, .no, .no, .no] (by kernel_rfl) (by kernel_rfl) ?_
 refine RL.nil (by kernel_rfl) ?_
 refine QN.then_ ?_
 refine OK.seq K51_7 K51_9 (by kernel_rfl) ?_
 refine OK.region 2 O51_7 (by kernel_rfl) ?_
 refine RL.simK (K' := [(13, .slice Ap0 a0.length cp0), (5, .int .u64 (bXor .u64 (W .u64 (W .i64 (a1 * 2))) (W .u64 (Int.fdiv a1 9223372036854775808)))), (0, .slice Ap0 a0.length cp0)]) [] (RFacts.nil _ _ _) 1 [.no] (by kernel_rfl) (by kernel_rfl) ?_
 obtain ⟨t1, hA1, H⟩ := Option.bind_eq_some_iff.mp H
 refine RL.callP 54 [.slice Ap0 a0.length cp0] (some 14) (fun w => slices_Clip_byte_byte.Post I0 w t1) (by kernel_rfl) (by kernel_rfl) (fun w hs => slices_Clip_byte_byte.calls I0 a0 Ap0 cp0 w hs.im hlp0 hrp0 t1 hA1) ?_
 rintro w v w' hs ⟨I1, A1, rfl, hg, hr1⟩
 have hi1 := hg.le
 refine RL.resume (X' := []) rfl (hs.call hg) ?_
 clear hs hg
 generalize w'.heap.size = nx1
 clear w w'
 refine RL.simK (K' := [(0, .slice A1 t1.length t1.length), (5, .int .u64 (bXor .u64 (W .u64 (W .i64 (a1 * 2))) (W .u64 (Int.fdiv a1 9223372036854775808))))]) [] (RFacts.nil _ _ _) 1 [.no] (by kernel_rfl) (by kernel_rfl) ?_
 refine RL.nil (by kernel_rfl) ?_
 refine QN.then_ ?_
 refine OK.seq K51_10 K51_25 (by kernel_rfl) ?_
 refine OK.block 0 K51_11 (by kernel_rfl) ?_
 refine OK.loopPeel K51_12 (by kernel_rfl) (fun n_ K' I' _ L' X' => ∃ (x1 : List Int) (x2 : Int) (A2 : Option Addr) (c2 : Nat) (cs1 : List Value), K' = [(0, .slice A2 x1.length c2), (5, .int .u64 x2)] ∧ L' = [] ∧ X' = [orow 5 1 A2 x1.length c2 cs1] ∧ Imm.le I1 I' ∧ Reps (Ty.int .u8) I' x1 cs1 ∧ codec_AppendVarint.l1 n_ x1 x2 = some r) k ?_ ?_ ?_
 ·rintro _ _ _ _ _ ⟨x1, x2, A2, c2, cs1, rfl, rfl, rfl, _, hp1, H⟩
  cases H
 ·intro Q_f1 hJ2 hQ2
  refine OK.seq K51_13 K51_19 (by kernel_rfl) ?_
  refine OK.seq K51_14 K51_16 (by kernel_rfl) ?_
  refine OK.region 3 O51_14 (by kernel_rfl) ?_
  refine RL.simK (K' := [(16, .bool (decide ((bXor .u64 (W .u64 (W .i64 (a1 * 2))) (W .u64 (Int.fdiv a1 9223372036854775808))) ≥ 128))), (0, .slice A1 t1.length t1.length), (5, .int .u64 (bXor .u64 (W .u64 (W .i64 (a1 * 2))) (W .u64 (Int.fdiv a1 9223372036854775808))))]) [] (RFacts.nil _ _ _) 2 [.no, .no] (by kernel_rfl) (by kernel_rfl) ?_
  refine RL.nil (by kernel_rfl) ?_
  refine QN.then_ ?_
  refine OK.cond (.tmp 16) K51_17 K51_18 (decide ((bXor .u64 (W .u64 (W .i64 (a1 * 2))) (W .u64 (Int.fdiv a1 9223372036854775808))) ≥ 128)) (by kernel_rfl) (by kernel_rfl) (by kernel_rfl) (fun hb => ?_) (fun hb => ?_)
  ·skip
   have hc := (of_decide_eq_true hb)
   rw [if_pos hc] at H
   clear hb
   refine OK.skip (by kernel_rfl) ?_
   refine QN.then_ ?_
   refine OK.seq K51_20 K51_23 (by kernel_rfl) ?_
   refine OK.block 1 K51_21 (by kernel_rfl) ?_
   refine OK.region 5 O51_21 (by kernel_rfl) ?_
   refine RL.simP (K' := [(23, .slice (some ⟨nx1, 0, none⟩) 1 1), (19, .slice A1 t1.length t1.length), (0, .slice A1 t1.length t1.length), (5, .int .u64 (bXor .u64 (W .u64 (W .i64 (a1 * 2))) (W .u64 (Int.fdiv a1 9223372036854775808))))]) (nx' := nx1 + 1) (L' := [⟨nx1, [.int .u8 (bOr .u8 (W .u8 (bXor .u64 (W .u64 (W .i64 (a1 * 2))) (W .u64 (Int.fdiv a1 9223372036854775808)))) 128)], 5⟩]) [] (RFacts.nil _ _ _) 5 [.no, .no, .no, .no, .no] (by kernel_rfl) (by kernel_rfl) ?_
   by_cases hz3 : (t1.length + [bOr .u8 (W .u8 (bXor .u64 (W .u64 (W .i64 (a1 * 2))) (W .u64 (Int.fdiv a1 9223372036854775808)))) 128].length) * 1 ≤ 140737488355328
   case neg => rw [if_neg hz3] at H; cases H
   rw [if_pos hz3] at H
   refine RL.appendClip (T := 28) (e := 5) (S := A1) 1 1 28 0 1 nx1 5 [.int .u8 (bOr .u8 (W .u8 (bXor .u64 (W .u64 (W .i64 (a1 * 2))) (W .u64 (Int.fdiv a1 9223372036854775808)))) 128)] (Ty.int .u8) t1 [bOr .u8 (W .u8 (bXor .u64 (W .u64 (W .i64 (a1 * 2))) (W .u64 (Int.fdiv a1 9223372036854775808)))) 128] (some 24) (by kernel_rfl) (by kernel_rfl) (by kernel_rfl) (by kernel_rfl) (by kernel_rfl) (by decide) hr1 (by kernel_rfl) ⟨_, _, rfl, rfl, rfl⟩ (Nat.zero_lt_succ _) hz3 (by omega) (fun A5 c5 nx5 cs4 hp4 => ?_)
   refine RL.sub (K' := [(24, .slice A5 ((t1 ++ [bOr .u8 (W .u8 (bXor .u64 (W .u64 (W .i64 (a1 * 2))) (W .u64 (Int.fdiv a1 9223372036854775808)))) 128]).length) c5), (23, .slice (some ⟨nx1, 0, none⟩) 1 1), (19, .slice A1 t1.length t1.length), (0, .slice A1 t1.length t1.length), (5, .int .u64 (bXor .u64 (W .u64 (W .i64 (a1 * 2))) (W .u64 (Int.fdiv a1 9223372036854775808))))]) (L' := [⟨nx1, [.int .u8 (bOr .u8 (W .u8 (bXor .u64 (W .u64 (W .i64 (a1 * 2))) (W .u64 (Int.fdiv a1 9223372036854775808)))) 128)], 5⟩]) (X' := [orow 5 1 A5 ((t1 ++ [bOr .u8 (W .u8 (bXor .u64 (W .u64 (W .i64 (a1 * 2))) (W .u64 (Int.fdiv a1 9223372036854775808)))) 128]).length) c5 cs4]) (by kernel_rfl) (.refl _) (.refl _) ?_
   refine RL.simK (K' := [(0, .slice A5 ((t1 ++ [bOr .u8 (W .u8 (bXor .u64 (W .u64 (W .i64 (a1 * 2))) (W .u64 (Int.fdiv a1 9223372036854775808)))) 128]).length) c5), (5, .int .u64 (bXor .u64 (W .u64 (W .i64 (a1 * 2))) (W .u64 (Int.fdiv a1 9223372036854775808))))]) [] (RFacts.nil _ _ _) 1 [.no] (by kernel_rfl) (by kernel_rfl) ?_
   refine RL.nil (by kernel_rfl) ?_
   refine QN.blkN ?_
   refine QN.then_ ?_
   refine OK.region 4 O51_23 (by kernel_rfl) ?_
   refine RL.simK (K' := [(5, .int .u64 (Int.fdiv (bXor .u64 (W .u64 (W .i64 (a1 * 2))) (W .u64 (Int.fdiv a1 9223372036854775808))) 128)), (0, .slice A5 ((t1 ++ [bOr .u8 (W .u8 (bXor .u64 (W .u64 (W .i64 (a1 * 2))) (W .u64 (Int.fdiv a1 9223372036854775808)))) 128]).length) c5)]) [] (RFacts.nil _ _ _) 3 [.no, .no, .no] (by kernel_rfl) (by kernel_rfl) ?_
   refine RL.nil (by kernel_rfl) ?_
   refine QN.sub (K' := [(0, .slice A5 ((t1 ++ [bOr .u8 (W .u8 (bXor .u64 (W .u64 (W .i64 (a1 * 2))) (W .u64 (Int.fdiv a1 9223372036854775808)))) 128]).length) c5), (5, .int .u64 (Int.fdiv (bXor .u64 (W .u64 (W .i64 (a1 * 2))) (W .u64 (Int.fdiv a1 9223372036854775808))) 128))]) (L' := []) (by kernel_rfl) (.cons _ .slnil) (.refl _) ?_
   exact hJ2 _ _ _ _ _ ⟨(t1 ++ [bOr .u8 (W .u8 (bXor .u64 (W .u64 (W .i64 (a1 * 2))) (W .u64 (Int.fdiv a1 9223372036854775808)))) 128]), Int.fdiv (bXor .u64 (W .u64 (W .i64 (a1 * 2))) (W .u64 (Int.fdiv a1 9223372036854775808))) 128, A5, c5, cs4, rfl, rfl, rfl, (Imm.le_refl _), hp4, H⟩
  ·skip
   have hc := (of_decide_eq_false hb)
   rw [if_neg hc] at H
   clear hb
   refine OK.exit 0 (by kernel_rfl) ?_
   refine QN.thenE ?_
   refine QN.outE hQ2 ?_
   refine QN.blkE ?_
   refine QN.then_ ?_
   refine OK.seq K51_26 K51_28 (by kernel_rfl) ?_
   refine OK.region 6 O51_26 (by kernel_rfl) ?_
   refine RL.simP (K' := [(28, .slice (some ⟨nx1, 0, none⟩) 1 1), (25, .slice A1 t1.length t1.length)]) (nx' := nx1 + 1) (L' := [⟨nx1, [.int .u8 (W .u8 (bXor .u64 (W .u64 (W .i64 (a1 * 2))) (W .u64 (Int.fdiv a1 9223372036854775808))))], 5⟩]) [] (RFacts.nil _ _ _) 4 [.no, .no, .no, .no] (by kernel_rfl) (by kernel_rfl) ?_
   by_cases hz4 : (t1.length + [W .u8 (bXor .u64 (W .u64 (W .i64 (a1 * 2))) (W .u64 (Int.fdiv a1 9223372036854775808)))].length) * 1 ≤ 140737488355328
   case neg => rw [if_neg hz4] at H; cases H
   rw [if_pos hz4] at H
   refine RL.appendClip (T := 28) (e := 5) (S := A1) 1 1 28 0 1 nx1 5 [.int .u8 (W .u8 (bXor .u64 (W .u64 (W .i64 (a1 * 2))) (W .u64 (Int.fdiv a1 9223372036854775808))))] (Ty.int .u8) t1 [W .u8 (bXor .u64 (W .u64 (W .i64 (a1 * 2))) (W .u64 (Int.fdiv a1 9223372036854775808)))] (some 29) (by kernel_rfl) (by kernel_rfl) (by kernel_rfl) (by kernel_rfl) (by kernel_rfl) (by decide) hr1 (by kernel_rfl) ⟨_, _, rfl, rfl, rfl⟩ (Nat.zero_lt_succ _) hz4 (by omega) (fun A6 c6 nx6 cs5 hp5 => ?_)
   refine RL.sub (K' := [(29, .slice A6 ((t1 ++ [W .u8 (bXor .u64 (W .u64 (W .i64 (a1 * 2))) (W .u64 (Int.fdiv a1 9223372036854775808)))]).length) c6), (28, .slice (some ⟨nx1, 0, none⟩) 1 1), (25, .slice A1 t1.length t1.length)]) (L' := [⟨nx1, [.int .u8 (W .u8 (bXor .u64 (W .u64 (W .i64 (a1 * 2))) (W .u64 (Int.fdiv a1 9223372036854775808))))], 5⟩]) (X' := [orow 5 1 A6 ((t1 ++ [W .u8 (bXor .u64 (W .u64 (W .i64 (a1 * 2))) (W .u64 (Int.fdiv a1 9223372036854775808)))]).length) c6 cs5]) (by kernel_rfl) (.refl _) (.refl _) ?_
   refine RL.simK (K' := [(4, .slice A6 ((t1 ++ [W .u8 (bXor .u64 (W .u64 (W .i64 (a1 * 2))) (W .u64 (Int.fdiv a1 9223372036854775808)))]).length) c6)]) [] (RFacts.nil _ _ _) 1 [.no] (by kernel_rfl) (by kernel_rfl) ?_
   refine RL.nil (by kernel_rfl) ?_
   refine QN.then_ ?_
   refine OK.ret (by kernel_rfl) ?_
   obtain rfl := Option.some.inj H
   refine QN.body rfl [] (RFacts.nil _ _ _) (.no) (.slice A6 ((t1 ++ [W .u8 (bXor .u64 (W .u64 (W .i64 (a1 * 2))) (W .u64 (Int.fdiv a1 9223372036854775808)))]).length) c6) (by kernel_rfl) (by kernel_rfl) (by kernel_rfl) ?_ _ (.inr rfl)
   exact fun w' hs' => ⟨_, rfl, I1, A6, c6, cs5, rfl, hs'.got _ (.cons_cons _ .slnil), hp5⟩
 ·rintro kq1 _ I2 nx2 _ _ ⟨x1, x2, A2, c2, cs1, rfl, rfl, rfl, hi2, hp1, H⟩ Q_l1 hJ1 hQ1
  replace H : (if x2 ≥ 128 then (if (x1.length + [bOr .u8 (W .u8 (x2)) 128].length) * 1 ≤ 140737488355328 then (codec_AppendVarint.l1 kq1 (x1 ++ [bOr .u8 (W .u8 (x2)) 128]) (Int.fdiv x2 128)) else none) else (if (x1.length + [W .u8 (x2)].length) * 1 ≤ 140737488355328 then (some (x1 ++ [W .u8 (x2)])) else none)) = some r := H
  refine OK.seq K51_13 K51_19 (by kernel_rfl) ?_
  refine OK.seq K51_14 K51_16 (by kernel_rfl) ?_
  refine OK.region 3 O51_14 (by kernel_rfl) ?_
  refine RL.simK (K' := [(16, .bool (decide (x2 ≥ 128))), (0, .slice A2 x1.length c2), (5, .int .u64 x2)]) [] (RFacts.nil _ _ _) 2 [.no, .no] (by kernel_rfl) (by kernel_rfl) ?_
  refine RL.nil (by kernel_rfl) ?_
  refine QN.then_ ?_
  refine OK.cond (.tmp 16) K51_17 K51_18 (decide (x2 ≥ 128)) (by kernel_rfl) (by kernel_rfl) (by kernel_rfl) (fun hb => ?_) (fun hb => ?_)
  ·skip
   have hc := (of_decide_eq_true hb)
   rw [if_pos hc] at H
   clear hb
   refine OK.skip (by kernel_rfl) ?_
   refine QN.then_ ?_
   refine OK.seq K51_20 K51_23 (by kernel_rfl) ?_
   refine OK.block 1 K51_21 (by kernel_rfl) ?_
   refine OK.region 5 O51_21 (by kernel_rfl) ?_
   refine RL.simP (K' := [(23, .slice (some ⟨nx2, 0, none⟩) 1 1), (19, .slice A2 x1.length c2), (0, .slice A2 x1.length c2), (5, .int .u64 x2)]) (nx' := nx2 + 1) (L' := [⟨nx2, [.int .u8 (bOr .u8 (W .u8 (x2)) 128)], 5⟩]) [] (RFacts.nil _ _ _) 5 [.no, .no, .no, .no, .no] (by kernel_rfl) (by kernel_rfl) ?_
   by_cases hz1 : (x1.length + [bOr .u8 (W .u8 (x2)) 128].length) * 1 ≤ 140737488355328
   case neg => rw [if_neg hz1] at H; cases H
   rw [if_pos hz1] at H
   refine RL.appendB (T := 28) (e := 5) (S := A2) 1 1 28 c2 0 1 nx2 5 cs1 [.int .u8 (bOr .u8 (W .u8 (x2)) 128)] (Ty.int .u8) x1 [bOr .u8 (W .u8 (x2)) 128] 0 (some 24) (by kernel_rfl) (by kernel_rfl) (by kernel_rfl) (by kernel_rfl) (by kernel_rfl) (by decide) (by kernel_rfl) hp1 (by kernel_rfl) ⟨_, _, rfl, rfl, rfl⟩ hz1 (by omega) (fun A3 c3 nx3 cs2 hp2 => ?_)
   refine RL.sub (K' := [(24, .slice A3 ((x1 ++ [bOr .u8 (W .u8 (x2)) 128]).length) c3), (23, .slice (some ⟨nx2, 0, none⟩) 1 1), (5, .int .u64 x2)]) (L' := [⟨nx2, [.int .u8 (bOr .u8 (W .u8 (x2)) 128)], 5⟩]) (X' := [orow 5 1 A3 ((x1 ++ [bOr .u8 (W .u8 (x2)) 128]).length) c3 cs2]) (by kernel_rfl) (.refl _) (.refl _) ?_
   refine RL.simK (K' := [(0, .slice A3 ((x1 ++ [bOr .u8 (W .u8 (x2)) 128]).length) c3), (5, .int .u64 x2)]) [] (RFacts.nil _ _ _) 1 [.no] (by kernel_rfl) (by kernel_rfl) ?_
   refine RL.nil (by kernel_rfl) ?_
   refine QN.blkN ?_
   refine QN.then_ ?_
   refine OK.region 4 O51_23 (by kernel_rfl) ?_
   refine RL.simK (K' := [(5, .int .u64 (Int.fdiv x2 128)), (0, .slice A3 ((x1 ++ [bOr .u8 (W .u8 (x2)) 128]).length) c3)]) [] (RFacts.nil _ _ _) 3 [.no, .no, .no] (by kernel_rfl) (by kernel_rfl) ?_
   refine RL.nil (by kernel_rfl) ?_
   refine QN.sub (K' := [(0, .slice A3 ((x1 ++ [bOr .u8 (W .u8 (x2)) 128]).length) c3), (5, .int .u64 (Int.fdiv x2 128))]) (L' := []) (by kernel_rfl) (.cons _ .slnil) (.refl _) ?_
   exact hJ1 _ _ _ _ _ ⟨(x1 ++ [bOr .u8 (W .u8 (x2)) 128]), Int.fdiv x2 128, A3, c3, cs2, rfl, rfl, rfl, hi2, hp2, H⟩
  ·skip
   have hc := (of_decide_eq_false hb)
   rw [if_neg hc] at H
   clear hb
   refine OK.exit 0 (by kernel_rfl) ?_
   refine QN.thenE ?_
   refine QN.outE hQ1 ?_
   refine QN.blkE ?_
   refine QN.then_ ?_
   refine OK.seq K51_26 K51_28 (by kernel_rfl) ?_
   refine OK.region 6 O51_26 (by kernel_rfl) ?_
   refine RL.simP (K' := [(28, .slice (some ⟨nx2, 0, none⟩) 1 1), (25, .slice A2 x1.length c2)]) (nx' := nx2 + 1) (L' := [⟨nx2, [.int .u8 (W .u8 (x2))], 5⟩]) [] (RFacts.nil _ _ _) 4 [.no, .no, .no, .no] (by kernel_rfl) (by kernel_rfl) ?_
   by_cases hz2 : (x1.length + [W .u8 (x2)].length) * 1 ≤ 140737488355328
   case neg => rw [if_neg hz2] at H; cases H
   rw [if_pos hz2] at H
   refine RL.appendB (T := 28) (e := 5) (S := A2) 1 1 28 c2 0 1 nx2 5 cs1 [.int .u8 (W .u8 (x2))] (Ty.int .u8) x1 [W .u8 (x2)] 0 (some 29) (by kernel_rfl) (by kernel_rfl) (by kernel_rfl) (by kernel_rfl) (by kernel_rfl) (by decide) (by kernel_rfl) hp1 (by kernel_rfl) ⟨_, _, rfl, rfl, rfl⟩ hz2 (by omega) (fun A4 c4 nx4 cs3 hp3 => ?_)
   refine RL.sub (K' := [(29, .slice A4 ((x1 ++ [W .u8 (x2)]).length) c4), (28, .slice (some ⟨nx2, 0, none⟩) 1 1)]) (L' := [⟨nx2, [.int .u8 (W .u8 (x2))], 5⟩]) (X' := [orow 5 1 A4 ((x1 ++ [W .u8 (x2)]).length) c4 cs3]) (by kernel_rfl) (.refl _) (.refl _) ?_
   refine RL.simK (K' := [(4, .slice A4 ((x1 ++ [W .u8 (x2)]).length) c4)]) [] (RFacts.nil _ _ _) 1 [.no] (by kernel_rfl) (by kernel_rfl) ?_
   refine RL.nil (by kernel_rfl) ?_
   refine QN.then_ ?_
   refine OK.ret (by kernel_rfl) ?_
   obtain rfl := Option.some.inj H
   refine QN.body rfl [] (RFacts.nil _ _ _) (.no) (.slice A4 ((x1 ++ [W .u8 (x2)]).length) c4) (by kernel_rfl) (by kernel_rfl) (by kernel_rfl) ?_ _ (.inr rfl)
   exact fun w' hs' => ⟨_, rfl, I2, A4, c4, cs3, rfl, hs'.got _ (.cons_cons _ .slnil), hp3⟩

end Go.Proofs.Ytieakigoinebdaa
namespace Go.Proofs.Ytieakigoinebdaa
open Go Go.Proofs.Ytieakigoinebdaa.RW
set_option linter.unusedVariables false
set_option maxRecDepth 100000
set_option maxHeartbeats 8000000

/-! ### codec_appendBytes: function 50, armillary/codec.appendBytes -/
noncomputable def K50_0 : Code := cBody Try.f50
noncomputable def K50_1 : Code := cL K50_0
noncomputable def O50_1 : List Oper := cOps K50_1
noncomputable def K50_3 : Code := cR K50_0
noncomputable def K50_4 : Code := cL K50_3
noncomputable def O50_4 : List Oper := cOps K50_4
noncomputable def K50_6 : Code := cR K50_3
def codec_appendBytes.f (k : Nat) (a0 : List Int) (a1 : List Int) : Option (List Int) := ((codec_AppendVarint.f k a0 (a1.length : Int)).bind fun t1 => (if (t1.length + a1.length) * 1 ≤ 140737488355328 then (some (t1 ++ a1)) else none))
def codec_appendBytes.Post (I : Imm) (w : World) (r : List Int) (v : Value) (w' : World) : Prop :=
 ∃ (J : Imm) (A0 : Option Addr) (c0 : Nat) (cs0 : List Value), v = .slice A0 r.length c0 ∧ Got w w' I J [orow 5 1 A0 r.length c0 cs0] ∧ Reps (Ty.int .u8) J r cs0
theorem codec_appendBytes.calls (k : Nat) (I0 : Imm) (a0 : List Int) (Ap0 : Option Addr) (cp0 : Nat) (a1 : List Int) (Ap1 : Option Addr) (cp1 : Nat) (w : World) (hI : I0.at_ w) (hlp0 : a0.length ≤ cp0) (hrp0 : Rd (Ty.int .u8) I0 Ap0 a0) (hlp1 : a1.length ≤ cp1) (hrp1 : Rd (Ty.int .u8) I0 Ap1 a1) (r : List Int) (h : codec_appendBytes.f k a0 a1 = some r) :
  Calls Try.prog 50 [.slice Ap0 a0.length cp0, .slice Ap1 a1.length cp1].toArray w fun e w' => ∃ v, e = .returned v ∧ codec_appendBytes.Post I0 w r v w' := by
 have H : ((codec_AppendVarint.f k a0 (a1.length : Int)).bind fun t1 => (if (t1.length + a1.length) * 1 ≤ 140737488355328 then (some (t1 ++ a1)) else none)) = some r := h
 clear h
 refine calls_body Try.func50 (by kernel_rfl) 11 (by kernel_rfl) (by kernel_rfl) ⟨w, fun _ => False, I0⟩ I0 [] [(0, .slice Ap0 a0.length cp0), (1, .slice Ap1 a1.length cp1)] (by kernel_rfl) (Sat.start w _ I0 hI) ?_
 generalize w.heap.size = nx0
 show OK _ K50_0 _ _ _ _ _ _ _ _
 refine OK.seq K50_1 K50_3 (by kernel_rfl) ?_
 refine OK.region 0 O50_1 (by kernel_rfl) ?_
 refine RL.simK (K' := [(0, .slice Ap0 a0.length cp0), (1, .slice Ap1 a1.length cp1)]) [] (RFacts.nil _ _ _) 1 [.no] (by kernel_rfl) (by kernel_rfl) ?_
 refine RL.nil (by kernel_rfl) ?_
 refine QN.then_ ?_
 refine OK.seq K50_4 K50_6 (by kernel_rfl) ?_
 refine OK.region 1 O50_4 (by kernel_rfl) ?_
 refine RL.simK (K' := [(7, .int .i64 (a1.length : Int)), (5, .slice Ap0 a0.length cp0), (1, .slice Ap1 a1.length cp1)]) [] (RFacts.nil _ _ _) 3 [.no, .no, .no] (by kernel_rfl) (by kernel_rfl) ?_
 obtain ⟨t1, hA1, H⟩ := Option.bind_eq_some_iff.mp H
 refine RL.callP 51 [.slice Ap0 a0.length cp0, .int .i64 (a1.length : Int)] (some 8) (fun w => codec_AppendVarint.Post I0 w t1) (by kernel_rfl) (by kernel_rfl) (fun w hs => codec_AppendVarint.calls k I0 a0 Ap0 cp0 (a1.length : Int) w hs.im hlp0 hrp0 t1 hA1) ?_
 rintro w v w' hs ⟨I1, A1, c1, cs1, rfl, hg, hp1⟩
 have hi1 := hg.le
 refine RL.resume (X' := [orow 5 1 A1 t1.length c1 cs1]) rfl (hs.call hg) ?_
 clear hs hg
 generalize w'.heap.size = nx1
 clear w w'
 refine RL.simK (K' := [(9, .slice Ap1 a1.length cp1), (8, .slice A1 t1.length c1)]) [] (RFacts.nil _ _ _) 1 [.no] (by kernel_rfl) (by kernel_rfl) ?_
 by_cases hz1 : (t1.length + a1.length) * 1 ≤ 140737488355328
 case neg => rw [if_neg hz1] at H; cases H
 rw [if_pos hz1] at H
 refine RL.appendR (T := 28) (e := 5) (S := A1) (S2 := Ap1) 1 1 28 c1 cp1 cs1 (Ty.int .u8) t1 a1 0 (some 10) (by kernel_rfl) (by kernel_rfl) (by kernel_rfl) (by kernel_rfl) (by kernel_rfl) (by decide) (by kernel_rfl) hp1 (Rd.ext hi1 hrp1) hz1 (by omega) (fun A2 c2 nx2 cs2 hp2 => ?_)
 refine RL.sub (K' := [(10, .slice A2 ((t1 ++ a1).length) c2), (9, .slice Ap1 a1.length cp1)]) (L' := []) (X' := [orow 5 1 A2 ((t1 ++ a1).length) c2 cs2]) (by kernel_rfl) (.refl _) (.refl _) ?_
 refine RL.simK (K' := [(4, .slice A2 ((t1 ++ a1).length) c2)]) [] (RFacts.nil _ _ _) 1 [.no] (by kernel_rfl) (by kernel_rfl) ?_
 refine RL.nil (by kernel_rfl) ?_
 refine QN.then_ ?_
 refine OK.ret (by kernel_rfl) ?_
 obtain rfl := Option.some.inj H
 refine QN.body rfl [] (RFacts.nil _ _ _) (.no) (.slice A2 ((t1 ++ a1).length) c2) (by kernel_rfl) (by kernel_rfl) (by kernel_rfl) ?_ _ (.inr rfl)
 exact fun w' hs' => ⟨_, rfl, I1, A2, c2, cs2, rfl, hs'.got _ (.cons_cons _ .slnil), hp2⟩

end Go.Proofs.Ytieakigoinebdaa
namespace Go.Proofs.Ytieakigoinebdaa
open Go Go.Proofs.Ytieakigoinebdaa.RW
set_option linter.unusedVariables false
set_option maxRecDepth 100000
set_option maxHeartbeats 8000000

/-! ### codec_EncodeEntry: function 42, armillary/codec.EncodeEntry -/
noncomputable def K42_0 : Code := cBody Try.f42
noncomputable def K42_1 : Code := cL K42_0
noncomputable def O42_1 : List Oper := cOps K42_1
noncomputable def K42_3 : Code := cR K42_0
noncomputable def K42_4 : Code := cL K42_3
noncomputable def K42_5 : Code := cL K42_4
noncomputable def O42_5 : List Oper := cOps K42_5
noncomputable def K42_7 : Code := cR K42_4
noncomputable def K42_8 : Code := cL K42_7
noncomputable def K42_9 : Code := cL K42_8
noncomputable def O42_9 : List Oper := cOps K42_9
noncomputable def K42_11 : Code := cR K42_8
noncomputable def K42_12 : Code := cR K42_7
noncomputable def K42_13 : Code := cR K42_3
noncomputable def K42_14 : Code := cL K42_13
noncomputable def O42_14 : List Oper := cOps K42_14
noncomputable def K42_16 : Code := cR K42_13
noncomputable def K42_17 : Code := cL K42_16
noncomputable def O42_17 : List Oper := cOps K42_17
noncomputable def K42_19 : Code := cR K42_16
def codec_EncodeEntry.f (k : Nat) (a0 : S30) : Option (List Int × Int) := ((codec_validEntry.f a0).bind fun t1 => (if t1 = true then ((codec_AppendVarint.f k [] a0.f0).bind fun t2 => (if a0.f1.size ≤ 9223372036854775807 then ((codec_appendBytes.f k t2 (bytesOf a0.f1)).bind fun t3 => ((codec_appendBytes.f k t3 a0.f2).bind fun t4 => (some (t4, 0)))) else none)) else (some ([], 1))))
def codec_EncodeEntry.Post (I : Imm) (w : World) (r : List Int × Int) (v : Value) (w' : World) : Prop :=
 ∃ (J : Imm) (A0 : Option Addr) (c0 : Nat) (cs0 : List Value), v = .tuple #[.slice A0 r.1.length c0, .int .i64 r.2] ∧ Got w w' I J [orow 5 1 A0 r.1.length c0 cs0] ∧ Reps (Ty.int .u8) J r.1 cs0
noncomputable def a42_14n : List Nat := [0, 1, 3, 0, 8, 24, 63, 127]
theorem a42_14 : ancs O42_14 [] = a42_14n := by kernel_rfl
theorem a42_14o : drawOk O42_14 a42_14n 6 = true := by kernel_rfl
noncomputable def u42d1l (a0 : S30) (t2 : List Int) : List Ld :=
 [⟨2, fun x => .slice ((x 0).1) t2.length ((x 0).2.1), fun x => [orow 5 1 (x 0).1 t2.length (x 0).2.1 (x 0).2.2], fun x J => Reps (Ty.int .u8) J t2 (x 0).2.2 ∧ True, fun x J J' h f => ⟨Reps.ext h f.1, trivial⟩⟩,
  ⟨5, fun x => .slice (some ⟨(x 0).2.1, 0, none⟩) ((bytesOf a0.f1).length) ((x 1).2.1), fun x => [], fun x J => (bytesOf a0.f1).length ≤ (x 1).2.1 ∧ Rd (Ty.int .u8) J (some ⟨(x 0).2.1, 0, none⟩) (bytesOf a0.f1) ∧ True, fun x J J' h f => ⟨f.1, Rd.ext h f.2.1, trivial⟩⟩]
noncomputable def u42d1g  : List (Nat × ((Nat → Wt) → Value)) := []
noncomputable def u42d1q (a0 : S30) (Ap0_2 : Option Addr) (cp0_2 : Nat) (nx0 : Nat) (t1 : Bool) (t2 : List Int) (u : Nat → Wt) : Option (List Value × List (Nat × Value) × List (Nat × Nat)) := qSim Try.prog [] [⟨nx0, [.int .i64 a0.f0, .string a0.f1, .slice Ap0_2 a0.f2.length cp0_2], 30⟩] O42_14 ⟨19, []⟩ (Ld.vl (u42d1l a0 t2)) u42d1g u [.no, .l 0, .no, .no, .l 0, .no] 0 (O42_14.take 6) [(7, .bool (!t1)), (1, .pointer (some ⟨nx0, 0, none⟩))]
noncomputable def u42d1s (a0 : S30) (nx0 : Nat) (t2 : List Int) (u : Nat → Wt) : List Value := [.pointer (some ⟨nx0, 0, none⟩), .int .i64 a0.f0, .slice ((u 2 0).1) t2.length ((u 2 0).2.1), .pointer (some ⟨nx0, 1, none⟩), .string a0.f1, .slice (some ⟨(u 5 0).2.1, 0, none⟩) ((bytesOf a0.f1).length) ((u 5 1).2.1)]
noncomputable def u42d1f (a0 : S30) (nx0 : Nat) (t1 : Bool) (t2 : List Int) (i : Nat) (u : Nat → Wt) : List (Nat × Value) := foldPut ⟨19, []⟩ [(7, .bool (!t1)), (1, .pointer (some ⟨nx0, 0, none⟩))] (O42_14.take i) (((u42d1s a0 nx0 t2) u).take i)
theorem u42d1v (a0 : S30) (Ap0_2 : Option Addr) (cp0_2 : Nat) (nx0 : Nat) (t1 : Bool) (t2 : List Int) (u : Nat → Wt) : (u42d1q a0 Ap0_2 cp0_2 nx0 t1 t2 u).map (fun x => (x.1, x.2.1)) = some ((u42d1s a0 nx0 t2) u, (u42d1f a0 nx0 t1 t2 6) u) := by kernel_rfl
theorem u42d1e (a0 : S30) (Ap0_2 : Option Addr) (cp0_2 : Nat) (nx0 : Nat) (t1 : Bool) (t2 : List Int) (u : Nat → Wt) : (u42d1q a0 Ap0_2 cp0_2 nx0 t1 t2 u).map (fun x => x.2.2.map (·.1)) = (u42d1q a0 Ap0_2 cp0_2 nx0 t1 t2 u).map (fun x => x.2.2.map (·.2)) := by kernel_rfl
theorem codec_EncodeEntry.calls (k : Nat) (I0 : Imm) (a0 : S30) (Ap0_2 : Option Addr) (cp0_2 : Nat) (w : World) (hI : I0.at_ w) (hlp0_2 : a0.f2.length ≤ cp0_2) (hrp0_2 : Rd (Ty.int .u8) I0 Ap0_2 a0.f2) (r : List Int × Int) (h : codec_EncodeEntry.f k a0 = some r) :
  Calls Try.prog 42 [.agg #[.int .i64 a0.f0, .string a0.f1, .slice Ap0_2 a0.f2.length cp0_2]].toArray w fun e w' => ∃ v, e = .returned v ∧ codec_EncodeEntry.Post I0 w r v w' := by
 have H : ((codec_validEntry.f a0).bind fun t1 => (if t1 = true then ((codec_AppendVarint.f k [] a0.f0).bind fun t2 => (if a0.f1.size ≤ 9223372036854775807 then ((codec_appendBytes.f k t2 (bytesOf a0.f1)).bind fun t3 => ((codec_appendBytes.f k t3 a0.f2).bind fun t4 => (some (t4, 0)))) else none)) else (some ([], 1)))) = some r := h
 clear h
 refine calls_body Try.func42 (by kernel_rfl) 19 (by kernel_rfl) (by kernel_rfl) ⟨w, fun _ => False, I0⟩ I0 [] [(0, .agg #[.int .i64 a0.f0, .string a0.f1, .slice Ap0_2 a0.f2.length cp0_2])] (by kernel_rfl) (Sat.start w _ I0 hI) ?_
 generalize w.heap.size = nx0
 show OK _ K42_0 _ _ _ _ _ _ _ _
 refine OK.seq K42_1 K42_3 (by kernel_rfl) ?_
 refine OK.region 0 O42_1 (by kernel_rfl) ?_
 refine RL.simP (K' := [(1, .pointer (some ⟨nx0, 0, none⟩))]) (nx' := nx0 + 1) (L' := [⟨nx0, [.int .i64 a0.f0, .string a0.f1, .slice Ap0_2 a0.f2.length cp0_2], 30⟩]) [] (RFacts.nil _ _ _) 3 [.no, .no, .no] (by kernel_rfl) (by kernel_rfl) ?_
 refine RL.nil (by kernel_rfl) ?_
 refine QN.then_ ?_
 refine OK.seq K42_4 K42_13 (by kernel_rfl) ?_
 refine OK.seq K42_5 K42_7 (by kernel_rfl) ?_
 refine OK.region 1 O42_5 (by kernel_rfl) ?_
 refine RL.simK (K' := [(5, .agg #[.int .i64 a0.f0, .string a0.f1, .slice Ap0_2 a0.f2.length cp0_2]), (1, .pointer (some ⟨nx0, 0, none⟩))]) [] (RFacts.nil _ _ _) 1 [.l 0] (by kernel_rfl) (by kernel_rfl) ?_
 obtain ⟨t1, hA1, H⟩ := Option.bind_eq_some_iff.mp H
 refine RL.callP 49 [.agg #[.int .i64 a0.f0, .string a0.f1, .slice Ap0_2 a0.f2.length cp0_2]] (some 6) (fun w => codec_validEntry.Post I0 w t1) (by kernel_rfl) (by kernel_rfl) (fun w hs => codec_validEntry.calls I0 a0 Ap0_2 cp0_2 w hs.im hlp0_2 hrp0_2 t1 hA1) ?_
 rintro w v w' hs ⟨I1, rfl, hg⟩
 have hi1 := hg.le
 refine RL.resume (X' := []) rfl (hs.call hg) ?_
 clear hs hg
 generalize w'.heap.size = nx1
 clear w w'
 refine RL.simK (K' := [(7, .bool (!t1)), (1, .pointer (some ⟨nx0, 0, none⟩))]) [] (RFacts.nil _ _ _) 1 [.no] (by kernel_rfl) (by kernel_rfl) ?_
 refine RL.nil (by kernel_rfl) ?_
 refine QN.then_ ?_
 refine OK.cond (.tmp 7) K42_8 K42_12 (!t1) (by kernel_rfl) (by kernel_rfl) (by kernel_rfl) (fun hb => ?_) (fun hb => ?_)
 ·have hb : t1 = false := by simpa using hb
  have hc := (Bool.eq_false_iff.1 hb)
  rw [if_neg hc] at H
  clear hb
  refine OK.seq K42_9 K42_11 (by kernel_rfl) ?_
  refine OK.region 2 O42_9 (by kernel_rfl) ?_
  refine RL.simK (K' := [(3, .int .i64 1), (2, .slice none 0 0)]) [] (RFacts.nil _ _ _) 2 [.no, .no] (by kernel_rfl) (by kernel_rfl) ?_
  refine RL.nil (by kernel_rfl) ?_
  refine QN.then_ ?_
  refine OK.ret (by kernel_rfl) ?_
  refine QN.thenR ?_
  obtain rfl := Option.some.inj H
  refine QN.body rfl [] (RFacts.nil _ _ _) (.no) (.tuple #[.slice none 0 0, .int .i64 1]) (by kernel_rfl) (by kernel_rfl) (by kernel_rfl) ?_ _ (.inr rfl)
  exact fun w' hs' => ⟨_, rfl, I1, none, 0, [], rfl, gotNil1 (hs'.got [] (List.nil_sublist _)), rfl⟩
 ·have hb : t1 = true := by simpa using hb
  have hc := hb
  rw [if_pos hc] at H
  clear hb
  refine OK.skip (by kernel_rfl) ?_
  refine QN.then_ ?_
  refine OK.seq K42_14 K42_16 (by kernel_rfl) ?_
  obtain ⟨t2, hA2, H⟩ := Option.bind_eq_some_iff.mp H
  by_cases hz1 : a0.f1.size ≤ 9223372036854775807
  case neg => rw [if_neg hz1] at H; cases H
  rw [if_pos hz1] at H
  refine OK.drawnC 3 6 O42_14 a42_14n (by kernel_rfl) (by kernel_rfl) (u42d1l a0 t2) u42d1g [] (RI.nil _) [.no, .l 0, .no, .no, .l 0, .no] a42_14 a42_14o (by kernel_rfl) (by kernel_rfl) (u42d1s a0 nx0 t2) (u42d1f a0 nx0 t1 t2 6) (u42d1v a0 Ap0_2 cp0_2 nx0 t1 t2) (u42d1e a0 Ap0_2 cp0_2 nx0 t1 t2) [u42d1f a0 nx0 t1 t2 2, u42d1f a0 nx0 t1 t2 5] (framesOk.cons (fun u => rfl) (framesOk.cons (fun u => rfl) framesOk.nil)) ?_ [] framesOk.nil ?_ ?_
  ·refine LoudsG.cons ?_ (LoudsG.cons ?_ (LoudsG.nil))
   ·intro D u J w hp hJ hs hF
    refine Does.call 51 [.slice none 0 0, .int .i64 a0.f0] (by kernel_rfl) ((codec_AppendVarint.calls k J [] none 0 a0.f0 w hs.im (Nat.le_refl _) (Rd.nil _ _ _) t2 hA2).mono ?_)
    rintro e w' ⟨v, rfl, J2, A0_, c0_, cs0_, rfl, hg, hp0_⟩
    exact ⟨_, rfl, fun _ => (A0_, c0_, cs0_), J2, rfl, hg, hp0_, trivial⟩
   ·intro D u J w hp hJ hs hF
    refine (Does.toBytes (src := 9) (dst := 28) (e := 5) (s := a0.f1) (u := .string) hs.im (by kernel_rfl) (by kernel_rfl) (by kernel_rfl) hz1 (by kernel_rfl)).mono ?_
    rintro v w' ⟨J2, c_, rfl, hg, hl_, hr_⟩
    exact ⟨fun q_ => bif Nat.beq q_ 0 then (none, w.heap.size, []) else (none, c_, []), J2, rfl, hg, hl_, hr_, trivial⟩
  ·refine Givens.nil
  intro u I2 nx2 hi2 hF
  have hf1 := ((hF.1 rfl).1)
  have hf2 := ((hF.2.1 rfl).1)
  have hf3 := ((hF.2.1 rfl).2.1)
  clear hF
  refine RL.norm (K' := [(13, .slice (some ⟨(u 5 0).2.1, 0, none⟩) ((bytesOf a0.f1).length) ((u 5 1).2.1)), (12, .string a0.f1), (11, .pointer (some ⟨nx0, 1, none⟩)), (10, .slice ((u 2 0).1) t2.length ((u 2 0).2.1)), (9, .int .i64 a0.f0), (8, .pointer (some ⟨nx0, 0, none⟩)), (7, .bool (!t1)), (1, .pointer (some ⟨nx0, 0, none⟩))]) (X' := [orow 5 1 (u 2 0).1 t2.length (u 2 0).2.1 (u 2 0).2.2]) (by kernel_rfl) rfl rfl rfl ?_
  revert hf1 hf2 hf3
  generalize (u 2 0).1 = A1
  generalize (u 2 0).2.1 = c1
  generalize (u 2 0).2.2 = cs1
  generalize (u 5 0).1 = A2
  generalize (u 5 0).2.1 = c2
  generalize (u 5 0).2.2 = cs2
  generalize (u 5 1).1 = A3
  generalize (u 5 1).2.1 = c3
  generalize (u 5 1).2.2 = cs3
  intro hf1 hf2 hf3
  clear u
  refine RL.freeze (e := 5) (sz := 1) (S := A1) (n := t2.length) (cap := c1) 0 (by kernel_rfl) hf1 rfl (fun _ h => h.elim) (fun I3 hi3 hl1 hr1 => ?_)
  skip
  obtain ⟨t3, hA3, H⟩ := Option.bind_eq_some_iff.mp H
  refine RL.callP 50 [.slice A1 t2.length c1, .slice (some ⟨c2, 0, none⟩) ((bytesOf a0.f1).length) (c3)] (some 14) (fun w => codec_appendBytes.Post I3 w t3) (by kernel_rfl) (by kernel_rfl) (fun w hs => codec_appendBytes.calls k I3 t2 A1 c1 (bytesOf a0.f1) (some ⟨c2, 0, none⟩) (c3) w hs.im hl1 hr1 hf2 (Rd.ext hi3 hf3) t3 hA3) ?_
  rintro w v w' hs ⟨I4, A4, c4, cs4, rfl, hg, hp1⟩
  have hi4 := hg.le
  refine RL.resume (X' := [orow 5 1 A4 t3.length c4 cs4]) rfl (hs.call hg) ?_
  clear hs hg
  generalize w'.heap.size = nx3
  clear w w'
  refine RL.simK (K' := [(4, .slice A4 t3.length c4), (1, .pointer (some ⟨nx0, 0, none⟩))]) [] (RFacts.nil _ _ _) 1 [.no] (by kernel_rfl) (by kernel_rfl) ?_
  refine RL.nil (by kernel_rfl) ?_
  refine QN.then_ ?_
  refine OK.seq K42_17 K42_19 (by kernel_rfl) ?_
  refine OK.region 4 O42_17 (by kernel_rfl) ?_
  refine RL.simK (K' := [(17, .slice Ap0_2 a0.f2.length cp0_2), (15, .slice A4 t3.length c4)]) [] (RFacts.nil _ _ _) 3 [.no, .no, .l 0] (by kernel_rfl) (by kernel_rfl) ?_
  refine RL.freeze (e := 5) (sz := 1) (S := A4) (n := t3.length) (cap := c4) 0 (by kernel_rfl) hp1 rfl (fun _ h => h.elim) (fun I5 hi5 hl2 hr2 => ?_)
  skip
  obtain ⟨t4, hA4, H⟩ := Option.bind_eq_some_iff.mp H
  refine RL.callP 50 [.slice A4 t3.length c4, .slice Ap0_2 a0.f2.length cp0_2] (some 18) (fun w => codec_appendBytes.Post I5 w t4) (by kernel_rfl) (by kernel_rfl) (fun w hs => codec_appendBytes.calls k I5 t3 A4 c4 a0.f2 Ap0_2 cp0_2 w hs.im hl2 hr2 hlp0_2 (Rd.ext (Imm.le_trans (Imm.le_trans (Imm.le_trans (Imm.le_trans hi1 hi2) hi3) hi4) hi5) hrp0_2) t4 hA4) ?_
  rintro w v w' hs ⟨I6, A5, c5, cs5, rfl, hg, hp2⟩
  have hi6 := hg.le
  refine RL.resume (X' := [orow 5 1 A5 t4.length c5 cs5]) rfl (hs.call hg) ?_
  clear hs hg
  generalize w'.heap.size = nx4
  clear w w'
  refine RL.simK (K' := [(3, .int .i64 0), (2, .slice A5 t4.length c5)]) [] (RFacts.nil _ _ _) 2 [.no, .no] (by kernel_rfl) (by kernel_rfl) ?_
  refine RL.nil (by kernel_rfl) ?_
  refine QN.then_ ?_
  refine OK.ret (by kernel_rfl) ?_
  obtain rfl := Option.some.inj H
  refine QN.body rfl [] (RFacts.nil _ _ _) (.no) (.tuple #[.slice A5 t4.length c5, .int .i64 0]) (by kernel_rfl) (by kernel_rfl) (by kernel_rfl) ?_ _ (.inr rfl)
  exact fun w' hs' => ⟨_, rfl, I6, A5, c5, cs5, rfl, hs'.got _ (.cons_cons _ .slnil), hp2⟩

end Go.Proofs.Ytieakigoinebdaa
namespace Go.Proofs.Ytieakigoinebdaa
open Go Go.Proofs.Ytieakigoinebdaa.RW
set_option linter.unusedVariables false
set_option maxRecDepth 100000
set_option maxHeartbeats 8000000

/-! ### quorum_bare: function 44, armillary/quorum.bare -/
noncomputable def K44_0 : Code := cBody Try.f44
noncomputable def K44_1 : Code := cL K44_0
noncomputable def O44_1 : List Oper := cOps K44_1
noncomputable def K44_3 : Code := cR K44_0
noncomputable def K44_4 : Code := cL K44_3
noncomputable def O44_4 : List Oper := cOps K44_4
noncomputable def K44_6 : Code := cR K44_3
def quorum_bare.k1  (x1 : Bool) : Option (Bool) := (some x1)
def quorum_bare.f (a0 : S32) : Option (Bool) := ((if a0.f5.f0 = 0 then (if a0.f5.f1.toList = (⟨#[]⟩ : ByteArray).toList then (some ((a0.f5.f2.length : Int) == 0)) else (some false)) else (some false)).bind (quorum_bare.k1))
def quorum_bare.Post (I : Imm) (w : World) (r : Bool) (v : Value) (w' : World) : Prop :=
 ∃ (J : Imm), v = .bool r ∧ Got w w' I J []
theorem quorum_bare.calls (I0 : Imm) (a0 : S32) (Ap0_5_2 : Option Addr) (cp0_5_2 : Nat) (w : World) (hI : I0.at_ w) (hlp0_5_2 : a0.f5.f2.length ≤ cp0_5_2) (hrp0_5_2 : Rd (Ty.int .u8) I0 Ap0_5_2 a0.f5.f2) (r : Bool) (h : quorum_bare.f a0 = some r) :
  Calls Try.prog 44 [.agg #[.int .i64 a0.f0, .int .i64 a0.f1, .int .i64 a0.f2, .int .i64 a0.f3, .int .u32 a0.f4, .int .i64 a0.f5.f0, .string a0.f5.f1, .slice Ap0_5_2 a0.f5.f2.length cp0_5_2]].toArray w fun e w' => ∃ v, e = .returned v ∧ quorum_bare.Post I0 w r v w' := by
 have H : ((if a0.f5.f0 = 0 then (if a0.f5.f1.toList = (⟨#[]⟩ : ByteArray).toList then (some ((a0.f5.f2.length : Int) == 0)) else (some false)) else (some false)).bind (quorum_bare.k1)) = some r := h
 clear h
 refine calls_body Try.func44 (by kernel_rfl) 20 (by kernel_rfl) (by kernel_rfl) ⟨w, fun _ => False, I0⟩ I0 [] [(0, .agg #[.int .i64 a0.f0, .int .i64 a0.f1, .int .i64 a0.f2, .int .i64 a0.f3, .int .u32 a0.f4, .int .i64 a0.f5.f0, .string a0.f5.f1, .slice Ap0_5_2 a0.f5.f2.length cp0_5_2])] (by kernel_rfl) (Sat.start w _ I0 hI) ?_
 generalize w.heap.size = nx0
 show OK _ K44_0 _ _ _ _ _ _ _ _
 refine OK.seq K44_1 K44_3 (by kernel_rfl) ?_
 refine OK.region 0 O44_1 (by kernel_rfl) ?_
 refine RL.simP (K' := [(1, .pointer (some ⟨nx0, 0, none⟩))]) (nx' := nx0 + 1) (L' := [⟨nx0, [.int .i64 a0.f0, .int .i64 a0.f1, .int .i64 a0.f2, .int .i64 a0.f3, .int .u32 a0.f4, .int .i64 a0.f5.f0, .string a0.f5.f1, .slice Ap0_5_2 a0.f5.f2.length cp0_5_2], 32⟩]) [] (RFacts.nil _ _ _) 2 [.no, .no] (by kernel_rfl) (by kernel_rfl) ?_
 refine RL.nil (by kernel_rfl) ?_
 refine QN.then_ ?_
 refine OK.seq K44_4 K44_6 (by kernel_rfl) ?_
 refine OK.join (fun K' I' _ L' X' => ∃ (x1 : Bool), K' = [(2, .bool x1)] ∧ L' = [⟨nx0, [.int .i64 a0.f0, .int .i64 a0.f1, .int .i64 a0.f2, .int .i64 a0.f3, .int .u32 a0.f4, .int .i64 a0.f5.f0, .string a0.f5.f1, .slice Ap0_5_2 a0.f5.f2.length cp0_5_2], 32⟩] ∧ X' = [] ∧ Imm.le I0 I' ∧ quorum_bare.k1 x1 = some r) ?_ ?_
 ·rintro _ I1 nx1 _ _ ⟨x1, rfl, rfl, rfl, hi1, H⟩
  replace H : (some x1) = some r := H
  refine QN.then_ ?_
  refine OK.ret (by kernel_rfl) ?_
  obtain rfl := Option.some.inj H
  refine QN.body rfl [] (RFacts.nil _ _ _) (.no) (.bool x1) (by kernel_rfl) (by kernel_rfl) (by kernel_rfl) ?_ _ (.inr rfl)
  exact fun w' hs' => ⟨_, rfl, I1, rfl, hs'.got _ .slnil⟩
 ·intro Q_1 hJ1 hQ1
  obtain ⟨y1, H, HK1⟩ := Option.bind_eq_some_iff.mp H
  refine OK.region 1 O44_4 (by kernel_rfl) ?_
  refine RL.simK (K' := [(7, .bool (a0.f5.f0 == 0)), (1, .pointer (some ⟨nx0, 0, none⟩))]) [] (RFacts.nil _ _ _) 5 [.no, .no, .l 0, .no, .no] (by kernel_rfl) (by kernel_rfl) ?_
  refine RL.cases (a0.f5.f0 == 0) (fun hb => ?_) (fun hb => ?_)
  ·have hc := (beq_iff_eq.1 hb)
   rw [hb]
   rw [if_pos hc] at H; clear hb
   refine RL.simK (K' := [(13, .bool (a0.f5.f1.toList == (⟨#[]⟩ : ByteArray).toList)), (1, .pointer (some ⟨nx0, 0, none⟩))]) [] (RFacts.nil _ _ _) 6 [.no, .no, .l 0, .no, .no, .no] (by kernel_rfl) (by kernel_rfl) ?_
   refine RL.cases (a0.f5.f1.toList == (⟨#[]⟩ : ByteArray).toList) (fun hb => ?_) (fun hb => ?_)
   ·have hc := (beq_iff_eq.1 hb)
    rw [hb]
    rw [if_pos hc] at H; clear hb
    refine RL.simK (K' := [(2, .bool ((a0.f5.f2.length : Int) == 0))]) [] (RFacts.nil _ _ _) 7 [.no, .no, .l 0, .no, .no, .no, .no] (by kernel_rfl) (by kernel_rfl) ?_
    refine RL.nil (by kernel_rfl) ?_
    obtain rfl := Option.some.inj H
    refine QN.sub (K' := [(2, .bool ((a0.f5.f2.length : Int) == 0))]) (L' := [⟨nx0, [.int .i64 a0.f0, .int .i64 a0.f1, .int .i64 a0.f2, .int .i64 a0.f3, .int .u32 a0.f4, .int .i64 a0.f5.f0, .string a0.f5.f1, .slice Ap0_5_2 a0.f5.f2.length cp0_5_2], 32⟩]) (by kernel_rfl) (.cons_cons _ .slnil) (.refl _) ?_
    exact hJ1 _ _ _ _ _ ⟨((a0.f5.f2.length : Int) == 0), rfl, rfl, rfl, (Imm.le_refl _), HK1⟩
   ·have hc := (beq_eq_false_iff_ne.1 hb)
    rw [hb]
    rw [if_neg hc] at H; clear hb
    refine RL.simK (K' := [(2, .bool false)]) [] (RFacts.nil _ _ _) 7 [.no, .no, .no, .no, .no, .no, .no] (by kernel_rfl) (by kernel_rfl) ?_
    refine RL.nil (by kernel_rfl) ?_
    obtain rfl := Option.some.inj H
    refine QN.sub (K' := [(2, .bool false)]) (L' := [⟨nx0, [.int .i64 a0.f0, .int .i64 a0.f1, .int .i64 a0.f2, .int .i64 a0.f3, .int .u32 a0.f4, .int .i64 a0.f5.f0, .string a0.f5.f1, .slice Ap0_5_2 a0.f5.f2.length cp0_5_2], 32⟩]) (by kernel_rfl) (.cons_cons _ .slnil) (.refl _) ?_
    exact hJ1 _ _ _ _ _ ⟨false, rfl, rfl, rfl, (Imm.le_refl _), HK1⟩
  ·have hc := (beq_eq_false_iff_ne.1 hb)
   rw [hb]
   rw [if_neg hc] at H; clear hb
   refine RL.simK (K' := [(2, .bool false)]) [] (RFacts.nil _ _ _) 13 [.no, .no, .no, .no, .no, .no, .no, .no, .no, .no, .no, .no, .no] (by kernel_rfl) (by kernel_rfl) ?_
   refine RL.nil (by kernel_rfl) ?_
   obtain rfl := Option.some.inj H
   refine QN.sub (K' := [(2, .bool false)]) (L' := [⟨nx0, [.int .i64 a0.f0, .int .i64 a0.f1, .int .i64 a0.f2, .int .i64 a0.f3, .int .u32 a0.f4, .int .i64 a0.f5.f0, .string a0.f5.f1, .slice Ap0_5_2 a0.f5.f2.length cp0_5_2], 32⟩]) (by kernel_rfl) (.cons_cons _ .slnil) (.refl _) ?_
   exact hJ1 _ _ _ _ _ ⟨false, rfl, rfl, rfl, (Imm.le_refl _), HK1⟩

end Go.Proofs.Ytieakigoinebdaa
namespace Go.Proofs.Ytieakigoinebdaa
open Go Go.Proofs.Ytieakigoinebdaa.RW
set_option linter.unusedVariables false
set_option maxRecDepth 100000
set_option maxHeartbeats 8000000

/-! ### quorum_group_valid: function 32, (armillary/quorum.group).valid -/
noncomputable def K32_0 : Code := cBody Try.f32
noncomputable def K32_1 : Code := cL K32_0
noncomputable def O32_1 : List Oper := cOps K32_1
noncomputable def K32_3 : Code := cR K32_0
noncomputable def K32_4 : Code := cL K32_3
noncomputable def K32_5 : Code := cL K32_4
noncomputable def O32_5 : List Oper := cOps K32_5
noncomputable def K32_7 : Code := cR K32_4
noncomputable def K32_8 : Code := cL K32_7
noncomputable def K32_9 : Code := cL K32_8
noncomputable def O32_9 : List Oper := cOps K32_9
noncomputable def K32_11 : Code := cR K32_8
noncomputable def K32_12 : Code := cR K32_7
noncomputable def K32_13 : Code := cR K32_3
noncomputable def K32_14 : Code := cL K32_13
noncomputable def K32_15 : Code := cL K32_14
noncomputable def O32_15 : List Oper := cOps K32_15
noncomputable def K32_17 : Code := cR K32_14
noncomputable def K32_18 : Code := cL K32_17
noncomputable def K32_19 : Code := cL K32_18
noncomputable def O32_19 : List Oper := cOps K32_19
noncomputable def K32_21 : Code := cR K32_18
noncomputable def K32_22 : Code := cL K32_21
noncomputable def K32_23 : Code := cL K32_22
noncomputable def O32_23 : List Oper := cOps K32_23
noncomputable def K32_25 : Code := cR K32_22
noncomputable def K32_26 : Code := cL K32_25
noncomputable def O32_26 : List Oper := cOps K32_26
noncomputable def K32_28 : Code := cR K32_25
noncomputable def K32_29 : Code := cR K32_21
noncomputable def K32_30 : Code := cL K32_29
noncomputable def K32_31 : Code := cL K32_30
noncomputable def O32_31 : List Oper := cOps K32_31
noncomputable def K32_33 : Code := cR K32_30
noncomputable def K32_34 : Code := cL K32_33
noncomputable def K32_35 : Code := cR K32_33
noncomputable def O32_35 : List Oper := cOps K32_35
noncomputable def K32_37 : Code := cR K32_29
noncomputable def K32_38 : Code := cL K32_37
noncomputable def K32_39 : Code := cL K32_38
noncomputable def O32_39 : List Oper := cOps K32_39
noncomputable def K32_41 : Code := cR K32_38
noncomputable def K32_42 : Code := cR K32_37
noncomputable def K32_43 : Code := cL K32_42
noncomputable def O32_43 : List Oper := cOps K32_43
noncomputable def K32_45 : Code := cR K32_42
noncomputable def K32_46 : Code := cL K32_45
noncomputable def K32_47 : Code := cL K32_46
noncomputable def O32_47 : List Oper := cOps K32_47
noncomputable def K32_49 : Code := cR K32_46
noncomputable def K32_50 : Code := cR K32_45
noncomputable def K32_51 : Code := cR K32_13
noncomputable def K32_52 : Code := cL K32_51
noncomputable def O32_52 : List Oper := cOps K32_52
noncomputable def K32_54 : Code := cR K32_51
def quorum_group_valid.k1  (x2 : Bool) : Option (Bool) := (some x2)
def quorum_group_valid.k2  (x4 : Bool) : Option (Bool) := (some x4)
def quorum_group_valid.k3 (a1 : S32) (x3 : Bool) : Option (Bool) := (if x3 = true then ((quorum_bare.f a1).bind fun t4 => (some t4)) else (if a1.f0 = 4 then (((quorum_bare.f a1).bind fun t5 => (if t5 = true then (if a1.f3 = 0 then (some (a1.f4 == 0)) else (some false)) else (some false))).bind (quorum_group_valid.k2)) else (some false)))
def quorum_group_valid.k4 (k : Nat) (a0 : Int) (a1 : S32) (x1 : Bool) : Option (Bool) := (if x1 = true then (some false) else (if a1.f0 = 1 then ((codec_EncodeEntry.f k a1.f5).bind fun t1 => ((if t1.2 = 0 then ((quorum_Leader.f a0 a1.f2).bind fun t2 => (if a1.f1 = t2 then ((codec_Checksum.f t1.1).bind fun t3 => (some (t3 == a1.f4))) else (some false))) else (some false)).bind (quorum_group_valid.k1))) else ((if a1.f0 = 2 then (some (a1.f0 == 2)) else (some (a1.f0 == 3))).bind (quorum_group_valid.k3 a1))))
def quorum_group_valid.f (k : Nat) (a0 : Int) (a1 : S32) : Option (Bool) := (((quorum_group_possible.f a0).bind fun t6 => (if t6 = true then (if a1.f1 < 0 then (some true) else (if a1.f1 ≥ a0 then (some true) else (if a1.f2 < 0 then (some true) else (if a1.f2 > 1048576 then (some true) else (if a1.f3 < 0 then (some true) else (some (decide (a1.f3 ≥ 1000)))))))) else (some true))).bind (quorum_group_valid.k4 k a0 a1))
def quorum_group_valid.Post (I : Imm) (w : World) (r : Bool) (v : Value) (w' : World) : Prop :=
 ∃ (J : Imm), v = .bool r ∧ Got w w' I J []
noncomputable def a32_26n : List Nat := [0, 1, 3, 7, 15, 7, 7, 71, 231, 511, 1023, 2047, 4095, 8191, 4095, 20479, 65535, 131071, 262143]
theorem a32_26 : ancs O32_26 [] = a32_26n := by kernel_rfl
theorem a32_26o : drawOk O32_26 a32_26n 16 = true := by kernel_rfl
noncomputable def u32d1l (t2 : Int) (t3 : Int) : List Ld :=
 [⟨8, fun x => .int .i64 t2, fun x => [], fun x J => True, fun x J J' h f => trivial⟩,
  ⟨13, fun x => .int .u32 t3, fun x => [], fun x J => True, fun x J J' h f => trivial⟩]
noncomputable def u32d1g  : List (Nat × ((Nat → Wt) → Value)) := [(2, fun u => .bool true), (11, fun u => .bool true)]
noncomputable def u32d1q (a0 : Int) (a1 : S32) (Ap1_5_2 : Option Addr) (cp1_5_2 : Nat) (nx0 : Nat) (t1 : List Int × Int) (A1 : Option Addr) (c1 : Nat) (t2 : Int) (t3 : Int) (u : Nat → Wt) : Option (List Value × List (Nat × Value) × List (Nat × Nat)) := qSim Try.prog [] [⟨nx0, [.int .i64 a1.f0, .int .i64 a1.f1, .int .i64 a1.f2, .int .i64 a1.f3, .int .u32 a1.f4, .int .i64 a1.f5.f0, .string a1.f5.f1, .slice Ap1_5_2 a1.f5.f2.length cp1_5_2], 32⟩] O32_26 ⟨88, []⟩ (Ld.vl (u32d1l t2 t3)) u32d1g u [.no, .no, .no, .no, .l 0, .no, .no, .l 0, .no, .no, .no, .no, .no, .no, .no, .l 0] 0 (O32_26.take 16) [(6, .int .i64 t1.2), (5, .slice A1 t1.1.length c1), (0, .int .i64 a0), (3, .pointer (some ⟨nx0, 0, none⟩))]
noncomputable def u32d1s (a0 : Int) (a1 : S32) (nx0 : Nat) (t1 : List Int × Int) (A1 : Option Addr) (c1 : Nat) (t2 : Int) (t3 : Int) (u : Nat → Wt) : List Value := [.int .i64 t1.2, .bool (t1.2 == 0), .bool true, .pointer (some ⟨nx0, 1, none⟩), .int .i64 a1.f1, .int .i64 a0, .pointer (some ⟨nx0, 2, none⟩), .int .i64 a1.f2, .int .i64 t2, .bool (a1.f1 == t2), .bool (a1.f1 == t2), .bool true, .slice A1 t1.1.length c1, .int .u32 t3, .pointer (some ⟨nx0, 4, none⟩), .int .u32 a1.f4]
noncomputable def u32d1f (a0 : Int) (a1 : S32) (nx0 : Nat) (t1 : List Int × Int) (A1 : Option Addr) (c1 : Nat) (t2 : Int) (t3 : Int) (i : Nat) (u : Nat → Wt) : List (Nat × Value) := foldPut ⟨88, []⟩ [(6, .int .i64 t1.2), (5, .slice A1 t1.1.length c1), (0, .int .i64 a0), (3, .pointer (some ⟨nx0, 0, none⟩))] (O32_26.take i) (((u32d1s a0 a1 nx0 t1 A1 c1 t2 t3) u).take i)
theorem u32d1v (a0 : Int) (a1 : S32) (Ap1_5_2 : Option Addr) (cp1_5_2 : Nat) (nx0 : Nat) (t1 : List Int × Int) (A1 : Option Addr) (c1 : Nat) (t2 : Int) (t3 : Int) (u : Nat → Wt) : (u32d1q a0 a1 Ap1_5_2 cp1_5_2 nx0 t1 A1 c1 t2 t3 u).map (fun x => (x.1, x.2.1)) = some ((u32d1s a0 a1 nx0 t1 A1 c1 t2 t3) u, (u32d1f a0 a1 nx0 t1 A1 c1 t2 t3 16) u) := by kernel_rfl
theorem u32d1e (a0 : Int) (a1 : S32) (Ap1_5_2 : Option Addr) (cp1_5_2 : Nat) (nx0 : Nat) (t1 : List Int × Int) (A1 : Option Addr) (c1 : Nat) (t2 : Int) (t3 : Int) (u : Nat → Wt) : (u32d1q a0 a1 Ap1_5_2 cp1_5_2 nx0 t1 A1 c1 t2 t3 u).map (fun x => x.2.2.map (·.1)) = (u32d1q a0 a1 Ap1_5_2 cp1_5_2 nx0 t1 A1 c1 t2 t3 u).map (fun x => x.2.2.map (·.2)) := by kernel_rfl
noncomputable def u32d2l (t2 : Int) : List Ld :=
 [⟨8, fun x => .int .i64 t2, fun x => [], fun x J => True, fun x J J' h f => trivial⟩]
noncomputable def u32d2g  : List (Nat × ((Nat → Wt) → Value)) := [(2, fun u => .bool true), (11, fun u => .bool false)]
noncomputable def u32d2q (a0 : Int) (a1 : S32) (Ap1_5_2 : Option Addr) (cp1_5_2 : Nat) (nx0 : Nat) (t1 : List Int × Int) (A1 : Option Addr) (c1 : Nat) (t2 : Int) (u : Nat → Wt) : Option (List Value × List (Nat × Value) × List (Nat × Nat)) := qSim Try.prog [] [⟨nx0, [.int .i64 a1.f0, .int .i64 a1.f1, .int .i64 a1.f2, .int .i64 a1.f3, .int .u32 a1.f4, .int .i64 a1.f5.f0, .string a1.f5.f1, .slice Ap1_5_2 a1.f5.f2.length cp1_5_2], 32⟩] O32_26 ⟨88, []⟩ (Ld.vl (u32d2l t2)) u32d2g u [.no, .no, .no, .no, .l 0, .no, .no, .l 0, .no, .no, .no, .no, .no, .no, .no, .no] 0 (O32_26.take 16) [(6, .int .i64 t1.2), (5, .slice A1 t1.1.length c1), (0, .int .i64 a0), (3, .pointer (some ⟨nx0, 0, none⟩))]
noncomputable def u32d2s (a0 : Int) (a1 : S32) (nx0 : Nat) (t1 : List Int × Int) (t2 : Int) (u : Nat → Wt) : List Value := [.int .i64 t1.2, .bool (t1.2 == 0), .bool true, .pointer (some ⟨nx0, 1, none⟩), .int .i64 a1.f1, .int .i64 a0, .pointer (some ⟨nx0, 2, none⟩), .int .i64 a1.f2, .int .i64 t2, .bool (a1.f1 == t2), .bool (a1.f1 == t2), .bool false, undef, undef, undef, undef]
noncomputable def u32d2f (a0 : Int) (a1 : S32) (nx0 : Nat) (t1 : List Int × Int) (A1 : Option Addr) (c1 : Nat) (t2 : Int) (i : Nat) (u : Nat → Wt) : List (Nat × Value) := foldPut ⟨88, []⟩ [(6, .int .i64 t1.2), (5, .slice A1 t1.1.length c1), (0, .int .i64 a0), (3, .pointer (some ⟨nx0, 0, none⟩))] (O32_26.take i) (((u32d2s a0 a1 nx0 t1 t2) u).take i)
theorem u32d2v (a0 : Int) (a1 : S32) (Ap1_5_2 : Option Addr) (cp1_5_2 : Nat) (nx0 : Nat) (t1 : List Int × Int) (A1 : Option Addr) (c1 : Nat) (t2 : Int) (u : Nat → Wt) : (u32d2q a0 a1 Ap1_5_2 cp1_5_2 nx0 t1 A1 c1 t2 u).map (fun x => (x.1, x.2.1)) = some ((u32d2s a0 a1 nx0 t1 t2) u, (u32d2f a0 a1 nx0 t1 A1 c1 t2 16) u) := by kernel_rfl
theorem u32d2e (a0 : Int) (a1 : S32) (Ap1_5_2 : Option Addr) (cp1_5_2 : Nat) (nx0 : Nat) (t1 : List Int × Int) (A1 : Option Addr) (c1 : Nat) (t2 : Int) (u : Nat → Wt) : (u32d2q a0 a1 Ap1_5_2 cp1_5_2 nx0 t1 A1 c1 t2 u).map (fun x => x.2.2.map (·.1)) = (u32d2q a0 a1 Ap1_5_2 cp1_5_2 nx0 t1 A1 c1 t2 u).map (fun x => x.2.2.map (·.2)) := by kernel_rfl
noncomputable def u32d3l  : List Ld :=
 []
noncomputable def u32d3g  : List (Nat × ((Nat → Wt) → Value)) := [(2, fun u => .bool false)]
noncomputable def u32d3q (a0 : Int) (a1 : S32) (Ap1_5_2 : Option Addr) (cp1_5_2 : Nat) (nx0 : Nat) (t1 : List Int × Int) (A1 : Option Addr) (c1 : Nat) (u : Nat → Wt) : Option (List Value × List (Nat × Value) × List (Nat × Nat)) := qSim Try.prog [] [⟨nx0, [.int .i64 a1.f0, .int .i64 a1.f1, .int .i64 a1.f2, .int .i64 a1.f3, .int .u32 a1.f4, .int .i64 a1.f5.f0, .string a1.f5.f1, .slice Ap1_5_2 a1.f5.f2.length cp1_5_2], 32⟩] O32_26 ⟨88, []⟩ (Ld.vl u32d3l) u32d3g u [.no, .no, .no, .no, .no, .no, .no, .no, .no, .no, .no, .no, .no, .no, .no, .no] 0 (O32_26.take 16) [(6, .int .i64 t1.2), (5, .slice A1 t1.1.length c1), (0, .int .i64 a0), (3, .pointer (some ⟨nx0, 0, none⟩))]
noncomputable def u32d3s (t1 : List Int × Int) (u : Nat → Wt) : List Value := [.int .i64 t1.2, .bool (t1.2 == 0), .bool false, undef, undef, undef, undef, undef, undef, undef, .bool false, .bool false, undef, undef, undef, undef]
noncomputable def u32d3f (a0 : Int) (nx0 : Nat) (t1 : List Int × Int) (A1 : Option Addr) (c1 : Nat) (i : Nat) (u : Nat → Wt) : List (Nat × Value) := foldPut ⟨88, []⟩ [(6, .int .i64 t1.2), (5, .slice A1 t1.1.length c1), (0, .int .i64 a0), (3, .pointer (some ⟨nx0, 0, none⟩))] (O32_26.take i) (((u32d3s t1) u).take i)
theorem u32d3v (a0 : Int) (a1 : S32) (Ap1_5_2 : Option Addr) (cp1_5_2 : Nat) (nx0 : Nat) (t1 : List Int × Int) (A1 : Option Addr) (c1 : Nat) (u : Nat → Wt) : (u32d3q a0 a1 Ap1_5_2 cp1_5_2 nx0 t1 A1 c1 u).map (fun x => (x.1, x.2.1)) = some ((u32d3s t1) u, (u32d3f a0 nx0 t1 A1 c1 16) u) := by kernel_rfl
theorem u32d3e (a0 : Int) (a1 : S32) (Ap1_5_2 : Option Addr) (cp1_5_2 : Nat) (nx0 : Nat) (t1 : List Int × Int) (A1 : Option Addr) (c1 : Nat) (u : Nat → Wt) : (u32d3q a0 a1 Ap1_5_2 cp1_5_2 nx0 t1 A1 c1 u).map (fun x => x.2.2.map (·.1)) = (u32d3q a0 a1 Ap1_5_2 cp1_5_2 nx0 t1 A1 c1 u).map (fun x => x.2.2.map (·.2)) := by kernel_rfl
theorem quorum_group_valid.calls (k : Nat) (I0 : Imm) (a0 : Int) (a1 : S32) (Ap1_5_2 : Option Addr) (cp1_5_2 : Nat) (w : World) (hI : I0.at_ w) (hlp1_5_2 : a1.f5.f2.length ≤ cp1_5_2) (hrp1_5_2 : Rd (Ty.int .u8) I0 Ap1_5_2 a1.f5.f2) (r : Bool) (h : quorum_group_valid.f k a0 a1 = some r) :
  Calls Try.prog 32 [.int .i64 a0, .agg #[.int .i64 a1.f0, .int .i64 a1.f1, .int .i64 a1.f2, .int .i64 a1.f3, .int .u32 a1.f4, .int .i64 a1.f5.f0, .string a1.f5.f1, .slice Ap1_5_2 a1.f5.f2.length cp1_5_2]].toArray w fun e w' => ∃ v, e = .returned v ∧ quorum_group_valid.Post I0 w r v w' := by
 have H : (((quorum_group_possible.f a0).bind fun t6 => (if t6 = true then (if a1.f1 < 0 then (some true) else (if a1.f1 ≥ a0 then (some true) else (if a1.f2 < 0 then (some true) else (if a1.f2 > 1048576 then (some true) else (if a1.f3 < 0 then (some true) else (some (decide (a1.f3 ≥ 1000)))))))) else (some true))).bind (quorum_group_valid.k4 k a0 a1)) = some r := h
 clear h
 refine calls_body Try.func32 (by kernel_rfl) 88 (by kernel_rfl) (by kernel_rfl) ⟨w, fun _ => False, I0⟩ I0 [] [(0, .int .i64 a0), (1, .agg #[.int .i64 a1.f0, .int .i64 a1.f1, .int .i64 a1.f2, .int .i64 a1.f3, .int .u32 a1.f4, .int .i64 a1.f5.f0, .string a1.f5.f1, .slice Ap1_5_2 a1.f5.f2.length cp1_5_2])] (by kernel_rfl) (Sat.start w _ I0 hI) ?_
 generalize w.heap.size = nx0
 show OK _ K32_0 _ _ _ _ _ _ _ _
 refine OK.seq K32_1 K32_3 (by kernel_rfl) ?_
 refine OK.region 0 O32_1 (by kernel_rfl) ?_
 refine RL.simP (K' := [(3, .pointer (some ⟨nx0, 0, none⟩)), (0, .int .i64 a0)]) (nx' := nx0 + 1) (L' := [⟨nx0, [.int .i64 a1.f0, .int .i64 a1.f1, .int .i64 a1.f2, .int .i64 a1.f3, .int .u32 a1.f4, .int .i64 a1.f5.f0, .string a1.f5.f1, .slice Ap1_5_2 a1.f5.f2.length cp1_5_2], 32⟩]) [] (RFacts.nil _ _ _) 2 [.no, .no] (by kernel_rfl) (by kernel_rfl) ?_
 refine RL.nil (by kernel_rfl) ?_
 refine QN.then_ ?_
 refine OK.seq K32_4 K32_13 (by kernel_rfl) ?_
 refine OK.seq K32_5 K32_7 (by kernel_rfl) ?_
 refine OK.join (fun K' I' _ L' X' => ∃ (x1 : Bool), K' = [(0, .int .i64 a0), (3, .pointer (some ⟨nx0, 0, none⟩)), (40, .bool x1)] ∧ L' = [⟨nx0, [.int .i64 a1.f0, .int .i64 a1.f1, .int .i64 a1.f2, .int .i64 a1.f3, .int .u32 a1.f4, .int .i64 a1.f5.f0, .string a1.f5.f1, .slice Ap1_5_2 a1.f5.f2.length cp1_5_2], 32⟩] ∧ X' = [] ∧ Imm.le I0 I' ∧ quorum_group_valid.k4 k a0 a1 x1 = some r) ?_ ?_
 ·rintro _ I1 nx1 _ _ ⟨x1, rfl, rfl, rfl, hi1, H⟩
  replace H : (if x1 = true then (some false) else (if a1.f0 = 1 then ((codec_EncodeEntry.f k a1.f5).bind fun t1 => ((if t1.2 = 0 then ((quorum_Leader.f a0 a1.f2).bind fun t2 => (if a1.f1 = t2 then ((codec_Checksum.f t1.1).bind fun t3 => (some (t3 == a1.f4))) else (some false))) else (some false)).bind (quorum_group_valid.k1))) else ((if a1.f0 = 2 then (some (a1.f0 == 2)) else (some (a1.f0 == 3))).bind (quorum_group_valid.k3 a1)))) = some r := H
  refine QN.then_ ?_
  refine OK.cond (.tmp 40) K32_8 K32_12 x1 (by kernel_rfl) (by kernel_rfl) (by kernel_rfl) (fun hb => ?_) (fun hb => ?_)
  ·skip
   have hc := hb
   rw [if_pos hc] at H
   clear hb
   refine OK.seq K32_9 K32_11 (by kernel_rfl) ?_
   refine OK.region 2 O32_9 (by kernel_rfl) ?_
   refine RL.simK (K' := [(4, .bool false)]) [] (RFacts.nil _ _ _) 1 [.no] (by kernel_rfl) (by kernel_rfl) ?_
   refine RL.nil (by kernel_rfl) ?_
   refine QN.then_ ?_
   refine OK.ret (by kernel_rfl) ?_
   refine QN.thenR ?_
   obtain rfl := Option.some.inj H
   refine QN.body rfl [] (RFacts.nil _ _ _) (.no) (.bool false) (by kernel_rfl) (by kernel_rfl) (by kernel_rfl) ?_ _ (.inr rfl)
   exact fun w' hs' => ⟨_, rfl, I1, rfl, hs'.got _ .slnil⟩
  ·skip
   have hc := (Bool.eq_false_iff.1 hb)
   rw [if_neg hc] at H
   clear hb
   refine OK.skip (by kernel_rfl) ?_
   refine QN.then_ ?_
   refine OK.seq K32_14 K32_51 (by kernel_rfl) ?_
   refine OK.seq K32_15 K32_17 (by kernel_rfl) ?_
   refine OK.region 3 O32_15 (by kernel_rfl) ?_
   refine RL.simK (K' := [(42, .int .i64 a1.f0), (0, .int .i64 a0), (3, .pointer (some ⟨nx0, 0, none⟩))]) [] (RFacts.nil _ _ _) 2 [.no, .l 0] (by kernel_rfl) (by kernel_rfl) ?_
   refine RL.nil (by kernel_rfl) ?_
   refine QN.then_ ?_
   refine OK.block 0 K32_18 (by kernel_rfl) ?_
   refine OK.seq K32_19 K32_21 (by kernel_rfl) ?_
   refine OK.region 4 O32_19 (by kernel_rfl) ?_
   refine RL.simK (K' := [(43, .bool (a1.f0 == 1)), (42, .int .i64 a1.f0), (0, .int .i64 a0), (3, .pointer (some ⟨nx0, 0, none⟩))]) [] (RFacts.nil _ _ _) 2 [.no, .no] (by kernel_rfl) (by kernel_rfl) ?_
   refine RL.nil (by kernel_rfl) ?_
   refine QN.then_ ?_
   refine OK.cond (.tmp 43) K32_22 K32_29 (a1.f0 == 1) (by kernel_rfl) (by kernel_rfl) (by kernel_rfl) (fun hb => ?_) (fun hb => ?_)
   ·skip
    have hc := (beq_iff_eq.1 hb)
    rw [if_pos hc] at H
    clear hb
    refine OK.seq K32_23 K32_25 (by kernel_rfl) ?_
    refine OK.region 5 O32_23 (by kernel_rfl) ?_
    refine RL.simK (K' := [(47, .agg #[.int .i64 a1.f5.f0, .string a1.f5.f1, .slice Ap1_5_2 a1.f5.f2.length cp1_5_2]), (0, .int .i64 a0), (3, .pointer (some ⟨nx0, 0, none⟩))]) [] (RFacts.nil _ _ _) 2 [.no, .l 0] (by kernel_rfl) (by kernel_rfl) ?_
    obtain ⟨t1, hA1, H⟩ := Option.bind_eq_some_iff.mp H
    refine RL.callP 42 [.agg #[.int .i64 a1.f5.f0, .string a1.f5.f1, .slice Ap1_5_2 a1.f5.f2.length cp1_5_2]] (some 48) (fun w => codec_EncodeEntry.Post I1 w t1) (by kernel_rfl) (by kernel_rfl) (fun w hs => codec_EncodeEntry.calls k I1 a1.f5 Ap1_5_2 cp1_5_2 w hs.im hlp1_5_2 (Rd.ext hi1 hrp1_5_2) t1 hA1) ?_
    rintro w v w' hs ⟨I2, A1, c1, cs1, rfl, hg, hp1⟩
    have hi2 := hg.le
    refine RL.resume (X' := [orow 5 1 A1 t1.1.length c1 cs1]) rfl (hs.call hg) ?_
    clear hs hg
    generalize w'.heap.size = nx2
    clear w w'
    refine RL.simK (K' := [(6, .int .i64 t1.2), (5, .slice A1 t1.1.length c1), (0, .int .i64 a0), (3, .pointer (some ⟨nx0, 0, none⟩))]) [] (RFacts.nil _ _ _) 5 [.no, .no, .no, .no, .no] (by kernel_rfl) (by kernel_rfl) ?_
    refine RL.nil (by kernel_rfl) ?_
    refine QN.then_ ?_
    refine OK.seq K32_26 K32_28 (by kernel_rfl) ?_
    refine OK.join (fun K' I' _ L' X' => ∃ (x2 : Bool), K' = [(4, .bool x2)] ∧ L' = [⟨nx0, [.int .i64 a1.f0, .int .i64 a1.f1, .int .i64 a1.f2, .int .i64 a1.f3, .int .u32 a1.f4, .int .i64 a1.f5.f0, .string a1.f5.f1, .slice Ap1_5_2 a1.f5.f2.length cp1_5_2], 32⟩] ∧ X' = [] ∧ Imm.le I2 I' ∧ quorum_group_valid.k1 x2 = some r) ?_ ?_
    ·rintro _ I3 nx3 _ _ ⟨x2, rfl, rfl, rfl, hi3, H⟩
     replace H : (some x2) = some r := H
     refine QN.then_ ?_
     refine OK.ret (by kernel_rfl) ?_
     refine QN.blkR ?_
     refine QN.thenR ?_
     obtain rfl := Option.some.inj H
     refine QN.body rfl [] (RFacts.nil _ _ _) (.no) (.bool x2) (by kernel_rfl) (by kernel_rfl) (by kernel_rfl) ?_ _ (.inr rfl)
     exact fun w' hs' => ⟨_, rfl, I3, rfl, hs'.got _ .slnil⟩
    ·intro Q_1 hJ2 hQ2
     obtain ⟨y2, H, HK2⟩ := Option.bind_eq_some_iff.mp H
     refine OK.cases (t1.2 == 0) (fun hb1 => ?_) (fun hb1 => ?_)
     ·have hc1 := (beq_iff_eq.1 hb1)
      rw [if_pos hc1] at H
      obtain ⟨t2, hA2, H⟩ := Option.bind_eq_some_iff.mp H
      refine OK.cases (a1.f1 == t2) (fun hb2 => ?_) (fun hb2 => ?_)
      ·have hc2 := (beq_iff_eq.1 hb2)
       rw [if_pos hc2] at H
       refine OK.freeze (e := 5) (sz := 1) (S := A1) (n := t1.1.length) (cap := c1) 0 (by kernel_rfl) hp1 rfl (fun _ h => h.elim) (fun I4 hi4 hl1 hr1 => ?_)
       skip
       obtain ⟨t3, hA3, H⟩ := Option.bind_eq_some_iff.mp H
       refine OK.drawnC 6 16 O32_26 a32_26n (by kernel_rfl) (by kernel_rfl) (u32d1l t2 t3) u32d1g [] (RI.nil _) [.no, .no, .no, .no, .l 0, .no, .no, .l 0, .no, .no, .no, .no, .no, .no, .no, .l 0] a32_26 a32_26o (by kernel_rfl) (by kernel_rfl) (u32d1s a0 a1 nx0 t1 A1 c1 t2 t3) (u32d1f a0 a1 nx0 t1 A1 c1 t2 t3 16) (u32d1v a0 a1 Ap1_5_2 cp1_5_2 nx0 t1 A1 c1 t2 t3) (u32d1e a0 a1 Ap1_5_2 cp1_5_2 nx0 t1 A1 c1 t2 t3) [u32d1f a0 a1 nx0 t1 A1 c1 t2 t3 8, u32d1f a0 a1 nx0 t1 A1 c1 t2 t3 13] (framesOk.cons (fun u => rfl) (framesOk.cons (fun u => rfl) framesOk.nil)) ?_ [u32d1f a0 a1 nx0 t1 A1 c1 t2 t3 2, u32d1f a0 a1 nx0 t1 A1 c1 t2 t3 11] (framesOk.cons (fun u => rfl) (framesOk.cons (fun u => rfl) framesOk.nil)) ?_ ?_
       ·refine LoudsG.cons ?_ (LoudsG.cons ?_ (LoudsG.nil))
        ·intro D u J w hp hJ hs hF
         refine Does.call 24 [.int .i64 a0, .int .i64 a1.f2] (by kernel_rfl) ((quorum_Leader.calls J a0 a1.f2 w hs.im  t2 hA2).mono ?_)
         rintro e w' ⟨v, rfl, J2, rfl, hg⟩
         exact ⟨_, rfl, fun _ => (none, 0, []), J2, rfl, hg, trivial⟩
        ·intro D u J w hp hJ hs hF
         refine Does.call 43 [.slice A1 t1.1.length c1] (by kernel_rfl) ((codec_Checksum.calls J t1.1 A1 c1 w hs.im hl1 (Rd.ext hJ hr1) t3 hA3).mono ?_)
         rintro e w' ⟨v, rfl, J2, rfl, hg⟩
         exact ⟨_, rfl, fun _ => (none, 0, []), J2, rfl, hg, trivial⟩
       ·refine Givens.cons (fun u w =>  ?_) (fun _ _ _ => rfl) (Givens.cons (fun u w =>  ?_) (fun _ _ _ => rfl) (Givens.nil))
        ·exact giv_run (v := .bool (t1.2 == 0)) (by kernel_rfl) (by rw [hb1]; try rfl) w
        ·exact giv_run (v := .bool (a1.f1 == t2)) (by kernel_rfl) (by rw [hb2]; try rfl) w
       intro u I5 nx4 hi5 hF
       clear hF
       refine RL.norm (K' := [(66, .int .u32 a1.f4), (65, .pointer (some ⟨nx0, 4, none⟩)), (64, .int .u32 t3), (63, .slice A1 t1.1.length c1), (62, .bool true), (61, .bool (a1.f1 == t2)), (60, .bool (a1.f1 == t2)), (59, .int .i64 t2), (58, .int .i64 a1.f2), (57, .pointer (some ⟨nx0, 2, none⟩)), (56, .int .i64 a0), (55, .int .i64 a1.f1), (54, .pointer (some ⟨nx0, 1, none⟩)), (53, .bool true), (52, .bool (t1.2 == 0)), (51, .int .i64 t1.2), (6, .int .i64 t1.2), (5, .slice A1 t1.1.length c1), (0, .int .i64 a0), (3, .pointer (some ⟨nx0, 0, none⟩))]) (X' := []) (by kernel_rfl) rfl rfl rfl ?_
       refine RL.simK (K' := [(4, .bool (t3 == a1.f4))]) [] (RFacts.nil _ _ _) 3 [.no, .no, .no] (by kernel_rfl) (by kernel_rfl) ?_
       refine RL.nil (by kernel_rfl) ?_
       obtain rfl := Option.some.inj H
       refine QN.sub (K' := [(4, .bool (t3 == a1.f4))]) (L' := [⟨nx0, [.int .i64 a1.f0, .int .i64 a1.f1, .int .i64 a1.f2, .int .i64 a1.f3, .int .u32 a1.f4, .int .i64 a1.f5.f0, .string a1.f5.f1, .slice Ap1_5_2 a1.f5.f2.length cp1_5_2], 32⟩]) (by kernel_rfl) (.cons_cons _ .slnil) (.refl _) ?_
       exact hJ2 _ _ _ _ _ ⟨(t3 == a1.f4), rfl, rfl, rfl, (Imm.le_trans hi4 hi5), HK2⟩
      ·have hc2 := (beq_eq_false_iff_ne.1 hb2)
       rw [if_neg hc2] at H
       refine OK.drawnC 6 16 O32_26 a32_26n (by kernel_rfl) (by kernel_rfl) (u32d2l t2) u32d2g [] (RI.nil _) [.no, .no, .no, .no, .l 0, .no, .no, .l 0, .no, .no, .no, .no, .no, .no, .no, .no] a32_26 a32_26o (by kernel_rfl) (by kernel_rfl) (u32d2s a0 a1 nx0 t1 t2) (u32d2f a0 a1 nx0 t1 A1 c1 t2 16) (u32d2v a0 a1 Ap1_5_2 cp1_5_2 nx0 t1 A1 c1 t2) (u32d2e a0 a1 Ap1_5_2 cp1_5_2 nx0 t1 A1 c1 t2) [u32d2f a0 a1 nx0 t1 A1 c1 t2 8] (framesOk.cons (fun u => rfl) framesOk.nil) ?_ [u32d2f a0 a1 nx0 t1 A1 c1 t2 2, u32d2f a0 a1 nx0 t1 A1 c1 t2 11] (framesOk.cons (fun u => rfl) (framesOk.cons (fun u => rfl) framesOk.nil)) ?_ ?_
       ·refine LoudsG.cons ?_ (LoudsG.nil)
        ·intro D u J w hp hJ hs hF
         refine Does.call 24 [.int .i64 a0, .int .i64 a1.f2] (by kernel_rfl) ((quorum_Leader.calls J a0 a1.f2 w hs.im  t2 hA2).mono ?_)
         rintro e w' ⟨v, rfl, J2, rfl, hg⟩
         exact ⟨_, rfl, fun _ => (none, 0, []), J2, rfl, hg, trivial⟩
       ·refine Givens.cons (fun u w =>  ?_) (fun _ _ _ => rfl) (Givens.cons (fun u w =>  ?_) (fun _ _ _ => rfl) (Givens.nil))
        ·exact giv_run (v := .bool (t1.2 == 0)) (by kernel_rfl) (by rw [hb1]; try rfl) w
        ·exact giv_run (v := .bool (a1.f1 == t2)) (by kernel_rfl) (by rw [hb2]; try rfl) w
       intro u I6 nx5 hi6 hF
       clear hF
       refine RL.norm (K' := [(66, undef), (65, undef), (64, undef), (63, undef), (62, .bool false), (61, .bool (a1.f1 == t2)), (60, .bool (a1.f1 == t2)), (59, .int .i64 t2), (58, .int .i64 a1.f2), (57, .pointer (some ⟨nx0, 2, none⟩)), (56, .int .i64 a0), (55, .int .i64 a1.f1), (54, .pointer (some ⟨nx0, 1, none⟩)), (53, .bool true), (52, .bool (t1.2 == 0)), (51, .int .i64 t1.2), (6, .int .i64 t1.2), (5, .slice A1 t1.1.length c1), (0, .int .i64 a0), (3, .pointer (some ⟨nx0, 0, none⟩))]) (X' := [orow 5 1 A1 t1.1.length c1 cs1]) (by kernel_rfl) rfl rfl rfl ?_
       refine RL.simK (K' := [(4, .bool false)]) [] (RFacts.nil _ _ _) 3 [.no, .no, .no] (by kernel_rfl) (by kernel_rfl) ?_
       refine RL.nil (by kernel_rfl) ?_
       obtain rfl := Option.some.inj H
       refine QN.sel (K' := [(4, .bool false)]) (L' := [⟨nx0, [.int .i64 a1.f0, .int .i64 a1.f1, .int .i64 a1.f2, .int .i64 a1.f3, .int .u32 a1.f4, .int .i64 a1.f5.f0, .string a1.f5.f1, .slice Ap1_5_2 a1.f5.f2.length cp1_5_2], 32⟩]) [] (by kernel_rfl) (by kernel_rfl) (.cons_cons _ .slnil) ?_
       refine QN.norm (X' := []) rfl rfl rfl (by kernel_rfl) ?_
       exact hJ2 _ _ _ _ _ ⟨false, rfl, rfl, rfl, hi6, HK2⟩
     ·have hc1 := (beq_eq_false_iff_ne.1 hb1)
      rw [if_neg hc1] at H
      refine OK.drawnC 6 16 O32_26 a32_26n (by kernel_rfl) (by kernel_rfl) u32d3l u32d3g [] (RI.nil _) [.no, .no, .no, .no, .no, .no, .no, .no, .no, .no, .no, .no, .no, .no, .no, .no] a32_26 a32_26o (by kernel_rfl) (by kernel_rfl) (u32d3s t1) (u32d3f a0 nx0 t1 A1 c1 16) (u32d3v a0 a1 Ap1_5_2 cp1_5_2 nx0 t1 A1 c1) (u32d3e a0 a1 Ap1_5_2 cp1_5_2 nx0 t1 A1 c1) [] framesOk.nil ?_ [u32d3f a0 nx0 t1 A1 c1 2] (framesOk.cons (fun u => rfl) framesOk.nil) ?_ ?_
      ·refine LoudsG.nil
      ·refine Givens.cons (fun u w =>  ?_) (fun _ _ _ => rfl) (Givens.nil)
       ·exact giv_run (v := .bool (t1.2 == 0)) (by kernel_rfl) (by rw [hb1]; try rfl) w
      intro u I7 nx6 hi7 hF
      clear hF
      refine RL.norm (K' := [(66, undef), (65, undef), (64, undef), (63, undef), (62, .bool false), (61, .bool false), (60, undef), (59, undef), (58, undef), (57, undef), (56, undef), (55, undef), (54, undef), (53, .bool false), (52, .bool (t1.2 == 0)), (51, .int .i64 t1.2), (6, .int .i64 t1.2), (5, .slice A1 t1.1.length c1), (0, .int .i64 a0), (3, .pointer (some ⟨nx0, 0, none⟩))]) (X' := [orow 5 1 A1 t1.1.length c1 cs1]) (by kernel_rfl) rfl rfl rfl ?_
      refine RL.simK (K' := [(4, .bool false)]) [] (RFacts.nil _ _ _) 3 [.no, .no, .no] (by kernel_rfl) (by kernel_rfl) ?_
      refine RL.nil (by kernel_rfl) ?_
      obtain rfl := Option.some.inj H
      refine QN.sel (K' := [(4, .bool false)]) (L' := [⟨nx0, [.int .i64 a1.f0, .int .i64 a1.f1, .int .i64 a1.f2, .int .i64 a1.f3, .int .u32 a1.f4, .int .i64 a1.f5.f0, .string a1.f5.f1, .slice Ap1_5_2 a1.f5.f2.length cp1_5_2], 32⟩]) [] (by kernel_rfl) (by kernel_rfl) (.cons_cons _ .slnil) ?_
      refine QN.norm (X' := []) rfl rfl rfl (by kernel_rfl) ?_
      exact hJ2 _ _ _ _ _ ⟨false, rfl, rfl, rfl, hi7, HK2⟩
   ·skip
    have hc := (beq_eq_false_iff_ne.1 hb)
    rw [if_neg hc] at H
    clear hb
    refine OK.seq K32_30 K32_37 (by kernel_rfl) ?_
    refine OK.seq K32_31 K32_33 (by kernel_rfl) ?_
    refine OK.region 7 O32_31 (by kernel_rfl) ?_
    refine RL.simK (K' := [(69, .bool (a1.f0 == 2)), (42, .int .i64 a1.f0), (3, .pointer (some ⟨nx0, 0, none⟩))]) [] (RFacts.nil _ _ _) 2 [.no, .no] (by kernel_rfl) (by kernel_rfl) ?_
    refine RL.nil (by kernel_rfl) ?_
    refine QN.then_ ?_
    refine OK.join (fun K' I' _ L' X' => ∃ (x3 : Bool), K' = [(3, .pointer (some ⟨nx0, 0, none⟩)), (42, .int .i64 a1.f0), (69, .bool x3)] ∧ L' = [⟨nx0, [.int .i64 a1.f0, .int .i64 a1.f1, .int .i64 a1.f2, .int .i64 a1.f3, .int .u32 a1.f4, .int .i64 a1.f5.f0, .string a1.f5.f1, .slice Ap1_5_2 a1.f5.f2.length cp1_5_2], 32⟩] ∧ X' = [] ∧ Imm.le I1 I' ∧ quorum_group_valid.k3 a1 x3 = some r) ?_ ?_
    ·rintro _ I8 nx7 _ _ ⟨x3, rfl, rfl, rfl, hi8, H⟩
     replace H : (if x3 = true then ((quorum_bare.f a1).bind fun t4 => (some t4)) else (if a1.f0 = 4 then (((quorum_bare.f a1).bind fun t5 => (if t5 = true then (if a1.f3 = 0 then (some (a1.f4 == 0)) else (some false)) else (some false))).bind (quorum_group_valid.k2)) else (some false))) = some r := H
     refine QN.then_ ?_
     refine OK.cond (.tmp 69) K32_38 K32_42 x3 (by kernel_rfl) (by kernel_rfl) (by kernel_rfl) (fun hb => ?_) (fun hb => ?_)
     ·skip
      have hc := hb
      rw [if_pos hc] at H
      clear hb
      refine OK.seq K32_39 K32_41 (by kernel_rfl) ?_
      refine OK.region 9 O32_39 (by kernel_rfl) ?_
      refine RL.simK (K' := [(72, .agg #[.int .i64 a1.f0, .int .i64 a1.f1, .int .i64 a1.f2, .int .i64 a1.f3, .int .u32 a1.f4, .int .i64 a1.f5.f0, .string a1.f5.f1, .slice Ap1_5_2 a1.f5.f2.length cp1_5_2])]) [] (RFacts.nil _ _ _) 1 [.l 0] (by kernel_rfl) (by kernel_rfl) ?_
      obtain ⟨t4, hA4, H⟩ := Option.bind_eq_some_iff.mp H
      refine RL.callP 44 [.agg #[.int .i64 a1.f0, .int .i64 a1.f1, .int .i64 a1.f2, .int .i64 a1.f3, .int .u32 a1.f4, .int .i64 a1.f5.f0, .string a1.f5.f1, .slice Ap1_5_2 a1.f5.f2.length cp1_5_2]] (some 73) (fun w => quorum_bare.Post I8 w t4) (by kernel_rfl) (by kernel_rfl) (fun w hs => quorum_bare.calls I8 a1 Ap1_5_2 cp1_5_2 w hs.im hlp1_5_2 (Rd.ext (Imm.le_trans hi1 hi8) hrp1_5_2) t4 hA4) ?_
      rintro w v w' hs ⟨I9, rfl, hg⟩
      have hi9 := hg.le
      refine RL.resume (X' := []) rfl (hs.call hg) ?_
      clear hs hg
      generalize w'.heap.size = nx8
      clear w w'
      refine RL.simK (K' := [(4, .bool t4)]) [] (RFacts.nil _ _ _) 1 [.no] (by kernel_rfl) (by kernel_rfl) ?_
      refine RL.nil (by kernel_rfl) ?_
      refine QN.then_ ?_
      refine OK.ret (by kernel_rfl) ?_
      refine QN.blkR ?_
      refine QN.thenR ?_
      obtain rfl := Option.some.inj H
      refine QN.body rfl [] (RFacts.nil _ _ _) (.no) (.bool t4) (by kernel_rfl) (by kernel_rfl) (by kernel_rfl) ?_ _ (.inr rfl)
      exact fun w' hs' => ⟨_, rfl, I9, rfl, hs'.got _ .slnil⟩
     ·skip
      have hc := (Bool.eq_false_iff.1 hb)
      rw [if_neg hc] at H
      clear hb
      refine OK.seq K32_43 K32_45 (by kernel_rfl) ?_
      refine OK.region 10 O32_43 (by kernel_rfl) ?_
      refine RL.simK (K' := [(74, .bool (a1.f0 == 4)), (3, .pointer (some ⟨nx0, 0, none⟩))]) [] (RFacts.nil _ _ _) 2 [.no, .no] (by kernel_rfl) (by kernel_rfl) ?_
      refine RL.nil (by kernel_rfl) ?_
      refine QN.then_ ?_
      refine OK.cond (.tmp 74) K32_46 K32_50 (a1.f0 == 4) (by kernel_rfl) (by kernel_rfl) (by kernel_rfl) (fun hb => ?_) (fun hb => ?_)
      ·skip
       have hc := (beq_iff_eq.1 hb)
       rw [if_pos hc] at H
       clear hb
       refine OK.seq K32_47 K32_49 (by kernel_rfl) ?_
       refine OK.join (fun K' I' _ L' X' => ∃ (x4 : Bool), K' = [(4, .bool x4)] ∧ L' = [⟨nx0, [.int .i64 a1.f0, .int .i64 a1.f1, .int .i64 a1.f2, .int .i64 a1.f3, .int .u32 a1.f4, .int .i64 a1.f5.f0, .string a1.f5.f1, .slice Ap1_5_2 a1.f5.f2.length cp1_5_2], 32⟩] ∧ X' = [] ∧ Imm.le I8 I' ∧ quorum_group_valid.k2 x4 = some r) ?_ ?_
       ·rintro _ I10 nx9 _ _ ⟨x4, rfl, rfl, rfl, hi10, H⟩
        replace H : (some x4) = some r := H
        refine QN.then_ ?_
        refine OK.ret (by kernel_rfl) ?_
        refine QN.blkR ?_
        refine QN.thenR ?_
        obtain rfl := Option.some.inj H
        refine QN.body rfl [] (RFacts.nil _ _ _) (.no) (.bool x4) (by kernel_rfl) (by kernel_rfl) (by kernel_rfl) ?_ _ (.inr rfl)
        exact fun w' hs' => ⟨_, rfl, I10, rfl, hs'.got _ .slnil⟩
       ·intro Q_2 hJ4 hQ4
        obtain ⟨y4, H, HK4⟩ := Option.bind_eq_some_iff.mp H
        refine OK.region 11 O32_47 (by kernel_rfl) ?_
        refine RL.simK (K' := [(76, .agg #[.int .i64 a1.f0, .int .i64 a1.f1, .int .i64 a1.f2, .int .i64 a1.f3, .int .u32 a1.f4, .int .i64 a1.f5.f0, .string a1.f5.f1, .slice Ap1_5_2 a1.f5.f2.length cp1_5_2]), (3, .pointer (some ⟨nx0, 0, none⟩))]) [] (RFacts.nil _ _ _) 1 [.l 0] (by kernel_rfl) (by kernel_rfl) ?_
        obtain ⟨t5, hA5, H⟩ := Option.bind_eq_some_iff.mp H
        refine RL.callP 44 [.agg #[.int .i64 a1.f0, .int .i64 a1.f1, .int .i64 a1.f2, .int .i64 a1.f3, .int .u32 a1.f4, .int .i64 a1.f5.f0, .string a1.f5.f1, .slice Ap1_5_2 a1.f5.f2.length cp1_5_2]] (some 77) (fun w => quorum_bare.Post I8 w t5) (by kernel_rfl) (by kernel_rfl) (fun w hs => quorum_bare.calls I8 a1 Ap1_5_2 cp1_5_2 w hs.im hlp1_5_2 (Rd.ext (Imm.le_trans hi1 hi8) hrp1_5_2) t5 hA5) ?_
        rintro w v w' hs ⟨I11, rfl, hg⟩
        have hi11 := hg.le
        refine RL.resume (X' := []) rfl (hs.call hg) ?_
        clear hs hg
        generalize w'.heap.size = nx10
        clear w w'
        refine RL.simK (K' := [(78, .bool t5), (3, .pointer (some ⟨nx0, 0, none⟩))]) [] (RFacts.nil _ _ _) 1 [.no] (by kernel_rfl) (by kernel_rfl) ?_
        refine RL.cases t5 (fun hb => ?_) (fun hb => ?_)
        ·have hc := hb
         rw [hb]
         rw [if_pos hc] at H; clear hb
         refine RL.simK (K' := [(83, .bool (a1.f3 == 0)), (3, .pointer (some ⟨nx0, 0, none⟩))]) [] (RFacts.nil _ _ _) 5 [.no, .l 0, .no, .no, .no] (by kernel_rfl) (by kernel_rfl) ?_
         refine RL.cases (a1.f3 == 0) (fun hb => ?_) (fun hb => ?_)
         ·have hc := (beq_iff_eq.1 hb)
          rw [hb]
          rw [if_pos hc] at H; clear hb
          refine RL.simK (K' := [(4, .bool (a1.f4 == 0))]) [] (RFacts.nil _ _ _) 5 [.no, .l 0, .no, .no, .no] (by kernel_rfl) (by kernel_rfl) ?_
          refine RL.nil (by kernel_rfl) ?_
          obtain rfl := Option.some.inj H
          refine QN.sub (K' := [(4, .bool (a1.f4 == 0))]) (L' := [⟨nx0, [.int .i64 a1.f0, .int .i64 a1.f1, .int .i64 a1.f2, .int .i64 a1.f3, .int .u32 a1.f4, .int .i64 a1.f5.f0, .string a1.f5.f1, .slice Ap1_5_2 a1.f5.f2.length cp1_5_2], 32⟩]) (by kernel_rfl) (.cons_cons _ .slnil) (.refl _) ?_
          exact hJ4 _ _ _ _ _ ⟨(a1.f4 == 0), rfl, rfl, rfl, hi11, HK4⟩
         ·have hc := (beq_eq_false_iff_ne.1 hb)
          rw [hb]
          rw [if_neg hc] at H; clear hb
          refine RL.simK (K' := [(4, .bool false)]) [] (RFacts.nil _ _ _) 5 [.no, .no, .no, .no, .no] (by kernel_rfl) (by kernel_rfl) ?_
          refine RL.nil (by kernel_rfl) ?_
          obtain rfl := Option.some.inj H
          refine QN.sub (K' := [(4, .bool false)]) (L' := [⟨nx0, [.int .i64 a1.f0, .int .i64 a1.f1, .int .i64 a1.f2, .int .i64 a1.f3, .int .u32 a1.f4, .int .i64 a1.f5.f0, .string a1.f5.f1, .slice Ap1_5_2 a1.f5.f2.length cp1_5_2], 32⟩]) (by kernel_rfl) (.cons_cons _ .slnil) (.refl _) ?_
          exact hJ4 _ _ _ _ _ ⟨false, rfl, rfl, rfl, hi11, HK4⟩
        ·have hc := (Bool.eq_false_iff.1 hb)
         rw [hb]
         rw [if_neg hc] at H; clear hb
         refine RL.simK (K' := [(4, .bool false)]) [] (RFacts.nil _ _ _) 10 [.no, .no, .no, .no, .no, .no, .no, .no, .no, .no] (by kernel_rfl) (by kernel_rfl) ?_
         refine RL.nil (by kernel_rfl) ?_
         obtain rfl := Option.some.inj H
         refine QN.sub (K' := [(4, .bool false)]) (L' := [⟨nx0, [.int .i64 a1.f0, .int .i64 a1.f1, .int .i64 a1.f2, .int .i64 a1.f3, .int .u32 a1.f4, .int .i64 a1.f5.f0, .string a1.f5.f1, .slice Ap1_5_2 a1.f5.f2.length cp1_5_2], 32⟩]) (by kernel_rfl) (.cons_cons _ .slnil) (.refl _) ?_
         exact hJ4 _ _ _ _ _ ⟨false, rfl, rfl, rfl, hi11, HK4⟩
      ·skip
       have hc := (beq_eq_false_iff_ne.1 hb)
       rw [if_neg hc] at H
       clear hb
       refine OK.skip (by kernel_rfl) ?_
       refine QN.blkN ?_
       refine QN.then_ ?_
       refine OK.seq K32_52 K32_54 (by kernel_rfl) ?_
       refine OK.region 12 O32_52 (by kernel_rfl) ?_
       refine RL.simK (K' := [(4, .bool false)]) [] (RFacts.nil _ _ _) 1 [.no] (by kernel_rfl) (by kernel_rfl) ?_
       refine RL.nil (by kernel_rfl) ?_
       refine QN.then_ ?_
       refine OK.ret (by kernel_rfl) ?_
       obtain rfl := Option.some.inj H
       refine QN.body rfl [] (RFacts.nil _ _ _) (.no) (.bool false) (by kernel_rfl) (by kernel_rfl) (by kernel_rfl) ?_ _ (.inr rfl)
       exact fun w' hs' => ⟨_, rfl, I8, rfl, hs'.got _ .slnil⟩
    ·intro Q_3 hJ3 hQ3
     obtain ⟨y3, H, HK3⟩ := Option.bind_eq_some_iff.mp H
     refine OK.cond (.tmp 69) K32_34 K32_35 (a1.f0 == 2) (by kernel_rfl) (by kernel_rfl) (by kernel_rfl) (fun hb => ?_) (fun hb => ?_)
     ·skip
      have hc := (beq_iff_eq.1 hb)
      rw [if_pos hc] at H
      clear hb
      refine OK.skip (by kernel_rfl) ?_
      obtain rfl := Option.some.inj H
      refine QN.sub (K' := [(3, .pointer (some ⟨nx0, 0, none⟩)), (42, .int .i64 a1.f0), (69, .bool (a1.f0 == 2))]) (L' := [⟨nx0, [.int .i64 a1.f0, .int .i64 a1.f1, .int .i64 a1.f2, .int .i64 a1.f3, .int .u32 a1.f4, .int .i64 a1.f5.f0, .string a1.f5.f1, .slice Ap1_5_2 a1.f5.f2.length cp1_5_2], 32⟩]) (by kernel_rfl) (.cons_cons _ .slnil) (.refl _) ?_
      exact hJ3 _ _ _ _ _ ⟨(a1.f0 == 2), rfl, rfl, rfl, (Imm.le_refl _), HK3⟩
     ·skip
      have hc := (beq_eq_false_iff_ne.1 hb)
      rw [if_neg hc] at H
      clear hb
      refine OK.region 8 O32_35 (by kernel_rfl) ?_
      refine RL.simK (K' := [(69, .bool (a1.f0 == 3)), (42, .int .i64 a1.f0), (3, .pointer (some ⟨nx0, 0, none⟩))]) [] (RFacts.nil _ _ _) 2 [.no, .no] (by kernel_rfl) (by kernel_rfl) ?_
      refine RL.nil (by kernel_rfl) ?_
      obtain rfl := Option.some.inj H
      refine QN.sub (K' := [(3, .pointer (some ⟨nx0, 0, none⟩)), (42, .int .i64 a1.f0), (69, .bool (a1.f0 == 3))]) (L' := [⟨nx0, [.int .i64 a1.f0, .int .i64 a1.f1, .int .i64 a1.f2, .int .i64 a1.f3, .int .u32 a1.f4, .int .i64 a1.f5.f0, .string a1.f5.f1, .slice Ap1_5_2 a1.f5.f2.length cp1_5_2], 32⟩]) (by kernel_rfl) (.cons_cons _ .slnil) (.refl _) ?_
      exact hJ3 _ _ _ _ _ ⟨(a1.f0 == 3), rfl, rfl, rfl, (Imm.le_refl _), HK3⟩
 ·intro Q_4 hJ1 hQ1
  obtain ⟨y1, H, HK1⟩ := Option.bind_eq_some_iff.mp H
  refine OK.region 1 O32_5 (by kernel_rfl) ?_
  refine RL.simK (K' := [(7, .int .i64 a0), (3, .pointer (some ⟨nx0, 0, none⟩)), (0, .int .i64 a0)]) [] (RFacts.nil _ _ _) 1 [.no] (by kernel_rfl) (by kernel_rfl) ?_
  obtain ⟨t6, hA6, H⟩ := Option.bind_eq_some_iff.mp H
  refine RL.callP 37 [.int .i64 a0] (some 8) (fun w => quorum_group_possible.Post I0 w t6) (by kernel_rfl) (by kernel_rfl) (fun w hs => quorum_group_possible.calls I0 a0 w hs.im  t6 hA6) ?_
  rintro w v w' hs ⟨I12, rfl, hg⟩
  have hi12 := hg.le
  refine RL.resume (X' := []) rfl (hs.call hg) ?_
  clear hs hg
  generalize w'.heap.size = nx11
  clear w w'
  refine RL.simK (K' := [(10, .bool (!t6)), (3, .pointer (some ⟨nx0, 0, none⟩)), (0, .int .i64 a0)]) [] (RFacts.nil _ _ _) 2 [.no, .no] (by kernel_rfl) (by kernel_rfl) ?_
  refine RL.cases t6 (fun hb => ?_) (fun hb => ?_)
  ·have hc := hb
   rw [hb]
   rw [if_pos hc] at H; clear hb
   refine RL.simK (K' := [(15, .bool (decide (a1.f1 < 0))), (3, .pointer (some ⟨nx0, 0, none⟩)), (0, .int .i64 a0)]) [] (RFacts.nil _ _ _) 5 [.no, .l 0, .no, .no, .no] (by kernel_rfl) (by kernel_rfl) ?_
   refine RL.cases (decide (a1.f1 < 0)) (fun hb => ?_) (fun hb => ?_)
   ·have hc := (of_decide_eq_true hb)
    rw [hb]
    rw [if_pos hc] at H; clear hb
    refine RL.simK (K' := [(40, .bool true), (3, .pointer (some ⟨nx0, 0, none⟩)), (0, .int .i64 a0)]) [] (RFacts.nil _ _ _) 25 [.no, .no, .no, .no, .no, .no, .no, .no, .no, .no, .no, .no, .no, .no, .no, .no, .no, .no, .no, .no, .no, .no, .no, .no, .no] (by kernel_rfl) (by kernel_rfl) ?_
    refine RL.nil (by kernel_rfl) ?_
    obtain rfl := Option.some.inj H
    refine QN.sub (K' := [(0, .int .i64 a0), (3, .pointer (some ⟨nx0, 0, none⟩)), (40, .bool true)]) (L' := [⟨nx0, [.int .i64 a1.f0, .int .i64 a1.f1, .int .i64 a1.f2, .int .i64 a1.f3, .int .u32 a1.f4, .int .i64 a1.f5.f0, .string a1.f5.f1, .slice Ap1_5_2 a1.f5.f2.length cp1_5_2], 32⟩]) (by kernel_rfl) (.cons_cons _ .slnil) (.refl _) ?_
    exact hJ1 _ _ _ _ _ ⟨true, rfl, rfl, rfl, hi12, HK1⟩
   ·have hc := (of_decide_eq_false hb)
    rw [hb]
    rw [if_neg hc] at H; clear hb
    refine RL.simK (K' := [(21, .bool (decide (a1.f1 ≥ a0))), (3, .pointer (some ⟨nx0, 0, none⟩)), (0, .int .i64 a0)]) [] (RFacts.nil _ _ _) 6 [.no, .l 0, .no, .no, .no, .no] (by kernel_rfl) (by kernel_rfl) ?_
    refine RL.cases (decide (a1.f1 ≥ a0)) (fun hb => ?_) (fun hb => ?_)
    ·have hc := (of_decide_eq_true hb)
     rw [hb]
     rw [if_pos hc] at H; clear hb
     refine RL.simK (K' := [(40, .bool true), (3, .pointer (some ⟨nx0, 0, none⟩)), (0, .int .i64 a0)]) [] (RFacts.nil _ _ _) 19 [.no, .no, .no, .no, .no, .no, .no, .no, .no, .no, .no, .no, .no, .no, .no, .no, .no, .no, .no] (by kernel_rfl) (by kernel_rfl) ?_
     refine RL.nil (by kernel_rfl) ?_
     obtain rfl := Option.some.inj H
     refine QN.sub (K' := [(0, .int .i64 a0), (3, .pointer (some ⟨nx0, 0, none⟩)), (40, .bool true)]) (L' := [⟨nx0, [.int .i64 a1.f0, .int .i64 a1.f1, .int .i64 a1.f2, .int .i64 a1.f3, .int .u32 a1.f4, .int .i64 a1.f5.f0, .string a1.f5.f1, .slice Ap1_5_2 a1.f5.f2.length cp1_5_2], 32⟩]) (by kernel_rfl) (.cons_cons _ .slnil) (.refl _) ?_
     exact hJ1 _ _ _ _ _ ⟨true, rfl, rfl, rfl, hi12, HK1⟩
    ·have hc := (of_decide_eq_false hb)
     rw [hb]
     rw [if_neg hc] at H; clear hb
     refine RL.simK (K' := [(26, .bool (decide (a1.f2 < 0))), (3, .pointer (some ⟨nx0, 0, none⟩)), (0, .int .i64 a0)]) [] (RFacts.nil _ _ _) 5 [.no, .l 0, .no, .no, .no] (by kernel_rfl) (by kernel_rfl) ?_
     refine RL.cases (decide (a1.f2 < 0)) (fun hb => ?_) (fun hb => ?_)
     ·have hc := (of_decide_eq_true hb)
      rw [hb]
      rw [if_pos hc] at H; clear hb
      refine RL.simK (K' := [(40, .bool true), (3, .pointer (some ⟨nx0, 0, none⟩)), (0, .int .i64 a0)]) [] (RFacts.nil _ _ _) 14 [.no, .no, .no, .no, .no, .no, .no, .no, .no, .no, .no, .no, .no, .no] (by kernel_rfl) (by kernel_rfl) ?_
      refine RL.nil (by kernel_rfl) ?_
      obtain rfl := Option.some.inj H
      refine QN.sub (K' := [(0, .int .i64 a0), (3, .pointer (some ⟨nx0, 0, none⟩)), (40, .bool true)]) (L' := [⟨nx0, [.int .i64 a1.f0, .int .i64 a1.f1, .int .i64 a1.f2, .int .i64 a1.f3, .int .u32 a1.f4, .int .i64 a1.f5.f0, .string a1.f5.f1, .slice Ap1_5_2 a1.f5.f2.length cp1_5_2], 32⟩]) (by kernel_rfl) (.cons_cons _ .slnil) (.refl _) ?_
      exact hJ1 _ _ _ _ _ ⟨true, rfl, rfl, rfl, hi12, HK1⟩
     ·have hc := (of_decide_eq_false hb)
      rw [hb]
      rw [if_neg hc] at H; clear hb
      refine RL.simK (K' := [(31, .bool (decide (a1.f2 > 1048576))), (3, .pointer (some ⟨nx0, 0, none⟩)), (0, .int .i64 a0)]) [] (RFacts.nil _ _ _) 5 [.no, .l 0, .no, .no, .no] (by kernel_rfl) (by kernel_rfl) ?_
      refine RL.cases (decide (a1.f2 > 1048576)) (fun hb => ?_) (fun hb => ?_)
      ·have hc := (of_decide_eq_true hb)
       rw [hb]
       rw [if_pos hc] at H; clear hb
       refine RL.simK (K' := [(40, .bool true), (3, .pointer (some ⟨nx0, 0, none⟩)), (0, .int .i64 a0)]) [] (RFacts.nil _ _ _) 9 [.no, .no, .no, .no, .no, .no, .no, .no, .no] (by kernel_rfl) (by kernel_rfl) ?_
       refine RL.nil (by kernel_rfl) ?_
       obtain rfl := Option.some.inj H
       refine QN.sub (K' := [(0, .int .i64 a0), (3, .pointer (some ⟨nx0, 0, none⟩)), (40, .bool true)]) (L' := [⟨nx0, [.int .i64 a1.f0, .int .i64 a1.f1, .int .i64 a1.f2, .int .i64 a1.f3, .int .u32 a1.f4, .int .i64 a1.f5.f0, .string a1.f5.f1, .slice Ap1_5_2 a1.f5.f2.length cp1_5_2], 32⟩]) (by kernel_rfl) (.cons_cons _ .slnil) (.refl _) ?_
       exact hJ1 _ _ _ _ _ ⟨true, rfl, rfl, rfl, hi12, HK1⟩
      ·have hc := (of_decide_eq_false hb)
       rw [hb]
       rw [if_neg hc] at H; clear hb
       refine RL.simK (K' := [(36, .bool (decide (a1.f3 < 0))), (3, .pointer (some ⟨nx0, 0, none⟩)), (0, .int .i64 a0)]) [] (RFacts.nil _ _ _) 5 [.no, .l 0, .no, .no, .no] (by kernel_rfl) (by kernel_rfl) ?_
       refine RL.cases (decide (a1.f3 < 0)) (fun hb => ?_) (fun hb => ?_)
       ·have hc := (of_decide_eq_true hb)
        rw [hb]
        rw [if_pos hc] at H; clear hb
        refine RL.simK (K' := [(40, .bool true), (3, .pointer (some ⟨nx0, 0, none⟩)), (0, .int .i64 a0)]) [] (RFacts.nil _ _ _) 4 [.no, .no, .no, .no] (by kernel_rfl) (by kernel_rfl) ?_
        refine RL.nil (by kernel_rfl) ?_
        obtain rfl := Option.some.inj H
        refine QN.sub (K' := [(0, .int .i64 a0), (3, .pointer (some ⟨nx0, 0, none⟩)), (40, .bool true)]) (L' := [⟨nx0, [.int .i64 a1.f0, .int .i64 a1.f1, .int .i64 a1.f2, .int .i64 a1.f3, .int .u32 a1.f4, .int .i64 a1.f5.f0, .string a1.f5.f1, .slice Ap1_5_2 a1.f5.f2.length cp1_5_2], 32⟩]) (by kernel_rfl) (.cons_cons _ .slnil) (.refl _) ?_
        exact hJ1 _ _ _ _ _ ⟨true, rfl, rfl, rfl, hi12, HK1⟩
       ·have hc := (of_decide_eq_false hb)
        rw [hb]
        rw [if_neg hc] at H; clear hb
        refine RL.simK (K' := [(40, .bool (decide (a1.f3 ≥ 1000))), (3, .pointer (some ⟨nx0, 0, none⟩)), (0, .int .i64 a0)]) [] (RFacts.nil _ _ _) 4 [.no, .l 0, .no, .no] (by kernel_rfl) (by kernel_rfl) ?_
        refine RL.nil (by kernel_rfl) ?_
        obtain rfl := Option.some.inj H
        refine QN.sub (K' := [(0, .int .i64 a0), (3, .pointer (some ⟨nx0, 0, none⟩)), (40, .bool (decide (a1.f3 ≥ 1000)))]) (L' := [⟨nx0, [.int .i64 a1.f0, .int .i64 a1.f1, .int .i64 a1.f2, .int .i64 a1.f3, .int .u32 a1.f4, .int .i64 a1.f5.f0, .string a1.f5.f1, .slice Ap1_5_2 a1.f5.f2.length cp1_5_2], 32⟩]) (by kernel_rfl) (.cons_cons _ .slnil) (.refl _) ?_
        exact hJ1 _ _ _ _ _ ⟨(decide (a1.f3 ≥ 1000)), rfl, rfl, rfl, hi12, HK1⟩
  ·have hc := (Bool.eq_false_iff.1 hb)
   rw [hb]
   rw [if_neg hc] at H; clear hb
   refine RL.simK (K' := [(40, .bool true), (3, .pointer (some ⟨nx0, 0, none⟩)), (0, .int .i64 a0)]) [] (RFacts.nil _ _ _) 30 (.no :: .no :: .no :: .no :: .no :: .no :: .no :: .no :: .no :: .no :: .no :: .no :: .no :: .no :: .no :: .no :: .no :: .no :: .no :: .no :: .no :: .no :: .no :: .no :: .no :: .no :: .no :: .no :: .no :: .no :: []) (by kernel_rfl) (by kernel_rfl) ?_
   refine RL.nil (by kernel_rfl) ?_
   obtain rfl := Option.some.inj H
   refine QN.sub (K' := [(0, .int .i64 a0), (3, .pointer (some ⟨nx0, 0, none⟩)), (40, .bool true)]) (L' := [⟨nx0, [.int .i64 a1.f0, .int .i64 a1.f1, .int .i64 a1.f2, .int .i64 a1.f3, .int .u32 a1.f4, .int .i64 a1.f5.f0, .string a1.f5.f1, .slice Ap1_5_2 a1.f5.f2.length cp1_5_2], 32⟩]) (by kernel_rfl) (.cons_cons _ .slnil) (.refl _) ?_
   exact hJ1 _ _ _ _ _ ⟨true, rfl, rfl, rfl, hi12, HK1⟩

end Go.Proofs.Ytieakigoinebdaa
namespace Go.Proofs.Ytieakigoinebdaa
open Go Go.Proofs.Ytieakigoinebdaa.RW
set_option linter.unusedVariables false
set_option maxRecDepth 100000
set_option maxHeartbeats 8000000

/-! ### quorum_MaxFaulty: function 20, armillary/quorum.MaxFaulty -/
noncomputable def K20_0 : Code := cBody Try.f20
noncomputable def K20_1 : Code := cL K20_0
noncomputable def O20_1 : List Oper := cOps K20_1
noncomputable def K20_3 : Code := cR K20_0
noncomputable def K20_4 : Code := cL K20_3
noncomputable def K20_5 : Code := cL K20_4
noncomputable def O20_5 : List Oper := cOps K20_5
noncomputable def K20_7 : Code := cR K20_4
noncomputable def K20_8 : Code := cL K20_7
noncomputable def K20_9 : Code := cL K20_8
noncomputable def O20_9 : List Oper := cOps K20_9
noncomputable def K20_11 : Code := cR K20_8
noncomputable def K20_12 : Code := cR K20_7
noncomputable def K20_13 : Code := cR K20_3
noncomputable def K20_14 : Code := cL K20_13
noncomputable def O20_14 : List Oper := cOps K20_14
noncomputable def K20_16 : Code := cR K20_13
def quorum_MaxFaulty.f (a0 : Int) : Option (Int) := ((quorum_group_possible.f a0).bind fun t1 => (if t1 = true then (some (W .i64 ((W .i64 (a0 - 1)).tdiv 3))) else (some 0)))
def quorum_MaxFaulty.Post (I : Imm) (w : World) (r : Int) (v : Value) (w' : World) : Prop :=
 ∃ (J : Imm), v = .int .i64 r ∧ Got w w' I J []
theorem quorum_MaxFaulty.calls (I0 : Imm) (a0 : Int) (w : World) (hI : I0.at_ w)  (r : Int) (h : quorum_MaxFaulty.f a0 = some r) :
  Calls Try.prog 20 [.int .i64 a0].toArray w fun e w' => ∃ v, e = .returned v ∧ quorum_MaxFaulty.Post I0 w r v w' := by
 have H : ((quorum_group_possible.f a0).bind fun t1 => (if t1 = true then (some (W .i64 ((W .i64 (a0 - 1)).tdiv 3))) else (some 0))) = some r := h
 clear h
 refine calls_body Try.func20 (by kernel_rfl) 9 (by kernel_rfl) (by kernel_rfl) ⟨w, fun _ => False, I0⟩ I0 [] [(0, .int .i64 a0)] (by kernel_rfl) (Sat.start w _ I0 hI) ?_
 generalize w.heap.size = nx0
 show OK _ K20_0 _ _ _ _ _ _ _ _
 refine OK.seq K20_1 K20_3 (by kernel_rfl) ?_
 refine OK.region 0 O20_1 (by kernel_rfl) ?_
 refine RL.simK (K' := [(0, .int .i64 a0)]) [] (RFacts.nil _ _ _) 1 [.no] (by kernel_rfl) (by kernel_rfl) ?_
 refine RL.nil (by kernel_rfl) ?_
 refine QN.then_ ?_
 refine OK.seq K20_4 K20_13 (by kernel_rfl) ?_
 refine OK.seq K20_5 K20_7 (by kernel_rfl) ?_
 refine OK.region 1 O20_5 (by kernel_rfl) ?_
 refine RL.simK (K' := [(3, .int .i64 a0), (0, .int .i64 a0)]) [] (RFacts.nil _ _ _) 1 [.no] (by kernel_rfl) (by kernel_rfl) ?_
 obtain ⟨t1, hA1, H⟩ := Option.bind_eq_some_iff.mp H
 refine RL.callP 37 [.int .i64 a0] (some 4) (fun w => quorum_group_possible.Post I0 w t1) (by kernel_rfl) (by kernel_rfl) (fun w hs => quorum_group_possible.calls I0 a0 w hs.im  t1 hA1) ?_
 rintro w v w' hs ⟨I1, rfl, hg⟩
 have hi1 := hg.le
 refine RL.resume (X' := []) rfl (hs.call hg) ?_
 clear hs hg
 generalize w'.heap.size = nx1
 clear w w'
 refine RL.simK (K' := [(5, .bool (!t1)), (0, .int .i64 a0)]) [] (RFacts.nil _ _ _) 1 [.no] (by kernel_rfl) (by kernel_rfl) ?_
 refine RL.nil (by kernel_rfl) ?_
 refine QN.then_ ?_
 refine OK.cond (.tmp 5) K20_8 K20_12 (!t1) (by kernel_rfl) (by kernel_rfl) (by kernel_rfl) (fun hb => ?_) (fun hb => ?_)
 ·have hb : t1 = false := by simpa using hb
  have hc := (Bool.eq_false_iff.1 hb)
  rw [if_neg hc] at H
  clear hb
  refine OK.seq K20_9 K20_11 (by kernel_rfl) ?_
  refine OK.region 2 O20_9 (by kernel_rfl) ?_
  refine RL.simK (K' := [(2, .int .i64 0)]) [] (RFacts.nil _ _ _) 1 [.no] (by kernel_rfl) (by kernel_rfl) ?_
  refine RL.nil (by kernel_rfl) ?_
  refine QN.then_ ?_
  refine OK.ret (by kernel_rfl) ?_
  refine QN.thenR ?_
  obtain rfl := Option.some.inj H
  refine QN.body rfl [] (RFacts.nil _ _ _) (.no) (.int .i64 0) (by kernel_rfl) (by kernel_rfl) (by kernel_rfl) ?_ _ (.inr rfl)
  exact fun w' hs' => ⟨_, rfl, I1, rfl, hs'.got _ .slnil⟩
 ·have hb : t1 = true := by simpa using hb
  have hc := hb
  rw [if_pos hc] at H
  clear hb
  refine OK.skip (by kernel_rfl) ?_
  refine QN.then_ ?_
  refine OK.seq K20_14 K20_16 (by kernel_rfl) ?_
  refine OK.region 3 O20_14 (by kernel_rfl) ?_
  refine RL.simK (K' := [(2, .int .i64 (W .i64 ((W .i64 (a0 - 1)).tdiv 3)))]) [] (RFacts.nil _ _ _) 4 [.no, .no, .no, .no] (by kernel_rfl) (by kernel_rfl) ?_
  refine RL.nil (by kernel_rfl) ?_
  refine QN.then_ ?_
  refine OK.ret (by kernel_rfl) ?_
  obtain rfl := Option.some.inj H
  refine QN.body rfl [] (RFacts.nil _ _ _) (.no) (.int .i64 (W .i64 ((W .i64 (a0 - 1)).tdiv 3))) (by kernel_rfl) (by kernel_rfl) (by kernel_rfl) ?_ _ (.inr rfl)
  exact fun w' hs' => ⟨_, rfl, I1, rfl, hs'.got _ .slnil⟩

end Go.Proofs.Ytieakigoinebdaa
namespace Go.Proofs.Ytieakigoinebdaa
open Go Go.Proofs.Ytieakigoinebdaa.RW
set_option linter.unusedVariables false
set_option maxRecDepth 100000
set_option maxHeartbeats 8000000

/-! ### quorum_Size: function 22, armillary/quorum.Size -/
noncomputable def K22_0 : Code := cBody Try.f22
noncomputable def K22_1 : Code := cL K22_0
noncomputable def O22_1 : List Oper := cOps K22_1
noncomputable def K22_3 : Code := cR K22_0
noncomputable def K22_4 : Code := cL K22_3
noncomputable def K22_5 : Code := cL K22_4
noncomputable def O22_5 : List Oper := cOps K22_5
noncomputable def K22_7 : Code := cR K22_4
noncomputable def K22_8 : Code := cL K22_7
noncomputable def K22_9 : Code := cL K22_8
noncomputable def O22_9 : List Oper := cOps K22_9
noncomputable def K22_11 : Code := cR K22_8
noncomputable def K22_12 : Code := cR K22_7
noncomputable def K22_13 : Code := cR K22_3
noncomputable def K22_14 : Code := cL K22_13
noncomputable def O22_14 : List Oper := cOps K22_14
noncomputable def K22_16 : Code := cR K22_13
def quorum_Size.f (a0 : Int) : Option (Int) := ((quorum_group_possible.f a0).bind fun t1 => (if t1 = true then ((quorum_MaxFaulty.f a0).bind fun t2 => (some (W .i64 (a0 - t2)))) else (some 0)))
def quorum_Size.Post (I : Imm) (w : World) (r : Int) (v : Value) (w' : World) : Prop :=
 ∃ (J : Imm), v = .int .i64 r ∧ Got w w' I J []
theorem quorum_Size.calls (I0 : Imm) (a0 : Int) (w : World) (hI : I0.at_ w)  (r : Int) (h : quorum_Size.f a0 = some r) :
  Calls Try.prog 22 [.int .i64 a0].toArray w fun e w' => ∃ v, e = .returned v ∧ quorum_Size.Post I0 w r v w' := by
 have H : ((quorum_group_possible.f a0).bind fun t1 => (if t1 = true then ((quorum_MaxFaulty.f a0).bind fun t2 => (some (W .i64 (a0 - t2)))) else (some 0))) = some r := h
 clear h
 refine calls_body Try.func22 (by kernel_rfl) 10 (by kernel_rfl) (by kernel_rfl) ⟨w, fun _ => False, I0⟩ I0 [] [(0, .int .i64 a0)] (by kernel_rfl) (Sat.start w _ I0 hI) ?_
 generalize w.heap.size = nx0
 show OK _ K22_0 _ _ _ _ _ _ _ _
 refine OK.seq K22_1 K22_3 (by kernel_rfl) ?_
 refine OK.region 0 O22_1 (by kernel_rfl) ?_
 refine RL.simK (K' := [(0, .int .i64 a0)]) [] (RFacts.nil _ _ _) 1 [.no] (by kernel_rfl) (by kernel_rfl) ?_
 refine RL.nil (by kernel_rfl) ?_
 refine QN.then_ ?_
 refine OK.seq K22_4 K22_13 (by kernel_rfl) ?_
 refine OK.seq K22_5 K22_7 (by kernel_rfl) ?_
 refine OK.region 1 O22_5 (by kernel_rfl) ?_
 refine RL.simK (K' := [(3, .int .i64 a0), (0, .int .i64 a0)]) [] (RFacts.nil _ _ _) 1 [.no] (by kernel_rfl) (by kernel_rfl) ?_
 obtain ⟨t1, hA1, H⟩ := Option.bind_eq_some_iff.mp H
 refine RL.callP 37 [.int .i64 a0] (some 4) (fun w => quorum_group_possible.Post I0 w t1) (by kernel_rfl) (by kernel_rfl) (fun w hs => quorum_group_possible.calls I0 a0 w hs.im  t1 hA1) ?_
 rintro w v w' hs ⟨I1, rfl, hg⟩
 have hi1 := hg.le
 refine RL.resume (X' := []) rfl (hs.call hg) ?_
 clear hs hg
 generalize w'.heap.size = nx1
 clear w w'
 refine RL.simK (K' := [(5, .bool (!t1)), (0, .int .i64 a0)]) [] (RFacts.nil _ _ _) 1 [.no] (by kernel_rfl) (by kernel_rfl) ?_
 refine RL.nil (by kernel_rfl) ?_
 refine QN.then_ ?_
 refine OK.cond (.tmp 5) K22_8 K22_12 (!t1) (by kernel_rfl) (by kernel_rfl) (by kernel_rfl) (fun hb => ?_) (fun hb => ?_)
 ·have hb : t1 = false := by simpa using hb
  have hc := (Bool.eq_false_iff.1 hb)
  rw [if_neg hc] at H
  clear hb
  refine OK.seq K22_9 K22_11 (by kernel_rfl) ?_
  refine OK.region 2 O22_9 (by kernel_rfl) ?_
  refine RL.simK (K' := [(2, .int .i64 0)]) [] (RFacts.nil _ _ _) 1 [.no] (by kernel_rfl) (by kernel_rfl) ?_
  refine RL.nil (by kernel_rfl) ?_
  refine QN.then_ ?_
  refine OK.ret (by kernel_rfl) ?_
  refine QN.thenR ?_
  obtain rfl := Option.some.inj H
  refine QN.body rfl [] (RFacts.nil _ _ _) (.no) (.int .i64 0) (by kernel_rfl) (by kernel_rfl) (by kernel_rfl) ?_ _ (.inr rfl)
  exact fun w' hs' => ⟨_, rfl, I1, rfl, hs'.got _ .slnil⟩
 ·have hb : t1 = true := by simpa using hb
  have hc := hb
  rw [if_pos hc] at H
  clear hb
  refine OK.skip (by kernel_rfl) ?_
  refine QN.then_ ?_
  refine OK.seq K22_14 K22_16 (by kernel_rfl) ?_
  refine OK.region 3 O22_14 (by kernel_rfl) ?_
  refine RL.simK (K' := [(7, .int .i64 a0), (6, .int .i64 a0)]) [] (RFacts.nil _ _ _) 2 [.no, .no] (by kernel_rfl) (by kernel_rfl) ?_
  obtain ⟨t2, hA2, H⟩ := Option.bind_eq_some_iff.mp H
  refine RL.callP 20 [.int .i64 a0] (some 8) (fun w => quorum_MaxFaulty.Post I1 w t2) (by kernel_rfl) (by kernel_rfl) (fun w hs => quorum_MaxFaulty.calls I1 a0 w hs.im  t2 hA2) ?_
  rintro w v w' hs ⟨I2, rfl, hg⟩
  have hi2 := hg.le
  refine RL.resume (X' := []) rfl (hs.call hg) ?_
  clear hs hg
  generalize w'.heap.size = nx2
  clear w w'
  refine RL.simK (K' := [(2, .int .i64 (W .i64 (a0 - t2)))]) [] (RFacts.nil _ _ _) 2 [.no, .no] (by kernel_rfl) (by kernel_rfl) ?_
  refine RL.nil (by kernel_rfl) ?_
  refine QN.then_ ?_
  refine OK.ret (by kernel_rfl) ?_
  obtain rfl := Option.some.inj H
  refine QN.body rfl [] (RFacts.nil _ _ _) (.no) (.int .i64 (W .i64 (a0 - t2))) (by kernel_rfl) (by kernel_rfl) (by kernel_rfl) ?_ _ (.inr rfl)
  exact fun w' hs' => ⟨_, rfl, I2, rfl, hs'.got _ .slnil⟩

end Go.Proofs.Ytieakigoinebdaa
namespace Go.Proofs.Ytieakigoinebdaa
open Go Go.RowKit Go.Proofs.Ytieakigoinebdaa.RW
set_option linter.unusedVariables false
set_option maxRecDepth 100000
set_option maxHeartbeats 8000000

theorem part_any {P : Program} {t : TypeId} {xs : Array Value} {o : Nat} {v : Value} (h : (simQ P [] [] (part t xs o) .no []).map (·.1) = some v) (w : World) : (part t xs o).run P w = .ok v w := by
 cases hs : simQ P [] [] (part t xs o) .no [] with
 | none => rw [hs] at h; cases h
 | some x =>
 obtain ⟨x1, es1⟩ := x
 rw [hs] at h
 simp only [Option.map_some, Option.some.injEq] at h
 subst h
 exact simQ_any _ _ _ _ hs w

def vk (a b c d : Int) : Value := .agg #[.int .i64 a, .int .i64 b, .int .i64 c, .int .i64 d]
def bk (a c d s : Int) : Value := .agg #[.int .i64 a, .int .i64 c, .int .i64 d, .int .u32 s]
def sk (c d : Int) : Value := .agg #[.int .i64 c, .int .i64 d]
theorem f24 : (Try.prog.fieldsOf 24).toList.map (fun f => (f.type, f.offset, f.name != "_")) = [(3, 0, true), (3, 1, true)] := by kernel_rfl
theorem f72 : (Try.prog.fieldsOf 72).toList.map (fun f => (f.type, f.offset, f.name != "_")) = [(3, 0, true), (3, 1, true), (24, 2, true)] := by kernel_rfl
theorem f84 : (Try.prog.fieldsOf 84).toList.map (fun f => (f.type, f.offset, f.name != "_")) = [(3, 0, true), (24, 1, true), (27, 3, true)] := by kernel_rfl
theorem eqF {P : Program} {w : World} (d : Nat) (xs ys : Array Value) (f : Field) (fs : List Field) {t : TypeId} {o : Nat} (ht : (f.type, f.offset, f.name != "_") = (t, o, true)) {a b : Value} {r r2 : Bool} (h1 : (part t xs o).run P w = .ok a w) (h2 : (part t ys o).run P w = .ok b w) (h3 : (Op.equalIn d t a b).run P w = .ok r w)
 (h4 : (Op.eqFields d xs ys fs).run P w = .ok r2 w) : (Op.eqFields d xs ys (f :: fs)).run P w = .ok (r && r2) w := by
 injection ht with e1 ht
 injection ht with e2 e3
 subst e1; subst e2
 have hn : f.name ≠ "_" := by simpa using e3
 simp only [Op.eqFields, if_pos hn, Sem.run_bind, h1, h2, h3, Result.andThen_ok, Sem.run_ite]
 cases r
 ·simp
 ·simp [h4]
theorem two_of {α β : Type} {g : α → β} {l : List α} {x y : β} (h : l.map g = [x, y]) : ∃ f1 f2, l = [f1, f2] ∧ g f1 = x ∧ g f2 = y := by
 cases l with
 | nil => cases h
 | cons f1 l => cases l with
 | nil => cases h
 | cons f2 l => cases l with
   | nil => simp only [List.map_cons, List.map_nil, List.cons.injEq] at h; exact ⟨f1, f2, rfl, h.1, h.2.1⟩
   | cons f3 l => simp at h
theorem three_of {α β : Type} {g : α → β} {l : List α} {x y z : β} (h : l.map g = [x, y, z]) : ∃ f1 f2 f3, l = [f1, f2, f3] ∧ g f1 = x ∧ g f2 = y ∧ g f3 = z := by
 cases l with
 | nil => cases h
 | cons f1 l =>
 simp only [List.map_cons, List.cons.injEq] at h
 obtain ⟨f2, f3, rfl, h2, h3⟩ := two_of h.2
 exact ⟨f1, f2, f3, rfl, h.1, h2, h3⟩
theorem eq24 (w : World) (n : Nat) (c d c' d' : Int) : (Op.equalIn (n + 2) 24 (sk c d) (sk c' d')).run Try.prog w = .ok (c == c' && (d == d' && true)) w := by
 unfold sk
 rw [run_equalIn_struct w (n + 1) 24 _ _ (by kernel_rfl) (by kernel_rfl)]
 obtain ⟨f1, f2, e, h1, h2⟩ := two_of f24
 rw [e]
 exact eqF _ _ _ _ _ h1 (part_any (by kernel_rfl) w) (part_any (by kernel_rfl) w) (run_equalIn_int w n 3 .i64 .i64 c c' (by kernel_rfl)) (eqF _ _ _ _ _ h2 (part_any (by kernel_rfl) w) (part_any (by kernel_rfl) w) (run_equalIn_int w n 3 .i64 .i64 d d' (by kernel_rfl)) rfl)
theorem eq72 (w : World) (a b c d a' b' c' d' : Int) : (Op.equal 72 (vk a b c d) (vk a' b' c' d')).run Try.prog w = .ok (a == a' && (b == b' && ((c == c' && (d == d' && true)) && true))) w := by
 unfold vk Op.equal Op.maxDepth
 rw [run_equalIn_struct w 9999 72 _ _ (by kernel_rfl) (by kernel_rfl)]
 obtain ⟨f1, f2, f3, e, h1, h2, h3⟩ := three_of f72
 rw [e]
 exact eqF _ _ _ _ _ h1 (part_any (by kernel_rfl) w) (part_any (by kernel_rfl) w) (run_equalIn_int w 9998 3 .i64 .i64 a a' (by kernel_rfl)) (eqF _ _ _ _ _ h2 (part_any (by kernel_rfl) w) (part_any (by kernel_rfl) w) (run_equalIn_int w 9998 3 .i64 .i64 b b' (by kernel_rfl))
 (eqF _ _ _ _ _ h3 (part_any (v := sk c d) (by kernel_rfl) w) (part_any (v := sk c' d') (by kernel_rfl) w) (eq24 w 9997 c d c' d') rfl))
theorem eq84 (w : World) (a c d s a' c' d' s' : Int) : (Op.equal 84 (bk a c d s) (bk a' c' d' s')).run Try.prog w = .ok (a == a' && ((c == c' && (d == d' && true)) && (s == s' && true))) w := by
 unfold bk Op.equal Op.maxDepth
 rw [run_equalIn_struct w 9999 84 _ _ (by kernel_rfl) (by kernel_rfl)]
 obtain ⟨f1, f2, f3, e, h1, h2, h3⟩ := three_of f84
 rw [e]
 exact eqF _ _ _ _ _ h1 (part_any (by kernel_rfl) w) (part_any (by kernel_rfl) w) (run_equalIn_int w 9998 3 .i64 .i64 a a' (by kernel_rfl)) (eqF _ _ _ _ _ h2 (part_any (v := sk c d) (by kernel_rfl) w) (part_any (v := sk c' d') (by kernel_rfl) w) (eq24 w 9997 c d c' d')
 (eqF _ _ _ _ _ h3 (part_any (by kernel_rfl) w) (part_any (by kernel_rfl) w) (run_equalIn_int w 9998 27 .u32 .u32 s s' (by kernel_rfl)) rfl))
/-! ### keys -/
abbrev VK := Int × Int × Int × Int
def kV (v : VK) : Value := vk v.1 v.2.1 v.2.2.1 v.2.2.2
def kB (v : VK) : Value := bk v.1 v.2.1 v.2.2.1 v.2.2.2
theorem vk_dec (a b : VK) : (a.1 == b.1 && (a.2.1 == b.2.1 && ((a.2.2.1 == b.2.2.1 && (a.2.2.2 == b.2.2.2 && true)) && true))) = decide (a = b) := by
 obtain ⟨a1, a2, a3, a4⟩ := a
 obtain ⟨b1, b2, b3, b4⟩ := b
 by_cases h1 : a1 = b1 <;> by_cases h2 : a2 = b2 <;> by_cases h3 : a3 = b3 <;> by_cases h4 : a4 = b4 <;> simp [h1, h2, h3, h4]
theorem bk_dec (a b : VK) : (a.1 == b.1 && ((a.2.1 == b.2.1 && (a.2.2.1 == b.2.2.1 && true)) && (a.2.2.2 == b.2.2.2 && true))) = decide (a = b) := by
 obtain ⟨a1, a2, a3, a4⟩ := a
 obtain ⟨b1, b2, b3, b4⟩ := b
 by_cases h1 : a1 = b1 <;> by_cases h2 : a2 = b2 <;> by_cases h3 : a3 = b3 <;> by_cases h4 : a4 = b4 <;> simp [h1, h2, h3, h4]
theorem stays_of {v : Value} (h : Instr.sameBits 10000 v v = true) (w : World) : (Instr.keyThatStays v v).run Try.prog w = .ok v w := by
 unfold Instr.keyThatStays
 rw [if_pos h]
 rfl
theorem bits_agg (n : Nat) (l : List Value) (h : ∀ x ∈ l, Instr.sameBits n x x = true) : Instr.sameBits (n + 1) (.agg l.toArray) (.agg l.toArray) = true := by
 have hz : ∀ l : List Value, (∀ x ∈ l, Instr.sameBits n x x = true) → ((l.zip l).all fun (x, y) => Instr.sameBits n x y) = true := by
  intro l
  induction l with
  | nil => intro _; rfl
  | cons x l ih =>
   intro h
   simp only [List.zip_cons_cons, List.all_cons, h x List.mem_cons_self, Bool.true_and]
   exact ih (fun y hy => h y (List.mem_cons_of_mem _ hy))
 simp only [Instr.sameBits, beq_self_eq_true, Bool.true_and]
 exact hz l h
theorem bits_int (n : Nat) (k : IntKind) (a : Int) : Instr.sameBits n (.int k a) (.int k a) = true := by
 cases n <;> simp [Instr.sameBits]
theorem any_run {α : Type} {s : Sem α} {v : α} (h : (simQ Try.prog [] [] s .no []).map (·.1) = some v) (w : World) : s.run Try.prog w = .ok v w := by
 cases hs : simQ Try.prog [] [] s .no [] with
 | none => rw [hs] at h; cases h
 | some x =>
  obtain ⟨x1, es1⟩ := x
  rw [hs] at h
  simp only [Option.map_some, Option.some.injEq] at h
  subst h
  exact simQ_any _ _ _ _ hs w
theorem chk72 (em : Bool) (w : World) (a : VK) : (Instr.checkKey em 10000 72 (kV a)).run Try.prog w = .ok () w := any_run (by unfold kV vk; kernel_rfl) w
theorem chk84 (em : Bool) (w : World) (a : VK) : (Instr.checkKey em 10000 84 (kB a)).run Try.prog w = .ok () w := any_run (by unfold kB bk; kernel_rfl) w
theorem stay72 (w : World) (a : VK) : (Instr.keyThatStays (kV a) (kV a)).run Try.prog w = .ok (kV a) w :=
 stays_of (bits_agg 9999 [.int .i64 a.1, .int .i64 a.2.1, .int .i64 a.2.2.1, .int .i64 a.2.2.2] (fun x hx => by simp only [List.mem_cons, List.not_mem_nil, or_false] at hx; rcases hx with rfl | rfl | rfl | rfl <;> exact bits_int _ _ _)) w
theorem stay84 (w : World) (a : VK) : (Instr.keyThatStays (kB a) (kB a)).run Try.prog w = .ok (kB a) w :=
 stays_of (bits_agg 9999 [.int .i64 a.1, .int .i64 a.2.1, .int .i64 a.2.2.1, .int .u32 a.2.2.2] (fun x hx => by simp only [List.mem_cons, List.not_mem_nil, or_false] at hx; rcases hx with rfl | rfl | rfl | rfl <;> exact bits_int _ _ _)) w
theorem str72 : ∃ fs, Try.prog.underlying 72 = some (.struct fs) := ⟨_, (show Try.prog.underlying 72 = some (.struct (Try.prog.fieldsOf 72)) by kernel_rfl)⟩
theorem str84 : ∃ fs, Try.prog.underlying 84 = some (.struct fs) := ⟨_, (show Try.prog.underlying 84 = some (.struct (Try.prog.fieldsOf 84)) by kernel_rfl)⟩
theorem mt91 : MT Try.prog 91 72 4 kV Value.bool false := ⟨by kernel_rfl, str72, fun a => ⟨_, rfl⟩, fun w a b => by unfold kV; rw [eq72, vk_dec], chk72, stay72, any_run (by kernel_rfl)⟩
theorem mt69 : MT Try.prog 69 72 27 kV (Value.int .u32) 0 := ⟨by kernel_rfl, str72, fun a => ⟨_, rfl⟩, fun w a b => by unfold kV; rw [eq72, vk_dec], chk72, stay72, any_run (by kernel_rfl)⟩
theorem mt79 : MT Try.prog 79 84 3 kB (Value.int .i64) 0 := ⟨by kernel_rfl, str84, fun a => ⟨_, rfl⟩, fun w a b => by unfold kB; rw [eq84, bk_dec], chk84, stay84, any_run (by kernel_rfl)⟩

/-! ### what is computed -/
def vkey (m : S32) : VK := (m.f0, m.f1, m.f2, m.f3)
def bkey (m : S32) : VK := (m.f0, m.f2, m.f3, m.f4)
def dkey (m : S32) : VK := (m.f0, 0, m.f2, m.f3)
def cnt (k : Nat) (n : Int) : List S32 → List (VK × Bool) → Option (List S32)
 | [], _ => some []
 | m :: r, seen => if (mget seen (vkey m)).getD false = true then cnt k n r seen else (quorum_group_valid.f k n m).bind fun ok => if ok = true then (cnt k n r (mput seen (vkey m) true)).bind fun c => some (m :: c) else cnt k n r seen
def bump (sz : Int) (st : List (VK × Int) × List (VK × Int)) (m : S32) : List (VK × Int) × List (VK × Int) :=
 (mput st.1 (bkey m) (W .i64 ((mget st.1 (bkey m)).getD 0 + 1)), if W .i64 ((mget st.1 (bkey m)).getD 0 + 1) = sz then mput st.2 (dkey m) m.f4 else st.2)
def quorum_tally.f (k : Nat) (l : List S32) (n : Int) : Option (List (VK × Int)) := (cnt k n l []).bind fun c => (quorum_Size.f n).bind fun sz => some (c.foldl (bump sz) ([], [])).2
/-- A message as yield is handed it. -/
def m32 (x : S32) (A : Option Addr) (c : Nat) : Value := .agg #[.int .i64 x.f0, .int .i64 x.f1, .int .i64 x.f2, .int .i64 x.f3, .int .u32 x.f4, .int .i64 x.f5.f0, .string x.f5.f1, .slice A x.f5.f2.length c]
def E32 (x : S32) (xs : Array Value) : Prop := ∃ A c, xs = #[m32 x A c]

/-! ### counted, and the iterator that it makes -/
noncomputable def c45 : Code := cBody Try.f45
noncomputable def c45r0 : Code := cL c45
noncomputable def c45e : Code := cR c45
noncomputable def c45r1 : Code := cL c45e
noncomputable def c45t : Code := cR c45e
noncomputable def o45r0 : List Oper := cOps c45r0
noncomputable def o45r1 : List Oper := cOps c45r1
theorem own_new {w0 : World} {I0 I : Imm} {nx : Nat} {L : List Blk} {X : List Res} {w : World} (hs : Sat ⟨w0, fun _ => False, I0⟩ I nx L X w) {i : Nat} {b : Blk} (hi : L[i]? = some b) : w0.heap.size ≤ b.g :=
 (hs.own b (List.mem_of_getElem? hi)).resolve_right (fun h => h)
def fv53 (b1 b2 : Nat) : Value := .func (.func 53) #[] #[.pointer (some ⟨b1, 0, none⟩), .pointer (some ⟨b2, 0, none⟩)]
def counted.Post (I : Imm) (w : World) (A : Option Addr) (n c : Nat) (a : Int) (v : Value) (w' : World) : Prop :=
 ∃ (J : Imm) (b1 b2 : Nat), v = fv53 b1 b2 ∧ Got w w' I J [] ∧ J ⟨b1, 0, none⟩ = some (.slice A n c) ∧ J ⟨b2, 0, none⟩ = some (.func (.func 32) #[.int .i64 a] #[])
theorem counted.calls (I0 : Imm) (A : Option Addr) (n c : Nat) (a : Int) (w : World) (hI : I0.at_ w) :
  Calls Try.prog 45 [.slice A n c, .func (.func 32) #[.int .i64 a] #[]].toArray w fun e w' => ∃ v, e = .returned v ∧ counted.Post I0 w A n c a v w' := by
 refine calls_body Try.func45 (by kernel_rfl) 6 (by kernel_rfl) (by kernel_rfl) ⟨w, fun _ => False, I0⟩ I0 [] [(0, .slice A n c), (1, .func (.func 32) #[.int .i64 a] #[])] (by kernel_rfl) (Sat.start w _ I0 hI) ?_
 generalize w.heap.size = nx0
 show OK _ c45 _ _ _ _ _ _ _ _
 refine OK.seq c45r0 c45e (by kernel_rfl) ?_
 refine OK.region 0 o45r0 (by kernel_rfl) ?_
 refine RL.simP (K' := [(2, .pointer (some ⟨nx0, 0, none⟩)), (3, .pointer (some ⟨nx0 + 1, 0, none⟩))]) (nx' := nx0 + 2) (L' := [⟨nx0, [.slice A n c], 22⟩, ⟨nx0 + 1, [.func (.func 32) #[.int .i64 a] #[]], 66⟩]) [] (RFacts.nil _ _ _) 3 [.no, .no, .no] (by kernel_rfl) (by kernel_rfl) ?_
 refine RL.nil (by kernel_rfl) ?_
 refine QN.then_ ?_
 refine OK.seq c45r1 c45t (by kernel_rfl) ?_
 refine OK.region 1 o45r1 (by kernel_rfl) ?_
 refine RL.simP (K' := [(4, .func (.func 53) #[] #[.pointer (some ⟨nx0, 0, none⟩), .pointer (some ⟨nx0 + 1, 0, none⟩)])]) (nx' := nx0 + 2) (L' := [⟨nx0, [.slice A n c], 22⟩, ⟨nx0 + 1, [.func (.func 32) #[.int .i64 a] #[]], 66⟩]) [] (RFacts.nil _ _ _) 2 [.no, .no] (by kernel_rfl) (by kernel_rfl) ?_
 refine RL.immL 0 rfl (fun w hs => own_new hs (i := 0) rfl) (fun J1 hJ1 h1 => ?_)
 refine RL.immL 0 rfl (fun w hs => own_new hs (i := 0) rfl) (fun J2 hJ2 h2 => ?_)
 refine RL.nil (by kernel_rfl) ?_
 refine QN.then_ ?_
 refine OK.ret (by kernel_rfl) ?_
 refine QN.body rfl [] (RFacts.nil _ _ _) .no (fv53 nx0 (nx0 + 1)) (by kernel_rfl) (by kernel_rfl) (by kernel_rfl) ?_ _ (.inr rfl)
 exact fun w' hs' => ⟨_, rfl, J2, nx0, nx0 + 1, rfl, hs'.got _ (List.nil_sublist _), hJ2 _ _ (h1 0 _ rfl), h2 0 _ rfl⟩

theorem W64 {n : Int} (h0 : 0 ≤ n) (h1 : n < 9223372036854775808) : W .i64 n = n := by
 have h2 : (2 : Int) ^ 64 = 18446744073709551616 := by decide
 have h3 : (2 : Int) ^ 63 = 9223372036854775808 := by decide
 unfold W IntKind.wrap
 simp only [IntKind.bits, IntKind.signed, h2, h3, Nat.add_one_sub_one, Bool.true_and, decide_eq_true_eq]
 have h4 : n % 18446744073709551616 = n := Int.emod_eq_of_lt h0 (by omega)
 rw [h4, if_neg (by omega)]

noncomputable def c53 : Code := cBody Try.f53
noncomputable def c53r0 : Code := cL c53
noncomputable def c53a : Code := cR c53
noncomputable def c53r1 : Code := cL c53a
noncomputable def c53b : Code := cR c53a
noncomputable def c53lp : Code := cL c53b
noncomputable def c53in : Code := cL c53lp
noncomputable def c53r2 : Code := cL c53in
noncomputable def c53c : Code := cR c53in
noncomputable def c53cd : Code := cL c53c
noncomputable def c53d : Code := cR c53c
noncomputable def c53bk : Code := cL c53d
noncomputable def c53r8 : Code := cR c53d
noncomputable def c53bd : Code := cL c53bk
noncomputable def c53r3 : Code := cL c53bd
noncomputable def c53e1 : Code := cR c53bd
noncomputable def c53r4 : Code := cL c53e1
noncomputable def c53e2 : Code := cR c53e1
noncomputable def c53e3 : Code := cL c53e2
noncomputable def c53e4 : Code := cR c53e2
noncomputable def c53r5 : Code := cL c53e3
noncomputable def c53k5 : Code := cR c53e3
noncomputable def c53r6 : Code := cL c53e4
noncomputable def c53e5 : Code := cR c53e4
noncomputable def c53r7 : Code := cL c53e5
noncomputable def c53k7 : Code := cR c53e5
noncomputable def o53 : Nat → List Oper
 | 0 => cOps c53r0
 | 1 => cOps c53r1
 | 2 => cOps c53r2
 | 3 => cOps c53r3
 | 4 => cOps c53r4
 | 5 => cOps c53r5
 | 6 => cOps c53r6
 | 7 => cOps c53r7
 | _ => cOps c53r8
/-- What holds at the head of a round. -/
def inv53 (k : Nat) (n : Int) (l c : List S32) (I0 : Imm) (A : Option Addr) (cap b2 lid : Nat) (W : World) (S' : Nat → Prop) (J' : List S32 → World → Prop) (kq : Nat) : St := fun K I _ L X =>
 ∃ (i g : Nat) (seen : List (VK × Bool)) (pre rest : List S32), K = [(9, .slice A l.length cap), (10, .int .i64 (l.length : Int)), (11, .int .i64 (i : Int)), (4, .map (some g)), (0, .func (.yield lid) #[] #[]), (2, .pointer (some ⟨b2, 0, none⟩))] ∧ L = [] ∧ X = [jres S' W (J' pre), mres kV Value.bool g seen] ∧ Imm.le I0 I ∧
  i + kq = l.length + 1 ∧ i ≤ l.length ∧ cnt k n (l.drop i) seen = some rest ∧ pre ++ rest = c
theorem counted1.calls (k : Nat) (n : Int) (l c : List S32) (hc : cnt k n l [] = some c) (I0 : Imm) (A : Option Addr) (cap : Nat) (hr : Rd t32 I0 A l) (b1 b2 : Nat)
  (h1 : I0 ⟨b1, 0, none⟩ = some (.slice A l.length cap)) (h2 : I0 ⟨b2, 0, none⟩ = some (.func (.func 32) #[.int .i64 n] #[]))
  (lid : Nat) (W : World) (hI : I0.at_ W) (S' : Nat → Prop) (hS : ∀ k, S' k → k < W.heap.size) (hIS : ∀ a v, I0 a = some v → ¬ S' a.block) (J' : List S32 → World → Prop) (hJ : ∀ pre A B, J' pre A → LowEq W.heap.size A B → J' pre B)
  (hY : ∀ pre x xs W1, J' pre W1 → (pre ++ [x]) <+: c → E32 x xs → YieldAt (Fence.ro none) 0 Try.prog lid xs W1 fun e W' => e = .returned (.bool true) ∧ J' (pre ++ [x]) W' ∧ Evo S' W1 W')
  (h0 : J' [] W) : Calls Try.prog 53 [.func (.yield lid) #[] #[], .pointer (some ⟨b1, 0, none⟩), .pointer (some ⟨b2, 0, none⟩)].toArray W fun e W' => (∃ v, e = .returned v) ∧ J' c W' ∧ Evo S' W W' := by
 refine calls_body Try.func53 (by kernel_rfl) 41 (by kernel_rfl) (by kernel_rfl) ⟨W, S', I0⟩ I0 [jres S' W (J' [])] [(0, .func (.yield lid) #[] #[]), (1, .pointer (some ⟨b1, 0, none⟩)), (2, .pointer (some ⟨b2, 0, none⟩))] (by kernel_rfl) (Sat.startJ hI hS hIS h0) ?_
 generalize W.heap.size = nx0
 show OK _ c53 _ _ _ _ _ _ _ _
 refine OK.seq c53r0 c53a (by kernel_rfl) ?_
 refine OK.region 0 (o53 0) (by kernel_rfl) ?_
 refine RL.makeMap (T := 91) kV Value.bool (some 8) (by kernel_rfl) (by kernel_rfl) ?_
 refine RL.simP (K' := [(4, .map (some nx0)), (0, .func (.yield lid) #[] #[]), (1, .pointer (some ⟨b1, 0, none⟩)), (2, .pointer (some ⟨b2, 0, none⟩))]) (nx' := nx0 + 1) (L' := []) [] (RFacts.nil _ _ _) 1 [.no] (by kernel_rfl) (by kernel_rfl) ?_
 refine RL.nil (by kernel_rfl) ?_
 refine QN.then_ ?_
 refine OK.seq c53r1 c53b (by kernel_rfl) ?_
 refine OK.region 1 (o53 1) (by kernel_rfl) ?_
 refine RL.simP (K' := [(9, .slice A l.length cap), (10, .int .i64 (l.length : Int)), (11, .int .i64 ((0 : Nat) : Int)), (4, .map (some nx0)), (0, .func (.yield lid) #[] #[]), (2, .pointer (some ⟨b2, 0, none⟩))]) (nx' := nx0 + 1) (L' := []) [(⟨b1, 0, none⟩, .slice A l.length cap)] (RFacts.imm h1 (RFacts.nil _ _ _)) 3 [.r 0, .no, .no] (by kernel_rfl) (by kernel_rfl) ?_
 refine RL.nil (by kernel_rfl) ?_
 refine QN.then_ ?_
 refine OK.block 0 c53lp (by kernel_rfl) ?_
 refine OK.loopInv c53in (by kernel_rfl) (inv53 k n l c I0 A cap b2 lid W S' J') (l.length + 1) ⟨0, nx0, [], [], c, rfl, rfl, rfl, Imm.le_refl _, by omega, by omega, by simpa using hc, rfl⟩ (fun K I nx L X h => ?_) ?_
 ·obtain ⟨i, g, seen, pre, rest, _, _, _, _, h5, h6, _⟩ := h
  omega
 rintro kq _ I nx _ _ ⟨i, g, seen, pre, rest, rfl, rfl, rfl, hle, hi1, hi2, hcnt, hpre⟩ Q' hJn hQ
 refine OK.seq c53r2 c53c (by kernel_rfl) ?_
 refine OK.region 2 (o53 2) (by kernel_rfl) ?_
 refine RL.simP (K' := [(12, .bool (decide ((i : Int) < (l.length : Int)))), (9, .slice A l.length cap), (10, .int .i64 (l.length : Int)), (11, .int .i64 (i : Int)), (4, .map (some g)), (0, .func (.yield lid) #[] #[]), (2, .pointer (some ⟨b2, 0, none⟩))]) (nx' := nx) (L' := []) [] (RFacts.nil _ _ _) 1 [.no] (by kernel_rfl) (by kernel_rfl) ?_
 refine RL.nil (by kernel_rfl) ?_
 refine QN.then_ ?_
 refine OK.seq c53cd c53d (by kernel_rfl) ?_
 refine OK.cond (.tmp 12) (cL c53cd) (cR c53cd) (decide ((i : Int) < (l.length : Int))) (by kernel_rfl) (by kernel_rfl) (by kernel_rfl) (fun hb => ?_) (fun hb => ?_)
 rotate_left
 ·-- the end
  have hlt : ¬ ((i : Int) < (l.length : Int)) := of_decide_eq_false hb
  have hil : i = l.length := by omega
  subst hil
  rw [List.drop_length] at hcnt
  obtain rfl : [] = rest := Option.some.inj hcnt
  rw [List.append_nil] at hpre
  subst hpre
  refine OK.exit 0 (by kernel_rfl) ?_
  refine QN.thenE ?_
  refine QN.outE hQ ?_
  refine QN.blkE ?_
  refine QN.body rfl [] (RFacts.nil _ _ _) .no (.tuple #[]) (by kernel_rfl) (by kernel_rfl) (by kernel_rfl) ?_ _ (.inl rfl)
  exact fun w' hs' => ⟨⟨_, rfl⟩, jres_at hs' List.mem_cons_self (hJ _), hs'.evo⟩
 have hlt : (i : Int) < (l.length : Int) := of_decide_eq_true hb
 refine OK.skip (by kernel_rfl) ?_
 refine QN.then_ ?_
 refine OK.seq c53bk c53r8 (by kernel_rfl) ?_
 -- what comes behind the body, whatever it has done
 have hnext : ∀ (J : Imm) (nx : Nat) (L : List Blk) (seen' : List (VK × Bool)) (pre' rest' : List S32), Imm.le I0 J → cnt k n (l.drop (i + 1)) seen' = some rest' → pre' ++ rest' = c →
   OK Try.prog c53r8 Q' ⟨41, []⟩ [(9, .slice A l.length cap), (10, .int .i64 (l.length : Int)), (11, .int .i64 (i : Int)), (4, .map (some g)), (0, .func (.yield lid) #[] #[]), (2, .pointer (some ⟨b2, 0, none⟩))] ⟨W, S', I0⟩ J nx L [jres S' W (J' pre'), mres kV Value.bool g seen'] := by
  intro J nx L seen' pre' rest' hJ1 hcnt' hpre'
  refine OK.sub (K' := [(9, .slice A l.length cap), (10, .int .i64 (l.length : Int)), (11, .int .i64 (i : Int)), (4, .map (some g)), (0, .func (.yield lid) #[] #[]), (2, .pointer (some ⟨b2, 0, none⟩))]) (L' := []) (by kernel_rfl) (List.nil_sublist _) (List.Sublist.refl _) ?_
  refine OK.region 8 (o53 8) (by kernel_rfl) ?_
  refine RL.simP (K' := [(9, .slice A l.length cap), (10, .int .i64 (l.length : Int)), (11, .int .i64 (RW.W .i64 ((i : Int) + 1))), (4, .map (some g)), (0, .func (.yield lid) #[] #[]), (2, .pointer (some ⟨b2, 0, none⟩))]) (nx' := nx) (L' := []) [] (RFacts.nil _ _ _) 2 [.no, .no] (by kernel_rfl) (by kernel_rfl) ?_
  refine RL.nil (by kernel_rfl) ?_
  have hml := hr.1
  rw [W64 (by omega) (by omega), show ((i : Int) + 1) = ((i + 1 : Nat) : Int) from by omega]
  exact hJn _ _ _ _ _ ⟨i + 1, g, seen', pre', rest', rfl, rfl, rfl, hJ1, by omega, by omega, hcnt', hpre'⟩
 obtain ⟨g1, o1, hA1, A1, c1, hl1, hr1, hc1⟩ := t32_at (Rd.ext hle hr) (i : Int) (by omega) hlt
 obtain ⟨m, hm⟩ : ∃ m, l.getD (i : Int).toNat z32 = m := ⟨_, rfl⟩
 rw [hm] at hl1 hr1 hc1
 have hil : i < l.length := by omega
 have hdrop : l.drop i = m :: l.drop (i + 1) := by
  rw [List.drop_eq_getElem_cons hil, ← hm, Int.toNat_natCast, List.getD_eq_getElem?_getD, List.getElem?_eq_getElem hil]
  rfl
 rw [hdrop] at hcnt
 simp only [cnt] at hcnt
 refine OK.block 1 c53bd (by kernel_rfl) ?_
 refine OK.seq c53r3 c53e1 (by kernel_rfl) ?_
 refine OK.region 3 (o53 3) (by kernel_rfl) ?_
 refine RL.idx 8 .i64 (i : Int) hA1 l.length cap (some 13) (by kernel_rfl) (by kernel_rfl) (T := 22) (e := 32) (by kernel_rfl) (by kernel_rfl) (by omega) hlt (K' := [(13, .pointer (some ⟨g1, o1 + (i : Int).toNat * 8, none⟩)), (12, .bool (decide ((i : Int) < (l.length : Int)))), (9, .slice A l.length cap), (10, .int .i64 (l.length : Int)), (11, .int .i64 (i : Int)), (4, .map (some g)), (0, .func (.yield lid) #[] #[]), (2, .pointer (some ⟨b2, 0, none⟩))]) ?_ ?_
 ·kernel_rfl
 refine RL.simP (K' := [(6, .pointer (some ⟨nx, 0, none⟩)), (9, .slice A l.length cap), (10, .int .i64 (l.length : Int)), (11, .int .i64 (i : Int)), (4, .map (some g)), (0, .func (.yield lid) #[] #[]), (2, .pointer (some ⟨b2, 0, none⟩))]) (nx' := nx + 1)
  (L' := [⟨nx, [.int .i64 m.f0, .int .i64 m.f1, .int .i64 m.f2, .int .i64 m.f3, .int .u32 m.f4, .int .i64 m.f5.f0, .string m.f5.f1, .slice A1 m.f5.f2.length c1], 32⟩])
  [(⟨g1, o1 + (i : Int).toNat * 8, none⟩, .int .i64 m.f0), (⟨g1, o1 + (i : Int).toNat * 8 + 1, none⟩, .int .i64 m.f1), (⟨g1, o1 + (i : Int).toNat * 8 + 2, none⟩, .int .i64 m.f2), (⟨g1, o1 + (i : Int).toNat * 8 + 3, none⟩, .int .i64 m.f3), (⟨g1, o1 + (i : Int).toNat * 8 + 4, none⟩, .int .u32 m.f4), (⟨g1, o1 + (i : Int).toNat * 8 + 5, none⟩, .int .i64 m.f5.f0), (⟨g1, o1 + (i : Int).toNat * 8 + 6, none⟩, .string m.f5.f1), (⟨g1, o1 + (i : Int).toNat * 8 + 7, none⟩, .slice A1 m.f5.f2.length c1)]
  (RFacts.imm (hc1 0 _ rfl) (RFacts.imm (hc1 1 _ rfl) (RFacts.imm (hc1 2 _ rfl) (RFacts.imm (hc1 3 _ rfl) (RFacts.imm (hc1 4 _ rfl) (RFacts.imm (hc1 5 _ rfl) (RFacts.imm (hc1 6 _ rfl) (RFacts.imm (hc1 7 _ rfl) (RFacts.nil _ _ _))))))))) 3 [.r 0, .no, .l 0] (by kernel_rfl) (by kernel_rfl) ?_
 refine RL.nil (by kernel_rfl) ?_
 refine QN.then_ ?_
 refine OK.seq c53r4 c53e2 (by kernel_rfl) ?_
 refine OK.region 4 (o53 4) (by kernel_rfl) ?_
 refine RL.simP (K' := [(6, .pointer (some ⟨nx, 0, none⟩)), (7, .pointer (some ⟨nx + 1, 0, none⟩)), (9, .slice A l.length cap), (10, .int .i64 (l.length : Int)), (11, .int .i64 (i : Int)), (4, .map (some g)), (0, .func (.yield lid) #[] #[]), (2, .pointer (some ⟨b2, 0, none⟩))]) (nx' := nx + 2)
  (L' := [⟨nx, [.int .i64 m.f0, .int .i64 m.f1, .int .i64 m.f2, .int .i64 m.f3, .int .u32 m.f4, .int .i64 m.f5.f0, .string m.f5.f1, .slice A1 m.f5.f2.length c1], 32⟩, ⟨nx + 1, [.int .i64 m.f0, .int .i64 m.f1, .int .i64 m.f2, .int .i64 m.f3], 72⟩])
  [] (RFacts.nil _ _ _) 12 [.no, .l 0, .no, .l 0, .no, .l 0, .no, .l 0, .no, .no, .no, .l 1] (by kernel_rfl) (by kernel_rfl) ?_
 refine RL.nil (by kernel_rfl) ?_
 refine QN.then_ ?_
 refine OK.seq c53e3 c53e4 (by kernel_rfl) ?_
 refine OK.seq c53r5 c53k5 (by kernel_rfl) ?_
 refine OK.region 5 (o53 5) (by kernel_rfl) ?_
 refine RL.simP (K' := [(25, .map (some g)), (26, kV (vkey m)), (6, .pointer (some ⟨nx, 0, none⟩)), (7, .pointer (some ⟨nx + 1, 0, none⟩)), (9, .slice A l.length cap), (10, .int .i64 (l.length : Int)), (11, .int .i64 (i : Int)), (4, .map (some g)), (0, .func (.yield lid) #[] #[]), (2, .pointer (some ⟨b2, 0, none⟩))]) (nx' := nx + 2)
  (L' := [⟨nx, [.int .i64 m.f0, .int .i64 m.f1, .int .i64 m.f2, .int .i64 m.f3, .int .u32 m.f4, .int .i64 m.f5.f0, .string m.f5.f1, .slice A1 m.f5.f2.length c1], 32⟩, ⟨nx + 1, [.int .i64 m.f0, .int .i64 m.f1, .int .i64 m.f2, .int .i64 m.f3], 72⟩])
  [] (RFacts.nil _ _ _) 2 [.no, .l 1] (by kernel_rfl) (by kernel_rfl) ?_
 cases hsv : (mget seen (vkey m)).getD false with
 | true =>
  rw [hsv, if_pos rfl] at hcnt
  refine RL.lookM mt91 (vkey m) false 1 (some 27) (by kernel_rfl) rfl (by kernel_rfl) (K' := [(27, .bool true), (25, .map (some g)), (26, kV (vkey m)), (6, .pointer (some ⟨nx, 0, none⟩)), (7, .pointer (some ⟨nx + 1, 0, none⟩)), (9, .slice A l.length cap), (10, .int .i64 (l.length : Int)), (11, .int .i64 (i : Int)), (4, .map (some g)), (0, .func (.yield lid) #[] #[]), (2, .pointer (some ⟨b2, 0, none⟩))]) ?_ ?_
  ·rw [if_neg (by decide), hsv]; kernel_rfl
  refine RL.simP (K' := [(33, .bool true), (9, .slice A l.length cap), (10, .int .i64 (l.length : Int)), (11, .int .i64 (i : Int)), (4, .map (some g)), (0, .func (.yield lid) #[] #[]), (2, .pointer (some ⟨b2, 0, none⟩))]) (nx' := nx + 2) (L' := [⟨nx, [.int .i64 m.f0, .int .i64 m.f1, .int .i64 m.f2, .int .i64 m.f3, .int .u32 m.f4, .int .i64 m.f5.f0, .string m.f5.f1, .slice A1 m.f5.f2.length c1], 32⟩, ⟨nx + 1, [.int .i64 m.f0, .int .i64 m.f1, .int .i64 m.f2, .int .i64 m.f3], 72⟩]) [] (RFacts.nil _ _ _) 6 [] (by kernel_rfl) (by kernel_rfl) ?_
  refine RL.nil (by kernel_rfl) ?_
  refine QN.then_ ?_
  refine OK.condT (.tmp 33) (cL c53k5) (cR c53k5) (by kernel_rfl) (by kernel_rfl) (by kernel_rfl) ?_
  refine OK.exit 1 (by kernel_rfl) ?_
  refine QN.thenE ?_
  refine QN.blkE ?_
  refine QN.then_ ?_
  refine OK.sub (K' := [(9, .slice A l.length cap), (10, .int .i64 (l.length : Int)), (11, .int .i64 (i : Int)), (4, .map (some g)), (0, .func (.yield lid) #[] #[]), (2, .pointer (some ⟨b2, 0, none⟩))]) (L' := []) (by kernel_rfl) (List.nil_sublist _) (List.Sublist.refl _) ?_
  exact hnext _ _ _ _ _ _ hle hcnt hpre
 | false =>
  rw [hsv, if_neg (by decide)] at hcnt
  obtain ⟨ok, hok, hcnt⟩ := Option.bind_eq_some_iff.mp hcnt
  refine RL.lookM mt91 (vkey m) false 1 (some 27) (by kernel_rfl) rfl (by kernel_rfl) (K' := [(27, .bool false), (25, .map (some g)), (26, kV (vkey m)), (6, .pointer (some ⟨nx, 0, none⟩)), (7, .pointer (some ⟨nx + 1, 0, none⟩)), (9, .slice A l.length cap), (10, .int .i64 (l.length : Int)), (11, .int .i64 (i : Int)), (4, .map (some g)), (0, .func (.yield lid) #[] #[]), (2, .pointer (some ⟨b2, 0, none⟩))]) ?_ ?_
  ·rw [if_neg (by decide), hsv]; kernel_rfl
  refine RL.simP (K' := [(28, .bool false), (29, .func (.func 32) #[.int .i64 n] #[]), (30, m32 m A1 c1), (6, .pointer (some ⟨nx, 0, none⟩)), (7, .pointer (some ⟨nx + 1, 0, none⟩)), (9, .slice A l.length cap), (10, .int .i64 (l.length : Int)), (11, .int .i64 (i : Int)), (4, .map (some g)), (0, .func (.yield lid) #[] #[]), (2, .pointer (some ⟨b2, 0, none⟩))]) (nx' := nx + 2) (L' := [⟨nx, [.int .i64 m.f0, .int .i64 m.f1, .int .i64 m.f2, .int .i64 m.f3, .int .u32 m.f4, .int .i64 m.f5.f0, .string m.f5.f1, .slice A1 m.f5.f2.length c1], 32⟩, ⟨nx + 1, [.int .i64 m.f0, .int .i64 m.f1, .int .i64 m.f2, .int .i64 m.f3], 72⟩]) [(⟨b2, 0, none⟩, .func (.func 32) #[.int .i64 n] #[])] (RFacts.imm (hle _ _ h2) (RFacts.nil _ _ _)) 3 [.no, .r 0, .l 0] (by kernel_rfl) (by kernel_rfl) ?_
  refine RL.callP 32 [.int .i64 n, m32 m A1 c1] (some 31) (fun w => quorum_group_valid.Post I w ok) (by kernel_rfl) (by kernel_rfl) (fun w hs => quorum_group_valid.calls k I n m A1 c1 w hs.im hl1 hr1 ok hok) ?_
  rintro w v w' hs ⟨J, rfl, hg⟩
  have hleJ := Imm.le_trans hle hg.le
  refine RL.resume (K' := [(31, .bool ok), (28, .bool false), (29, .func (.func 32) #[.int .i64 n] #[]), (30, m32 m A1 c1), (6, .pointer (some ⟨nx, 0, none⟩)), (7, .pointer (some ⟨nx + 1, 0, none⟩)), (9, .slice A l.length cap), (10, .int .i64 (l.length : Int)), (11, .int .i64 (i : Int)), (4, .map (some g)), (0, .func (.yield lid) #[] #[]), (2, .pointer (some ⟨b2, 0, none⟩))]) (X' := [jres S' W (J' pre), mres kV Value.bool g seen]) (by kernel_rfl) (hs.call hg) ?_
  clear hs hg
  generalize w'.heap.size = nx2
  clear w w'
  refine RL.simP (K' := [(33, .bool (!ok)), (6, .pointer (some ⟨nx, 0, none⟩)), (7, .pointer (some ⟨nx + 1, 0, none⟩)), (9, .slice A l.length cap), (10, .int .i64 (l.length : Int)), (11, .int .i64 (i : Int)), (4, .map (some g)), (0, .func (.yield lid) #[] #[]), (2, .pointer (some ⟨b2, 0, none⟩))]) (nx' := nx2) (L' := [⟨nx, [.int .i64 m.f0, .int .i64 m.f1, .int .i64 m.f2, .int .i64 m.f3, .int .u32 m.f4, .int .i64 m.f5.f0, .string m.f5.f1, .slice A1 m.f5.f2.length c1], 32⟩, ⟨nx + 1, [.int .i64 m.f0, .int .i64 m.f1, .int .i64 m.f2, .int .i64 m.f3], 72⟩]) [] (RFacts.nil _ _ _) 2 [.no, .no] (by kernel_rfl) (by kernel_rfl) ?_
  refine RL.nil (by kernel_rfl) ?_
  refine QN.then_ ?_
  cases ok with
  | false =>
   rw [if_neg (by decide)] at hcnt
   refine OK.condT (.tmp 33) (cL c53k5) (cR c53k5) (by kernel_rfl) (by kernel_rfl) (by kernel_rfl) ?_
   refine OK.exit 1 (by kernel_rfl) ?_
   refine QN.thenE ?_
   refine QN.blkE ?_
   refine QN.then_ ?_
   refine OK.sub (K' := [(9, .slice A l.length cap), (10, .int .i64 (l.length : Int)), (11, .int .i64 (i : Int)), (4, .map (some g)), (0, .func (.yield lid) #[] #[]), (2, .pointer (some ⟨b2, 0, none⟩))]) (L' := []) (by kernel_rfl) (List.nil_sublist _) (List.Sublist.refl _) ?_
   exact hnext _ _ _ _ _ _ hleJ hcnt hpre
  | true =>
   rw [if_pos rfl] at hcnt
   obtain ⟨rest', hcnt2, hrest⟩ := Option.bind_eq_some_iff.mp hcnt
   obtain rfl := Option.some.inj hrest
   have hpre2 : (pre ++ [m]) ++ rest' = c := by rw [List.append_assoc]; exact hpre
   refine OK.condF (.tmp 33) (cL c53k5) (cR c53k5) (by kernel_rfl) (by kernel_rfl) (by kernel_rfl) ?_
   refine OK.skip (by kernel_rfl) ?_
   refine QN.then_ ?_
   refine OK.seq c53r6 c53e5 (by kernel_rfl) ?_
   refine OK.region 6 (o53 6) (by kernel_rfl) ?_
   refine RL.simP (K' := [(34, .map (some g)), (35, kV (vkey m)), (6, .pointer (some ⟨nx, 0, none⟩)), (7, .pointer (some ⟨nx + 1, 0, none⟩)), (9, .slice A l.length cap), (10, .int .i64 (l.length : Int)), (11, .int .i64 (i : Int)), (4, .map (some g)), (0, .func (.yield lid) #[] #[]), (2, .pointer (some ⟨b2, 0, none⟩))]) (nx' := nx2) (L' := [⟨nx, [.int .i64 m.f0, .int .i64 m.f1, .int .i64 m.f2, .int .i64 m.f3, .int .u32 m.f4, .int .i64 m.f5.f0, .string m.f5.f1, .slice A1 m.f5.f2.length c1], 32⟩, ⟨nx + 1, [.int .i64 m.f0, .int .i64 m.f1, .int .i64 m.f2, .int .i64 m.f3], 72⟩]) [] (RFacts.nil _ _ _) 2 [.no, .l 1] (by kernel_rfl) (by kernel_rfl) ?_
   refine RL.putM mt91 (vkey m) true 1 (by kernel_rfl) rfl (by kernel_rfl) ?_
   refine RL.nil (by kernel_rfl) ?_
   refine QN.then_ ?_
   refine OK.seq c53r7 c53k7 (by kernel_rfl) ?_
   refine OK.regionI 7 (o53 7) (by kernel_rfl) ?_
   refine RLi.simP (K' := [(36, .func (.yield lid) #[] #[]), (37, m32 m A1 c1), (6, .pointer (some ⟨nx, 0, none⟩)), (7, .pointer (some ⟨nx + 1, 0, none⟩)), (9, .slice A l.length cap), (10, .int .i64 (l.length : Int)), (11, .int .i64 (i : Int)), (4, .map (some g)), (0, .func (.yield lid) #[] #[]), (2, .pointer (some ⟨b2, 0, none⟩))]) (nx' := nx2) (L' := [⟨nx, [.int .i64 m.f0, .int .i64 m.f1, .int .i64 m.f2, .int .i64 m.f3, .int .u32 m.f4, .int .i64 m.f5.f0, .string m.f5.f1, .slice A1 m.f5.f2.length c1], 32⟩, ⟨nx + 1, [.int .i64 m.f0, .int .i64 m.f1, .int .i64 m.f2, .int .i64 m.f3], 72⟩]) [] (RFacts.nil _ _ _) 2 [.no, .l 0] (by kernel_rfl) (by kernel_rfl) (by kernel_rfl) ?_
   refine RLi.yield (X' := [jres S' W (J' (pre ++ [m])), mres kV Value.bool g (mput seen (vkey m) true)]) lid #[m32 m A1 c1] (some 38) (by kernel_rfl) (by kernel_rfl) (by kernel_rfl) (fun w hs => ?_) (fun nx3 => ?_)
   ·refine RW.YieldAt.mono (hY pre m _ w (jres_at hs List.mem_cons_self (hJ _)) ⟨rest', hpre2⟩ ⟨A1, c1, rfl⟩) ?_
    rintro e w' ⟨he, hJ', hev⟩
    exact ⟨he, hs.yielded hS hev hJ'⟩
   refine RLi.simP (K' := [(39, .bool false), (9, .slice A l.length cap), (10, .int .i64 (l.length : Int)), (11, .int .i64 (i : Int)), (4, .map (some g)), (0, .func (.yield lid) #[] #[]), (2, .pointer (some ⟨b2, 0, none⟩))]) (nx' := nx3) (L' := [⟨nx, [.int .i64 m.f0, .int .i64 m.f1, .int .i64 m.f2, .int .i64 m.f3, .int .u32 m.f4, .int .i64 m.f5.f0, .string m.f5.f1, .slice A1 m.f5.f2.length c1], 32⟩, ⟨nx + 1, [.int .i64 m.f0, .int .i64 m.f1, .int .i64 m.f2, .int .i64 m.f3], 72⟩]) [] (RFacts.nil _ _ _) 1 [.no] (by kernel_rfl) (by kernel_rfl) (by kernel_rfl) ?_
   refine RLi.nil (by kernel_rfl) ?_
   refine QN.then_ ?_
   refine OK.condF (.tmp 39) (cL c53k7) (cR c53k7) (by kernel_rfl) (by kernel_rfl) (by kernel_rfl) ?_
   refine OK.skip (by kernel_rfl) ?_
   refine QN.blkN ?_
   refine QN.then_ ?_
   refine OK.sub (K' := [(9, .slice A l.length cap), (10, .int .i64 (l.length : Int)), (11, .int .i64 (i : Int)), (4, .map (some g)), (0, .func (.yield lid) #[] #[]), (2, .pointer (some ⟨b2, 0, none⟩))]) (L' := []) (by kernel_rfl) (List.nil_sublist _) (List.Sublist.refl _) ?_
   exact hnext _ _ _ _ _ _ hleJ hcnt2 hpre2

/-! ### the tally -/
def cAs : Code → Code
 | .rangeFunc _ _ a _ => a
 | c => c
def cBd : Code → Code
 | .rangeFunc _ _ _ b => b
 | c => c
noncomputable def c35 : Code := cBody Try.f35
noncomputable def c35r0 : Code := cL c35
noncomputable def c35a : Code := cR c35
noncomputable def c35r1 : Code := cL c35a
noncomputable def c35b : Code := cR c35a
noncomputable def c35c : Code := cL c35b
noncomputable def c35r2 : Code := cL c35c
noncomputable def c35bk : Code := cR c35c
noncomputable def c35rf : Code := cL c35bk
noncomputable def c35e : Code := cR c35b
noncomputable def c35r8 : Code := cL c35e
noncomputable def c35t : Code := cR c35e
noncomputable def c35as : Code := cAs c35rf
noncomputable def c35bd : Code := cBd c35rf
noncomputable def c35b1 : Code := cL c35bd
noncomputable def c35r4 : Code := cL c35b1
noncomputable def c35d1 : Code := cR c35b1
noncomputable def c35r5 : Code := cL c35d1
noncomputable def c35d2 : Code := cR c35d1
noncomputable def c35r6 : Code := cL c35d2
noncomputable def c35cd : Code := cR c35d2
noncomputable def c35r7 : Code := cL c35cd
noncomputable def c35sk : Code := cR c35cd
noncomputable def o35 : Nat → List Oper
 | 0 => cOps c35r0
 | 1 => cOps c35r1
 | 2 => cOps c35r2
 | 3 => cOps c35as
 | 4 => cOps c35r4
 | 5 => cOps c35r5
 | 6 => cOps c35r6
 | 7 => cOps c35r7
 | _ => cOps c35r8
def cells32 (x : S32) (A : Option Addr) (c : Nat) : List Value := [.int .i64 x.f0, .int .i64 x.f1, .int .i64 x.f2, .int .i64 x.f3, .int .u32 x.f4, .int .i64 x.f5.f0, .string x.f5.f1, .slice A x.f5.f2.length c]
def cells84 (m : S32) : List Value := [.int .i64 m.f0, .int .i64 m.f2, .int .i64 m.f3, .int .u32 m.f4]
theorem an35_5 : ancs (o35 5) [] = [0, 0, 3, 7, 3, 19, 63] := by kernel_rfl
theorem an35_6 : ancs (o35 6) [] = [0, 0, 3, 0, 8, 31] := by kernel_rfl
theorem tally_body (lid : Nat) (Q : Exit → Act → World → Prop) (hQ : ¬ LetsOut Q) (B : Base) (I : Imm) (nx g3 g5 g6 gv gd gm : Nat) (n sz : Int) (m : S32) (A1 : Option Addr) (c1 : Nat) (vt dt : List (VK × Int))
  (h3 : I ⟨g3, 0, none⟩ = some (.int .i64 n)) (h5 : I ⟨g5, 0, none⟩ = some (.map (some gv))) (h6 : I ⟨g6, 0, none⟩ = some (.map (some gd))) (hsz : quorum_Size.f n = some sz)
  (k : ∀ J nx', I.le J → QN Q .normal ⟨47, []⟩ [] B J nx' [] [mres kB (Value.int .i64) gv (bump sz (vt, dt) m).1, mres kV (Value.int .u32) gd (bump sz (vt, dt) m).2]) :
  OKr lid Try.prog c35bd Q ⟨47, []⟩ [(7, .pointer (some ⟨gm, 0, none⟩)), (3, .pointer (some ⟨g3, 0, none⟩)), (5, .pointer (some ⟨g5, 0, none⟩)), (6, .pointer (some ⟨g6, 0, none⟩))] B I nx [⟨gm, cells32 m A1 c1, 32⟩] [mres kB (Value.int .i64) gv vt, mres kV (Value.int .u32) gd dt] := by
 obtain ⟨v, hv⟩ : ∃ v, RW.W .i64 ((mget vt (bkey m)).getD 0 + 1) = v := ⟨_, rfl⟩
 refine OKr.block 1 c35b1 (by kernel_rfl) ?_
 have hQ1 : ¬ LetsOut (Exit.inBlock 1 Q) := letsBlock hQ
 refine OKr.seq c35r4 c35d1 (by kernel_rfl) ?_
 refine OKr.region 4 (o35 4) (by kernel_rfl) (letsThen hQ1) (by kernel_rfl) ?_
 refine RL.simP (K' := [(8, .pointer (some ⟨nx, 0, none⟩)), (3, .pointer (some ⟨g3, 0, none⟩)), (5, .pointer (some ⟨g5, 0, none⟩)), (6, .pointer (some ⟨g6, 0, none⟩))]) (nx' := nx + 1) (L' := [⟨gm, cells32 m A1 c1, 32⟩, ⟨nx, cells84 m, 84⟩]) [] (RFacts.nil _ _ _) 12 [.no, .l 0, .no, .l 0, .no, .l 0, .no, .no, .l 0, .no, .no, .l 1] (by kernel_rfl) (by kernel_rfl) ?_
 refine RL.nil (by kernel_rfl) ?_
 refine QN.thenr ?_
 refine OKr.seq c35r5 c35d2 (by kernel_rfl) ?_
 refine OKr.drawn 5 (o35 5) (by kernel_rfl) (by kernel_rfl) (letsThen hQ1) (by kernel_rfl) ?_
 obtain ⟨old, hold⟩ : ∃ old, (mget vt (bkey m)).getD 0 = old := ⟨_, rfl⟩
 obtain ⟨at_, hat⟩ : ∃ at_ : Nat, mat vt (bkey m) = at_ := ⟨_, rfl⟩
 refine drawnAnyS 6 (o35 5) _ [(4, fun _ => .tuple #[.int .i64 old, goInt (at_ : Int)])] [(2, fun _ => .int .i64 old)] [(⟨g5, 0, none⟩, .map (some gv))] [⟨gm, cells32 m A1 c1, 32⟩, ⟨nx, cells84 m, 84⟩] [.r 0, .l 1, .no, .no, .no, .no] an35_5 (by kernel_rfl) (by kernel_rfl)
  (fun _ => [.map (some gv), kB (bkey m), .int .i64 old, .int .i64 (RW.W .i64 (old + 1)), .tuple #[.int .i64 old, goInt (at_ : Int)], goInt (at_ : Int)])
  (fun _ => [(31, goInt (at_ : Int)), (30, .tuple #[.int .i64 old, goInt (at_ : Int)]), (29, .int .i64 (RW.W .i64 (old + 1))), (28, .int .i64 old), (27, kB (bkey m)), (26, .map (some gv)), (8, .pointer (some ⟨nx, 0, none⟩)), (3, .pointer (some ⟨g3, 0, none⟩)), (5, .pointer (some ⟨g5, 0, none⟩)), (6, .pointer (some ⟨g6, 0, none⟩))])
  (fun u => by kernel_rfl) (fun u => by kernel_rfl)
  (fun D _ w => Sat B I (nx + 1) [⟨gm, cells32 m A1 c1, 32⟩, ⟨nx, cells84 m, 84⟩] [mres kB (Value.int .i64) gv (bif D 4 then mens vt (bkey m) 0 else vt), mres kV (Value.int .u32) gd dt] w)
  (fun D u w hs => ⟨hs.blk, fun r hr => (RFacts.imm h5 (RFacts.nil _ _ _)) _ _ w hs r hr⟩) (fun u w hs => hs)
  [fun _ => [(29, .int .i64 (RW.W .i64 (old + 1))), (28, .int .i64 old), (27, kB (bkey m)), (26, .map (some gv)), (8, .pointer (some ⟨nx, 0, none⟩)), (3, .pointer (some ⟨g3, 0, none⟩)), (5, .pointer (some ⟨g5, 0, none⟩)), (6, .pointer (some ⟨g6, 0, none⟩))]]
  ⟨fun u => by kernel_rfl, trivial⟩ ⟨fun D u w hD _ hs => ?_, trivial⟩
  [fun _ => [(27, kB (bkey m)), (26, .map (some gv)), (8, .pointer (some ⟨nx, 0, none⟩)), (3, .pointer (some ⟨g3, 0, none⟩)), (5, .pointer (some ⟨g5, 0, none⟩)), (6, .pointer (some ⟨g6, 0, none⟩))]]
  ⟨fun u => by kernel_rfl, trivial⟩ ⟨fun D u w _ hs => ?_, fun _ _ _ => rfl, trivial⟩ (fun u a w hs ha => ?_)
 ·-- the entry is made
  simp only [hD, cond_false] at hs ⊢
  have hx : execOp (evalK [(29, .int .i64 (RW.W .i64 (old + 1))), (28, .int .i64 old), (27, kB (bkey m)), (26, .map (some gv)), (8, .pointer (some ⟨nx, 0, none⟩)), (3, .pointer (some ⟨g3, 0, none⟩)), (5, .pointer (some ⟨g5, 0, none⟩)), (6, .pointer (some ⟨g6, 0, none⟩))]) ((o35 5).getD 4 default) = toNext (Instr.mapEntry 79 (.map (some gv)) (kB (bkey m))) := by kernel_rfl
  have hr := mt79.entry (hs.res _ List.mem_cons_self) (bkey m)
  rw [hold, hat] at hr
  refine .inl ⟨_, _, .inl (by rw [hx]; exact run_toNext hr), fun _ => (none, 0, []), rfl, ?_⟩
  simp only [dset_self, cond_true]
  exact hs.putMap (m := 0) rfl
 ·-- the count that stands
  have hx : execOp (evalK [(27, kB (bkey m)), (26, .map (some gv)), (8, .pointer (some ⟨nx, 0, none⟩)), (3, .pointer (some ⟨g3, 0, none⟩)), (5, .pointer (some ⟨g5, 0, none⟩)), (6, .pointer (some ⟨g6, 0, none⟩))]) ((o35 5).getD 2 default) = toNext (Instr.lookup 79 (.map (some gv)) (kB (bkey m)) false) := by kernel_rfl
  have hr := mt79.lookup (q := 0) (w := w) (g := gv) (l := bif D 4 then mens vt (bkey m) 0 else vt) (by simp) (hs.res _ List.mem_cons_self) (bkey m) false
  have hval : (mget (bif D 4 then mens vt (bkey m) 0 else vt) (bkey m)).getD 0 = old := by
   cases D 4 with
   | true => rw [cond_true, mens_get]; exact hold
   | false => exact hold
  rw [if_neg (by decide), hval] at hr
  rw [hx]
  exact run_toNext hr
 refine RL.go (X := [mres kB (Value.int .i64) gv (mens vt (bkey m) 0), mres kV (Value.int .u32) gd dt]) ?_ ha hs
 have hmm := mens_mat vt (bkey m) 0
 refine RL.storeM (T := 79) (bkey m) v 0 (l := mens vt (bkey m) 0) (by rw [hmm.1]; exact hmm.2) (by kernel_rfl) rfl ?_ ?_
 ·rw [hmm.1, hat, ← hv, hold]
  kernel_rfl
 refine RL.norm (X' := [mres kB (Value.int .i64) gv (mput vt (bkey m) v), mres kV (Value.int .u32) gd dt]) rfl rfl rfl (by rw [mput_mens]; rfl) ?_
 refine RL.nil (by kernel_rfl) ?_
 refine QN.thenr ?_
 refine OKr.seq c35r6 c35cd (by kernel_rfl) ?_
 have hget : (mget (mput vt (bkey m) v) (bkey m)).getD 0 = v := by rw [mput_get]; rfl
 refine OKr.drawn 6 (o35 6) (by kernel_rfl) (by kernel_rfl) (letsThen hQ1) (by kernel_rfl) ?_
 refine drawnAnyS 6 (o35 6) _ [(4, fun _ => .int .i64 sz)] [(2, fun _ => .int .i64 v)] [(⟨g5, 0, none⟩, .map (some gv)), (⟨g3, 0, none⟩, .int .i64 n)] [⟨gm, cells32 m A1 c1, 32⟩, ⟨nx, cells84 m, 84⟩] [.r 0, .l 1, .no, .r 1, .no, .no] an35_6 (by kernel_rfl) (by kernel_rfl)
  (fun _ => [.map (some gv), kB (bkey m), .int .i64 v, .int .i64 n, .int .i64 sz, .bool (v == sz)])
  (fun _ => [(37, .bool (v == sz)), (36, .int .i64 sz), (35, .int .i64 n), (34, .int .i64 v), (33, kB (bkey m)), (32, .map (some gv)), (31, goInt (at_ : Int)), (30, .tuple #[.int .i64 old, goInt (at_ : Int)]), (29, .int .i64 (RW.W .i64 (old + 1))), (28, .int .i64 old), (27, kB (bkey m)), (26, .map (some gv)), (8, .pointer (some ⟨nx, 0, none⟩)), (3, .pointer (some ⟨g3, 0, none⟩)), (5, .pointer (some ⟨g5, 0, none⟩)), (6, .pointer (some ⟨g6, 0, none⟩))])
  (fun u => by kernel_rfl) (fun u => by kernel_rfl)
  (fun _ _ w => ∃ J, I.le J ∧ Sat B J w.heap.size [⟨gm, cells32 m A1 c1, 32⟩, ⟨nx, cells84 m, 84⟩] [mres kB (Value.int .i64) gv (mput vt (bkey m) v), mres kV (Value.int .u32) gd dt] w)
  (fun D u w ⟨J, hJ, hs⟩ => ⟨hs.blk, fun r hr => (RFacts.imm (hJ _ _ h5) (RFacts.imm (hJ _ _ h3) (RFacts.nil _ _ _))) _ _ w hs r hr⟩) (fun u w hs => ⟨I, Imm.le_refl _, by rw [hs.hnx]; exact hs⟩)
  [fun _ => [(35, .int .i64 n), (34, .int .i64 v), (33, kB (bkey m)), (32, .map (some gv)), (31, goInt (at_ : Int)), (30, .tuple #[.int .i64 old, goInt (at_ : Int)]), (29, .int .i64 (RW.W .i64 (old + 1))), (28, .int .i64 old), (27, kB (bkey m)), (26, .map (some gv)), (8, .pointer (some ⟨nx, 0, none⟩)), (3, .pointer (some ⟨g3, 0, none⟩)), (5, .pointer (some ⟨g5, 0, none⟩)), (6, .pointer (some ⟨g6, 0, none⟩))]]
  ⟨fun u => by kernel_rfl, trivial⟩ ⟨fun D u w _ _ hs => ?_, trivial⟩
  [fun _ => [(33, kB (bkey m)), (32, .map (some gv)), (31, goInt (at_ : Int)), (30, .tuple #[.int .i64 old, goInt (at_ : Int)]), (29, .int .i64 (RW.W .i64 (old + 1))), (28, .int .i64 old), (27, kB (bkey m)), (26, .map (some gv)), (8, .pointer (some ⟨nx, 0, none⟩)), (3, .pointer (some ⟨g3, 0, none⟩)), (5, .pointer (some ⟨g5, 0, none⟩)), (6, .pointer (some ⟨g6, 0, none⟩))]]
  ⟨fun u => by kernel_rfl, trivial⟩ ⟨fun D u w _ hs => ?_, fun _ _ _ => rfl, trivial⟩ (fun u a w hs ha => ?_)
 ·-- the size of a quorum
  obtain ⟨J, hJ, hs⟩ := hs
  refine (Does.call 22 [.int .i64 n] (by kernel_rfl) (quorum_Size.calls J n w hs.im sz hsz)).mono ?_
  rintro x w' ⟨J2, rfl, hg⟩
  exact ⟨fun _ => (none, 0, []), rfl, J2, Imm.le_trans hJ hg.le, hs.call hg⟩
 ·obtain ⟨J, hJ, hs⟩ := hs
  have hx : execOp (evalK [(33, kB (bkey m)), (32, .map (some gv)), (31, goInt (at_ : Int)), (30, .tuple #[.int .i64 old, goInt (at_ : Int)]), (29, .int .i64 (RW.W .i64 (old + 1))), (28, .int .i64 old), (27, kB (bkey m)), (26, .map (some gv)), (8, .pointer (some ⟨nx, 0, none⟩)), (3, .pointer (some ⟨g3, 0, none⟩)), (5, .pointer (some ⟨g5, 0, none⟩)), (6, .pointer (some ⟨g6, 0, none⟩))]) ((o35 6).getD 2 default) = toNext (Instr.lookup 79 (.map (some gv)) (kB (bkey m)) false) := by kernel_rfl
  have hr := mt79.lookup (q := 0) (w := w) (g := gv) (l := mput vt (bkey m) v) (by simp) (hs.res _ List.mem_cons_self) (bkey m) false
  rw [if_neg (by decide), hget] at hr
  rw [hx]
  exact run_toNext hr
 obtain ⟨J, hJ, hs⟩ := hs
 revert hs
 generalize w.heap.size = nx2
 intro hs
 refine RL.go (X := [mres kB (Value.int .i64) gv (mput vt (bkey m) v), mres kV (Value.int .u32) gd dt]) ?_ ha hs
 clear hs ha a w u
 refine RL.nil (by kernel_rfl) ?_
 refine QN.thenr ?_
 refine OKr.cond (.tmp 37) c35r7 c35sk (v == sz) (by kernel_rfl) (by kernel_rfl) (by kernel_rfl) (fun hb => ?_) (fun hb => ?_)
 ·have hvs : v = sz := beq_iff_eq.1 hb
  refine OKr.region 7 (o35 7) (by kernel_rfl) hQ1 (by kernel_rfl) ?_
  refine RL.simP (K' := [(38, .map (some gd)), (43, kV (dkey m)), (45, .int .u32 m.f4)]) (nx' := nx2) (L' := [⟨gm, cells32 m A1 c1, 32⟩, ⟨nx, cells84 m, 84⟩]) [(⟨g6, 0, none⟩, .map (some gd))] (RFacts.imm (hJ _ _ h6) (RFacts.nil _ _ _)) 8 [.r 0, .no, .l 1, .no, .l 1, .no, .no, .l 1] (by kernel_rfl) (by kernel_rfl) ?_
  refine RL.putM mt69 (dkey m) m.f4 1 (by kernel_rfl) rfl (by kernel_rfl) ?_
  refine RL.nil (by kernel_rfl) ?_
  refine QN.blkN ?_
  refine QN.sub (K' := []) (L' := []) rfl (List.nil_sublist _) (List.Sublist.refl _) ?_
  have := k J nx2 hJ
  unfold bump at this
  simp only [hv, if_pos hvs] at this
  exact this
 ·have hvs : v ≠ sz := fun e => by rw [e] at hb; simp at hb
  refine OKr.skip (by kernel_rfl) ?_
  refine QN.blkN ?_
  refine QN.sub (K' := []) (L' := []) rfl (List.nil_sublist _) (List.Sublist.refl _) ?_
  have := k J nx2 hJ
  unfold bump at this
  simp only [hv, if_neg hvs] at this
  exact this

theorem knows_round {A : Fr} {K : List (Nat × Value)} {a : Act} (ha : Knows A K a) (p : Tmp) (v : Value) : Knows ⟨A.n, []⟩ (putK A K (some p) v) { tmps := ((#[p] : Array Tmp).zip #[v]).foldl (fun t (q, v) => t.setIfInBounds q v) a.tmps, defers := [] } := by
 have h := ha.put (some p) v
 have e : ((#[p] : Array Tmp).zip #[v]).foldl (fun t (q, v) => t.setIfInBounds q v) a.tmps = a.tmps.setIfInBounds p v := by simp
 rw [e]
 exact ⟨h.size, rfl, h.slot⟩
def tst (sz : Int) (pre : List S32) : List (VK × Int) × List (VK × Int) := pre.foldl (bump sz) ([], [])
theorem tst_snoc (sz : Int) (pre : List S32) (x : S32) : tst sz (pre ++ [x]) = bump sz (tst sz pre) x := by simp [tst]
/-- What holds between the rounds. -/
def tJ (I : Imm) (gv gd : Nat) (sz : Int) (pre : List S32) (W : World) : Prop :=
 I.at_ W ∧ W.heap[gv]? = some (.map (ents kB (Value.int .i64) 0 (tst sz pre).1).toArray (tst sz pre).1.length) ∧ W.heap[gd]? = some (.map (ents kV (Value.int .u32) 0 (tst sz pre).2).toArray (tst sz pre).2.length)
def quorum_tally.Post (I : Imm) (w : World) (r : List (VK × Int)) (v : Value) (w' : World) : Prop := ∃ (J : Imm) (g : Nat), v = .map (some g) ∧ Got w w' I J [] ∧ Mp kV (Value.int .u32) J g r
theorem quorum_tally.calls (k : Nat) (I0 : Imm) (a0 : List S32) (Ap0 : Option Addr) (cp0 : Nat) (a1 : Int) (w : World) (hI : I0.at_ w) (hlp0 : a0.length ≤ cp0) (hrp0 : Rd t32 I0 Ap0 a0) (r : List (VK × Int)) (h : quorum_tally.f k a0 a1 = some r) :
  Calls Try.prog 35 [.slice Ap0 a0.length cp0, .int .i64 a1].toArray w fun e w' => ∃ v, e = .returned v ∧ quorum_tally.Post I0 w r v w' := by
 obtain ⟨c, hc, h⟩ := Option.bind_eq_some_iff.mp h
 obtain ⟨sz, hsz, h⟩ := Option.bind_eq_some_iff.mp h
 obtain rfl : (tst sz c).2 = r := Option.some.inj h
 clear h
 refine calls_bodyM Try.func35 (by kernel_rfl) 47 (by kernel_rfl) (by kernel_rfl) ⟨w, fun _ => False, I0⟩ I0 [] [(0, .slice Ap0 a0.length cp0), (1, .int .i64 a1)] (by kernel_rfl) (Sat.start w _ I0 hI) ?_
 generalize w.heap.size = nx0
 show OK _ c35 _ _ _ _ _ _ _ _
 refine OK.seq c35r0 c35a (by kernel_rfl) ?_
 refine OK.region 0 (o35 0) (by kernel_rfl) ?_
 refine RL.simP (K' := [(3, .pointer (some ⟨nx0, 0, none⟩)), (0, .slice Ap0 a0.length cp0)]) (nx' := nx0 + 1) (L' := [⟨nx0, [.int .i64 a1], 3⟩]) [] (RFacts.nil _ _ _) 2 [.no, .no] (by kernel_rfl) (by kernel_rfl) ?_
 refine RL.immL 0 rfl (fun w hs => own_new hs (i := 0) rfl) (fun J1 hJ1 h3 => ?_)
 refine RL.nil (by kernel_rfl) ?_
 refine QN.then_ ?_
 refine OK.seq c35r1 c35b (by kernel_rfl) ?_
 refine OK.region 1 (o35 1) (by kernel_rfl) ?_
 refine RL.makeMap (T := 79) kB (Value.int .i64) (some 9) (by kernel_rfl) (by kernel_rfl) ?_
 refine RL.makeMap (T := 69) kV (Value.int .u32) (some 10) (by kernel_rfl) (by kernel_rfl) ?_
 refine RL.simP (K' := [(5, .pointer (some ⟨nx0 + 1 + 1 + 1, 0, none⟩)), (6, .pointer (some ⟨nx0 + 1 + 1 + 1 + 1, 0, none⟩)), (3, .pointer (some ⟨nx0, 0, none⟩)), (0, .slice Ap0 a0.length cp0)]) (nx' := nx0 + 1 + 1 + 1 + 1 + 1) (L' := [⟨nx0 + 1 + 1 + 1, [.map (some (nx0 + 1))], 79⟩, ⟨nx0 + 1 + 1 + 1 + 1, [.map (some (nx0 + 1 + 1))], 69⟩]) [] (RFacts.nil _ _ _) 4 [.no, .no, .l 0, .l 1] (by kernel_rfl) (by kernel_rfl) ?_
 refine RL.immL 0 rfl (fun w hs => own_new hs (i := 0) rfl) (fun J2 hJ2 h5 => ?_)
 refine RL.immL 0 rfl (fun w hs => own_new hs (i := 0) rfl) (fun J3 hJ3 h6 => ?_)
 refine RL.nil (by kernel_rfl) ?_
 refine QN.then_ ?_
 refine OK.seq c35c c35e (by kernel_rfl) ?_
 refine OK.seq c35r2 c35bk (by kernel_rfl) ?_
 refine OK.region 2 (o35 2) (by kernel_rfl) ?_
 replace h3 := hJ3 _ _ (hJ2 _ _ (h3 0 _ rfl))
 replace h5 := hJ3 _ _ (h5 0 _ rfl)
 replace h6 := h6 0 _ rfl
 have hJ := Imm.le_trans hJ1 (Imm.le_trans hJ2 hJ3)
 refine RL.simP (K' := [(11, .slice Ap0 a0.length cp0), (13, .func (.func 32) #[.int .i64 a1] #[]), (5, .pointer (some ⟨nx0 + 1 + 1 + 1, 0, none⟩)), (6, .pointer (some ⟨nx0 + 1 + 1 + 1 + 1, 0, none⟩)), (3, .pointer (some ⟨nx0, 0, none⟩))]) (nx' := nx0 + 1 + 1 + 1 + 1 + 1) (L' := []) [(⟨nx0, 0, none⟩, .int .i64 a1)] (RFacts.imm h3 (RFacts.nil _ _ _)) 3 [.no, .r 0, .no] (by kernel_rfl) (by kernel_rfl) ?_
 refine RL.callP 45 [.slice Ap0 a0.length cp0, .func (.func 32) #[.int .i64 a1] #[]] (some 14) (fun w => counted.Post J3 w Ap0 a0.length cp0 a1) (by kernel_rfl) (by kernel_rfl) (fun w hs => counted.calls J3 Ap0 a0.length cp0 a1 w hs.im) ?_
 rintro w1 v w2 hs ⟨J, b1, b2, rfl, hg, hb1, hb2⟩
 replace hJ := Imm.le_trans hJ hg.le
 replace h3 := hg.le _ _ h3
 replace h5 := hg.le _ _ h5
 replace h6 := hg.le _ _ h6
 refine RL.resume (K' := [(14, fv53 b1 b2), (11, .slice Ap0 a0.length cp0), (13, .func (.func 32) #[.int .i64 a1] #[]), (5, .pointer (some ⟨nx0 + 1 + 1 + 1, 0, none⟩)), (6, .pointer (some ⟨nx0 + 1 + 1 + 1 + 1, 0, none⟩)), (3, .pointer (some ⟨nx0, 0, none⟩))]) (X' := [mres kB (Value.int .i64) (nx0 + 1) [], mres kV (Value.int .u32) (nx0 + 1 + 1) []]) (by kernel_rfl) (hs.call hg) ?_
 clear hs hg
 generalize w2.heap.size = nx2
 clear w1 w2 hJ1 hJ2 hJ3 J1 J2 J3
 generalize nx0 + 1 + 1 + 1 + 1 = g6 at h6 ⊢
 generalize nx0 + 1 + 1 + 1 = g5 at h5 ⊢
 generalize hgd : nx0 + 1 + 1 = gd at h6 ⊢
 generalize hgv : nx0 + 1 = gv at h5 ⊢
 have hne : gv ≠ gd := by omega
 clear hgd hgv
 refine RL.nil (by kernel_rfl) ?_
 refine QN.then_ ?_
 refine OK.block 0 c35rf (by kernel_rfl) ?_
 intro a w1 ha hs
 have hrf : c35rf = .rangeFunc (.tmp 14) #[15] c35as c35bd := by kernel_rfl
 rw [hrf]
 have hlow : ∀ a v, J a = some v → a.block < w1.heap.size := fun a v h => look_lt (hs.im a v h)
 have hgvl : gv < w1.heap.size := by rw [hs.hnx]; exact (hs.rown _ List.mem_cons_self gv rfl).1
 have hgdl : gd < w1.heap.size := by rw [hs.hnx]; exact (hs.rown _ (List.mem_cons_of_mem _ List.mem_cons_self) gd rfl).1
 have hImv : ∀ a v, J a = some v → a.block ≠ gv := fun a v h e => hs.imX a v h _ List.mem_cons_self e
 have hImd : ∀ a v, J a = some v → a.block ≠ gd := fun a v h e => hs.imX a v h _ (List.mem_cons_of_mem _ List.mem_cons_self) e
 have hat : ∀ {A B : World}, J.at_ A → LowEq w1.heap.size A B → J.at_ B := fun {A B} h hl a v hv => by
  rw [← h a v hv]
  exact look_of_block (hl.blk _ (hlow a v hv))
 refine range_wp (gf := 53) (lb := #[.pointer (some ⟨b1, 0, none⟩), .pointer (some ⟨b2, 0, none⟩)]) ((ha.eval (by kernel_rfl)).trans (by kernel_rfl)) (fun args w => any_run (by kernel_rfl) w) E32 (fun x xs ⟨A, c, e⟩ => by rw [e]; rfl) c (fun k => k = gv ∨ k = gd) (fun k hk => by rcases hk with rfl | rfl <;> assumption)
  (tJ J gv gd sz) (fun pre A B h hl => ⟨hat h.1 hl, by rw [hl.blk _ hgvl]; exact h.2.1, by rw [hl.blk _ hgdl]; exact h.2.2⟩) ⟨hs.im, hs.res _ List.mem_cons_self, hs.res _ (List.mem_cons_of_mem _ List.mem_cons_self)⟩ ?_ ?_ ?_
 ·-- a round
  rintro l pre x xs W hJp hpre ⟨A1, c1, rfl⟩ hwl hlW
  refine (OKr.region 3 (o35 3) (by kernel_rfl) (fun ⟨_, _, h⟩ => h) (by kernel_rfl) ?_ : OKr l Try.prog c35as _ ⟨47, []⟩ [(15, m32 x A1 c1), (14, fv53 b1 b2), (11, .slice Ap0 a0.length cp0), (13, .func (.func 32) #[.int .i64 a1] #[]), (5, .pointer (some ⟨g5, 0, none⟩)), (6, .pointer (some ⟨g6, 0, none⟩)), (3, .pointer (some ⟨nx0, 0, none⟩))] ⟨W, fun _ => False, J⟩ J W.heap.size [] []) _ W (knows_round ha 15 (m32 x A1 c1)) (Sat.start W _ J hJp.1)
  refine RL.simP (K' := [(7, .pointer (some ⟨W.heap.size, 0, none⟩)), (3, .pointer (some ⟨nx0, 0, none⟩)), (5, .pointer (some ⟨g5, 0, none⟩)), (6, .pointer (some ⟨g6, 0, none⟩))]) (nx' := W.heap.size + 1) (L' := [⟨W.heap.size, cells32 x A1 c1, 32⟩]) [] (RFacts.nil _ _ _) 2 [.no, .l 0] (by kernel_rfl) (by kernel_rfl) ?_
  refine RL.nil (by kernel_rfl) ?_
  intro a1' W1 ha1 hs1
  refine ⟨hs1.evo, fun W2 hev => ?_⟩
  have hsz1 := hs1.evo.size
  have hsz2 := hev.size
  have e2 : ∀ k, k < W.heap.size → k ≠ l → W2.heap[k]? = W.heap[k]? := fun k hk hne => (hev.blk k (by show k < W1.heap.size; have : W.heap.size ≤ W1.heap.size := hsz1; omega) hne).trans (hs1.evo.blk k hk (fun h => h))
  have hm : W2.heap[W.heap.size]? = some (.cells (cells32 x A1 c1).toArray 32 (0, 0)) := by
   rw [hev.blk _ (by rw [hs1.hnx]; exact Nat.lt_succ_self _) (by omega)]
   exact hs1.blk _ List.mem_cons_self
  have hat2 : J.at_ W2 := fun a v hv => by
   rw [← hJp.1 a v hv]
   have := hlow a v hv
   exact look_of_block (e2 _ (by omega) (by omega))
  have hml : W.heap.size < W2.heap.size := (Array.getElem?_eq_some_iff.1 hm).1
  refine tally_body l _ (fun ⟨_, _, h⟩ => by cases h.1) ⟨W2, fun k => (k = gv ∨ k = gd) ∨ W.heap.size ≤ k, J⟩ J W2.heap.size nx0 g5 g6 gv gd W.heap.size a1 sz x A1 c1 (tst sz pre).1 (tst sz pre).2 h3 h5 h6 hsz (fun J' nx' hJ' a3 W3 _ hs3 => ?_) a1' W2 ha1 (Sat.start2 hat2 _ (fun b hb => ?_) (List.pairwise_singleton _ _) _ _ ?_ ?_ ?_ ?_ ?_)
  ·refine ⟨rfl, ⟨fun a v hv => hs3.im a v (hJ' a v hv), ?_, ?_⟩, hs3.evo⟩
   ·rw [tst_snoc]; exact hs3.res _ List.mem_cons_self
   ·rw [tst_snoc]; exact hs3.res _ (List.mem_cons_of_mem _ List.mem_cons_self)
  ·rw [List.mem_singleton.1 hb]
   exact ⟨hm, .inr (Nat.le_refl _), fun a v hv => by have := hlow a v hv; show W.heap.size ≠ a.block; omega⟩
  ·show W2.heap[gv]? = _
   rw [e2 gv (by omega) (by omega)]
   exact hJp.2.1
  ·show W2.heap[gd]? = _
   rw [e2 gd (by omega) (by omega)]
   exact hJp.2.2
  ·intro k hk
   obtain rfl : k = gv := hk
   exact ⟨by omega, .inl (.inl rfl), fun b hb => by rw [List.mem_singleton.1 hb]; show W.heap.size ≠ k; omega, fun a v hv => hImv a v hv⟩
  ·intro k hk
   obtain rfl : k = gd := hk
   exact ⟨by omega, .inl (.inr rfl), fun b hb => by rw [List.mem_singleton.1 hb]; show W.heap.size ≠ k; omega, fun a v hv => hImd a v hv⟩
  ·intro k hk hk2
   obtain rfl : k = gv := hk
   exact hne hk2
 ·-- the iterator
  intro l W S' J' hev hS' hJ' hY h0
  have hsz1 := hev.size
  exact counted1.calls k a1 a0 c hc J Ap0 cp0 (Rd.ext hJ hrp0) b1 b2 hb1 hb2 l W (hat hs.im (hev.low (Nat.le_refl _) (fun k h => h.elim))) S' (fun k hk => (hS' k hk).1) (fun a v hv hs' => by
   have := hlow a v hv
   rcases (hS' _ hs').2 with (h | h) | h
   ·exact hImv a v hv h
   ·exact hImd a v hv h
   ·omega) J' hJ' (fun pre x xs W1 h1 h2 h3 => hY pre x xs W1 h1 h2 h3) h0
 ·-- behind it
  intro D W hD hJc hev hdef
  have hs' := hs.turned (r1' := mres kB (Value.int .i64) gv (tst sz c).1) (r2' := mres kV (Value.int .u32) gd (tst sz c).2) (fun k hk => hk) hev rfl rfl hJc.2.1 hJc.2.2 hdef hD
  refine (?_ : OK Try.prog c35e (bodyPostM Fence.wide 0 Try.prog Try.f35 _) ⟨47, [{ target := .collected D, args := #[] }]⟩ [(14, fv53 b1 b2), (11, .slice Ap0 a0.length cp0), (13, .func (.func 32) #[.int .i64 a1] #[]), (5, .pointer (some ⟨g5, 0, none⟩)), (6, .pointer (some ⟨g6, 0, none⟩)), (3, .pointer (some ⟨nx0, 0, none⟩))] _ J W.heap.size [] [mres kB (Value.int .i64) gv (tst sz c).1, mres kV (Value.int .u32) gd (tst sz c).2, dres D (some [])]) _ W ⟨ha.size, by show _ :: a.defers = _; rw [ha.defers], ha.slot⟩ hs'
  refine OK.seq c35r8 c35t (by kernel_rfl) ?_
  refine OK.region 8 (o35 8) (by kernel_rfl) ?_
  refine RL.simP (K' := [(4, .map (some gd))]) (nx' := W.heap.size) (L' := []) [(⟨g6, 0, none⟩, .map (some gd))] (RFacts.imm h6 (RFacts.nil _ _ _)) 2 [.r 0, .no] (by kernel_rfl) (by kernel_rfl) ?_
  refine RL.nil (by kernel_rfl) ?_
  refine QN.then_ ?_
  refine OK.ret (by kernel_rfl) ?_
  refine QN.bodyM rfl (.map (some gd)) (by kernel_rfl) (by kernel_rfl) (fun w2 hs2 => hs2.res (dres D (some [])) (List.mem_cons_of_mem _ (List.mem_cons_of_mem _ List.mem_cons_self))) (fun w2 hs2 => ?_)
  have hDl : D < w2.heap.size := (Array.getElem?_eq_some_iff.1 (hs2.res (dres D (some [])) (List.mem_cons_of_mem _ (List.mem_cons_of_mem _ List.mem_cons_self)))).1
  have hs3 := hs2.replace (m := 2) (r := dres D (some [])) rfl (dres D none) (w' := w2.putObj D (.deferred none)) rfl rfl rfl (by simp) (fun k _ hf => World.putObj_heap_other (fun e => hf e)) (World.putObj_heap_same hDl) (fun k hk => .inl hk) (fun k hk => by obtain rfl : k = D := hk; simpa using hDl)
  have hgd3 : (w2.putObj D (.deferred none)).heap[gd]? = some (.map (ents kV (Value.int .u32) 0 (tst sz c).2).toArray (tst sz c).2.length) := hs3.res (mres kV (Value.int .u32) gd (tst sz c).2) (List.mem_cons_of_mem _ List.mem_cons_self)
  have hown := hs3.rown (mres kV (Value.int .u32) gd (tst sz c).2) (List.mem_cons_of_mem _ List.mem_cons_self) gd rfl
  have hmk : ∀ a v, mapImm gd (codeM (ents kV (Value.int .u32) 0 (tst sz c).2).toArray) a = some v → a = ⟨gd, 0, some 0⟩ ∧ v = codeM (ents kV (Value.int .u32) 0 (tst sz c).2).toArray := fun a v h => by
   unfold mapImm at h
   split at h
   ·exact ⟨‹_›, (Option.some.inj h).symm⟩
   ·cases h
  have hs4 := (hs3.less (List.Sublist.refl _) (List.nil_sublist _)).imm (mapImm gd (codeM (ents kV (Value.int .u32) 0 (tst sz c).2).toArray)) (fun a v h => by
   obtain ⟨rfl, rfl⟩ := hmk a v h
   simp only [RW.look, hgd3]) (fun a v _ b hb => by cases hb) (fun a v _ r hr => by cases hr) (fun a v h => by
   obtain ⟨rfl, rfl⟩ := hmk a v h
   exact hown.2.resolve_right (fun h => h))
  refine ⟨_, rfl, _, gd, rfl, hs4.got _ (List.nil_sublist _), Imm.or_get ?_ (by unfold mapImm; rw [if_pos rfl])⟩
  cases hx : J ⟨gd, 0, some 0⟩ with
  | none => rfl
  | some v => exact absurd rfl (hImd _ v hx)

end Go.Proofs.Ytieakigoinebdaa
namespace Go.Proofs.Ytieakigoinebdaa
open Go Go.Proofs.Ytieakigoinebdaa.RW
set_option linter.unusedVariables false
set_option maxRecDepth 100000
set_option maxHeartbeats 8000000

/-! ### quorum_Prepared: function 14, armillary/quorum.Prepared -/
noncomputable def K14_0 : Code := cBody Try.f14
noncomputable def K14_1 : Code := cL K14_0
noncomputable def O14_1 : List Oper := cOps K14_1
noncomputable def K14_3 : Code := cR K14_0
noncomputable def K14_4 : Code := cL K14_3
noncomputable def O14_4 : List Oper := cOps K14_4
noncomputable def K14_6 : Code := cR K14_3
noncomputable def K14_7 : Code := cL K14_6
noncomputable def O14_7 : List Oper := cOps K14_7
noncomputable def K14_9 : Code := cR K14_6
def quorum_Prepared.f (k : Nat) (a0 : List S32) (a1 : Int) (a2 : S24) : Option (Int × Bool) := ((quorum_tally.f k a0 a1).bind fun t1 => (some ((mget t1 (2, 0, a2.f0, a2.f1)).getD 0, (mget t1 (2, 0, a2.f0, a2.f1)).isSome)))
def quorum_Prepared.Post (I : Imm) (w : World) (r : Int × Bool) (v : Value) (w' : World) : Prop :=
 ∃ (J : Imm), v = .tuple #[.int .u32 r.1, .bool r.2] ∧ Got w w' I J []
noncomputable def a14_4n : List Nat := [0, 0, 3, 0, 8, 31, 63, 127, 127, 255, 1023]
theorem a14_4 : ancs O14_4 [] = a14_4n := by kernel_rfl
theorem a14_4o : drawOk O14_4 a14_4n 10 = true := by kernel_rfl
noncomputable def u14d1l (t1 : (List (VK × Int))) : List Ld :=
 [⟨2, fun x => .map (some ((x 0).2.1)), fun x => [], fun x J => Mp kV (Value.int .u32) J (x 0).2.1 t1 ∧ True, fun x J J' h f => ⟨Mp.ext h f.1, trivial⟩⟩]
noncomputable def u14d1g (a2 : S24) (t1 : (List (VK × Int))) : List (Nat × ((Nat → Wt) → Value)) := [(5, fun u => .tuple #[.int .u32 ((mget t1 (2, 0, a2.f0, a2.f1)).getD 0), .bool (mget t1 (2, 0, a2.f0, a2.f1)).isSome])]
noncomputable def u14d1q (a0 : List S32) (Ap0 : Option Addr) (cp0 : Nat) (a1 : Int) (a2 : S24) (nx0 : Nat) (t1 : (List (VK × Int))) (u : Nat → Wt) : Option (List Value × List (Nat × Value) × List (Nat × Nat)) := qSim Try.prog [] [⟨nx0, [.int .i64 a2.f0, .int .i64 a2.f1], 24⟩] O14_4 ⟨21, []⟩ (Ld.vl (u14d1l t1)) (u14d1g a2 t1) u [.no, .no, .no, .l 0, .no, .no, .no, .no, .no, .no] 0 (O14_4.take 10) [(5, .pointer (some ⟨nx0, 0, none⟩)), (0, .slice Ap0 a0.length cp0), (1, .int .i64 a1)]
noncomputable def u14d1s (a0 : List S32) (Ap0 : Option Addr) (cp0 : Nat) (a1 : Int) (a2 : S24) (t1 : (List (VK × Int))) (u : Nat → Wt) : List Value := [.slice Ap0 a0.length cp0, .int .i64 a1, .map (some ((u 2 0).2.1)), .agg #[.int .i64 a2.f0, .int .i64 a2.f1], .agg #[.int .i64 2, .int .i64 0, .int .i64 a2.f0, .int .i64 a2.f1], .tuple #[.int .u32 ((mget t1 (2, 0, a2.f0, a2.f1)).getD 0), .bool (mget t1 (2, 0, a2.f0, a2.f1)).isSome], .tuple #[.int .u32 ((mget t1 (2, 0, a2.f0, a2.f1)).getD 0), .bool (mget t1 (2, 0, a2.f0, a2.f1)).isSome], .int .u32 ((mget t1 (2, 0, a2.f0, a2.f1)).getD 0), .bool (mget t1 (2, 0, a2.f0, a2.f1)).isSome, .int .u32 ((mget t1 (2, 0, a2.f0, a2.f1)).getD 0)]
noncomputable def u14d1f (a0 : List S32) (Ap0 : Option Addr) (cp0 : Nat) (a1 : Int) (a2 : S24) (nx0 : Nat) (t1 : (List (VK × Int))) (i : Nat) (u : Nat → Wt) : List (Nat × Value) := foldPut ⟨21, []⟩ [(5, .pointer (some ⟨nx0, 0, none⟩)), (0, .slice Ap0 a0.length cp0), (1, .int .i64 a1)] (O14_4.take i) (((u14d1s a0 Ap0 cp0 a1 a2 t1) u).take i)
theorem u14d1v (a0 : List S32) (Ap0 : Option Addr) (cp0 : Nat) (a1 : Int) (a2 : S24) (nx0 : Nat) (t1 : (List (VK × Int))) (u : Nat → Wt) : (u14d1q a0 Ap0 cp0 a1 a2 nx0 t1 u).map (fun x => (x.1, x.2.1)) = some ((u14d1s a0 Ap0 cp0 a1 a2 t1) u, (u14d1f a0 Ap0 cp0 a1 a2 nx0 t1 10) u) := by kernel_rfl
theorem u14d1e (a0 : List S32) (Ap0 : Option Addr) (cp0 : Nat) (a1 : Int) (a2 : S24) (nx0 : Nat) (t1 : (List (VK × Int))) (u : Nat → Wt) : (u14d1q a0 Ap0 cp0 a1 a2 nx0 t1 u).map (fun x => x.2.2.map (·.1)) = (u14d1q a0 Ap0 cp0 a1 a2 nx0 t1 u).map (fun x => x.2.2.map (·.2)) := by kernel_rfl
theorem quorum_Prepared.calls (k : Nat) (I0 : Imm) (a0 : List S32) (Ap0 : Option Addr) (cp0 : Nat) (a1 : Int) (a2 : S24) (w : World) (hI : I0.at_ w) (hlp0 : a0.length ≤ cp0) (hrp0 : Rd t32 I0 Ap0 a0) (r : Int × Bool) (h : quorum_Prepared.f k a0 a1 a2 = some r) :
  Calls Try.prog 14 [.slice Ap0 a0.length cp0, .int .i64 a1, .agg #[.int .i64 a2.f0, .int .i64 a2.f1]].toArray w fun e w' => ∃ v, e = .returned v ∧ quorum_Prepared.Post I0 w r v w' := by
 have H : ((quorum_tally.f k a0 a1).bind fun t1 => (some ((mget t1 (2, 0, a2.f0, a2.f1)).getD 0, (mget t1 (2, 0, a2.f0, a2.f1)).isSome))) = some r := h
 clear h
 refine calls_body Try.func14 (by kernel_rfl) 21 (by kernel_rfl) (by kernel_rfl) ⟨w, fun _ => False, I0⟩ I0 [] [(0, .slice Ap0 a0.length cp0), (1, .int .i64 a1), (2, .agg #[.int .i64 a2.f0, .int .i64 a2.f1])] (by kernel_rfl) (Sat.start w _ I0 hI) ?_
 generalize w.heap.size = nx0
 show OK _ K14_0 _ _ _ _ _ _ _ _
 refine OK.seq K14_1 K14_3 (by kernel_rfl) ?_
 refine OK.region 0 O14_1 (by kernel_rfl) ?_
 refine RL.simP (K' := [(5, .pointer (some ⟨nx0, 0, none⟩)), (0, .slice Ap0 a0.length cp0), (1, .int .i64 a1)]) (nx' := nx0 + 1) (L' := [⟨nx0, [.int .i64 a2.f0, .int .i64 a2.f1], 24⟩]) [] (RFacts.nil _ _ _) 3 [.no, .no, .no] (by kernel_rfl) (by kernel_rfl) ?_
 refine RL.nil (by kernel_rfl) ?_
 refine QN.then_ ?_
 refine OK.seq K14_4 K14_6 (by kernel_rfl) ?_
 obtain ⟨t1, hA1, H⟩ := Option.bind_eq_some_iff.mp H
 refine OK.drawnC 1 10 O14_4 a14_4n (by kernel_rfl) (by kernel_rfl) (u14d1l t1) (u14d1g a2 t1) [] (RI.nil _) [.no, .no, .no, .l 0, .no, .no, .no, .no, .no, .no] a14_4 a14_4o (by kernel_rfl) (by kernel_rfl) (u14d1s a0 Ap0 cp0 a1 a2 t1) (u14d1f a0 Ap0 cp0 a1 a2 nx0 t1 10) (u14d1v a0 Ap0 cp0 a1 a2 nx0 t1) (u14d1e a0 Ap0 cp0 a1 a2 nx0 t1) [u14d1f a0 Ap0 cp0 a1 a2 nx0 t1 2] (framesOk.cons (fun u => rfl) framesOk.nil) ?_ [u14d1f a0 Ap0 cp0 a1 a2 nx0 t1 5] (framesOk.cons (fun u => rfl) framesOk.nil) ?_ ?_
 ·refine LoudsG.cons ?_ (LoudsG.nil)
  ·intro D u J w hp hJ hs hF
   refine Does.call 35 [.slice Ap0 a0.length cp0, .int .i64 a1] (by kernel_rfl) ((quorum_tally.calls k J a0 Ap0 cp0 a1 w hs.im hlp0 (Rd.ext hJ hrp0) t1 hA1).mono ?_)
   rintro e w' ⟨v, rfl, J2, g0_, rfl, hg, hm0_⟩
   exact ⟨_, rfl, fun _ => (none, g0_, []), J2, rfl, hg, hm0_, trivial⟩
 ·refine Givens.consS (fun D u w hp hS =>  ?_) (fun _ _ _ => rfl) (Givens.nil)
  ·obtain ⟨J, hJ, hs, hF⟩ := hS
   exact giv_look mt69 (2, 0, a2.f0, a2.f1) (((hF.1 (hp 2 (by kernel_rfl) (by kernel_rfl))).1)) hs.im (by kernel_rfl)
 intro u I1 nx1 hi1 hF
 have hf1 := ((hF.1 rfl).1)
 clear hF
 refine RL.norm (K' := [(8, .int .u32 ((mget t1 (2, 0, a2.f0, a2.f1)).getD 0)), (18, .bool (mget t1 (2, 0, a2.f0, a2.f1)).isSome), (17, .int .u32 ((mget t1 (2, 0, a2.f0, a2.f1)).getD 0)), (10, .tuple #[.int .u32 ((mget t1 (2, 0, a2.f0, a2.f1)).getD 0), .bool (mget t1 (2, 0, a2.f0, a2.f1)).isSome]), (16, .tuple #[.int .u32 ((mget t1 (2, 0, a2.f0, a2.f1)).getD 0), .bool (mget t1 (2, 0, a2.f0, a2.f1)).isSome]), (15, .agg #[.int .i64 2, .int .i64 0, .int .i64 a2.f0, .int .i64 a2.f1]), (14, .agg #[.int .i64 a2.f0, .int .i64 a2.f1]), (13, .map (some ((u 2 0).2.1))), (12, .int .i64 a1), (11, .slice Ap0 a0.length cp0), (5, .pointer (some ⟨nx0, 0, none⟩)), (0, .slice Ap0 a0.length cp0), (1, .int .i64 a1)]) (X' := []) (by kernel_rfl) rfl rfl rfl ?_
 revert hf1
 generalize (u 2 0).1 = A1
 generalize (u 2 0).2.1 = c1
 generalize (u 2 0).2.2 = cs1
 intro hf1
 clear u
 refine RL.simK (K' := [(9, .bool (mget t1 (2, 0, a2.f0, a2.f1)).isSome), (8, .int .u32 ((mget t1 (2, 0, a2.f0, a2.f1)).getD 0))]) [] (RFacts.nil _ _ _) 1 [.no] (by kernel_rfl) (by kernel_rfl) ?_
 refine RL.nil (by kernel_rfl) ?_
 refine QN.then_ ?_
 refine OK.seq K14_7 K14_9 (by kernel_rfl) ?_
 refine OK.region 2 O14_7 (by kernel_rfl) ?_
 refine RL.simK (K' := [(7, .bool (mget t1 (2, 0, a2.f0, a2.f1)).isSome), (6, .int .u32 ((mget t1 (2, 0, a2.f0, a2.f1)).getD 0))]) [] (RFacts.nil _ _ _) 4 [.no, .no, .no, .no] (by kernel_rfl) (by kernel_rfl) ?_
 refine RL.nil (by kernel_rfl) ?_
 refine QN.then_ ?_
 refine OK.ret (by kernel_rfl) ?_
 obtain rfl := Option.some.inj H
 refine QN.body rfl [] (RFacts.nil _ _ _) (.no) (.tuple #[.int .u32 ((mget t1 (2, 0, a2.f0, a2.f1)).getD 0), .bool (mget t1 (2, 0, a2.f0, a2.f1)).isSome]) (by kernel_rfl) (by kernel_rfl) (by kernel_rfl) ?_ _ (.inr rfl)
 exact fun w' hs' => ⟨_, rfl, I1, rfl, hs'.got _ .slnil⟩

end Go.Proofs.Ytieakigoinebdaa
namespace Go.Proofs.Ytieakigoinebdaa
open Go Go.Proofs.Ytieakigoinebdaa.RW
set_option linter.unusedVariables false
set_option maxRecDepth 100000
set_option maxHeartbeats 8000000

/-! ### quorum_Committed: function 16, armillary/quorum.Committed -/
noncomputable def K16_0 : Code := cBody Try.f16
noncomputable def K16_1 : Code := cL K16_0
noncomputable def O16_1 : List Oper := cOps K16_1
noncomputable def K16_3 : Code := cR K16_0
noncomputable def K16_4 : Code := cL K16_3
noncomputable def O16_4 : List Oper := cOps K16_4
noncomputable def K16_6 : Code := cR K16_3
noncomputable def K16_7 : Code := cL K16_6
noncomputable def O16_7 : List Oper := cOps K16_7
noncomputable def K16_9 : Code := cR K16_6
def quorum_Committed.f (k : Nat) (a0 : List S32) (a1 : Int) (a2 : S24) : Option (Int × Bool) := ((quorum_tally.f k a0 a1).bind fun t1 => (some ((mget t1 (3, 0, a2.f0, a2.f1)).getD 0, (mget t1 (3, 0, a2.f0, a2.f1)).isSome)))
def quorum_Committed.Post (I : Imm) (w : World) (r : Int × Bool) (v : Value) (w' : World) : Prop :=
 ∃ (J : Imm), v = .tuple #[.int .u32 r.1, .bool r.2] ∧ Got w w' I J []
noncomputable def a16_4n : List Nat := [0, 0, 3, 0, 8, 31, 63, 127, 127, 255, 1023]
theorem a16_4 : ancs O16_4 [] = a16_4n := by kernel_rfl
theorem a16_4o : drawOk O16_4 a16_4n 10 = true := by kernel_rfl
noncomputable def u16d1l (t1 : (List (VK × Int))) : List Ld :=
 [⟨2, fun x => .map (some ((x 0).2.1)), fun x => [], fun x J => Mp kV (Value.int .u32) J (x 0).2.1 t1 ∧ True, fun x J J' h f => ⟨Mp.ext h f.1, trivial⟩⟩]
noncomputable def u16d1g (a2 : S24) (t1 : (List (VK × Int))) : List (Nat × ((Nat → Wt) → Value)) := [(5, fun u => .tuple #[.int .u32 ((mget t1 (3, 0, a2.f0, a2.f1)).getD 0), .bool (mget t1 (3, 0, a2.f0, a2.f1)).isSome])]
noncomputable def u16d1q (a0 : List S32) (Ap0 : Option Addr) (cp0 : Nat) (a1 : Int) (a2 : S24) (nx0 : Nat) (t1 : (List (VK × Int))) (u : Nat → Wt) : Option (List Value × List (Nat × Value) × List (Nat × Nat)) := qSim Try.prog [] [⟨nx0, [.int .i64 a2.f0, .int .i64 a2.f1], 24⟩] O16_4 ⟨21, []⟩ (Ld.vl (u16d1l t1)) (u16d1g a2 t1) u [.no, .no, .no, .l 0, .no, .no, .no, .no, .no, .no] 0 (O16_4.take 10) [(5, .pointer (some ⟨nx0, 0, none⟩)), (0, .slice Ap0 a0.length cp0), (1, .int .i64 a1)]
noncomputable def u16d1s (a0 : List S32) (Ap0 : Option Addr) (cp0 : Nat) (a1 : Int) (a2 : S24) (t1 : (List (VK × Int))) (u : Nat → Wt) : List Value := [.slice Ap0 a0.length cp0, .int .i64 a1, .map (some ((u 2 0).2.1)), .agg #[.int .i64 a2.f0, .int .i64 a2.f1], .agg #[.int .i64 3, .int .i64 0, .int .i64 a2.f0, .int .i64 a2.f1], .tuple #[.int .u32 ((mget t1 (3, 0, a2.f0, a2.f1)).getD 0), .bool (mget t1 (3, 0, a2.f0, a2.f1)).isSome], .tuple #[.int .u32 ((mget t1 (3, 0, a2.f0, a2.f1)).getD 0), .bool (mget t1 (3, 0, a2.f0, a2.f1)).isSome], .int .u32 ((mget t1 (3, 0, a2.f0, a2.f1)).getD 0), .bool (mget t1 (3, 0, a2.f0, a2.f1)).isSome, .int .u32 ((mget t1 (3, 0, a2.f0, a2.f1)).getD 0)]
noncomputable def u16d1f (a0 : List S32) (Ap0 : Option Addr) (cp0 : Nat) (a1 : Int) (a2 : S24) (nx0 : Nat) (t1 : (List (VK × Int))) (i : Nat) (u : Nat → Wt) : List (Nat × Value) := foldPut ⟨21, []⟩ [(5, .pointer (some ⟨nx0, 0, none⟩)), (0, .slice Ap0 a0.length cp0), (1, .int .i64 a1)] (O16_4.take i) (((u16d1s a0 Ap0 cp0 a1 a2 t1) u).take i)
theorem u16d1v (a0 : List S32) (Ap0 : Option Addr) (cp0 : Nat) (a1 : Int) (a2 : S24) (nx0 : Nat) (t1 : (List (VK × Int))) (u : Nat → Wt) : (u16d1q a0 Ap0 cp0 a1 a2 nx0 t1 u).map (fun x => (x.1, x.2.1)) = some ((u16d1s a0 Ap0 cp0 a1 a2 t1) u, (u16d1f a0 Ap0 cp0 a1 a2 nx0 t1 10) u) := by kernel_rfl
theorem u16d1e (a0 : List S32) (Ap0 : Option Addr) (cp0 : Nat) (a1 : Int) (a2 : S24) (nx0 : Nat) (t1 : (List (VK × Int))) (u : Nat → Wt) : (u16d1q a0 Ap0 cp0 a1 a2 nx0 t1 u).map (fun x => x.2.2.map (·.1)) = (u16d1q a0 Ap0 cp0 a1 a2 nx0 t1 u).map (fun x => x.2.2.map (·.2)) := by kernel_rfl
theorem quorum_Committed.calls (k : Nat) (I0 : Imm) (a0 : List S32) (Ap0 : Option Addr) (cp0 : Nat) (a1 : Int) (a2 : S24) (w : World) (hI : I0.at_ w) (hlp0 : a0.length ≤ cp0) (hrp0 : Rd t32 I0 Ap0 a0) (r : Int × Bool) (h : quorum_Committed.f k a0 a1 a2 = some r) :
  Calls Try.prog 16 [.slice Ap0 a0.length cp0, .int .i64 a1, .agg #[.int .i64 a2.f0, .int .i64 a2.f1]].toArray w fun e w' => ∃ v, e = .returned v ∧ quorum_Committed.Post I0 w r v w' := by
 have H : ((quorum_tally.f k a0 a1).bind fun t1 => (some ((mget t1 (3, 0, a2.f0, a2.f1)).getD 0, (mget t1 (3, 0, a2.f0, a2.f1)).isSome))) = some r := h
 clear h
 refine calls_body Try.func16 (by kernel_rfl) 21 (by kernel_rfl) (by kernel_rfl) ⟨w, fun _ => False, I0⟩ I0 [] [(0, .slice Ap0 a0.length cp0), (1, .int .i64 a1), (2, .agg #[.int .i64 a2.f0, .int .i64 a2.f1])] (by kernel_rfl) (Sat.start w _ I0 hI) ?_
 generalize w.heap.size = nx0
 show OK _ K16_0 _ _ _ _ _ _ _ _
 refine OK.seq K16_1 K16_3 (by kernel_rfl) ?_
 refine OK.region 0 O16_1 (by kernel_rfl) ?_
 refine RL.simP (K' := [(5, .pointer (some ⟨nx0, 0, none⟩)), (0, .slice Ap0 a0.length cp0), (1, .int .i64 a1)]) (nx' := nx0 + 1) (L' := [⟨nx0, [.int .i64 a2.f0, .int .i64 a2.f1], 24⟩]) [] (RFacts.nil _ _ _) 3 [.no, .no, .no] (by kernel_rfl) (by kernel_rfl) ?_
 refine RL.nil (by kernel_rfl) ?_
 refine QN.then_ ?_
 refine OK.seq K16_4 K16_6 (by kernel_rfl) ?_
 obtain ⟨t1, hA1, H⟩ := Option.bind_eq_some_iff.mp H
 refine OK.drawnC 1 10 O16_4 a16_4n (by kernel_rfl) (by kernel_rfl) (u16d1l t1) (u16d1g a2 t1) [] (RI.nil _) [.no, .no, .no, .l 0, .no, .no, .no, .no, .no, .no] a16_4 a16_4o (by kernel_rfl) (by kernel_rfl) (u16d1s a0 Ap0 cp0 a1 a2 t1) (u16d1f a0 Ap0 cp0 a1 a2 nx0 t1 10) (u16d1v a0 Ap0 cp0 a1 a2 nx0 t1) (u16d1e a0 Ap0 cp0 a1 a2 nx0 t1) [u16d1f a0 Ap0 cp0 a1 a2 nx0 t1 2] (framesOk.cons (fun u => rfl) framesOk.nil) ?_ [u16d1f a0 Ap0 cp0 a1 a2 nx0 t1 5] (framesOk.cons (fun u => rfl) framesOk.nil) ?_ ?_
 ·refine LoudsG.cons ?_ (LoudsG.nil)
  ·intro D u J w hp hJ hs hF
   refine Does.call 35 [.slice Ap0 a0.length cp0, .int .i64 a1] (by kernel_rfl) ((quorum_tally.calls k J a0 Ap0 cp0 a1 w hs.im hlp0 (Rd.ext hJ hrp0) t1 hA1).mono ?_)
   rintro e w' ⟨v, rfl, J2, g0_, rfl, hg, hm0_⟩
   exact ⟨_, rfl, fun _ => (none, g0_, []), J2, rfl, hg, hm0_, trivial⟩
 ·refine Givens.consS (fun D u w hp hS =>  ?_) (fun _ _ _ => rfl) (Givens.nil)
  ·obtain ⟨J, hJ, hs, hF⟩ := hS
   exact giv_look mt69 (3, 0, a2.f0, a2.f1) (((hF.1 (hp 2 (by kernel_rfl) (by kernel_rfl))).1)) hs.im (by kernel_rfl)
 intro u I1 nx1 hi1 hF
 have hf1 := ((hF.1 rfl).1)
 clear hF
 refine RL.norm (K' := [(8, .int .u32 ((mget t1 (3, 0, a2.f0, a2.f1)).getD 0)), (18, .bool (mget t1 (3, 0, a2.f0, a2.f1)).isSome), (17, .int .u32 ((mget t1 (3, 0, a2.f0, a2.f1)).getD 0)), (10, .tuple #[.int .u32 ((mget t1 (3, 0, a2.f0, a2.f1)).getD 0), .bool (mget t1 (3, 0, a2.f0, a2.f1)).isSome]), (16, .tuple #[.int .u32 ((mget t1 (3, 0, a2.f0, a2.f1)).getD 0), .bool (mget t1 (3, 0, a2.f0, a2.f1)).isSome]), (15, .agg #[.int .i64 3, .int .i64 0, .int .i64 a2.f0, .int .i64 a2.f1]), (14, .agg #[.int .i64 a2.f0, .int .i64 a2.f1]), (13, .map (some ((u 2 0).2.1))), (12, .int .i64 a1), (11, .slice Ap0 a0.length cp0), (5, .pointer (some ⟨nx0, 0, none⟩)), (0, .slice Ap0 a0.length cp0), (1, .int .i64 a1)]) (X' := []) (by kernel_rfl) rfl rfl rfl ?_
 revert hf1
 generalize (u 2 0).1 = A1
 generalize (u 2 0).2.1 = c1
 generalize (u 2 0).2.2 = cs1
 intro hf1
 clear u
 refine RL.simK (K' := [(9, .bool (mget t1 (3, 0, a2.f0, a2.f1)).isSome), (8, .int .u32 ((mget t1 (3, 0, a2.f0, a2.f1)).getD 0))]) [] (RFacts.nil _ _ _) 1 [.no] (by kernel_rfl) (by kernel_rfl) ?_
 refine RL.nil (by kernel_rfl) ?_
 refine QN.then_ ?_
 refine OK.seq K16_7 K16_9 (by kernel_rfl) ?_
 refine OK.region 2 O16_7 (by kernel_rfl) ?_
 refine RL.simK (K' := [(7, .bool (mget t1 (3, 0, a2.f0, a2.f1)).isSome), (6, .int .u32 ((mget t1 (3, 0, a2.f0, a2.f1)).getD 0))]) [] (RFacts.nil _ _ _) 4 [.no, .no, .no, .no] (by kernel_rfl) (by kernel_rfl) ?_
 refine RL.nil (by kernel_rfl) ?_
 refine QN.then_ ?_
 refine OK.ret (by kernel_rfl) ?_
 obtain rfl := Option.some.inj H
 refine QN.body rfl [] (RFacts.nil _ _ _) (.no) (.tuple #[.int .u32 ((mget t1 (3, 0, a2.f0, a2.f1)).getD 0), .bool (mget t1 (3, 0, a2.f0, a2.f1)).isSome]) (by kernel_rfl) (by kernel_rfl) (by kernel_rfl) ?_ _ (.inr rfl)
 exact fun w' hs' => ⟨_, rfl, I1, rfl, hs'.got _ .slnil⟩

end Go.Proofs.Ytieakigoinebdaa
namespace Go.Proofs.Ytieakigoinebdaa
open Go Go.Proofs.Ytieakigoinebdaa.RW
set_option linter.unusedVariables false
set_option maxRecDepth 100000
set_option maxHeartbeats 8000000

/-! ### armillaryref29_replicas: function 33, armillary/armillaryref29.replicas -/
noncomputable def K33_0 : Code := cBody Try.f33
noncomputable def K33_1 : Code := cL K33_0
noncomputable def O33_1 : List Oper := cOps K33_1
noncomputable def K33_3 : Code := cR K33_0
noncomputable def K33_4 : Code := cL K33_3
noncomputable def O33_4 : List Oper := cOps K33_4
noncomputable def K33_6 : Code := cR K33_3
def armillaryref29_replicas.k1  (x1 : Bool) : Option (Bool) := (some x1)
def armillaryref29_replicas.f (a0 : Int) : Option (Bool) := ((if a0 ≥ 1 then (some (decide (a0 ≤ 13))) else (some false)).bind (armillaryref29_replicas.k1))
def armillaryref29_replicas.Post (I : Imm) (w : World) (r : Bool) (v : Value) (w' : World) : Prop :=
 ∃ (J : Imm), v = .bool r ∧ Got w w' I J []
theorem armillaryref29_replicas.calls (I0 : Imm) (a0 : Int) (w : World) (hI : I0.at_ w)  (r : Bool) (h : armillaryref29_replicas.f a0 = some r) :
  Calls Try.prog 33 [.int .i64 a0].toArray w fun e w' => ∃ v, e = .returned v ∧ armillaryref29_replicas.Post I0 w r v w' := by
 have H : ((if a0 ≥ 1 then (some (decide (a0 ≤ 13))) else (some false)).bind (armillaryref29_replicas.k1)) = some r := h
 clear h
 refine calls_body Try.func33 (by kernel_rfl) 9 (by kernel_rfl) (by kernel_rfl) ⟨w, fun _ => False, I0⟩ I0 [] [(0, .int .i64 a0)] (by kernel_rfl) (Sat.start w _ I0 hI) ?_
 generalize w.heap.size = nx0
 show OK _ K33_0 _ _ _ _ _ _ _ _
 refine OK.seq K33_1 K33_3 (by kernel_rfl) ?_
 refine OK.region 0 O33_1 (by kernel_rfl) ?_
 refine RL.simK (K' := [(0, .int .i64 a0)]) [] (RFacts.nil _ _ _) 1 [.no] (by kernel_rfl) (by kernel_rfl) ?_
 refine RL.nil (by kernel_rfl) ?_
 refine QN.then_ ?_
 refine OK.seq K33_4 K33_6 (by kernel_rfl) ?_
 refine OK.join (fun K' I' _ L' X' => ∃ (x1 : Bool), K' = [(2, .bool x1)] ∧ L' = [] ∧ X' = [] ∧ Imm.le I0 I' ∧ armillaryref29_replicas.k1 x1 = some r) ?_ ?_
 ·rintro _ I1 nx1 _ _ ⟨x1, rfl, rfl, rfl, hi1, H⟩
  replace H : (some x1) = some r := H
  refine QN.then_ ?_
  refine OK.ret (by kernel_rfl) ?_
  obtain rfl := Option.some.inj H
  refine QN.body rfl [] (RFacts.nil _ _ _) (.no) (.bool x1) (by kernel_rfl) (by kernel_rfl) (by kernel_rfl) ?_ _ (.inr rfl)
  exact fun w' hs' => ⟨_, rfl, I1, rfl, hs'.got _ .slnil⟩
 ·intro Q_1 hJ1 hQ1
  obtain ⟨y1, H, HK1⟩ := Option.bind_eq_some_iff.mp H
  refine OK.region 1 O33_4 (by kernel_rfl) ?_
  refine RL.simK (K' := [(5, .bool (decide (a0 ≥ 1))), (0, .int .i64 a0)]) [] (RFacts.nil _ _ _) 3 [.no, .no, .no] (by kernel_rfl) (by kernel_rfl) ?_
  refine RL.cases (decide (a0 ≥ 1)) (fun hb => ?_) (fun hb => ?_)
  ·have hc := (of_decide_eq_true hb)
   rw [hb]
   rw [if_pos hc] at H; clear hb
   refine RL.simK (K' := [(2, .bool (decide (a0 ≤ 13)))]) [] (RFacts.nil _ _ _) 4 [.no, .no, .no, .no] (by kernel_rfl) (by kernel_rfl) ?_
   refine RL.nil (by kernel_rfl) ?_
   obtain rfl := Option.some.inj H
   refine QN.sub (K' := [(2, .bool (decide (a0 ≤ 13)))]) (L' := []) (by kernel_rfl) .slnil (.refl _) ?_
   exact hJ1 _ _ _ _ _ ⟨(decide (a0 ≤ 13)), rfl, rfl, rfl, (Imm.le_refl _), HK1⟩
  ·have hc := (of_decide_eq_false hb)
   rw [hb]
   rw [if_neg hc] at H; clear hb
   refine RL.simK (K' := [(2, .bool false)]) [] (RFacts.nil _ _ _) 4 [.no, .no, .no, .no] (by kernel_rfl) (by kernel_rfl) ?_
   refine RL.nil (by kernel_rfl) ?_
   obtain rfl := Option.some.inj H
   refine QN.sub (K' := [(2, .bool false)]) (L' := []) (by kernel_rfl) .slnil (.refl _) ?_
   exact hJ1 _ _ _ _ _ ⟨false, rfl, rfl, rfl, (Imm.le_refl _), HK1⟩

end Go.Proofs.Ytieakigoinebdaa
namespace Go.Proofs.Ytieakigoinebdaa
open Go Go.Proofs.Ytieakigoinebdaa.RW
set_option linter.unusedVariables false
set_option maxRecDepth 100000
set_option maxHeartbeats 8000000

/-! ### armillaryref29_Leader: function 25, armillary/armillaryref29.Leader -/
noncomputable def K25_0 : Code := cBody Try.f25
noncomputable def K25_1 : Code := cL K25_0
noncomputable def O25_1 : List Oper := cOps K25_1
noncomputable def K25_3 : Code := cR K25_0
noncomputable def K25_4 : Code := cL K25_3
noncomputable def K25_5 : Code := cL K25_4
noncomputable def O25_5 : List Oper := cOps K25_5
noncomputable def K25_7 : Code := cR K25_4
noncomputable def K25_8 : Code := cL K25_7
noncomputable def K25_9 : Code := cL K25_8
noncomputable def O25_9 : List Oper := cOps K25_9
noncomputable def K25_11 : Code := cR K25_8
noncomputable def K25_12 : Code := cR K25_7
noncomputable def K25_13 : Code := cR K25_3
noncomputable def K25_14 : Code := cL K25_13
noncomputable def O25_14 : List Oper := cOps K25_14
noncomputable def K25_16 : Code := cR K25_13
def armillaryref29_Leader.k1 (a0 : Int) (a1 : Int) (x1 : Bool) : Option (Int) := (if x1 = true then (some (-1)) else (if a0 = 0 then none else (some (a1.tmod a0))))
def armillaryref29_Leader.f (a0 : Int) (a1 : Int) : Option (Int) := (((armillaryref29_replicas.f a0).bind fun t1 => (if t1 = true then (some (decide (a1 < 0))) else (some true))).bind (armillaryref29_Leader.k1 a0 a1))
def armillaryref29_Leader.Post (I : Imm) (w : World) (r : Int) (v : Value) (w' : World) : Prop :=
 ∃ (J : Imm), v = .int .i64 r ∧ Got w w' I J []
theorem armillaryref29_Leader.calls (I0 : Imm) (a0 : Int) (a1 : Int) (w : World) (hI : I0.at_ w)  (r : Int) (h : armillaryref29_Leader.f a0 a1 = some r) :
  Calls Try.prog 25 [.int .i64 a0, .int .i64 a1].toArray w fun e w' => ∃ v, e = .returned v ∧ armillaryref29_Leader.Post I0 w r v w' := by
 have H : (((armillaryref29_replicas.f a0).bind fun t1 => (if t1 = true then (some (decide (a1 < 0))) else (some true))).bind (armillaryref29_Leader.k1 a0 a1)) = some r := h
 clear h
 refine calls_body Try.func25 (by kernel_rfl) 15 (by kernel_rfl) (by kernel_rfl) ⟨w, fun _ => False, I0⟩ I0 [] [(0, .int .i64 a0), (1, .int .i64 a1)] (by kernel_rfl) (Sat.start w _ I0 hI) ?_
 generalize w.heap.size = nx0
 show OK _ K25_0 _ _ _ _ _ _ _ _
 refine OK.seq K25_1 K25_3 (by kernel_rfl) ?_
 refine OK.region 0 O25_1 (by kernel_rfl) ?_
 refine RL.simK (K' := [(0, .int .i64 a0), (1, .int .i64 a1)]) [] (RFacts.nil _ _ _) 1 [.no] (by kernel_rfl) (by kernel_rfl) ?_
 refine RL.nil (by kernel_rfl) ?_
 refine QN.then_ ?_
 refine OK.seq K25_4 K25_13 (by kernel_rfl) ?_
 refine OK.seq K25_5 K25_7 (by kernel_rfl) ?_
 refine OK.join (fun K' I' _ L' X' => ∃ (x1 : Bool), K' = [(0, .int .i64 a0), (1, .int .i64 a1), (11, .bool x1)] ∧ L' = [] ∧ X' = [] ∧ Imm.le I0 I' ∧ armillaryref29_Leader.k1 a0 a1 x1 = some r) ?_ ?_
 ·rintro _ I1 nx1 _ _ ⟨x1, rfl, rfl, rfl, hi1, H⟩
  replace H : (if x1 = true then (some (-1)) else (if a0 = 0 then none else (some (a1.tmod a0)))) = some r := H
  refine QN.then_ ?_
  refine OK.cond (.tmp 11) K25_8 K25_12 x1 (by kernel_rfl) (by kernel_rfl) (by kernel_rfl) (fun hb => ?_) (fun hb => ?_)
  ·skip
   have hc := hb
   rw [if_pos hc] at H
   clear hb
   refine OK.seq K25_9 K25_11 (by kernel_rfl) ?_
   refine OK.region 2 O25_9 (by kernel_rfl) ?_
   refine RL.simK (K' := [(4, .int .i64 (-1))]) [] (RFacts.nil _ _ _) 1 [.no] (by kernel_rfl) (by kernel_rfl) ?_
   refine RL.nil (by kernel_rfl) ?_
   refine QN.then_ ?_
   refine OK.ret (by kernel_rfl) ?_
   refine QN.thenR ?_
   obtain rfl := Option.some.inj H
   refine QN.body rfl [] (RFacts.nil _ _ _) (.no) (.int .i64 (-1)) (by kernel_rfl) (by kernel_rfl) (by kernel_rfl) ?_ _ (.inr rfl)
   exact fun w' hs' => ⟨_, rfl, I1, rfl, hs'.got _ .slnil⟩
  ·skip
   have hc := (Bool.eq_false_iff.1 hb)
   rw [if_neg hc] at H
   clear hb
   refine OK.skip (by kernel_rfl) ?_
   refine QN.then_ ?_
   refine OK.seq K25_14 K25_16 (by kernel_rfl) ?_
   refine OK.region 3 O25_14 (by kernel_rfl) ?_
   refine RL.simK (K' := [(13, .int .i64 a0), (12, .int .i64 a1)]) [] (RFacts.nil _ _ _) 2 [.no, .no] (by kernel_rfl) (by kernel_rfl) ?_
   by_cases hc : a0 = 0
   ·rw [if_pos hc] at H; cases H
   rw [if_neg hc] at H
   refine RL.rem .i64 a1 a0 (some 14) (by kernel_rfl) (by kernel_rfl) hc (K' := [(14, .int .i64 (a1.tmod a0)), (13, .int .i64 a0), (12, .int .i64 a1)]) (by kernel_rfl) ?_
   refine RL.simK (K' := [(4, .int .i64 (a1.tmod a0))]) [] (RFacts.nil _ _ _) 1 [.no] (by kernel_rfl) (by kernel_rfl) ?_
   refine RL.nil (by kernel_rfl) ?_
   refine QN.then_ ?_
   refine OK.ret (by kernel_rfl) ?_
   obtain rfl := Option.some.inj H
   refine QN.body rfl [] (RFacts.nil _ _ _) (.no) (.int .i64 (a1.tmod a0)) (by kernel_rfl) (by kernel_rfl) (by kernel_rfl) ?_ _ (.inr rfl)
   exact fun w' hs' => ⟨_, rfl, I1, rfl, hs'.got _ .slnil⟩
 ·intro Q_1 hJ1 hQ1
  obtain ⟨y1, H, HK1⟩ := Option.bind_eq_some_iff.mp H
  refine OK.region 1 O25_5 (by kernel_rfl) ?_
  refine RL.simK (K' := [(5, .int .i64 a0), (0, .int .i64 a0), (1, .int .i64 a1)]) [] (RFacts.nil _ _ _) 1 [.no] (by kernel_rfl) (by kernel_rfl) ?_
  obtain ⟨t1, hA1, H⟩ := Option.bind_eq_some_iff.mp H
  refine RL.callP 33 [.int .i64 a0] (some 6) (fun w => armillaryref29_replicas.Post I0 w t1) (by kernel_rfl) (by kernel_rfl) (fun w hs => armillaryref29_replicas.calls I0 a0 w hs.im  t1 hA1) ?_
  rintro w v w' hs ⟨I2, rfl, hg⟩
  have hi2 := hg.le
  refine RL.resume (X' := []) rfl (hs.call hg) ?_
  clear hs hg
  generalize w'.heap.size = nx2
  clear w w'
  refine RL.simK (K' := [(8, .bool (!t1)), (0, .int .i64 a0), (1, .int .i64 a1)]) [] (RFacts.nil _ _ _) 2 [.no, .no] (by kernel_rfl) (by kernel_rfl) ?_
  refine RL.cases t1 (fun hb => ?_) (fun hb => ?_)
  ·have hc := hb
   rw [hb]
   rw [if_pos hc] at H; clear hb
   refine RL.simK (K' := [(11, .bool (decide (a1 < 0))), (0, .int .i64 a0), (1, .int .i64 a1)]) [] (RFacts.nil _ _ _) 3 [.no, .no, .no] (by kernel_rfl) (by kernel_rfl) ?_
   refine RL.nil (by kernel_rfl) ?_
   obtain rfl := Option.some.inj H
   refine QN.sub (K' := [(0, .int .i64 a0), (1, .int .i64 a1), (11, .bool (decide (a1 < 0)))]) (L' := []) (by kernel_rfl) .slnil (.refl _) ?_
   exact hJ1 _ _ _ _ _ ⟨(decide (a1 < 0)), rfl, rfl, rfl, hi2, HK1⟩
  ·have hc := (Bool.eq_false_iff.1 hb)
   rw [hb]
   rw [if_neg hc] at H; clear hb
   refine RL.simK (K' := [(11, .bool true), (0, .int .i64 a0), (1, .int .i64 a1)]) [] (RFacts.nil _ _ _) 3 [.no, .no, .no] (by kernel_rfl) (by kernel_rfl) ?_
   refine RL.nil (by kernel_rfl) ?_
   obtain rfl := Option.some.inj H
   refine QN.sub (K' := [(0, .int .i64 a0), (1, .int .i64 a1), (11, .bool true)]) (L' := []) (by kernel_rfl) .slnil (.refl _) ?_
   exact hJ1 _ _ _ _ _ ⟨true, rfl, rfl, rfl, hi2, HK1⟩

end Go.Proofs.Ytieakigoinebdaa
namespace Go.Proofs.Ytieakigoinebdaa
open Go Go.Proofs.Ytieakigoinebdaa.RW
set_option linter.unusedVariables false
set_option maxRecDepth 100000
set_option maxHeartbeats 8000000

/-! ### armillaryref27_ValidEntry: function 47, armillary/armillaryref27.ValidEntry -/
noncomputable def K47_0 : Code := cBody Try.f47
noncomputable def K47_1 : Code := cL K47_0
noncomputable def O47_1 : List Oper := cOps K47_1
noncomputable def K47_3 : Code := cR K47_0
noncomputable def K47_4 : Code := cL K47_3
noncomputable def O47_4 : List Oper := cOps K47_4
noncomputable def K47_6 : Code := cR K47_3
def armillaryref27_ValidEntry.k1  (x1 : Bool) : Option (Bool) := (some x1)
def armillaryref27_ValidEntry.f (a0 : S30) : Option (Bool) := ((if a0.f0 ≥ 1 then (if a0.f0 ≤ 4 then (if (a0.f1.size : Int) ≥ 1 then (if (a0.f1.size : Int) ≤ 40 then (some (decide ((a0.f2.length : Int) ≤ 20000))) else (some false)) else (some false)) else (some false)) else (some false)).bind (armillaryref27_ValidEntry.k1))
def armillaryref27_ValidEntry.Post (I : Imm) (w : World) (r : Bool) (v : Value) (w' : World) : Prop :=
 ∃ (J : Imm), v = .bool r ∧ Got w w' I J []
theorem armillaryref27_ValidEntry.calls (I0 : Imm) (a0 : S30) (Ap0_2 : Option Addr) (cp0_2 : Nat) (w : World) (hI : I0.at_ w) (hlp0_2 : a0.f2.length ≤ cp0_2) (hrp0_2 : Rd (Ty.int .u8) I0 Ap0_2 a0.f2) (r : Bool) (h : armillaryref27_ValidEntry.f a0 = some r) :
  Calls Try.prog 47 [.agg #[.int .i64 a0.f0, .string a0.f1, .slice Ap0_2 a0.f2.length cp0_2]].toArray w fun e w' => ∃ v, e = .returned v ∧ armillaryref27_ValidEntry.Post I0 w r v w' := by
 have H : ((if a0.f0 ≥ 1 then (if a0.f0 ≤ 4 then (if (a0.f1.size : Int) ≥ 1 then (if (a0.f1.size : Int) ≤ 40 then (some (decide ((a0.f2.length : Int) ≤ 20000))) else (some false)) else (some false)) else (some false)) else (some false)).bind (armillaryref27_ValidEntry.k1)) = some r := h
 clear h
 refine calls_body Try.func47 (by kernel_rfl) 29 (by kernel_rfl) (by kernel_rfl) ⟨w, fun _ => False, I0⟩ I0 [] [(0, .agg #[.int .i64 a0.f0, .string a0.f1, .slice Ap0_2 a0.f2.length cp0_2])] (by kernel_rfl) (Sat.start w _ I0 hI) ?_
 generalize w.heap.size = nx0
 show OK _ K47_0 _ _ _ _ _ _ _ _
 refine OK.seq K47_1 K47_3 (by kernel_rfl) ?_
 refine OK.region 0 O47_1 (by kernel_rfl) ?_
 refine RL.simP (K' := [(1, .pointer (some ⟨nx0, 0, none⟩))]) (nx' := nx0 + 1) (L' := [⟨nx0, [.int .i64 a0.f0, .string a0.f1, .slice Ap0_2 a0.f2.length cp0_2], 30⟩]) [] (RFacts.nil _ _ _) 2 [.no, .no] (by kernel_rfl) (by kernel_rfl) ?_
 refine RL.nil (by kernel_rfl) ?_
 refine QN.then_ ?_
 refine OK.seq K47_4 K47_6 (by kernel_rfl) ?_
 refine OK.join (fun K' I' _ L' X' => ∃ (x1 : Bool), K' = [(2, .bool x1)] ∧ L' = [⟨nx0, [.int .i64 a0.f0, .string a0.f1, .slice Ap0_2 a0.f2.length cp0_2], 30⟩] ∧ X' = [] ∧ Imm.le I0 I' ∧ armillaryref27_ValidEntry.k1 x1 = some r) ?_ ?_
 ·rintro _ I1 nx1 _ _ ⟨x1, rfl, rfl, rfl, hi1, H⟩
  replace H : (some x1) = some r := H
  refine QN.then_ ?_
  refine OK.ret (by kernel_rfl) ?_
  obtain rfl := Option.some.inj H
  refine QN.body rfl [] (RFacts.nil _ _ _) (.no) (.bool x1) (by kernel_rfl) (by kernel_rfl) (by kernel_rfl) ?_ _ (.inr rfl)
  exact fun w' hs' => ⟨_, rfl, I1, rfl, hs'.got _ .slnil⟩
 ·intro Q_1 hJ1 hQ1
  obtain ⟨y1, H, HK1⟩ := Option.bind_eq_some_iff.mp H
  refine OK.region 1 O47_4 (by kernel_rfl) ?_
  refine RL.simK (K' := [(6, .bool (decide (a0.f0 ≥ 1))), (1, .pointer (some ⟨nx0, 0, none⟩))]) [] (RFacts.nil _ _ _) 4 [.no, .l 0, .no, .no] (by kernel_rfl) (by kernel_rfl) ?_
  refine RL.cases (decide (a0.f0 ≥ 1)) (fun hb => ?_) (fun hb => ?_)
  ·have hc := (of_decide_eq_true hb)
   rw [hb]
   rw [if_pos hc] at H; clear hb
   refine RL.simK (K' := [(11, .bool (decide (a0.f0 ≤ 4))), (1, .pointer (some ⟨nx0, 0, none⟩))]) [] (RFacts.nil _ _ _) 5 [.no, .l 0, .no, .no, .no] (by kernel_rfl) (by kernel_rfl) ?_
   refine RL.cases (decide (a0.f0 ≤ 4)) (fun hb => ?_) (fun hb => ?_)
   ·have hc := (of_decide_eq_true hb)
    rw [hb]
    rw [if_pos hc] at H; clear hb
    refine RL.simK (K' := [(17, .bool (decide ((a0.f1.size : Int) ≥ 1))), (1, .pointer (some ⟨nx0, 0, none⟩))]) [] (RFacts.nil _ _ _) 6 [.no, .l 0, .no, .no, .no, .no] (by kernel_rfl) (by kernel_rfl) ?_
    refine RL.cases (decide ((a0.f1.size : Int) ≥ 1)) (fun hb => ?_) (fun hb => ?_)
    ·have hc := (of_decide_eq_true hb)
     rw [hb]
     rw [if_pos hc] at H; clear hb
     refine RL.simK (K' := [(23, .bool (decide ((a0.f1.size : Int) ≤ 40))), (1, .pointer (some ⟨nx0, 0, none⟩))]) [] (RFacts.nil _ _ _) 6 [.no, .l 0, .no, .no, .no, .no] (by kernel_rfl) (by kernel_rfl) ?_
     refine RL.cases (decide ((a0.f1.size : Int) ≤ 40)) (fun hb => ?_) (fun hb => ?_)
     ·have hc := (of_decide_eq_true hb)
      rw [hb]
      rw [if_pos hc] at H; clear hb
      refine RL.simK (K' := [(2, .bool (decide ((a0.f2.length : Int) ≤ 20000)))]) [] (RFacts.nil _ _ _) 6 [.no, .l 0, .no, .no, .no, .no] (by kernel_rfl) (by kernel_rfl) ?_
      refine RL.nil (by kernel_rfl) ?_
      obtain rfl := Option.some.inj H
      refine QN.sub (K' := [(2, .bool (decide ((a0.f2.length : Int) ≤ 20000)))]) (L' := [⟨nx0, [.int .i64 a0.f0, .string a0.f1, .slice Ap0_2 a0.f2.length cp0_2], 30⟩]) (by kernel_rfl) (.cons_cons _ .slnil) (.refl _) ?_
      exact hJ1 _ _ _ _ _ ⟨(decide ((a0.f2.length : Int) ≤ 20000)), rfl, rfl, rfl, (Imm.le_refl _), HK1⟩
     ·have hc := (of_decide_eq_false hb)
      rw [hb]
      rw [if_neg hc] at H; clear hb
      refine RL.simK (K' := [(2, .bool false)]) [] (RFacts.nil _ _ _) 6 [.no, .no, .no, .no, .no, .no] (by kernel_rfl) (by kernel_rfl) ?_
      refine RL.nil (by kernel_rfl) ?_
      obtain rfl := Option.some.inj H
      refine QN.sub (K' := [(2, .bool false)]) (L' := [⟨nx0, [.int .i64 a0.f0, .string a0.f1, .slice Ap0_2 a0.f2.length cp0_2], 30⟩]) (by kernel_rfl) (.cons_cons _ .slnil) (.refl _) ?_
      exact hJ1 _ _ _ _ _ ⟨false, rfl, rfl, rfl, (Imm.le_refl _), HK1⟩
    ·have hc := (of_decide_eq_false hb)
     rw [hb]
     rw [if_neg hc] at H; clear hb
     refine RL.simK (K' := [(2, .bool false)]) [] (RFacts.nil _ _ _) 12 [.no, .no, .no, .no, .no, .no, .no, .no, .no, .no, .no, .no] (by kernel_rfl) (by kernel_rfl) ?_
     refine RL.nil (by kernel_rfl) ?_
     obtain rfl := Option.some.inj H
     refine QN.sub (K' := [(2, .bool false)]) (L' := [⟨nx0, [.int .i64 a0.f0, .string a0.f1, .slice Ap0_2 a0.f2.length cp0_2], 30⟩]) (by kernel_rfl) (.cons_cons _ .slnil) (.refl _) ?_
     exact hJ1 _ _ _ _ _ ⟨false, rfl, rfl, rfl, (Imm.le_refl _), HK1⟩
   ·have hc := (of_decide_eq_false hb)
    rw [hb]
    rw [if_neg hc] at H; clear hb
    refine RL.simK (K' := [(2, .bool false)]) [] (RFacts.nil _ _ _) 18 [.no, .no, .no, .no, .no, .no, .no, .no, .no, .no, .no, .no, .no, .no, .no, .no, .no, .no] (by kernel_rfl) (by kernel_rfl) ?_
    refine RL.nil (by kernel_rfl) ?_
    obtain rfl := Option.some.inj H
    refine QN.sub (K' := [(2, .bool false)]) (L' := [⟨nx0, [.int .i64 a0.f0, .string a0.f1, .slice Ap0_2 a0.f2.length cp0_2], 30⟩]) (by kernel_rfl) (.cons_cons _ .slnil) (.refl _) ?_
    exact hJ1 _ _ _ _ _ ⟨false, rfl, rfl, rfl, (Imm.le_refl _), HK1⟩
  ·have hc := (of_decide_eq_false hb)
   rw [hb]
   rw [if_neg hc] at H; clear hb
   refine RL.simK (K' := [(2, .bool false)]) [] (RFacts.nil _ _ _) 23 [.no, .no, .no, .no, .no, .no, .no, .no, .no, .no, .no, .no, .no, .no, .no, .no, .no, .no, .no, .no, .no, .no, .no] (by kernel_rfl) (by kernel_rfl) ?_
   refine RL.nil (by kernel_rfl) ?_
   obtain rfl := Option.some.inj H
   refine QN.sub (K' := [(2, .bool false)]) (L' := [⟨nx0, [.int .i64 a0.f0, .string a0.f1, .slice Ap0_2 a0.f2.length cp0_2], 30⟩]) (by kernel_rfl) (.cons_cons _ .slnil) (.refl _) ?_
   exact hJ1 _ _ _ _ _ ⟨false, rfl, rfl, rfl, (Imm.le_refl _), HK1⟩

end Go.Proofs.Ytieakigoinebdaa
