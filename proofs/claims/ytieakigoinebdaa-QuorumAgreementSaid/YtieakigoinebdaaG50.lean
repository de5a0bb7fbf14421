/- What a function of the program computes, and the walk that shows it; made by a program of the session's out of the translation; no conditions beyond those that the theorems name. -/
import Derived.Test.YtieakigoinebdaaS
import Derived.Test.YtieakigoinebdaaG51
namespace Go.Proofs.Ytieakigoinebdaa
open Go Go.Proofs.Ytieakigoinebdaa.RW
set_option linter.unusedVariables false
set_option maxRecDepth 100000
set_option maxHeartbeats 8000000

/-! ### codec_appendBytes: function 50, armillary/codec.appendBytes -/
noncomputable def K50_0 : Code := cBody Try.f50
noncomputable def K50_1 : Code := cL K50_0
noncomputable def O50_1 : List Oper := cOps K50_1
noncomputable def K50_3 : Code := cR K50_0
noncomputable def K50_4 : Code := cL K50_3
noncomputable def O50_4 : List Oper := cOps K50_4
noncomputable def K50_6 : Code := cR K50_3
def codec_appendBytes.f (k : Nat) (a0 : List Int) (a1 : List Int) : Option (List Int) := ((codec_AppendVarint.f k a0 (a1.length : Int)).bind fun t1 => (if (t1.length + a1.length) * 1 ≤ 140737488355328 then (some (t1 ++ a1)) else none))
def codec_appendBytes.Post (I : Imm) (w : World) (r : List Int) (v : Value) (w' : World) : Prop :=
  ∃ (J : Imm) (A0 : Option Addr) (c0 : Nat) (cs0 : List Value), v = .slice A0 r.length c0 ∧ Got w w' I J [orow 5 1 A0 r.length c0 cs0] ∧ Reps (Ty.int .u8) J r cs0
theorem codec_appendBytes.calls (k : Nat) (I0 : Imm) (a0 : List Int) (Ap0 : Option Addr) (cp0 : Nat) (a1 : List Int) (Ap1 : Option Addr) (cp1 : Nat) (w : World) (hI : I0.at_ w) (hlp0 : a0.length ≤ cp0) (hrp0 : Rd (Ty.int .u8) I0 Ap0 a0) (hlp1 : a1.length ≤ cp1) (hrp1 : Rd (Ty.int .u8) I0 Ap1 a1) (r : List Int) (h : codec_appendBytes.f k a0 a1 = some r) :
    Calls Try.prog 50 [.slice Ap0 a0.length cp0, .slice Ap1 a1.length cp1].toArray w fun e w' => ∃ v, e = .returned v ∧ codec_appendBytes.Post I0 w r v w' := by
  have H : ((codec_AppendVarint.f k a0 (a1.length : Int)).bind fun t1 => (if (t1.length + a1.length) * 1 ≤ 140737488355328 then (some (t1 ++ a1)) else none)) = some r := h
  clear h
  refine calls_body Try.func50 (by kernel_rfl) 11 (by kernel_rfl) (by kernel_rfl) ⟨w, fun _ => False, I0⟩ I0 [] [(0, .slice Ap0 a0.length cp0), (1, .slice Ap1 a1.length cp1)] (by kernel_rfl) (Sat.start w _ I0 hI) ?_
  generalize w.heap.size = nx0
  show OK _ K50_0 _ _ _ _ _ _ _ _
  refine OK.seq K50_1 K50_3 (by kernel_rfl) ?_
  refine OK.region 0 O50_1 (by kernel_rfl) ?_
  refine RL.simP (K' := [(0, .slice Ap0 a0.length cp0), (1, .slice Ap1 a1.length cp1)]) (nx' := nx0) (L' := []) [] (RFacts.nil _ _ _) 1 [.no] (by kernel_rfl) (by kernel_rfl) ?_
  refine RL.nil (by kernel_rfl) ?_
  refine QN.then_ ?_
  refine OK.seq K50_4 K50_6 (by kernel_rfl) ?_
  refine OK.region 1 O50_4 (by kernel_rfl) ?_
  refine RL.simP (K' := [(7, .int .i64 (a1.length : Int)), (5, .slice Ap0 a0.length cp0), (1, .slice Ap1 a1.length cp1)]) (nx' := nx0) (L' := []) [] (RFacts.nil _ _ _) 3 [.no, .no, .no] (by kernel_rfl) (by kernel_rfl) ?_
  obtain ⟨t1, hA1, H⟩ := Option.bind_eq_some_iff.mp H
  refine RL.callP 51 [.slice Ap0 a0.length cp0, .int .i64 (a1.length : Int)] (some 8) (fun w => codec_AppendVarint.Post I0 w t1) (by kernel_rfl) (by kernel_rfl) (fun w hs => codec_AppendVarint.calls k I0 a0 Ap0 cp0 (a1.length : Int) w hs.im hlp0 hrp0 t1 hA1) ?_
  rintro w v w' hs ⟨I1, A1, c1, cs1, rfl, hg, hp1⟩
  have hi1 := hg.le
  refine RL.resume (K' := [(8, .slice A1 t1.length c1), (7, .int .i64 (a1.length : Int)), (5, .slice Ap0 a0.length cp0), (1, .slice Ap1 a1.length cp1)]) (X' := [orow 5 1 A1 t1.length c1 cs1]) (by kernel_rfl) (hs.call hg) ?_
  clear hs hg
  generalize w'.heap.size = nx1
  clear w w'
  refine RL.simP (K' := [(9, .slice Ap1 a1.length cp1), (8, .slice A1 t1.length c1)]) (nx' := nx1) (L' := []) [] (RFacts.nil _ _ _) 1 [.no] (by kernel_rfl) (by kernel_rfl) ?_
  by_cases hz1 : (t1.length + a1.length) * 1 ≤ 140737488355328
  case neg => rw [if_neg hz1] at H; cases H
  rw [if_pos hz1] at H
  refine RL.appendR (T := 28) (e := 5) (S := A1) (S2 := Ap1) 1 1 28 c1 cp1 cs1 (Ty.int .u8) t1 a1 0 (some 10) (by kernel_rfl) (by kernel_rfl) (by kernel_rfl) (by kernel_rfl) (by kernel_rfl) (by decide) (by kernel_rfl) hp1 (Rd.ext hi1 hrp1) hz1 (by omega) (fun A2 c2 nx2 cs2 hp2 => ?_)
  refine RL.sub (K' := [(10, .slice A2 ((t1 ++ a1).length) c2), (9, .slice Ap1 a1.length cp1)]) (L' := []) (X' := [orow 5 1 A2 ((t1 ++ a1).length) c2 cs2]) (by kernel_rfl) (.refl _) (.refl _) ?_
  refine RL.simP (K' := [(4, .slice A2 ((t1 ++ a1).length) c2)]) (nx' := nx2) (L' := []) [] (RFacts.nil _ _ _) 1 [.no] (by kernel_rfl) (by kernel_rfl) ?_
  refine RL.nil (by kernel_rfl) ?_
  refine QN.then_ ?_
  refine OK.ret (by kernel_rfl) ?_
  obtain rfl := Option.some.inj H
  refine QN.body rfl [] (RFacts.nil _ _ _) (.no) (.slice A2 ((t1 ++ a1).length) c2) (by kernel_rfl) (by kernel_rfl) (by kernel_rfl) ?_ _ (.inr rfl)
  exact fun w' hs' => ⟨_, rfl, I1, A2, c2, cs2, rfl, hs'.got _ (.cons_cons _ .slnil), hp2⟩

end Go.Proofs.Ytieakigoinebdaa
