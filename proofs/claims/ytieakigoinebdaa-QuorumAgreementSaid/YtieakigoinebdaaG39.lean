/- What a function of the program computes, and the walk that shows it; made by a program of the session's out of the translation; no conditions beyond those that the theorems name. -/
import Derived.Test.YtieakigoinebdaaS
import Derived.Test.YtieakigoinebdaaG25
import Derived.Test.YtieakigoinebdaaG31
namespace Go.Proofs.Ytieakigoinebdaa
open Go Go.Proofs.Ytieakigoinebdaa.RW
set_option linter.unusedVariables false
set_option maxRecDepth 100000
set_option maxHeartbeats 8000000

/-! ### armillaryref29_Made: function 39, armillary/armillaryref29.Made -/
noncomputable def K39_0 : Code := cBody Try.f39
noncomputable def K39_1 : Code := cL K39_0
noncomputable def O39_1 : List Oper := cOps K39_1
noncomputable def K39_3 : Code := cR K39_0
noncomputable def K39_4 : Code := cL K39_3
noncomputable def O39_4 : List Oper := cOps K39_4
noncomputable def K39_6 : Code := cR K39_3
noncomputable def K39_7 : Code := cL K39_6
noncomputable def O39_7 : List Oper := cOps K39_7
noncomputable def K39_9 : Code := cR K39_6
noncomputable def K39_10 : Code := cL K39_9
noncomputable def O39_10 : List Oper := cOps K39_10
noncomputable def K39_12 : Code := cR K39_9
noncomputable def K39_13 : Code := cL K39_12
noncomputable def K39_14 : Code := cL K39_13
noncomputable def O39_14 : List Oper := cOps K39_14
noncomputable def K39_16 : Code := cR K39_13
noncomputable def K39_17 : Code := cL K39_16
noncomputable def K39_18 : Code := cL K39_17
noncomputable def O39_18 : List Oper := cOps K39_18
noncomputable def K39_20 : Code := cR K39_17
noncomputable def K39_21 : Code := cL K39_20
noncomputable def K39_22 : Code := cL K39_21
noncomputable def O39_22 : List Oper := cOps K39_22
noncomputable def K39_24 : Code := cR K39_21
noncomputable def K39_25 : Code := cL K39_24
noncomputable def O39_25 : List Oper := cOps K39_25
noncomputable def K39_27 : Code := cR K39_24
noncomputable def O39_27 : List Oper := cOps K39_27
noncomputable def K39_29 : Code := cR K39_20
noncomputable def K39_30 : Code := cL K39_29
noncomputable def O39_30 : List Oper := cOps K39_30
noncomputable def K39_32 : Code := cR K39_29
noncomputable def K39_33 : Code := cL K39_32
noncomputable def O39_33 : List Oper := cOps K39_33
noncomputable def K39_35 : Code := cR K39_32
noncomputable def O39_35 : List Oper := cOps K39_35
noncomputable def K39_37 : Code := cR K39_12
noncomputable def K39_38 : Code := cL K39_37
noncomputable def O39_38 : List Oper := cOps K39_38
noncomputable def K39_40 : Code := cR K39_37
def armillaryref29_Made.k1 (a0 : S32) : Int × Int × Int × Int × ByteArray → Option (S32)
  | (x1, x2, x3, x4, x5) => (some (⟨W .i64 (1 + ((bAnd .i64 a0.f0 255).tmod 4)), x1, (bAnd .i64 a0.f2 255).tmod 3, x2, x3, (⟨x4, x5, []⟩ : S30)⟩ : S32))
def armillaryref29_Made.k2 (a0 : S32) (a1 : Int) : Int × Int → Option (Int × Int × Int × Int × ByteArray)
  | (x6, x7) => (some ((bAnd .i64 a0.f1 255).tmod a1, x6, x7, 0, (⟨#[]⟩ : ByteArray)))
def armillaryref29_Made.f (k : Nat) (a0 : S32) (a1 : Int) : Option (S32) := (if a1 = 0 then none else ((armillaryref29_Sum.f k (⟨W .i64 (1 + (W .i64 (a0.f4.tmod 2))), (⟨#[107]⟩ : ByteArray), []⟩ : S30)).bind fun t1 => ((if (W .i64 (1 + ((bAnd .i64 a0.f0 255).tmod 4))) = 1 then ((armillaryref29_Leader.f a1 ((bAnd .i64 a0.f2 255).tmod 3)).bind fun t2 => (some (t2, (bAnd .i64 a0.f3 255).tmod 3, t1.1, W .i64 (1 + (W .i64 (a0.f4.tmod 2))), (⟨#[107]⟩ : ByteArray)))) else ((if (W .i64 (1 + ((bAnd .i64 a0.f0 255).tmod 4))) = 4 then (some (0, 0)) else (some ((bAnd .i64 a0.f3 255).tmod 3, t1.1))).bind (armillaryref29_Made.k2 a0 a1))).bind (armillaryref29_Made.k1 a0))))
def armillaryref29_Made.Post (I : Imm) (w : World) (r : S32) (v : Value) (w' : World) : Prop :=
  ∃ (J : Imm) (A0_5_2 : Option Addr) (c0_5_2 : Nat) (cs0_5_2 : List Value), v = .agg #[.int .i64 r.f0, .int .i64 r.f1, .int .i64 r.f2, .int .i64 r.f3, .int .u32 r.f4, .int .i64 r.f5.f0, .string r.f5.f1, .slice A0_5_2 r.f5.f2.length c0_5_2] ∧ Got w w' I J [orow 5 1 A0_5_2 r.f5.f2.length c0_5_2 cs0_5_2] ∧ Reps (Ty.int .u8) J r.f5.f2 cs0_5_2
theorem armillaryref29_Made.a39_4 : ancs O39_4 [] = [0, 1, 3, 7, 15, 0, 32, 96, 0, 480, 0, 1024, 3072, 7168, 0, 16384, 49152, 114688, 262143, 0, 1048575] := by kernel_rfl
theorem armillaryref29_Made.a39_4o : drawOk O39_4 [0, 1, 3, 7, 15, 0, 32, 96, 0, 480, 0, 1024, 3072, 7168, 0, 16384, 49152, 114688, 262143, 0, 1048575] 20 = true := by kernel_rfl
noncomputable def armillaryref29_Made.d1l  : List Ld :=
  [⟨19, fun x => .pointer (some ⟨(x 0).2.1, 0, none⟩), fun x => [RW.kblk (x 0).2.1 32 [.int .i64 0, .int .i64 0, .int .i64 0, .int .i64 0, .int .u32 0, .int .i64 0, .string (⟨#[]⟩ : ByteArray), .slice none 0 0]], fun x J => True, fun x J J' h f => trivial⟩]
noncomputable def armillaryref29_Made.d1g (a0 : S32) (a1 : Int) : List (Nat × ((Nat → Wt) → Value)) := [(9, fun u => .int .i64 ((bAnd .i64 a0.f1 255).tmod a1))]
noncomputable def armillaryref29_Made.d1q (a0 : S32) (Ap0_5_2 : Option Addr) (cp0_5_2 : Nat) (a1 : Int) (nx0 : Nat) (u : Nat → Wt) : Option (List Value × List (Nat × Value) × List (Nat × Nat)) := qSim Try.prog [] [⟨nx0, [.int .i64 a0.f0, .int .i64 a0.f1, .int .i64 a0.f2, .int .i64 a0.f3, .int .u32 a0.f4, .int .i64 a0.f5.f0, .string a0.f5.f1, .slice Ap0_5_2 a0.f5.f2.length cp0_5_2], 32⟩, ⟨nx0 + 1, [.int .i64 0, .int .i64 0, .int .i64 0, .int .i64 0, .int .u32 0, .int .i64 0, .string (⟨#[]⟩ : ByteArray), .slice none 0 0], 32⟩] O39_4 ⟨58, []⟩ (Ld.vl armillaryref29_Made.d1l) (armillaryref29_Made.d1g a0 a1) u [.no, .l 0, .no, .no, .no, .no, .l 0, .no, .no, .no, .no, .l 0, .no, .no, .no, .l 0, .no, .no, .no, .no] 0 (O39_4.take 20) [(4, .pointer (some ⟨nx0 + 1, 0, none⟩)), (2, .pointer (some ⟨nx0, 0, none⟩)), (1, .int .i64 a1)]
noncomputable def armillaryref29_Made.d1s (a0 : S32) (a1 : Int) (nx0 : Nat) (u : Nat → Wt) : List Value := [.pointer (some ⟨nx0, 0, none⟩), .int .i64 a0.f0, .int .i64 (bAnd .i64 a0.f0 255), .int .i64 ((bAnd .i64 a0.f0 255).tmod 4), .int .i64 (W .i64 (1 + ((bAnd .i64 a0.f0 255).tmod 4))), .pointer (some ⟨nx0, 1, none⟩), .int .i64 a0.f1, .int .i64 (bAnd .i64 a0.f1 255), .int .i64 a1, .int .i64 ((bAnd .i64 a0.f1 255).tmod a1), .pointer (some ⟨nx0, 2, none⟩), .int .i64 a0.f2, .int .i64 (bAnd .i64 a0.f2 255), .int .i64 ((bAnd .i64 a0.f2 255).tmod 3), .pointer (some ⟨nx0, 3, none⟩), .int .i64 a0.f3, .int .i64 (bAnd .i64 a0.f3 255), .int .i64 ((bAnd .i64 a0.f3 255).tmod 3), .agg #[.int .i64 (W .i64 (1 + ((bAnd .i64 a0.f0 255).tmod 4))), .int .i64 ((bAnd .i64 a0.f1 255).tmod a1), .int .i64 ((bAnd .i64 a0.f2 255).tmod 3), .int .i64 ((bAnd .i64 a0.f3 255).tmod 3), .int .u32 0, .int .i64 0, .string (⟨#[]⟩ : ByteArray), .slice none 0 0], .pointer (some ⟨(u 19 0).2.1, 0, none⟩)]
noncomputable def armillaryref29_Made.d1k (a0 : S32) (a1 : Int) (nx0 : Nat) (u : Nat → Wt) : List (Nat × Value) := [(5, .pointer (some ⟨(u 19 0).2.1, 0, none⟩)), (27, .agg #[.int .i64 (W .i64 (1 + ((bAnd .i64 a0.f0 255).tmod 4))), .int .i64 ((bAnd .i64 a0.f1 255).tmod a1), .int .i64 ((bAnd .i64 a0.f2 255).tmod 3), .int .i64 ((bAnd .i64 a0.f3 255).tmod 3), .int .u32 0, .int .i64 0, .string (⟨#[]⟩ : ByteArray), .slice none 0 0]), (26, .int .i64 ((bAnd .i64 a0.f3 255).tmod 3)), (25, .int .i64 (bAnd .i64 a0.f3 255)), (24, .int .i64 a0.f3), (23, .pointer (some ⟨nx0, 3, none⟩)), (22, .int .i64 ((bAnd .i64 a0.f2 255).tmod 3)), (21, .int .i64 (bAnd .i64 a0.f2 255)), (20, .int .i64 a0.f2), (19, .pointer (some ⟨nx0, 2, none⟩)), (18, .int .i64 ((bAnd .i64 a0.f1 255).tmod a1)), (17, .int .i64 a1), (16, .int .i64 (bAnd .i64 a0.f1 255)), (15, .int .i64 a0.f1), (14, .pointer (some ⟨nx0, 1, none⟩)), (13, .int .i64 (W .i64 (1 + ((bAnd .i64 a0.f0 255).tmod 4)))), (12, .int .i64 ((bAnd .i64 a0.f0 255).tmod 4)), (11, .int .i64 (bAnd .i64 a0.f0 255)), (10, .int .i64 a0.f0), (9, .pointer (some ⟨nx0, 0, none⟩)), (4, .pointer (some ⟨nx0 + 1, 0, none⟩)), (2, .pointer (some ⟨nx0, 0, none⟩)), (1, .int .i64 a1)]
theorem armillaryref29_Made.d1v (a0 : S32) (Ap0_5_2 : Option Addr) (cp0_5_2 : Nat) (a1 : Int) (nx0 : Nat) (u : Nat → Wt) : (armillaryref29_Made.d1q a0 Ap0_5_2 cp0_5_2 a1 nx0 u).map (fun x => (x.1, x.2.1)) = some ((armillaryref29_Made.d1s a0 a1 nx0) u, (armillaryref29_Made.d1k a0 a1 nx0) u) := by kernel_rfl
theorem armillaryref29_Made.d1e (a0 : S32) (Ap0_5_2 : Option Addr) (cp0_5_2 : Nat) (a1 : Int) (nx0 : Nat) (u : Nat → Wt) : (armillaryref29_Made.d1q a0 Ap0_5_2 cp0_5_2 a1 nx0 u).map (fun x => x.2.2.map (·.1)) = (armillaryref29_Made.d1q a0 Ap0_5_2 cp0_5_2 a1 nx0 u).map (fun x => x.2.2.map (·.2)) := by kernel_rfl
theorem armillaryref29_Made.calls (k : Nat) (I0 : Imm) (a0 : S32) (Ap0_5_2 : Option Addr) (cp0_5_2 : Nat) (a1 : Int) (w : World) (hI : I0.at_ w) (hlp0_5_2 : a0.f5.f2.length ≤ cp0_5_2) (hrp0_5_2 : Rd (Ty.int .u8) I0 Ap0_5_2 a0.f5.f2) (r : S32) (h : armillaryref29_Made.f k a0 a1 = some r) :
    Calls Try.prog 39 [.agg #[.int .i64 a0.f0, .int .i64 a0.f1, .int .i64 a0.f2, .int .i64 a0.f3, .int .u32 a0.f4, .int .i64 a0.f5.f0, .string a0.f5.f1, .slice Ap0_5_2 a0.f5.f2.length cp0_5_2], .int .i64 a1].toArray w fun e w' => ∃ v, e = .returned v ∧ armillaryref29_Made.Post I0 w r v w' := by
  have H : (if a1 = 0 then none else ((armillaryref29_Sum.f k (⟨W .i64 (1 + (W .i64 (a0.f4.tmod 2))), (⟨#[107]⟩ : ByteArray), []⟩ : S30)).bind fun t1 => ((if (W .i64 (1 + ((bAnd .i64 a0.f0 255).tmod 4))) = 1 then ((armillaryref29_Leader.f a1 ((bAnd .i64 a0.f2 255).tmod 3)).bind fun t2 => (some (t2, (bAnd .i64 a0.f3 255).tmod 3, t1.1, W .i64 (1 + (W .i64 (a0.f4.tmod 2))), (⟨#[107]⟩ : ByteArray)))) else ((if (W .i64 (1 + ((bAnd .i64 a0.f0 255).tmod 4))) = 4 then (some (0, 0)) else (some ((bAnd .i64 a0.f3 255).tmod 3, t1.1))).bind (armillaryref29_Made.k2 a0 a1))).bind (armillaryref29_Made.k1 a0)))) = some r := h
  clear h
  refine calls_body Try.func39 (by kernel_rfl) 58 (by kernel_rfl) (by kernel_rfl) ⟨w, fun _ => False, I0⟩ I0 [] [(0, .agg #[.int .i64 a0.f0, .int .i64 a0.f1, .int .i64 a0.f2, .int .i64 a0.f3, .int .u32 a0.f4, .int .i64 a0.f5.f0, .string a0.f5.f1, .slice Ap0_5_2 a0.f5.f2.length cp0_5_2]), (1, .int .i64 a1)] (by kernel_rfl) (Sat.start w _ I0 hI) ?_
  generalize w.heap.size = nx0
  show OK _ K39_0 _ _ _ _ _ _ _ _
  refine OK.seq K39_1 K39_3 (by kernel_rfl) ?_
  refine OK.region 0 O39_1 (by kernel_rfl) ?_
  refine RL.simP (K' := [(4, .pointer (some ⟨nx0 + 1, 0, none⟩)), (2, .pointer (some ⟨nx0, 0, none⟩)), (1, .int .i64 a1)]) (nx' := nx0 + 2) (L' := [⟨nx0, [.int .i64 a0.f0, .int .i64 a0.f1, .int .i64 a0.f2, .int .i64 a0.f3, .int .u32 a0.f4, .int .i64 a0.f5.f0, .string a0.f5.f1, .slice Ap0_5_2 a0.f5.f2.length cp0_5_2], 32⟩, ⟨nx0 + 1, [.int .i64 0, .int .i64 0, .int .i64 0, .int .i64 0, .int .u32 0, .int .i64 0, .string (⟨#[]⟩ : ByteArray), .slice none 0 0], 32⟩]) [] (RFacts.nil _ _ _) 2 [.no, .no] (by kernel_rfl) (by kernel_rfl) ?_
  refine RL.nil (by kernel_rfl) ?_
  refine QN.then_ ?_
  refine OK.seq K39_4 K39_6 (by kernel_rfl) ?_
  by_cases hc1 : a1 = 0
  · rw [if_pos hc1] at H; cases H
  rw [if_neg hc1] at H
  refine OK.drawnC 1 20 O39_4 [0, 1, 3, 7, 15, 0, 32, 96, 0, 480, 0, 1024, 3072, 7168, 0, 16384, 49152, 114688, 262143, 0, 1048575] (by kernel_rfl) (by kernel_rfl) armillaryref29_Made.d1l (armillaryref29_Made.d1g a0 a1) [] (RI.nil _) [.no, .l 0, .no, .no, .no, .no, .l 0, .no, .no, .no, .no, .l 0, .no, .no, .no, .l 0, .no, .no, .no, .no] armillaryref29_Made.a39_4 armillaryref29_Made.a39_4o (by kernel_rfl) (by kernel_rfl) (armillaryref29_Made.d1s a0 a1 nx0) (armillaryref29_Made.d1k a0 a1 nx0) (armillaryref29_Made.d1v a0 Ap0_5_2 cp0_5_2 a1 nx0) (armillaryref29_Made.d1e a0 Ap0_5_2 cp0_5_2 a1 nx0) [fun u => [(27, .agg #[.int .i64 (W .i64 (1 + ((bAnd .i64 a0.f0 255).tmod 4))), .int .i64 ((bAnd .i64 a0.f1 255).tmod a1), .int .i64 ((bAnd .i64 a0.f2 255).tmod 3), .int .i64 ((bAnd .i64 a0.f3 255).tmod 3), .int .u32 0, .int .i64 0, .string (⟨#[]⟩ : ByteArray), .slice none 0 0]), (26, .int .i64 ((bAnd .i64 a0.f3 255).tmod 3)), (25, .int .i64 (bAnd .i64 a0.f3 255)), (24, .int .i64 a0.f3), (23, .pointer (some ⟨nx0, 3, none⟩)), (22, .int .i64 ((bAnd .i64 a0.f2 255).tmod 3)), (21, .int .i64 (bAnd .i64 a0.f2 255)), (20, .int .i64 a0.f2), (19, .pointer (some ⟨nx0, 2, none⟩)), (18, .int .i64 ((bAnd .i64 a0.f1 255).tmod a1)), (17, .int .i64 a1), (16, .int .i64 (bAnd .i64 a0.f1 255)), (15, .int .i64 a0.f1), (14, .pointer (some ⟨nx0, 1, none⟩)), (13, .int .i64 (W .i64 (1 + ((bAnd .i64 a0.f0 255).tmod 4)))), (12, .int .i64 ((bAnd .i64 a0.f0 255).tmod 4)), (11, .int .i64 (bAnd .i64 a0.f0 255)), (10, .int .i64 a0.f0), (9, .pointer (some ⟨nx0, 0, none⟩)), (4, .pointer (some ⟨nx0 + 1, 0, none⟩)), (2, .pointer (some ⟨nx0, 0, none⟩)), (1, .int .i64 a1)]] (framesOk.cons (fun u => by kernel_rfl) framesOk.nil) ?_ [fun u => [(17, .int .i64 a1), (16, .int .i64 (bAnd .i64 a0.f1 255)), (15, .int .i64 a0.f1), (14, .pointer (some ⟨nx0, 1, none⟩)), (13, .int .i64 (W .i64 (1 + ((bAnd .i64 a0.f0 255).tmod 4)))), (12, .int .i64 ((bAnd .i64 a0.f0 255).tmod 4)), (11, .int .i64 (bAnd .i64 a0.f0 255)), (10, .int .i64 a0.f0), (9, .pointer (some ⟨nx0, 0, none⟩)), (4, .pointer (some ⟨nx0 + 1, 0, none⟩)), (2, .pointer (some ⟨nx0, 0, none⟩)), (1, .int .i64 a1)]] (framesOk.cons (fun u => by kernel_rfl) framesOk.nil) ?_ ?_
  · refine LoudsG.cons ?_ (LoudsG.nil)
    · intro D u J w hp hJ hs hF
      refine (Does.make hs.im (fun n_ => .pointer (some ⟨n_, 0, none⟩)) (cs := [.int .i64 0, .int .i64 0, .int .i64 0, .int .i64 0, .int .u32 0, .int .i64 0, .string (⟨#[]⟩ : ByteArray), .slice none 0 0]) (ty := 32) (fun n_ => by kernel_rfl)).mono ?_
      rintro v w' ⟨rfl, hg⟩
      exact ⟨fun _ => (none, w.heap.size, []), J, rfl, hg, trivial⟩
  · refine Givens.cons (fun u w =>  ?_) (fun _ _ _ => rfl) (Givens.nil)
    · exact giv_rem .i64 (bAnd .i64 a0.f1 255) a1 (by kernel_rfl) hc1 w
  intro u I1 nx1 hi1 hF
  clear hF
  show RL _ _ _ 20 _ [(5, .pointer (some ⟨(u 19 0).2.1, 0, none⟩)), (27, .agg #[.int .i64 (W .i64 (1 + ((bAnd .i64 a0.f0 255).tmod 4))), .int .i64 ((bAnd .i64 a0.f1 255).tmod a1), .int .i64 ((bAnd .i64 a0.f2 255).tmod 3), .int .i64 ((bAnd .i64 a0.f3 255).tmod 3), .int .u32 0, .int .i64 0, .string (⟨#[]⟩ : ByteArray), .slice none 0 0]), (26, .int .i64 ((bAnd .i64 a0.f3 255).tmod 3)), (25, .int .i64 (bAnd .i64 a0.f3 255)), (24, .int .i64 a0.f3), (23, .pointer (some ⟨nx0, 3, none⟩)), (22, .int .i64 ((bAnd .i64 a0.f2 255).tmod 3)), (21, .int .i64 (bAnd .i64 a0.f2 255)), (20, .int .i64 a0.f2), (19, .pointer (some ⟨nx0, 2, none⟩)), (18, .int .i64 ((bAnd .i64 a0.f1 255).tmod a1)), (17, .int .i64 a1), (16, .int .i64 (bAnd .i64 a0.f1 255)), (15, .int .i64 a0.f1), (14, .pointer (some ⟨nx0, 1, none⟩)), (13, .int .i64 (W .i64 (1 + ((bAnd .i64 a0.f0 255).tmod 4)))), (12, .int .i64 ((bAnd .i64 a0.f0 255).tmod 4)), (11, .int .i64 (bAnd .i64 a0.f0 255)), (10, .int .i64 a0.f0), (9, .pointer (some ⟨nx0, 0, none⟩)), (4, .pointer (some ⟨nx0 + 1, 0, none⟩)), (2, .pointer (some ⟨nx0, 0, none⟩)), (1, .int .i64 a1)] _ _ _ [⟨nx0, [.int .i64 a0.f0, .int .i64 a0.f1, .int .i64 a0.f2, .int .i64 a0.f3, .int .u32 a0.f4, .int .i64 a0.f5.f0, .string a0.f5.f1, .slice Ap0_5_2 a0.f5.f2.length cp0_5_2], 32⟩, ⟨nx0 + 1, [.int .i64 0, .int .i64 0, .int .i64 0, .int .i64 0, .int .u32 0, .int .i64 0, .string (⟨#[]⟩ : ByteArray), .slice none 0 0], 32⟩] [RW.kblk (u 19 0).2.1 32 [.int .i64 0, .int .i64 0, .int .i64 0, .int .i64 0, .int .u32 0, .int .i64 0, .string (⟨#[]⟩ : ByteArray), .slice none 0 0]]
  generalize (u 19 0).1 = A1
  generalize (u 19 0).2.1 = c1
  generalize (u 19 0).2.2 = cs1
  clear u
  refine RL.kblk (g := c1) (ty := 32) (cs := [.int .i64 0, .int .i64 0, .int .i64 0, .int .i64 0, .int .u32 0, .int .i64 0, .string (⟨#[]⟩ : ByteArray), .slice none 0 0]) 0 (by kernel_rfl) ?_
  show RL _ _ _ 20 _ [(5, .pointer (some ⟨c1, 0, none⟩)), (27, .agg #[.int .i64 (W .i64 (1 + ((bAnd .i64 a0.f0 255).tmod 4))), .int .i64 ((bAnd .i64 a0.f1 255).tmod a1), .int .i64 ((bAnd .i64 a0.f2 255).tmod 3), .int .i64 ((bAnd .i64 a0.f3 255).tmod 3), .int .u32 0, .int .i64 0, .string (⟨#[]⟩ : ByteArray), .slice none 0 0]), (26, .int .i64 ((bAnd .i64 a0.f3 255).tmod 3)), (25, .int .i64 (bAnd .i64 a0.f3 255)), (24, .int .i64 a0.f3), (23, .pointer (some ⟨nx0, 3, none⟩)), (22, .int .i64 ((bAnd .i64 a0.f2 255).tmod 3)), (21, .int .i64 (bAnd .i64 a0.f2 255)), (20, .int .i64 a0.f2), (19, .pointer (some ⟨nx0, 2, none⟩)), (18, .int .i64 ((bAnd .i64 a0.f1 255).tmod a1)), (17, .int .i64 a1), (16, .int .i64 (bAnd .i64 a0.f1 255)), (15, .int .i64 a0.f1), (14, .pointer (some ⟨nx0, 1, none⟩)), (13, .int .i64 (W .i64 (1 + ((bAnd .i64 a0.f0 255).tmod 4)))), (12, .int .i64 ((bAnd .i64 a0.f0 255).tmod 4)), (11, .int .i64 (bAnd .i64 a0.f0 255)), (10, .int .i64 a0.f0), (9, .pointer (some ⟨nx0, 0, none⟩)), (4, .pointer (some ⟨nx0 + 1, 0, none⟩)), (2, .pointer (some ⟨nx0, 0, none⟩)), (1, .int .i64 a1)] _ _ _ [⟨nx0, [.int .i64 a0.f0, .int .i64 a0.f1, .int .i64 a0.f2, .int .i64 a0.f3, .int .u32 a0.f4, .int .i64 a0.f5.f0, .string a0.f5.f1, .slice Ap0_5_2 a0.f5.f2.length cp0_5_2], 32⟩, ⟨nx0 + 1, [.int .i64 0, .int .i64 0, .int .i64 0, .int .i64 0, .int .u32 0, .int .i64 0, .string (⟨#[]⟩ : ByteArray), .slice none 0 0], 32⟩, ⟨c1, [.int .i64 0, .int .i64 0, .int .i64 0, .int .i64 0, .int .u32 0, .int .i64 0, .string (⟨#[]⟩ : ByteArray), .slice none 0 0], 32⟩] []
  refine RL.simP (K' := [(5, .pointer (some ⟨c1, 0, none⟩)), (4, .pointer (some ⟨nx0 + 1, 0, none⟩)), (2, .pointer (some ⟨nx0, 0, none⟩)), (1, .int .i64 a1)]) (nx' := nx1) (L' := [⟨nx0, [.int .i64 a0.f0, .int .i64 a0.f1, .int .i64 a0.f2, .int .i64 a0.f3, .int .u32 a0.f4, .int .i64 a0.f5.f0, .string a0.f5.f1, .slice Ap0_5_2 a0.f5.f2.length cp0_5_2], 32⟩, ⟨nx0 + 1, [.int .i64 0, .int .i64 0, .int .i64 0, .int .i64 0, .int .u32 0, .int .i64 0, .string (⟨#[]⟩ : ByteArray), .slice none 0 0], 32⟩, ⟨c1, [.int .i64 (W .i64 (1 + ((bAnd .i64 a0.f0 255).tmod 4))), .int .i64 ((bAnd .i64 a0.f1 255).tmod a1), .int .i64 ((bAnd .i64 a0.f2 255).tmod 3), .int .i64 ((bAnd .i64 a0.f3 255).tmod 3), .int .u32 0, .int .i64 0, .string (⟨#[]⟩ : ByteArray), .slice none 0 0], 32⟩]) [] (RFacts.nil _ _ _) 1 [.l 2] (by kernel_rfl) (by kernel_rfl) ?_
  refine RL.nil (by kernel_rfl) ?_
  refine QN.then_ ?_
  refine OK.seq K39_7 K39_9 (by kernel_rfl) ?_
  refine OK.region 2 O39_7 (by kernel_rfl) ?_
  refine RL.simP (K' := [(6, .pointer (some ⟨nx1, 0, none⟩)), (5, .pointer (some ⟨c1, 0, none⟩)), (4, .pointer (some ⟨nx0 + 1, 0, none⟩)), (1, .int .i64 a1)]) (nx' := nx1 + 1) (L' := [⟨nx0, [.int .i64 a0.f0, .int .i64 a0.f1, .int .i64 a0.f2, .int .i64 a0.f3, .int .u32 a0.f4, .int .i64 a0.f5.f0, .string a0.f5.f1, .slice Ap0_5_2 a0.f5.f2.length cp0_5_2], 32⟩, ⟨nx0 + 1, [.int .i64 0, .int .i64 0, .int .i64 0, .int .i64 0, .int .u32 0, .int .i64 0, .string (⟨#[]⟩ : ByteArray), .slice none 0 0], 32⟩, ⟨c1, [.int .i64 (W .i64 (1 + ((bAnd .i64 a0.f0 255).tmod 4))), .int .i64 ((bAnd .i64 a0.f1 255).tmod a1), .int .i64 ((bAnd .i64 a0.f2 255).tmod 3), .int .i64 ((bAnd .i64 a0.f3 255).tmod 3), .int .u32 0, .int .i64 0, .string (⟨#[]⟩ : ByteArray), .slice none 0 0], 32⟩, ⟨nx1, [.int .i64 (W .i64 (1 + (W .i64 (a0.f4.tmod 2)))), .string (⟨#[107]⟩ : ByteArray), .slice none 0 0], 30⟩]) [] (RFacts.nil _ _ _) 8 [.no, .l 0, .no, .no, .no, .no, .no, .l 3] (by kernel_rfl) (by kernel_rfl) ?_
  refine RL.nil (by kernel_rfl) ?_
  refine QN.then_ ?_
  refine OK.seq K39_10 K39_12 (by kernel_rfl) ?_
  refine OK.region 3 O39_10 (by kernel_rfl) ?_
  refine RL.simP (K' := [(35, .agg #[.int .i64 (W .i64 (1 + (W .i64 (a0.f4.tmod 2)))), .string (⟨#[107]⟩ : ByteArray), .slice none 0 0]), (6, .pointer (some ⟨nx1, 0, none⟩)), (5, .pointer (some ⟨c1, 0, none⟩)), (4, .pointer (some ⟨nx0 + 1, 0, none⟩)), (1, .int .i64 a1)]) (nx' := nx1 + 1) (L' := [⟨nx0, [.int .i64 a0.f0, .int .i64 a0.f1, .int .i64 a0.f2, .int .i64 a0.f3, .int .u32 a0.f4, .int .i64 a0.f5.f0, .string a0.f5.f1, .slice Ap0_5_2 a0.f5.f2.length cp0_5_2], 32⟩, ⟨nx0 + 1, [.int .i64 0, .int .i64 0, .int .i64 0, .int .i64 0, .int .u32 0, .int .i64 0, .string (⟨#[]⟩ : ByteArray), .slice none 0 0], 32⟩, ⟨c1, [.int .i64 (W .i64 (1 + ((bAnd .i64 a0.f0 255).tmod 4))), .int .i64 ((bAnd .i64 a0.f1 255).tmod a1), .int .i64 ((bAnd .i64 a0.f2 255).tmod 3), .int .i64 ((bAnd .i64 a0.f3 255).tmod 3), .int .u32 0, .int .i64 0, .string (⟨#[]⟩ : ByteArray), .slice none 0 0], 32⟩, ⟨nx1, [.int .i64 (W .i64 (1 + (W .i64 (a0.f4.tmod 2)))), .string (⟨#[107]⟩ : ByteArray), .slice none 0 0], 30⟩]) [] (RFacts.nil _ _ _) 1 [.l 3] (by kernel_rfl) (by kernel_rfl) ?_
  obtain ⟨t1, hA1, H⟩ := Option.bind_eq_some_iff.mp H
  refine RL.callP 31 [.agg #[.int .i64 (W .i64 (1 + (W .i64 (a0.f4.tmod 2)))), .string (⟨#[107]⟩ : ByteArray), .slice none 0 0]] (some 36) (fun w => armillaryref29_Sum.Post I1 w t1) (by kernel_rfl) (by kernel_rfl) (fun w hs => armillaryref29_Sum.calls k I1 (⟨W .i64 (1 + (W .i64 (a0.f4.tmod 2))), (⟨#[107]⟩ : ByteArray), []⟩ : S30) none 0 w hs.im (Nat.le_refl _) (Rd.nil _ _ _) t1 hA1) ?_
  rintro w v w' hs ⟨I2, rfl, hg⟩
  have hi2 := hg.le
  refine RL.resume (K' := [(36, .tuple #[.int .u32 t1.1, .bool t1.2]), (35, .agg #[.int .i64 (W .i64 (1 + (W .i64 (a0.f4.tmod 2)))), .string (⟨#[107]⟩ : ByteArray), .slice none 0 0]), (6, .pointer (some ⟨nx1, 0, none⟩)), (5, .pointer (some ⟨c1, 0, none⟩)), (4, .pointer (some ⟨nx0 + 1, 0, none⟩)), (1, .int .i64 a1)]) (X' := []) (by kernel_rfl) (hs.call hg) ?_
  clear hs hg
  generalize w'.heap.size = nx2
  clear w w'
  refine RL.simP (K' := [(7, .int .u32 t1.1), (6, .pointer (some ⟨nx1, 0, none⟩)), (5, .pointer (some ⟨c1, 0, none⟩)), (4, .pointer (some ⟨nx0 + 1, 0, none⟩)), (1, .int .i64 a1)]) (nx' := nx2) (L' := [⟨nx0, [.int .i64 a0.f0, .int .i64 a0.f1, .int .i64 a0.f2, .int .i64 a0.f3, .int .u32 a0.f4, .int .i64 a0.f5.f0, .string a0.f5.f1, .slice Ap0_5_2 a0.f5.f2.length cp0_5_2], 32⟩, ⟨nx0 + 1, [.int .i64 0, .int .i64 0, .int .i64 0, .int .i64 0, .int .u32 0, .int .i64 0, .string (⟨#[]⟩ : ByteArray), .slice none 0 0], 32⟩, ⟨c1, [.int .i64 (W .i64 (1 + ((bAnd .i64 a0.f0 255).tmod 4))), .int .i64 ((bAnd .i64 a0.f1 255).tmod a1), .int .i64 ((bAnd .i64 a0.f2 255).tmod 3), .int .i64 ((bAnd .i64 a0.f3 255).tmod 3), .int .u32 0, .int .i64 0, .string (⟨#[]⟩ : ByteArray), .slice none 0 0], 32⟩, ⟨nx1, [.int .i64 (W .i64 (1 + (W .i64 (a0.f4.tmod 2)))), .string (⟨#[107]⟩ : ByteArray), .slice none 0 0], 30⟩]) [] (RFacts.nil _ _ _) 5 [.no, .no, .no, .no, .no] (by kernel_rfl) (by kernel_rfl) ?_
  refine RL.nil (by kernel_rfl) ?_
  refine QN.then_ ?_
  refine OK.seq K39_13 K39_37 (by kernel_rfl) ?_
  refine OK.seq K39_14 K39_16 (by kernel_rfl) ?_
  refine OK.region 4 O39_14 (by kernel_rfl) ?_
  refine RL.simP (K' := [(40, .int .i64 (W .i64 (1 + ((bAnd .i64 a0.f0 255).tmod 4)))), (7, .int .u32 t1.1), (6, .pointer (some ⟨nx1, 0, none⟩)), (5, .pointer (some ⟨c1, 0, none⟩)), (4, .pointer (some ⟨nx0 + 1, 0, none⟩)), (1, .int .i64 a1)]) (nx' := nx2) (L' := [⟨nx0, [.int .i64 a0.f0, .int .i64 a0.f1, .int .i64 a0.f2, .int .i64 a0.f3, .int .u32 a0.f4, .int .i64 a0.f5.f0, .string a0.f5.f1, .slice Ap0_5_2 a0.f5.f2.length cp0_5_2], 32⟩, ⟨nx0 + 1, [.int .i64 0, .int .i64 0, .int .i64 0, .int .i64 0, .int .u32 0, .int .i64 0, .string (⟨#[]⟩ : ByteArray), .slice none 0 0], 32⟩, ⟨c1, [.int .i64 (W .i64 (1 + ((bAnd .i64 a0.f0 255).tmod 4))), .int .i64 ((bAnd .i64 a0.f1 255).tmod a1), .int .i64 ((bAnd .i64 a0.f2 255).tmod 3), .int .i64 ((bAnd .i64 a0.f3 255).tmod 3), .int .u32 0, .int .i64 0, .string (⟨#[]⟩ : ByteArray), .slice none 0 0], 32⟩, ⟨nx1, [.int .i64 (W .i64 (1 + (W .i64 (a0.f4.tmod 2)))), .string (⟨#[107]⟩ : ByteArray), .slice none 0 0], 30⟩]) [] (RFacts.nil _ _ _) 2 [.no, .l 2] (by kernel_rfl) (by kernel_rfl) ?_
  refine RL.nil (by kernel_rfl) ?_
  refine QN.then_ ?_
  refine OK.block 0 K39_17 (by kernel_rfl) ?_
  refine OK.seq K39_18 K39_20 (by kernel_rfl) ?_
  refine OK.region 6 O39_18 (by kernel_rfl) ?_
  refine RL.simP (K' := [(43, .bool ((W .i64 (1 + ((bAnd .i64 a0.f0 255).tmod 4))) == 1)), (40, .int .i64 (W .i64 (1 + ((bAnd .i64 a0.f0 255).tmod 4)))), (7, .int .u32 t1.1), (6, .pointer (some ⟨nx1, 0, none⟩)), (5, .pointer (some ⟨c1, 0, none⟩)), (4, .pointer (some ⟨nx0 + 1, 0, none⟩)), (1, .int .i64 a1)]) (nx' := nx2) (L' := [⟨nx0, [.int .i64 a0.f0, .int .i64 a0.f1, .int .i64 a0.f2, .int .i64 a0.f3, .int .u32 a0.f4, .int .i64 a0.f5.f0, .string a0.f5.f1, .slice Ap0_5_2 a0.f5.f2.length cp0_5_2], 32⟩, ⟨nx0 + 1, [.int .i64 0, .int .i64 0, .int .i64 0, .int .i64 0, .int .u32 0, .int .i64 0, .string (⟨#[]⟩ : ByteArray), .slice none 0 0], 32⟩, ⟨c1, [.int .i64 (W .i64 (1 + ((bAnd .i64 a0.f0 255).tmod 4))), .int .i64 ((bAnd .i64 a0.f1 255).tmod a1), .int .i64 ((bAnd .i64 a0.f2 255).tmod 3), .int .i64 ((bAnd .i64 a0.f3 255).tmod 3), .int .u32 0, .int .i64 0, .string (⟨#[]⟩ : ByteArray), .slice none 0 0], 32⟩, ⟨nx1, [.int .i64 (W .i64 (1 + (W .i64 (a0.f4.tmod 2)))), .string (⟨#[107]⟩ : ByteArray), .slice none 0 0], 30⟩]) [] (RFacts.nil _ _ _) 2 [.no, .no] (by kernel_rfl) (by kernel_rfl) ?_
  refine RL.nil (by kernel_rfl) ?_
  refine QN.then_ ?_
  refine OK.join (fun K' I' _ L' X' => ∃ (x1 : Int) (x2 : Int) (x3 : Int) (x4 : Int) (x5 : ByteArray), K' = [(4, .pointer (some ⟨nx0 + 1, 0, none⟩)), (5, .pointer (some ⟨c1, 0, none⟩))] ∧ L' = [⟨nx0, [.int .i64 a0.f0, .int .i64 a0.f1, .int .i64 a0.f2, .int .i64 a0.f3, .int .u32 a0.f4, .int .i64 a0.f5.f0, .string a0.f5.f1, .slice Ap0_5_2 a0.f5.f2.length cp0_5_2], 32⟩, ⟨nx0 + 1, [.int .i64 0, .int .i64 0, .int .i64 0, .int .i64 0, .int .u32 0, .int .i64 0, .string (⟨#[]⟩ : ByteArray), .slice none 0 0], 32⟩, ⟨c1, [.int .i64 (W .i64 (1 + ((bAnd .i64 a0.f0 255).tmod 4))), .int .i64 x1, .int .i64 ((bAnd .i64 a0.f2 255).tmod 3), .int .i64 x2, .int .u32 x3, .int .i64 x4, .string x5, .slice none 0 0], 32⟩, ⟨nx1, [.int .i64 (W .i64 (1 + (W .i64 (a0.f4.tmod 2)))), .string (⟨#[107]⟩ : ByteArray), .slice none 0 0], 30⟩] ∧ X' = [] ∧ Imm.le I2 I' ∧ armillaryref29_Made.k1 a0 (x1, x2, x3, x4, x5) = some r) ?_ ?_
  · rintro _ I3 nx3 _ _ ⟨x1, x2, x3, x4, x5, rfl, rfl, rfl, hi3, H⟩
    replace H : (some (⟨W .i64 (1 + ((bAnd .i64 a0.f0 255).tmod 4)), x1, (bAnd .i64 a0.f2 255).tmod 3, x2, x3, (⟨x4, x5, []⟩ : S30)⟩ : S32)) = some r := H
    refine QN.blkN ?_
    refine QN.then_ ?_
    refine OK.seq K39_38 K39_40 (by kernel_rfl) ?_
    refine OK.region 12 O39_38 (by kernel_rfl) ?_
    refine RL.simP (K' := [(4, .pointer (some ⟨nx0 + 1, 0, none⟩))]) (nx' := nx3) (L' := [⟨nx0, [.int .i64 a0.f0, .int .i64 a0.f1, .int .i64 a0.f2, .int .i64 a0.f3, .int .u32 a0.f4, .int .i64 a0.f5.f0, .string a0.f5.f1, .slice Ap0_5_2 a0.f5.f2.length cp0_5_2], 32⟩, ⟨nx0 + 1, [.int .i64 (W .i64 (1 + ((bAnd .i64 a0.f0 255).tmod 4))), .int .i64 x1, .int .i64 ((bAnd .i64 a0.f2 255).tmod 3), .int .i64 x2, .int .u32 x3, .int .i64 x4, .string x5, .slice none 0 0], 32⟩, ⟨c1, [.int .i64 (W .i64 (1 + ((bAnd .i64 a0.f0 255).tmod 4))), .int .i64 x1, .int .i64 ((bAnd .i64 a0.f2 255).tmod 3), .int .i64 x2, .int .u32 x3, .int .i64 x4, .string x5, .slice none 0 0], 32⟩, ⟨nx1, [.int .i64 (W .i64 (1 + (W .i64 (a0.f4.tmod 2)))), .string (⟨#[107]⟩ : ByteArray), .slice none 0 0], 30⟩]) [] (RFacts.nil _ _ _) 2 [.l 2, .l 1] (by kernel_rfl) (by kernel_rfl) ?_
    refine RL.nil (by kernel_rfl) ?_
    refine QN.then_ ?_
    refine OK.ret (by kernel_rfl) ?_
    obtain rfl := Option.some.inj H
    refine QN.body rfl [] (RFacts.nil _ _ _) (.l 1) (.agg #[.int .i64 (W .i64 (1 + ((bAnd .i64 a0.f0 255).tmod 4))), .int .i64 x1, .int .i64 ((bAnd .i64 a0.f2 255).tmod 3), .int .i64 x2, .int .u32 x3, .int .i64 x4, .string x5, .slice none 0 0]) (by kernel_rfl) (by kernel_rfl) (by kernel_rfl) ?_ _ (.inr rfl)
    exact fun w' hs' => ⟨_, rfl, I3, none, 0, [], rfl, gotNil1 (hs'.got [] (List.nil_sublist _)), rfl⟩
  · intro Q_1 hJ1 hQ1
    obtain ⟨y1, H, HK1⟩ := Option.bind_eq_some_iff.mp H
    refine OK.cond (.tmp 43) K39_21 K39_29 ((W .i64 (1 + ((bAnd .i64 a0.f0 255).tmod 4))) == 1) (by kernel_rfl) (by kernel_rfl) (by kernel_rfl) (fun hb => ?_) (fun hb => ?_)
    · skip
      have hc := (beq_iff_eq.1 hb)
      rw [if_pos hc] at H
      clear hb
      refine OK.seq K39_22 K39_24 (by kernel_rfl) ?_
      refine OK.region 7 O39_22 (by kernel_rfl) ?_
      refine RL.simP (K' := [(47, .int .i64 ((bAnd .i64 a0.f2 255).tmod 3)), (45, .int .i64 a1), (7, .int .u32 t1.1), (6, .pointer (some ⟨nx1, 0, none⟩)), (5, .pointer (some ⟨c1, 0, none⟩)), (4, .pointer (some ⟨nx0 + 1, 0, none⟩))]) (nx' := nx2) (L' := [⟨nx0, [.int .i64 a0.f0, .int .i64 a0.f1, .int .i64 a0.f2, .int .i64 a0.f3, .int .u32 a0.f4, .int .i64 a0.f5.f0, .string a0.f5.f1, .slice Ap0_5_2 a0.f5.f2.length cp0_5_2], 32⟩, ⟨nx0 + 1, [.int .i64 0, .int .i64 0, .int .i64 0, .int .i64 0, .int .u32 0, .int .i64 0, .string (⟨#[]⟩ : ByteArray), .slice none 0 0], 32⟩, ⟨c1, [.int .i64 (W .i64 (1 + ((bAnd .i64 a0.f0 255).tmod 4))), .int .i64 ((bAnd .i64 a0.f1 255).tmod a1), .int .i64 ((bAnd .i64 a0.f2 255).tmod 3), .int .i64 ((bAnd .i64 a0.f3 255).tmod 3), .int .u32 0, .int .i64 0, .string (⟨#[]⟩ : ByteArray), .slice none 0 0], 32⟩, ⟨nx1, [.int .i64 (W .i64 (1 + (W .i64 (a0.f4.tmod 2)))), .string (⟨#[107]⟩ : ByteArray), .slice none 0 0], 30⟩]) [] (RFacts.nil _ _ _) 3 [.no, .no, .l 2] (by kernel_rfl) (by kernel_rfl) ?_
      obtain ⟨t2, hA2, H⟩ := Option.bind_eq_some_iff.mp H
      refine RL.callP 25 [.int .i64 a1, .int .i64 ((bAnd .i64 a0.f2 255).tmod 3)] (some 48) (fun w => armillaryref29_Leader.Post I2 w t2) (by kernel_rfl) (by kernel_rfl) (fun w hs => armillaryref29_Leader.calls I2 a1 ((bAnd .i64 a0.f2 255).tmod 3) w hs.im  t2 hA2) ?_
      rintro w v w' hs ⟨I4, rfl, hg⟩
      have hi4 := hg.le
      refine RL.resume (K' := [(48, .int .i64 t2), (47, .int .i64 ((bAnd .i64 a0.f2 255).tmod 3)), (45, .int .i64 a1), (7, .int .u32 t1.1), (6, .pointer (some ⟨nx1, 0, none⟩)), (5, .pointer (some ⟨c1, 0, none⟩)), (4, .pointer (some ⟨nx0 + 1, 0, none⟩))]) (X' := []) (by kernel_rfl) (hs.call hg) ?_
      clear hs hg
      generalize w'.heap.size = nx4
      clear w w'
      refine RL.simP (K' := [(7, .int .u32 t1.1), (6, .pointer (some ⟨nx1, 0, none⟩)), (5, .pointer (some ⟨c1, 0, none⟩)), (4, .pointer (some ⟨nx0 + 1, 0, none⟩))]) (nx' := nx4) (L' := [⟨nx0, [.int .i64 a0.f0, .int .i64 a0.f1, .int .i64 a0.f2, .int .i64 a0.f3, .int .u32 a0.f4, .int .i64 a0.f5.f0, .string a0.f5.f1, .slice Ap0_5_2 a0.f5.f2.length cp0_5_2], 32⟩, ⟨nx0 + 1, [.int .i64 0, .int .i64 0, .int .i64 0, .int .i64 0, .int .u32 0, .int .i64 0, .string (⟨#[]⟩ : ByteArray), .slice none 0 0], 32⟩, ⟨c1, [.int .i64 (W .i64 (1 + ((bAnd .i64 a0.f0 255).tmod 4))), .int .i64 t2, .int .i64 ((bAnd .i64 a0.f2 255).tmod 3), .int .i64 ((bAnd .i64 a0.f3 255).tmod 3), .int .u32 0, .int .i64 0, .string (⟨#[]⟩ : ByteArray), .slice none 0 0], 32⟩, ⟨nx1, [.int .i64 (W .i64 (1 + (W .i64 (a0.f4.tmod 2)))), .string (⟨#[107]⟩ : ByteArray), .slice none 0 0], 30⟩]) [] (RFacts.nil _ _ _) 2 [.no, .l 2] (by kernel_rfl) (by kernel_rfl) ?_
      refine RL.nil (by kernel_rfl) ?_
      refine QN.then_ ?_
      refine OK.seq K39_25 K39_27 (by kernel_rfl) ?_
      refine OK.region 8 O39_25 (by kernel_rfl) ?_
      refine RL.simP (K' := [(7, .int .u32 t1.1), (5, .pointer (some ⟨c1, 0, none⟩)), (4, .pointer (some ⟨nx0 + 1, 0, none⟩))]) (nx' := nx4) (L' := [⟨nx0, [.int .i64 a0.f0, .int .i64 a0.f1, .int .i64 a0.f2, .int .i64 a0.f3, .int .u32 a0.f4, .int .i64 a0.f5.f0, .string a0.f5.f1, .slice Ap0_5_2 a0.f5.f2.length cp0_5_2], 32⟩, ⟨nx0 + 1, [.int .i64 0, .int .i64 0, .int .i64 0, .int .i64 0, .int .u32 0, .int .i64 0, .string (⟨#[]⟩ : ByteArray), .slice none 0 0], 32⟩, ⟨c1, [.int .i64 (W .i64 (1 + ((bAnd .i64 a0.f0 255).tmod 4))), .int .i64 t2, .int .i64 ((bAnd .i64 a0.f2 255).tmod 3), .int .i64 ((bAnd .i64 a0.f3 255).tmod 3), .int .u32 0, .int .i64 (W .i64 (1 + (W .i64 (a0.f4.tmod 2)))), .string (⟨#[107]⟩ : ByteArray), .slice none 0 0], 32⟩, ⟨nx1, [.int .i64 (W .i64 (1 + (W .i64 (a0.f4.tmod 2)))), .string (⟨#[107]⟩ : ByteArray), .slice none 0 0], 30⟩]) [] (RFacts.nil _ _ _) 3 [.l 3, .no, .l 2] (by kernel_rfl) (by kernel_rfl) ?_
      refine RL.nil (by kernel_rfl) ?_
      refine QN.then_ ?_
      refine OK.region 9 O39_27 (by kernel_rfl) ?_
      refine RL.simP (K' := [(5, .pointer (some ⟨c1, 0, none⟩)), (4, .pointer (some ⟨nx0 + 1, 0, none⟩))]) (nx' := nx4) (L' := [⟨nx0, [.int .i64 a0.f0, .int .i64 a0.f1, .int .i64 a0.f2, .int .i64 a0.f3, .int .u32 a0.f4, .int .i64 a0.f5.f0, .string a0.f5.f1, .slice Ap0_5_2 a0.f5.f2.length cp0_5_2], 32⟩, ⟨nx0 + 1, [.int .i64 0, .int .i64 0, .int .i64 0, .int .i64 0, .int .u32 0, .int .i64 0, .string (⟨#[]⟩ : ByteArray), .slice none 0 0], 32⟩, ⟨c1, [.int .i64 (W .i64 (1 + ((bAnd .i64 a0.f0 255).tmod 4))), .int .i64 t2, .int .i64 ((bAnd .i64 a0.f2 255).tmod 3), .int .i64 ((bAnd .i64 a0.f3 255).tmod 3), .int .u32 t1.1, .int .i64 (W .i64 (1 + (W .i64 (a0.f4.tmod 2)))), .string (⟨#[107]⟩ : ByteArray), .slice none 0 0], 32⟩, ⟨nx1, [.int .i64 (W .i64 (1 + (W .i64 (a0.f4.tmod 2)))), .string (⟨#[107]⟩ : ByteArray), .slice none 0 0], 30⟩]) [] (RFacts.nil _ _ _) 3 [.no, .no, .l 2] (by kernel_rfl) (by kernel_rfl) ?_
      refine RL.nil (by kernel_rfl) ?_
      obtain rfl := Option.some.inj H
      refine QN.sub (K' := [(4, .pointer (some ⟨nx0 + 1, 0, none⟩)), (5, .pointer (some ⟨c1, 0, none⟩))]) (L' := [⟨nx0, [.int .i64 a0.f0, .int .i64 a0.f1, .int .i64 a0.f2, .int .i64 a0.f3, .int .u32 a0.f4, .int .i64 a0.f5.f0, .string a0.f5.f1, .slice Ap0_5_2 a0.f5.f2.length cp0_5_2], 32⟩, ⟨nx0 + 1, [.int .i64 0, .int .i64 0, .int .i64 0, .int .i64 0, .int .u32 0, .int .i64 0, .string (⟨#[]⟩ : ByteArray), .slice none 0 0], 32⟩, ⟨c1, [.int .i64 (W .i64 (1 + ((bAnd .i64 a0.f0 255).tmod 4))), .int .i64 t2, .int .i64 ((bAnd .i64 a0.f2 255).tmod 3), .int .i64 ((bAnd .i64 a0.f3 255).tmod 3), .int .u32 t1.1, .int .i64 (W .i64 (1 + (W .i64 (a0.f4.tmod 2)))), .string (⟨#[107]⟩ : ByteArray), .slice none 0 0], 32⟩, ⟨nx1, [.int .i64 (W .i64 (1 + (W .i64 (a0.f4.tmod 2)))), .string (⟨#[107]⟩ : ByteArray), .slice none 0 0], 30⟩]) (by kernel_rfl) (.cons_cons _ (.cons_cons _ (.cons_cons _ (.cons_cons _ .slnil)))) (.refl _) ?_
      exact hJ1 _ _ _ _ _ ⟨t2, (bAnd .i64 a0.f3 255).tmod 3, t1.1, W .i64 (1 + (W .i64 (a0.f4.tmod 2))), (⟨#[107]⟩ : ByteArray), rfl, rfl, rfl, hi4, HK1⟩
    · skip
      have hc := (beq_eq_false_iff_ne.1 hb)
      rw [if_neg hc] at H
      clear hb
      refine OK.seq K39_30 K39_32 (by kernel_rfl) ?_
      refine OK.region 10 O39_30 (by kernel_rfl) ?_
      refine RL.simP (K' := [(54, .bool ((W .i64 (1 + ((bAnd .i64 a0.f0 255).tmod 4))) == 4)), (7, .int .u32 t1.1), (5, .pointer (some ⟨c1, 0, none⟩)), (4, .pointer (some ⟨nx0 + 1, 0, none⟩))]) (nx' := nx2) (L' := [⟨nx0, [.int .i64 a0.f0, .int .i64 a0.f1, .int .i64 a0.f2, .int .i64 a0.f3, .int .u32 a0.f4, .int .i64 a0.f5.f0, .string a0.f5.f1, .slice Ap0_5_2 a0.f5.f2.length cp0_5_2], 32⟩, ⟨nx0 + 1, [.int .i64 0, .int .i64 0, .int .i64 0, .int .i64 0, .int .u32 0, .int .i64 0, .string (⟨#[]⟩ : ByteArray), .slice none 0 0], 32⟩, ⟨c1, [.int .i64 (W .i64 (1 + ((bAnd .i64 a0.f0 255).tmod 4))), .int .i64 ((bAnd .i64 a0.f1 255).tmod a1), .int .i64 ((bAnd .i64 a0.f2 255).tmod 3), .int .i64 ((bAnd .i64 a0.f3 255).tmod 3), .int .u32 0, .int .i64 0, .string (⟨#[]⟩ : ByteArray), .slice none 0 0], 32⟩, ⟨nx1, [.int .i64 (W .i64 (1 + (W .i64 (a0.f4.tmod 2)))), .string (⟨#[107]⟩ : ByteArray), .slice none 0 0], 30⟩]) [] (RFacts.nil _ _ _) 2 [.no, .no] (by kernel_rfl) (by kernel_rfl) ?_
      refine RL.nil (by kernel_rfl) ?_
      refine QN.then_ ?_
      refine OK.join (fun K' I' _ L' X' => ∃ (x6 : Int) (x7 : Int), K' = [(4, .pointer (some ⟨nx0 + 1, 0, none⟩)), (5, .pointer (some ⟨c1, 0, none⟩))] ∧ L' = [⟨nx0, [.int .i64 a0.f0, .int .i64 a0.f1, .int .i64 a0.f2, .int .i64 a0.f3, .int .u32 a0.f4, .int .i64 a0.f5.f0, .string a0.f5.f1, .slice Ap0_5_2 a0.f5.f2.length cp0_5_2], 32⟩, ⟨nx0 + 1, [.int .i64 0, .int .i64 0, .int .i64 0, .int .i64 0, .int .u32 0, .int .i64 0, .string (⟨#[]⟩ : ByteArray), .slice none 0 0], 32⟩, ⟨c1, [.int .i64 (W .i64 (1 + ((bAnd .i64 a0.f0 255).tmod 4))), .int .i64 ((bAnd .i64 a0.f1 255).tmod a1), .int .i64 ((bAnd .i64 a0.f2 255).tmod 3), .int .i64 x6, .int .u32 x7, .int .i64 0, .string (⟨#[]⟩ : ByteArray), .slice none 0 0], 32⟩, ⟨nx1, [.int .i64 (W .i64 (1 + (W .i64 (a0.f4.tmod 2)))), .string (⟨#[107]⟩ : ByteArray), .slice none 0 0], 30⟩] ∧ X' = [] ∧ Imm.le I2 I' ∧ armillaryref29_Made.k2 a0 a1 (x6, x7) = some y1) ?_ ?_
      · rintro _ I5 nx5 _ _ ⟨x6, x7, rfl, rfl, rfl, hi5, H⟩
        replace H : (some ((bAnd .i64 a0.f1 255).tmod a1, x6, x7, 0, (⟨#[]⟩ : ByteArray))) = some y1 := H
        obtain rfl := Option.some.inj H
        refine QN.sub (K' := [(4, .pointer (some ⟨nx0 + 1, 0, none⟩)), (5, .pointer (some ⟨c1, 0, none⟩))]) (L' := [⟨nx0, [.int .i64 a0.f0, .int .i64 a0.f1, .int .i64 a0.f2, .int .i64 a0.f3, .int .u32 a0.f4, .int .i64 a0.f5.f0, .string a0.f5.f1, .slice Ap0_5_2 a0.f5.f2.length cp0_5_2], 32⟩, ⟨nx0 + 1, [.int .i64 0, .int .i64 0, .int .i64 0, .int .i64 0, .int .u32 0, .int .i64 0, .string (⟨#[]⟩ : ByteArray), .slice none 0 0], 32⟩, ⟨c1, [.int .i64 (W .i64 (1 + ((bAnd .i64 a0.f0 255).tmod 4))), .int .i64 ((bAnd .i64 a0.f1 255).tmod a1), .int .i64 ((bAnd .i64 a0.f2 255).tmod 3), .int .i64 x6, .int .u32 x7, .int .i64 0, .string (⟨#[]⟩ : ByteArray), .slice none 0 0], 32⟩, ⟨nx1, [.int .i64 (W .i64 (1 + (W .i64 (a0.f4.tmod 2)))), .string (⟨#[107]⟩ : ByteArray), .slice none 0 0], 30⟩]) (by kernel_rfl) (.cons_cons _ (.cons_cons _ (.cons_cons _ (.cons_cons _ .slnil)))) (.refl _) ?_
        exact hJ1 _ _ _ _ _ ⟨(bAnd .i64 a0.f1 255).tmod a1, x6, x7, 0, (⟨#[]⟩ : ByteArray), rfl, rfl, rfl, hi5, HK1⟩
      · intro Q_2 hJ2 hQ2
        obtain ⟨y2, H, HK2⟩ := Option.bind_eq_some_iff.mp H
        refine OK.cond (.tmp 54) K39_33 K39_35 ((W .i64 (1 + ((bAnd .i64 a0.f0 255).tmod 4))) == 4) (by kernel_rfl) (by kernel_rfl) (by kernel_rfl) (fun hb => ?_) (fun hb => ?_)
        · skip
          have hc := (beq_iff_eq.1 hb)
          rw [if_pos hc] at H
          clear hb
          refine OK.region 11 O39_33 (by kernel_rfl) ?_
          refine RL.simP (K' := [(5, .pointer (some ⟨c1, 0, none⟩)), (4, .pointer (some ⟨nx0 + 1, 0, none⟩))]) (nx' := nx2) (L' := [⟨nx0, [.int .i64 a0.f0, .int .i64 a0.f1, .int .i64 a0.f2, .int .i64 a0.f3, .int .u32 a0.f4, .int .i64 a0.f5.f0, .string a0.f5.f1, .slice Ap0_5_2 a0.f5.f2.length cp0_5_2], 32⟩, ⟨nx0 + 1, [.int .i64 0, .int .i64 0, .int .i64 0, .int .i64 0, .int .u32 0, .int .i64 0, .string (⟨#[]⟩ : ByteArray), .slice none 0 0], 32⟩, ⟨c1, [.int .i64 (W .i64 (1 + ((bAnd .i64 a0.f0 255).tmod 4))), .int .i64 ((bAnd .i64 a0.f1 255).tmod a1), .int .i64 ((bAnd .i64 a0.f2 255).tmod 3), .int .i64 0, .int .u32 0, .int .i64 0, .string (⟨#[]⟩ : ByteArray), .slice none 0 0], 32⟩, ⟨nx1, [.int .i64 (W .i64 (1 + (W .i64 (a0.f4.tmod 2)))), .string (⟨#[107]⟩ : ByteArray), .slice none 0 0], 30⟩]) [] (RFacts.nil _ _ _) 2 [.no, .l 2] (by kernel_rfl) (by kernel_rfl) ?_
          refine RL.nil (by kernel_rfl) ?_
          obtain rfl := Option.some.inj H
          refine QN.sub (K' := [(4, .pointer (some ⟨nx0 + 1, 0, none⟩)), (5, .pointer (some ⟨c1, 0, none⟩))]) (L' := [⟨nx0, [.int .i64 a0.f0, .int .i64 a0.f1, .int .i64 a0.f2, .int .i64 a0.f3, .int .u32 a0.f4, .int .i64 a0.f5.f0, .string a0.f5.f1, .slice Ap0_5_2 a0.f5.f2.length cp0_5_2], 32⟩, ⟨nx0 + 1, [.int .i64 0, .int .i64 0, .int .i64 0, .int .i64 0, .int .u32 0, .int .i64 0, .string (⟨#[]⟩ : ByteArray), .slice none 0 0], 32⟩, ⟨c1, [.int .i64 (W .i64 (1 + ((bAnd .i64 a0.f0 255).tmod 4))), .int .i64 ((bAnd .i64 a0.f1 255).tmod a1), .int .i64 ((bAnd .i64 a0.f2 255).tmod 3), .int .i64 0, .int .u32 0, .int .i64 0, .string (⟨#[]⟩ : ByteArray), .slice none 0 0], 32⟩, ⟨nx1, [.int .i64 (W .i64 (1 + (W .i64 (a0.f4.tmod 2)))), .string (⟨#[107]⟩ : ByteArray), .slice none 0 0], 30⟩]) (by kernel_rfl) (.cons_cons _ (.cons_cons _ (.cons_cons _ (.cons_cons _ .slnil)))) (.refl _) ?_
          exact hJ2 _ _ _ _ _ ⟨0, 0, rfl, rfl, rfl, (Imm.le_refl _), HK2⟩
        · skip
          have hc := (beq_eq_false_iff_ne.1 hb)
          rw [if_neg hc] at H
          clear hb
          refine OK.region 5 O39_35 (by kernel_rfl) ?_
          refine RL.simP (K' := [(5, .pointer (some ⟨c1, 0, none⟩)), (4, .pointer (some ⟨nx0 + 1, 0, none⟩))]) (nx' := nx2) (L' := [⟨nx0, [.int .i64 a0.f0, .int .i64 a0.f1, .int .i64 a0.f2, .int .i64 a0.f3, .int .u32 a0.f4, .int .i64 a0.f5.f0, .string a0.f5.f1, .slice Ap0_5_2 a0.f5.f2.length cp0_5_2], 32⟩, ⟨nx0 + 1, [.int .i64 0, .int .i64 0, .int .i64 0, .int .i64 0, .int .u32 0, .int .i64 0, .string (⟨#[]⟩ : ByteArray), .slice none 0 0], 32⟩, ⟨c1, [.int .i64 (W .i64 (1 + ((bAnd .i64 a0.f0 255).tmod 4))), .int .i64 ((bAnd .i64 a0.f1 255).tmod a1), .int .i64 ((bAnd .i64 a0.f2 255).tmod 3), .int .i64 ((bAnd .i64 a0.f3 255).tmod 3), .int .u32 t1.1, .int .i64 0, .string (⟨#[]⟩ : ByteArray), .slice none 0 0], 32⟩, ⟨nx1, [.int .i64 (W .i64 (1 + (W .i64 (a0.f4.tmod 2)))), .string (⟨#[107]⟩ : ByteArray), .slice none 0 0], 30⟩]) [] (RFacts.nil _ _ _) 3 [.no, .no, .l 2] (by kernel_rfl) (by kernel_rfl) ?_
          refine RL.nil (by kernel_rfl) ?_
          obtain rfl := Option.some.inj H
          refine QN.sub (K' := [(4, .pointer (some ⟨nx0 + 1, 0, none⟩)), (5, .pointer (some ⟨c1, 0, none⟩))]) (L' := [⟨nx0, [.int .i64 a0.f0, .int .i64 a0.f1, .int .i64 a0.f2, .int .i64 a0.f3, .int .u32 a0.f4, .int .i64 a0.f5.f0, .string a0.f5.f1, .slice Ap0_5_2 a0.f5.f2.length cp0_5_2], 32⟩, ⟨nx0 + 1, [.int .i64 0, .int .i64 0, .int .i64 0, .int .i64 0, .int .u32 0, .int .i64 0, .string (⟨#[]⟩ : ByteArray), .slice none 0 0], 32⟩, ⟨c1, [.int .i64 (W .i64 (1 + ((bAnd .i64 a0.f0 255).tmod 4))), .int .i64 ((bAnd .i64 a0.f1 255).tmod a1), .int .i64 ((bAnd .i64 a0.f2 255).tmod 3), .int .i64 ((bAnd .i64 a0.f3 255).tmod 3), .int .u32 t1.1, .int .i64 0, .string (⟨#[]⟩ : ByteArray), .slice none 0 0], 32⟩, ⟨nx1, [.int .i64 (W .i64 (1 + (W .i64 (a0.f4.tmod 2)))), .string (⟨#[107]⟩ : ByteArray), .slice none 0 0], 30⟩]) (by kernel_rfl) (.cons_cons _ (.cons_cons _ (.cons_cons _ (.cons_cons _ .slnil)))) (.refl _) ?_
          exact hJ2 _ _ _ _ _ ⟨(bAnd .i64 a0.f3 255).tmod 3, t1.1, rfl, rfl, rfl, (Imm.le_refl _), HK2⟩

end Go.Proofs.Ytieakigoinebdaa
