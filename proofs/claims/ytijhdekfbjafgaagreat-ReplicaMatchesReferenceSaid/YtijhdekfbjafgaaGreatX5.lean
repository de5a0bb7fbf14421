/- Words of the walk, the functions' walks and plain laws, joined; no conditions beyond those that the theorems name. -/
import Derived.Test.YtijhdekfbjafgaaGreatX4
namespace Go.Proofs.YtijhdekfbjafgaaGreat
open Go Go.Proofs.YtijhdekfbjafgaaGreat.RW
set_option linter.unusedVariables false
set_option maxRecDepth 100000
set_option maxHeartbeats 8000000

/-! ### quorum_HighestPrepared: function 18, armillary/quorum.HighestPrepared -/
noncomputable def K18_0 : Code := cBody Tryz.f33
noncomputable def K18_1 : Code := cL K18_0
noncomputable def O18_1 : List Oper := cOps K18_1
noncomputable def K18_3 : Code := cR K18_0
noncomputable def K18_4 : Code := cL K18_3
noncomputable def O18_4 : List Oper := cOps K18_4
noncomputable def K18_6 : Code := cR K18_3
noncomputable def K18_7 : Code := cL K18_6
noncomputable def O18_7 : List Oper := cOps K18_7
noncomputable def K18_9 : Code := cR K18_6
noncomputable def K18_10 : Code := cL K18_9
noncomputable def K18_11 : Code := cL K18_10
noncomputable def O18_11 : List Oper := cOps K18_11
noncomputable def K18_13 : Code := cR K18_10
noncomputable def K18_14 : Code := cL K18_13
noncomputable def K18_15 : Code := cL K18_14
noncomputable def K18_16 : Code := cL K18_15
noncomputable def O18_16 : List Oper := cOps K18_16
noncomputable def K18_18 : Code := cR K18_15
noncomputable def K18_19 : Code := cL K18_18
noncomputable def K18_20 : Code := cL K18_19
noncomputable def K18_21 : Code := cR K18_19
noncomputable def K18_22 : Code := cR K18_18
noncomputable def K18_23 : Code := cL K18_22
noncomputable def K18_24 : Code := cL K18_23
noncomputable def K18_25 : Code := cL K18_24
noncomputable def O18_25 : List Oper := cOps K18_25
noncomputable def K18_27 : Code := cR K18_24
noncomputable def K18_28 : Code := cL K18_27
noncomputable def K18_29 : Code := cL K18_28
noncomputable def O18_29 : List Oper := cOps K18_29
noncomputable def K18_31 : Code := cR K18_28
noncomputable def K18_32 : Code := cL K18_31
noncomputable def K18_33 : Code := cR K18_31
noncomputable def K18_34 : Code := cR K18_27
noncomputable def K18_35 : Code := cL K18_34
noncomputable def O18_35 : List Oper := cOps K18_35
noncomputable def K18_37 : Code := cR K18_34
noncomputable def K18_38 : Code := cL K18_37
noncomputable def O18_38 : List Oper := cOps K18_38
noncomputable def K18_40 : Code := cR K18_37
noncomputable def K18_41 : Code := cL K18_40
noncomputable def O18_41 : List Oper := cOps K18_41
noncomputable def K18_43 : Code := cR K18_40
noncomputable def K18_44 : Code := cR K18_22
noncomputable def O18_44 : List Oper := cOps K18_44
noncomputable def K18_46 : Code := cR K18_9
noncomputable def K18_47 : Code := cL K18_46
noncomputable def O18_47 : List Oper := cOps K18_47
noncomputable def K18_49 : Code := cR K18_46
noncomputable def quorum_HighestPrepared.k1  : Int × ByteArray × List Int × Int → Option (Q30 × Bool)
  | (x1, x2, x3, x4) => (some ((⟨x1, x2, x3⟩ : Q30), (decide (x4 ≥ 0))))
noncomputable def quorum_HighestPrepared.k3  : Int × ByteArray × List Int × Int → Option (Int × ByteArray × List Int × Int)
  | (x16, x17, x18, x19) => (some (x16, x17, x18, x19))
noncomputable def quorum_HighestPrepared.k4 (a0 : List Q32) (x5 : Int) (x6 : ByteArray) (x7 : List Int) (x8 : Int) (x9 : Int) (x15 : Bool) : Option (Int × ByteArray × List Int × Int) := ((if x15 = true then (some ((a0.getD (x9).toNat qz32).f5.f0, (a0.getD (x9).toNat qz32).f5.f1, (a0.getD (x9).toNat qz32).f5.f2, (a0.getD (x9).toNat qz32).f2)) else (some (x5, x6, x7, x8))).bind (quorum_HighestPrepared.k3))
noncomputable def quorum_HighestPrepared.k5 (a0 : List Q32) (t1 : (List (VK × Int))) (x5 : Int) (x6 : ByteArray) (x7 : List Int) (x8 : Int) (x9 : Int) (x14 : Bool) : Option (Int × ByteArray × List Int × Int) := (if x14 = true then (some (x5, x6, x7, x8)) else ((if (mget t1 (2, 0, (a0.getD (x9).toNat qz32).f2, (a0.getD (x9).toNat qz32).f3)).isSome = true then (some (((mget t1 (2, 0, (a0.getD (x9).toNat qz32).f2, (a0.getD (x9).toNat qz32).f3)).getD 0) == ((a0.getD (x9).toNat qz32).f4))) else (some false)).bind (quorum_HighestPrepared.k4 a0 x5 x6 x7 x8 x9)))
noncomputable def quorum_HighestPrepared.l1 (a0 : List Q32) (a1 : Int) (a2 : Q24) (t1 : (List (VK × Int))) : Nat → Int → ByteArray → (List Int) → Int → Int → Option (Int × ByteArray × List Int × Int)
  | 0, _, _, _, _, _ => none
  | k + 1, x5, x6, x7, x8, x9 => (if x9 < (a0.length : Int) then ((if 0 ≤ x9 then (if x9 < (a0.length : Int) then ((if ((a0.getD (x9).toNat qz32).f0) ≠ 1 then (some true) else (if ((a0.getD (x9).toNat qz32).f3) ≠ a2.f1 then (some true) else (if ((a0.getD (x9).toNat qz32).f2) ≥ a2.f0 then (some true) else (if ((a0.getD (x9).toNat qz32).f2) ≤ x8 then (some true) else ((quorum_Valid.f k (a0.getD (x9).toNat qz32) a1).bind fun t2 => (some (!t2))))))).bind (quorum_HighestPrepared.k5 a0 t1 x5 x6 x7 x8 x9)) else none) else none).bind (fun (x10, x11, x12, x13) => (quorum_HighestPrepared.l1 a0 a1 a2 t1 k x10 x11 x12 x13 (W .i64 (x9 + 1))))) else (some (x5, x6, x7, x8)))
noncomputable def quorum_HighestPrepared.f (k : Nat) (a0 : List Q32) (a1 : Int) (a2 : Q24) : Option (Q30 × Bool) := ((quorum_tally.f k a0 a1).bind fun t1 => ((quorum_HighestPrepared.l1 a0 a1 a2 t1 k 0 (⟨#[]⟩ : ByteArray) [] (-1) 0).bind (quorum_HighestPrepared.k1)))
def quorum_HighestPrepared.Post (I : Imm) (w : World) (r : Q30 × Bool) (v : Value) (w' : World) : Prop :=
  ∃ (J : Imm) (A0_2 : Option Addr) (c0_2 : Nat), v = .tuple #[.agg #[.int .i64 r.1.f0, .string r.1.f1, .slice A0_2 r.1.f2.length c0_2], .bool r.2] ∧ Got w w' I J [] ∧ r.1.f2.length ≤ c0_2 ∧ Rd (Ty.int .u8) J A0_2 r.1.f2
theorem quorum_HighestPrepared.a18_41 : ancs O18_41 [] = [0, 1, 0, 4, 3, 31] := by kernel_rfl
theorem quorum_HighestPrepared.a18_41o : drawOk O18_41 [0, 1, 0, 4, 3, 31] 5 = true := by kernel_rfl
noncomputable def quorum_HighestPrepared.d1l  : List Ld :=
  []
noncomputable def quorum_HighestPrepared.d1g  : List (Nat × ((Nat → Wt) → Value)) := []
theorem quorum_HighestPrepared.d1v (a0 : List Q32) (Ap0 : Option Addr) (cp0 : Nat) (a1 : Int) (a2 : Q24) (nx0 : Nat) (g1 : Nat) (nx1 : Nat) (x5 : Int) (x6 : ByteArray) (x7 : List Int) (A2 : Option Addr) (c2 : Nat) (x8 : Int) (x9 : Int) (nx3 : Nat) (A1_5_2_ : Option Addr) (c1_5_2_ : Nat) (x15 : Bool) (u : Nat → Wt) : (qSim Tryz.prog [] [⟨nx0, [.int .i64 a2.f0, .int .i64 a2.f1], 65⟩, ⟨nx0 + 1, [.int .i64 0, .string (⟨#[]⟩ : ByteArray), .slice none 0 0], 26⟩, ⟨nx1, [.int .i64 x5, .string x6, .slice A2 x7.length c2], 26⟩, ⟨nx3, [.int .i64 ((a0.getD (x9).toNat qz32).f0), .int .i64 ((a0.getD (x9).toNat qz32).f1), .int .i64 ((a0.getD (x9).toNat qz32).f2), .int .i64 ((a0.getD (x9).toNat qz32).f3), .int .u32 ((a0.getD (x9).toNat qz32).f4), .int .i64 ((a0.getD (x9).toNat qz32).f5.f0), .string ((a0.getD (x9).toNat qz32).f5.f1), .slice A1_5_2_ (((a0.getD (x9).toNat qz32).f5.f2).length) c1_5_2_], 28⟩] O18_41 ⟨80, []⟩ (Ld.vl quorum_HighestPrepared.d1l) quorum_HighestPrepared.d1g u [.no, .l 3, .no, .l 3, .no] 0 (O18_41.take 5) [(1, .int .i64 a1), (5, .pointer (some ⟨nx0, 0, none⟩)), (6, .pointer (some ⟨nx0 + 1, 0, none⟩)), (8, .map (some g1)), (9, .int .i64 x8), (10, .pointer (some ⟨nx1, 0, none⟩)), (12, .pointer (some ⟨nx3, 0, none⟩)), (19, .slice Ap0 a0.length cp0), (20, .int .i64 (a0.length : Int)), (21, .int .i64 x9), (71, .bool x15)]).map (fun x => (x.1, x.2.1)) = some ([.pointer (some ⟨nx3, 2, none⟩), .int .i64 ((a0.getD (x9).toNat qz32).f2), .pointer (some ⟨nx3, 5, none⟩), .agg #[.int .i64 ((a0.getD (x9).toNat qz32).f5.f0), .string ((a0.getD (x9).toNat qz32).f5.f1), .slice A1_5_2_ (((a0.getD (x9).toNat qz32).f5.f2).length) c1_5_2_], .int .i64 ((a0.getD (x9).toNat qz32).f2)], [(9, .int .i64 ((a0.getD (x9).toNat qz32).f2)), (75, .agg #[.int .i64 ((a0.getD (x9).toNat qz32).f5.f0), .string ((a0.getD (x9).toNat qz32).f5.f1), .slice A1_5_2_ (((a0.getD (x9).toNat qz32).f5.f2).length) c1_5_2_]), (74, .pointer (some ⟨nx3, 5, none⟩)), (73, .int .i64 ((a0.getD (x9).toNat qz32).f2)), (72, .pointer (some ⟨nx3, 2, none⟩)), (1, .int .i64 a1), (5, .pointer (some ⟨nx0, 0, none⟩)), (6, .pointer (some ⟨nx0 + 1, 0, none⟩)), (8, .map (some g1)), (10, .pointer (some ⟨nx1, 0, none⟩)), (12, .pointer (some ⟨nx3, 0, none⟩)), (19, .slice Ap0 a0.length cp0), (20, .int .i64 (a0.length : Int)), (21, .int .i64 x9), (71, .bool x15)]) := by kernel_rfl
theorem quorum_HighestPrepared.d1e (a0 : List Q32) (Ap0 : Option Addr) (cp0 : Nat) (a1 : Int) (a2 : Q24) (nx0 : Nat) (g1 : Nat) (nx1 : Nat) (x5 : Int) (x6 : ByteArray) (x7 : List Int) (A2 : Option Addr) (c2 : Nat) (x8 : Int) (x9 : Int) (nx3 : Nat) (A1_5_2_ : Option Addr) (c1_5_2_ : Nat) (x15 : Bool) (u : Nat → Wt) : (qSim Tryz.prog [] [⟨nx0, [.int .i64 a2.f0, .int .i64 a2.f1], 65⟩, ⟨nx0 + 1, [.int .i64 0, .string (⟨#[]⟩ : ByteArray), .slice none 0 0], 26⟩, ⟨nx1, [.int .i64 x5, .string x6, .slice A2 x7.length c2], 26⟩, ⟨nx3, [.int .i64 ((a0.getD (x9).toNat qz32).f0), .int .i64 ((a0.getD (x9).toNat qz32).f1), .int .i64 ((a0.getD (x9).toNat qz32).f2), .int .i64 ((a0.getD (x9).toNat qz32).f3), .int .u32 ((a0.getD (x9).toNat qz32).f4), .int .i64 ((a0.getD (x9).toNat qz32).f5.f0), .string ((a0.getD (x9).toNat qz32).f5.f1), .slice A1_5_2_ (((a0.getD (x9).toNat qz32).f5.f2).length) c1_5_2_], 28⟩] O18_41 ⟨80, []⟩ (Ld.vl quorum_HighestPrepared.d1l) quorum_HighestPrepared.d1g u [.no, .l 3, .no, .l 3, .no] 0 (O18_41.take 5) [(1, .int .i64 a1), (5, .pointer (some ⟨nx0, 0, none⟩)), (6, .pointer (some ⟨nx0 + 1, 0, none⟩)), (8, .map (some g1)), (9, .int .i64 x8), (10, .pointer (some ⟨nx1, 0, none⟩)), (12, .pointer (some ⟨nx3, 0, none⟩)), (19, .slice Ap0 a0.length cp0), (20, .int .i64 (a0.length : Int)), (21, .int .i64 x9), (71, .bool x15)]).map (fun x => x.2.2.map (·.1)) = (qSim Tryz.prog [] [⟨nx0, [.int .i64 a2.f0, .int .i64 a2.f1], 65⟩, ⟨nx0 + 1, [.int .i64 0, .string (⟨#[]⟩ : ByteArray), .slice none 0 0], 26⟩, ⟨nx1, [.int .i64 x5, .string x6, .slice A2 x7.length c2], 26⟩, ⟨nx3, [.int .i64 ((a0.getD (x9).toNat qz32).f0), .int .i64 ((a0.getD (x9).toNat qz32).f1), .int .i64 ((a0.getD (x9).toNat qz32).f2), .int .i64 ((a0.getD (x9).toNat qz32).f3), .int .u32 ((a0.getD (x9).toNat qz32).f4), .int .i64 ((a0.getD (x9).toNat qz32).f5.f0), .string ((a0.getD (x9).toNat qz32).f5.f1), .slice A1_5_2_ (((a0.getD (x9).toNat qz32).f5.f2).length) c1_5_2_], 28⟩] O18_41 ⟨80, []⟩ (Ld.vl quorum_HighestPrepared.d1l) quorum_HighestPrepared.d1g u [.no, .l 3, .no, .l 3, .no] 0 (O18_41.take 5) [(1, .int .i64 a1), (5, .pointer (some ⟨nx0, 0, none⟩)), (6, .pointer (some ⟨nx0 + 1, 0, none⟩)), (8, .map (some g1)), (9, .int .i64 x8), (10, .pointer (some ⟨nx1, 0, none⟩)), (12, .pointer (some ⟨nx3, 0, none⟩)), (19, .slice Ap0 a0.length cp0), (20, .int .i64 (a0.length : Int)), (21, .int .i64 x9), (71, .bool x15)]).map (fun x => x.2.2.map (·.2)) := by kernel_rfl
theorem quorum_HighestPrepared.calls (k : Nat) (I0 : Imm) (a0 : List Q32) (Ap0 : Option Addr) (cp0 : Nat) (a1 : Int) (a2 : Q24) (w : World) (hI : I0.at_ w) (hlp0 : a0.length ≤ cp0) (hrp0 : Rd qt32 I0 Ap0 a0) (r : Q30 × Bool) (h : quorum_HighestPrepared.f k a0 a1 a2 = some r) :
    Calls Tryz.prog 33 [.slice Ap0 a0.length cp0, .int .i64 a1, .agg #[.int .i64 a2.f0, .int .i64 a2.f1]].toArray w fun e w' => ∃ v, e = .returned v ∧ quorum_HighestPrepared.Post I0 w r v w' := by
  have H : ((quorum_tally.f k a0 a1).bind fun t1 => ((quorum_HighestPrepared.l1 a0 a1 a2 t1 k 0 (⟨#[]⟩ : ByteArray) [] (-1) 0).bind (quorum_HighestPrepared.k1))) = some r := h
  clear h
  refine calls_body Tryz.func33 (by kernel_rfl) 80 (by kernel_rfl) (by kernel_rfl) ⟨w, fun _ => False, I0⟩ I0 [] [(0, .slice Ap0 a0.length cp0), (1, .int .i64 a1), (2, .agg #[.int .i64 a2.f0, .int .i64 a2.f1])] (by kernel_rfl) (Sat.start w _ I0 hI) ?_
  generalize w.heap.size = nx0
  show OK _ K18_0 _ _ _ _ _ _ _ _
  refine OK.seq K18_1 K18_3 (by kernel_rfl) ?_
  refine OK.region 0 O18_1 (by kernel_rfl) ?_
  refine RL.simP (K' := [(6, .pointer (some ⟨nx0 + 1, 0, none⟩)), (5, .pointer (some ⟨nx0, 0, none⟩)), (0, .slice Ap0 a0.length cp0), (1, .int .i64 a1)]) (nx' := nx0 + 2) (L' := [⟨nx0, [.int .i64 a2.f0, .int .i64 a2.f1], 65⟩, ⟨nx0 + 1, [.int .i64 0, .string (⟨#[]⟩ : ByteArray), .slice none 0 0], 26⟩]) [] (RFacts.nil _ _ _) 3 [.no, .no, .no] (by kernel_rfl) (by kernel_rfl) ?_
  refine RL.nil (by kernel_rfl) ?_
  refine QN.then_ ?_
  refine OK.seq K18_4 K18_6 (by kernel_rfl) ?_
  refine OK.region 1 O18_4 (by kernel_rfl) ?_
  refine RL.simP (K' := [(16, .int .i64 a1), (15, .slice Ap0 a0.length cp0), (6, .pointer (some ⟨nx0 + 1, 0, none⟩)), (5, .pointer (some ⟨nx0, 0, none⟩)), (0, .slice Ap0 a0.length cp0), (1, .int .i64 a1)]) (nx' := nx0 + 2) (L' := [⟨nx0, [.int .i64 a2.f0, .int .i64 a2.f1], 65⟩, ⟨nx0 + 1, [.int .i64 0, .string (⟨#[]⟩ : ByteArray), .slice none 0 0], 26⟩]) [] (RFacts.nil _ _ _) 2 [.no, .no] (by kernel_rfl) (by kernel_rfl) ?_
  obtain ⟨t1, hA1, H⟩ := Option.bind_eq_some_iff.mp H
  refine RL.callP 65 [.slice Ap0 a0.length cp0, .int .i64 a1] (some 17) (fun w => quorum_tally.Post I0 w t1) (by kernel_rfl) (by kernel_rfl) (fun w hs => quorum_tally.calls k I0 a0 Ap0 cp0 a1 w hs.im hlp0 hrp0 t1 hA1) ?_
  rintro w v w' hs ⟨I1, g1, rfl, hg, hm1⟩
  have hi1 := hg.le
  refine RL.resume (K' := [(17, .map (some g1)), (16, .int .i64 a1), (15, .slice Ap0 a0.length cp0), (6, .pointer (some ⟨nx0 + 1, 0, none⟩)), (5, .pointer (some ⟨nx0, 0, none⟩)), (0, .slice Ap0 a0.length cp0), (1, .int .i64 a1)]) (X' := []) (by kernel_rfl) (hs.call hg) ?_
  clear hs hg
  generalize w'.heap.size = nx1
  clear w w'
  refine RL.simP (K' := [(8, .map (some g1)), (6, .pointer (some ⟨nx0 + 1, 0, none⟩)), (5, .pointer (some ⟨nx0, 0, none⟩)), (0, .slice Ap0 a0.length cp0), (1, .int .i64 a1)]) (nx' := nx1) (L' := [⟨nx0, [.int .i64 a2.f0, .int .i64 a2.f1], 65⟩, ⟨nx0 + 1, [.int .i64 0, .string (⟨#[]⟩ : ByteArray), .slice none 0 0], 26⟩]) [] (RFacts.nil _ _ _) 1 [.no] (by kernel_rfl) (by kernel_rfl) ?_
  refine RL.nil (by kernel_rfl) ?_
  refine QN.then_ ?_
  refine OK.seq K18_7 K18_9 (by kernel_rfl) ?_
  refine OK.region 2 O18_7 (by kernel_rfl) ?_
  refine RL.simP (K' := [(9, .int .i64 (-1)), (10, .pointer (some ⟨nx1, 0, none⟩)), (8, .map (some g1)), (6, .pointer (some ⟨nx0 + 1, 0, none⟩)), (5, .pointer (some ⟨nx0, 0, none⟩)), (0, .slice Ap0 a0.length cp0), (1, .int .i64 a1)]) (nx' := nx1 + 1) (L' := [⟨nx0, [.int .i64 a2.f0, .int .i64 a2.f1], 65⟩, ⟨nx0 + 1, [.int .i64 0, .string (⟨#[]⟩ : ByteArray), .slice none 0 0], 26⟩, ⟨nx1, [.int .i64 0, .string (⟨#[]⟩ : ByteArray), .slice none 0 0], 26⟩]) [] (RFacts.nil _ _ _) 4 [.no, .no, .no, .l 2] (by kernel_rfl) (by kernel_rfl) ?_
  refine RL.nil (by kernel_rfl) ?_
  refine QN.then_ ?_
  refine OK.seq K18_10 K18_46 (by kernel_rfl) ?_
  refine OK.seq K18_11 K18_13 (by kernel_rfl) ?_
  refine OK.region 3 O18_11 (by kernel_rfl) ?_
  refine RL.simP (K' := [(21, .int .i64 0), (20, .int .i64 (a0.length : Int)), (19, .slice Ap0 a0.length cp0), (9, .int .i64 (-1)), (10, .pointer (some ⟨nx1, 0, none⟩)), (8, .map (some g1)), (6, .pointer (some ⟨nx0 + 1, 0, none⟩)), (5, .pointer (some ⟨nx0, 0, none⟩)), (1, .int .i64 a1)]) (nx' := nx1 + 1) (L' := [⟨nx0, [.int .i64 a2.f0, .int .i64 a2.f1], 65⟩, ⟨nx0 + 1, [.int .i64 0, .string (⟨#[]⟩ : ByteArray), .slice none 0 0], 26⟩, ⟨nx1, [.int .i64 0, .string (⟨#[]⟩ : ByteArray), .slice none 0 0], 26⟩]) [] (RFacts.nil _ _ _) 3 [.no, .no, .no] (by kernel_rfl) (by kernel_rfl) ?_
  refine RL.nil (by kernel_rfl) ?_
  refine QN.then_ ?_
  refine OK.join (fun K' I' _ L' X' => ∃ (x1 : Int) (x2 : ByteArray) (x3 : List Int) (x4 : Int) (A1 : Option Addr) (c1 : Nat), K' = [(6, .pointer (some ⟨nx0 + 1, 0, none⟩)), (9, .int .i64 x4), (10, .pointer (some ⟨nx1, 0, none⟩))] ∧ L' = [⟨nx0, [.int .i64 a2.f0, .int .i64 a2.f1], 65⟩, ⟨nx0 + 1, [.int .i64 0, .string (⟨#[]⟩ : ByteArray), .slice none 0 0], 26⟩, ⟨nx1, [.int .i64 x1, .string x2, .slice A1 x3.length c1], 26⟩] ∧ X' = [] ∧ Imm.le I1 I' ∧ x3.length ≤ c1 ∧ Rd (Ty.int .u8) I' A1 x3 ∧ quorum_HighestPrepared.k1 (x1, x2, x3, x4) = some r) ?_ ?_
  · rintro _ I2 nx2 _ _ ⟨x1, x2, x3, x4, A1, c1, rfl, rfl, rfl, hi2, hl1, hr1, H⟩
    replace H : (some ((⟨x1, x2, x3⟩ : Q30), (decide (x4 ≥ 0)))) = some r := H
    refine QN.then_ ?_
    refine OK.seq K18_47 K18_49 (by kernel_rfl) ?_
    refine OK.region 11 O18_47 (by kernel_rfl) ?_
    refine RL.simP (K' := [(7, .bool (decide (x4 ≥ 0))), (6, .pointer (some ⟨nx0 + 1, 0, none⟩))]) (nx' := nx2) (L' := [⟨nx0, [.int .i64 a2.f0, .int .i64 a2.f1], 65⟩, ⟨nx0 + 1, [.int .i64 x1, .string x2, .slice A1 x3.length c1], 26⟩, ⟨nx1, [.int .i64 x1, .string x2, .slice A1 x3.length c1], 26⟩]) [] (RFacts.nil _ _ _) 5 [.l 2, .no, .no, .l 1, .no] (by kernel_rfl) (by kernel_rfl) ?_
    refine RL.nil (by kernel_rfl) ?_
    refine QN.then_ ?_
    refine OK.ret (by kernel_rfl) ?_
    obtain rfl := Option.some.inj H
    refine QN.body rfl [] (RFacts.nil _ _ _) (.l 1) (.tuple #[.agg #[.int .i64 x1, .string x2, .slice A1 x3.length c1], .bool (decide (x4 ≥ 0))]) (by kernel_rfl) (by kernel_rfl) (by kernel_rfl) ?_ _ (.inr rfl)
    exact fun w' hs' => ⟨_, rfl, I2, A1, c1, rfl, hs'.got _ .slnil, hl1, hr1⟩
  · intro Q_1 hJ1 hQ1
    obtain ⟨y1, H, HK1⟩ := Option.bind_eq_some_iff.mp H
    refine OK.block 0 K18_14 (by kernel_rfl) ?_
    refine OK.sub (K' := [(1, .int .i64 a1), (5, .pointer (some ⟨nx0, 0, none⟩)), (6, .pointer (some ⟨nx0 + 1, 0, none⟩)), (8, .map (some g1)), (9, .int .i64 (-1)), (10, .pointer (some ⟨nx1, 0, none⟩)), (19, .slice Ap0 a0.length cp0), (20, .int .i64 (a0.length : Int)), (21, .int .i64 0)]) (L' := [⟨nx0, [.int .i64 a2.f0, .int .i64 a2.f1], 65⟩, ⟨nx0 + 1, [.int .i64 0, .string (⟨#[]⟩ : ByteArray), .slice none 0 0], 26⟩, ⟨nx1, [.int .i64 0, .string (⟨#[]⟩ : ByteArray), .slice none 0 0], 26⟩]) (by kernel_rfl) (.cons_cons _ (.cons_cons _ (.cons_cons _ .slnil))) (.refl _) ?_
    refine OK.loopInv K18_15 (by kernel_rfl) (fun n_ K' I' _ L' X' => ∃ (x5 : Int) (x6 : ByteArray) (x7 : List Int) (x8 : Int) (x9 : Int) (A2 : Option Addr) (c2 : Nat), K' = [(1, .int .i64 a1), (5, .pointer (some ⟨nx0, 0, none⟩)), (6, .pointer (some ⟨nx0 + 1, 0, none⟩)), (8, .map (some g1)), (9, .int .i64 x8), (10, .pointer (some ⟨nx1, 0, none⟩)), (19, .slice Ap0 a0.length cp0), (20, .int .i64 (a0.length : Int)), (21, .int .i64 x9)] ∧ L' = [⟨nx0, [.int .i64 a2.f0, .int .i64 a2.f1], 65⟩, ⟨nx0 + 1, [.int .i64 0, .string (⟨#[]⟩ : ByteArray), .slice none 0 0], 26⟩, ⟨nx1, [.int .i64 x5, .string x6, .slice A2 x7.length c2], 26⟩] ∧ X' = [] ∧ Imm.le I1 I' ∧ x7.length ≤ c2 ∧ Rd (Ty.int .u8) I' A2 x7 ∧ quorum_HighestPrepared.l1 a0 a1 a2 t1 n_ x5 x6 x7 x8 x9 = some y1) k ⟨0, (⟨#[]⟩ : ByteArray), [], (-1), 0, none, 0, rfl, rfl, rfl, (Imm.le_refl _), (Nat.le_refl _), (Rd.nil _ _ _), H⟩ ?_ ?_
    · rintro _ _ _ _ _ ⟨x5, x6, x7, x8, x9, A2, c2, rfl, rfl, rfl, _, hl2, hr2, H⟩
      cases H
    · rintro kq1 _ I3 nx3 _ _ ⟨x5, x6, x7, x8, x9, A2, c2, rfl, rfl, rfl, hi3, hl2, hr2, H⟩ Q_l1 hJ2 hQ2
      replace H : (if x9 < (a0.length : Int) then ((if 0 ≤ x9 then (if x9 < (a0.length : Int) then ((if ((a0.getD (x9).toNat qz32).f0) ≠ 1 then (some true) else (if ((a0.getD (x9).toNat qz32).f3) ≠ a2.f1 then (some true) else (if ((a0.getD (x9).toNat qz32).f2) ≥ a2.f0 then (some true) else (if ((a0.getD (x9).toNat qz32).f2) ≤ x8 then (some true) else ((quorum_Valid.f kq1 (a0.getD (x9).toNat qz32) a1).bind fun t2 => (some (!t2))))))).bind (quorum_HighestPrepared.k5 a0 t1 x5 x6 x7 x8 x9)) else none) else none).bind (fun (x10, x11, x12, x13) => (quorum_HighestPrepared.l1 a0 a1 a2 t1 kq1 x10 x11 x12 x13 (W .i64 (x9 + 1))))) else (some (x5, x6, x7, x8))) = some y1 := H
      refine OK.seq K18_16 K18_18 (by kernel_rfl) ?_
      refine OK.region 4 O18_16 (by kernel_rfl) ?_
      refine RL.simP (K' := [(22, .bool (decide (x9 < (a0.length : Int)))), (1, .int .i64 a1), (5, .pointer (some ⟨nx0, 0, none⟩)), (6, .pointer (some ⟨nx0 + 1, 0, none⟩)), (8, .map (some g1)), (9, .int .i64 x8), (10, .pointer (some ⟨nx1, 0, none⟩)), (19, .slice Ap0 a0.length cp0), (20, .int .i64 (a0.length : Int)), (21, .int .i64 x9)]) (nx' := nx3) (L' := [⟨nx0, [.int .i64 a2.f0, .int .i64 a2.f1], 65⟩, ⟨nx0 + 1, [.int .i64 0, .string (⟨#[]⟩ : ByteArray), .slice none 0 0], 26⟩, ⟨nx1, [.int .i64 x5, .string x6, .slice A2 x7.length c2], 26⟩]) [] (RFacts.nil _ _ _) 1 [.no] (by kernel_rfl) (by kernel_rfl) ?_
      refine RL.nil (by kernel_rfl) ?_
      refine QN.then_ ?_
      refine OK.seq K18_19 K18_22 (by kernel_rfl) ?_
      refine OK.cond (.tmp 22) K18_20 K18_21 (decide (x9 < (a0.length : Int))) (by kernel_rfl) (by kernel_rfl) (by kernel_rfl) (fun hb => ?_) (fun hb => ?_)
      · skip
        have hc := (of_decide_eq_true hb)
        rw [if_pos hc] at H
        clear hb
        refine OK.skip (by kernel_rfl) ?_
        refine QN.then_ ?_
        refine OK.seq K18_23 K18_44 (by kernel_rfl) ?_
        refine OK.join (fun K' I' _ L' X' => ∃ (x10 : Int) (x11 : ByteArray) (x12 : List Int) (x13 : Int) (A3 : Option Addr) (c3 : Nat), K' = [(1, .int .i64 a1), (5, .pointer (some ⟨nx0, 0, none⟩)), (6, .pointer (some ⟨nx0 + 1, 0, none⟩)), (8, .map (some g1)), (9, .int .i64 x13), (10, .pointer (some ⟨nx1, 0, none⟩)), (19, .slice Ap0 a0.length cp0), (20, .int .i64 (a0.length : Int)), (21, .int .i64 x9)] ∧ L' = [⟨nx0, [.int .i64 a2.f0, .int .i64 a2.f1], 65⟩, ⟨nx0 + 1, [.int .i64 0, .string (⟨#[]⟩ : ByteArray), .slice none 0 0], 26⟩, ⟨nx1, [.int .i64 x10, .string x11, .slice A3 x12.length c3], 26⟩] ∧ X' = [] ∧ Imm.le I3 I' ∧ x12.length ≤ c3 ∧ Rd (Ty.int .u8) I' A3 x12 ∧ (quorum_HighestPrepared.l1 a0 a1 a2 t1 kq1 x10 x11 x12 x13 (W .i64 (x9 + 1))) = some y1) ?_ ?_
        · rintro _ I4 nx4 _ _ ⟨x10, x11, x12, x13, A3, c3, rfl, rfl, rfl, hi4, hl3, hr3, H⟩
          replace H : (quorum_HighestPrepared.l1 a0 a1 a2 t1 kq1 x10 x11 x12 x13 (W .i64 (x9 + 1))) = some y1 := H
          refine QN.then_ ?_
          refine OK.region 10 O18_44 (by kernel_rfl) ?_
          refine RL.simP (K' := [(21, .int .i64 (W .i64 (x9 + 1))), (1, .int .i64 a1), (5, .pointer (some ⟨nx0, 0, none⟩)), (6, .pointer (some ⟨nx0 + 1, 0, none⟩)), (8, .map (some g1)), (9, .int .i64 x13), (10, .pointer (some ⟨nx1, 0, none⟩)), (19, .slice Ap0 a0.length cp0), (20, .int .i64 (a0.length : Int))]) (nx' := nx4) (L' := [⟨nx0, [.int .i64 a2.f0, .int .i64 a2.f1], 65⟩, ⟨nx0 + 1, [.int .i64 0, .string (⟨#[]⟩ : ByteArray), .slice none 0 0], 26⟩, ⟨nx1, [.int .i64 x10, .string x11, .slice A3 x12.length c3], 26⟩]) [] (RFacts.nil _ _ _) 2 [.no, .no] (by kernel_rfl) (by kernel_rfl) ?_
          refine RL.nil (by kernel_rfl) ?_
          refine QN.sub (K' := [(1, .int .i64 a1), (5, .pointer (some ⟨nx0, 0, none⟩)), (6, .pointer (some ⟨nx0 + 1, 0, none⟩)), (8, .map (some g1)), (9, .int .i64 x13), (10, .pointer (some ⟨nx1, 0, none⟩)), (19, .slice Ap0 a0.length cp0), (20, .int .i64 (a0.length : Int)), (21, .int .i64 (W .i64 (x9 + 1)))]) (L' := [⟨nx0, [.int .i64 a2.f0, .int .i64 a2.f1], 65⟩, ⟨nx0 + 1, [.int .i64 0, .string (⟨#[]⟩ : ByteArray), .slice none 0 0], 26⟩, ⟨nx1, [.int .i64 x10, .string x11, .slice A3 x12.length c3], 26⟩]) (by kernel_rfl) (.cons_cons _ (.cons_cons _ (.cons_cons _ .slnil))) (.refl _) ?_
          exact hJ2 _ _ _ _ _ ⟨x10, x11, x12, x13, W .i64 (x9 + 1), A3, c3, rfl, rfl, rfl, (Imm.le_trans hi3 hi4), hl3, hr3, H⟩
        · intro Q_2 hJ3 hQ3
          obtain ⟨y2, H, HK2⟩ := Option.bind_eq_some_iff.mp H
          refine OK.block 1 K18_24 (by kernel_rfl) ?_
          refine OK.seq K18_25 K18_27 (by kernel_rfl) ?_
          refine OK.region 5 O18_25 (by kernel_rfl) ?_
          by_cases hib0 : 0 ≤ x9
          case neg => rw [if_neg hib0] at H; cases H
          rw [if_pos hib0] at H
          by_cases hib1 : x9 < (a0.length : Int)
          case neg => rw [if_neg hib1] at H; cases H
          rw [if_pos hib1] at H
          obtain ⟨g1_, o1_, hA1_, A1_5_2_, c1_5_2_, hl1_5_2_, hr1_5_2_, hc1_⟩ := qt32_at (Rd.ext (Imm.le_trans hi1 hi3) hrp0) x9 hib0 hib1
          refine RL.idx 8 .i64 x9 hA1_ a0.length cp0 (some 23) (by kernel_rfl) (by kernel_rfl) (T := 30) (e := 28) (by kernel_rfl) (by kernel_rfl) hib0 hib1 (K' := [(23, .pointer (some ⟨g1_, o1_ + (x9).toNat * 8, none⟩)), (22, .bool (decide (x9 < (a0.length : Int)))), (1, .int .i64 a1), (5, .pointer (some ⟨nx0, 0, none⟩)), (6, .pointer (some ⟨nx0 + 1, 0, none⟩)), (8, .map (some g1)), (9, .int .i64 x8), (10, .pointer (some ⟨nx1, 0, none⟩)), (19, .slice Ap0 a0.length cp0), (20, .int .i64 (a0.length : Int)), (21, .int .i64 x9)]) (by kernel_rfl) ?_
          refine RL.simP (K' := [(12, .pointer (some ⟨nx3, 0, none⟩)), (1, .int .i64 a1), (5, .pointer (some ⟨nx0, 0, none⟩)), (6, .pointer (some ⟨nx0 + 1, 0, none⟩)), (8, .map (some g1)), (9, .int .i64 x8), (10, .pointer (some ⟨nx1, 0, none⟩)), (19, .slice Ap0 a0.length cp0), (20, .int .i64 (a0.length : Int)), (21, .int .i64 x9)]) (nx' := nx3 + 1) (L' := [⟨nx0, [.int .i64 a2.f0, .int .i64 a2.f1], 65⟩, ⟨nx0 + 1, [.int .i64 0, .string (⟨#[]⟩ : ByteArray), .slice none 0 0], 26⟩, ⟨nx1, [.int .i64 x5, .string x6, .slice A2 x7.length c2], 26⟩, ⟨nx3, [.int .i64 ((a0.getD (x9).toNat qz32).f0), .int .i64 ((a0.getD (x9).toNat qz32).f1), .int .i64 ((a0.getD (x9).toNat qz32).f2), .int .i64 ((a0.getD (x9).toNat qz32).f3), .int .u32 ((a0.getD (x9).toNat qz32).f4), .int .i64 ((a0.getD (x9).toNat qz32).f5.f0), .string ((a0.getD (x9).toNat qz32).f5.f1), .slice A1_5_2_ (((a0.getD (x9).toNat qz32).f5.f2).length) c1_5_2_], 28⟩]) [(⟨g1_, o1_ + (x9).toNat * 8, none⟩, .int .i64 ((a0.getD (x9).toNat qz32).f0)), (⟨g1_, o1_ + (x9).toNat * 8 + 1, none⟩, .int .i64 ((a0.getD (x9).toNat qz32).f1)), (⟨g1_, o1_ + (x9).toNat * 8 + 2, none⟩, .int .i64 ((a0.getD (x9).toNat qz32).f2)), (⟨g1_, o1_ + (x9).toNat * 8 + 3, none⟩, .int .i64 ((a0.getD (x9).toNat qz32).f3)), (⟨g1_, o1_ + (x9).toNat * 8 + 4, none⟩, .int .u32 ((a0.getD (x9).toNat qz32).f4)), (⟨g1_, o1_ + (x9).toNat * 8 + 5, none⟩, .int .i64 ((a0.getD (x9).toNat qz32).f5.f0)), (⟨g1_, o1_ + (x9).toNat * 8 + 6, none⟩, .string ((a0.getD (x9).toNat qz32).f5.f1)), (⟨g1_, o1_ + (x9).toNat * 8 + 7, none⟩, .slice A1_5_2_ (((a0.getD (x9).toNat qz32).f5.f2).length) c1_5_2_)] (RFacts.imm (hc1_ 0 _ rfl) (RFacts.imm (hc1_ 1 _ rfl) (RFacts.imm (hc1_ 2 _ rfl) (RFacts.imm (hc1_ 3 _ rfl) (RFacts.imm (hc1_ 4 _ rfl) (RFacts.imm (hc1_ 5 _ rfl) (RFacts.imm (hc1_ 6 _ rfl) (RFacts.imm (hc1_ 7 _ rfl) (RFacts.nil _ _ _))))))))) 3 [.r 0, .no, .l 3] (by kernel_rfl) (by kernel_rfl) ?_
          refine RL.nil (by kernel_rfl) ?_
          refine QN.then_ ?_
          refine OK.seq K18_28 K18_34 (by kernel_rfl) ?_
          refine OK.seq K18_29 K18_31 (by kernel_rfl) ?_
          refine OK.join (fun K' I' _ L' X' => ∃ (x14 : Bool), K' = [(1, .int .i64 a1), (5, .pointer (some ⟨nx0, 0, none⟩)), (6, .pointer (some ⟨nx0 + 1, 0, none⟩)), (8, .map (some g1)), (9, .int .i64 x8), (10, .pointer (some ⟨nx1, 0, none⟩)), (12, .pointer (some ⟨nx3, 0, none⟩)), (19, .slice Ap0 a0.length cp0), (20, .int .i64 (a0.length : Int)), (21, .int .i64 x9), (53, .bool x14)] ∧ L' = [⟨nx0, [.int .i64 a2.f0, .int .i64 a2.f1], 65⟩, ⟨nx0 + 1, [.int .i64 0, .string (⟨#[]⟩ : ByteArray), .slice none 0 0], 26⟩, ⟨nx1, [.int .i64 x5, .string x6, .slice A2 x7.length c2], 26⟩, ⟨nx3, [.int .i64 ((a0.getD (x9).toNat qz32).f0), .int .i64 ((a0.getD (x9).toNat qz32).f1), .int .i64 ((a0.getD (x9).toNat qz32).f2), .int .i64 ((a0.getD (x9).toNat qz32).f3), .int .u32 ((a0.getD (x9).toNat qz32).f4), .int .i64 ((a0.getD (x9).toNat qz32).f5.f0), .string ((a0.getD (x9).toNat qz32).f5.f1), .slice A1_5_2_ (((a0.getD (x9).toNat qz32).f5.f2).length) c1_5_2_], 28⟩] ∧ X' = [] ∧ Imm.le I3 I' ∧ quorum_HighestPrepared.k5 a0 t1 x5 x6 x7 x8 x9 x14 = some y2) ?_ ?_
          · rintro _ I5 nx5 _ _ ⟨x14, rfl, rfl, rfl, hi5, H⟩
            replace H : (if x14 = true then (some (x5, x6, x7, x8)) else ((if (mget t1 (2, 0, (a0.getD (x9).toNat qz32).f2, (a0.getD (x9).toNat qz32).f3)).isSome = true then (some (((mget t1 (2, 0, (a0.getD (x9).toNat qz32).f2, (a0.getD (x9).toNat qz32).f3)).getD 0) == ((a0.getD (x9).toNat qz32).f4))) else (some false)).bind (quorum_HighestPrepared.k4 a0 x5 x6 x7 x8 x9))) = some y2 := H
            refine QN.then_ ?_
            refine OK.cond (.tmp 53) K18_32 K18_33 x14 (by kernel_rfl) (by kernel_rfl) (by kernel_rfl) (fun hb => ?_) (fun hb => ?_)
            · skip
              have hc := hb
              rw [if_pos hc] at H
              clear hb
              refine OK.exit 1 (by kernel_rfl) ?_
              refine QN.thenE ?_
              refine QN.blkE ?_
              obtain rfl := Option.some.inj H
              refine QN.sub (K' := [(1, .int .i64 a1), (5, .pointer (some ⟨nx0, 0, none⟩)), (6, .pointer (some ⟨nx0 + 1, 0, none⟩)), (8, .map (some g1)), (9, .int .i64 x8), (10, .pointer (some ⟨nx1, 0, none⟩)), (19, .slice Ap0 a0.length cp0), (20, .int .i64 (a0.length : Int)), (21, .int .i64 x9)]) (L' := [⟨nx0, [.int .i64 a2.f0, .int .i64 a2.f1], 65⟩, ⟨nx0 + 1, [.int .i64 0, .string (⟨#[]⟩ : ByteArray), .slice none 0 0], 26⟩, ⟨nx1, [.int .i64 x5, .string x6, .slice A2 x7.length c2], 26⟩]) (by kernel_rfl) (.cons_cons _ (.cons_cons _ (.cons_cons _ (.cons _ .slnil)))) (.refl _) ?_
              exact hJ3 _ _ _ _ _ ⟨x5, x6, x7, x8, A2, c2, rfl, rfl, rfl, hi5, hl2, (Rd.ext hi5 hr2), HK2⟩
            · skip
              have hc := (Bool.eq_false_iff.1 hb)
              rw [if_neg hc] at H
              clear hb
              refine OK.skip (by kernel_rfl) ?_
              refine QN.then_ ?_
              refine OK.seq K18_35 K18_37 (by kernel_rfl) ?_
              refine OK.region 7 O18_35 (by kernel_rfl) ?_
              refine RL.simP (K' := [(61, .agg #[.int .i64 2, .int .i64 0, .int .i64 ((a0.getD (x9).toNat qz32).f2), .int .i64 ((a0.getD (x9).toNat qz32).f3)]), (55, .map (some g1)), (1, .int .i64 a1), (5, .pointer (some ⟨nx0, 0, none⟩)), (6, .pointer (some ⟨nx0 + 1, 0, none⟩)), (8, .map (some g1)), (9, .int .i64 x8), (10, .pointer (some ⟨nx1, 0, none⟩)), (12, .pointer (some ⟨nx3, 0, none⟩)), (19, .slice Ap0 a0.length cp0), (20, .int .i64 (a0.length : Int)), (21, .int .i64 x9)]) (nx' := nx5) (L' := [⟨nx0, [.int .i64 a2.f0, .int .i64 a2.f1], 65⟩, ⟨nx0 + 1, [.int .i64 0, .string (⟨#[]⟩ : ByteArray), .slice none 0 0], 26⟩, ⟨nx1, [.int .i64 x5, .string x6, .slice A2 x7.length c2], 26⟩, ⟨nx3, [.int .i64 ((a0.getD (x9).toNat qz32).f0), .int .i64 ((a0.getD (x9).toNat qz32).f1), .int .i64 ((a0.getD (x9).toNat qz32).f2), .int .i64 ((a0.getD (x9).toNat qz32).f3), .int .u32 ((a0.getD (x9).toNat qz32).f4), .int .i64 ((a0.getD (x9).toNat qz32).f5.f0), .string ((a0.getD (x9).toNat qz32).f5.f1), .slice A1_5_2_ (((a0.getD (x9).toNat qz32).f5.f2).length) c1_5_2_], 28⟩]) [] (RFacts.nil _ _ _) 7 [.no, .no, .l 3, .no, .l 3, .no, .no] (by kernel_rfl) (by kernel_rfl) ?_
              refine RL.lookF mt69 (2, 0, (a0.getD (x9).toNat qz32).f2, (a0.getD (x9).toNat qz32).f3) (some 62) (by kernel_rfl) (Mp.ext (Imm.le_trans hi3 hi5) hm1) (by kernel_rfl) (K' := [(62, .tuple #[.int .u32 ((mget t1 (2, 0, (a0.getD (x9).toNat qz32).f2, (a0.getD (x9).toNat qz32).f3)).getD 0), .bool (mget t1 (2, 0, (a0.getD (x9).toNat qz32).f2, (a0.getD (x9).toNat qz32).f3)).isSome]), (61, .agg #[.int .i64 2, .int .i64 0, .int .i64 ((a0.getD (x9).toNat qz32).f2), .int .i64 ((a0.getD (x9).toNat qz32).f3)]), (55, .map (some g1)), (1, .int .i64 a1), (5, .pointer (some ⟨nx0, 0, none⟩)), (6, .pointer (some ⟨nx0 + 1, 0, none⟩)), (8, .map (some g1)), (9, .int .i64 x8), (10, .pointer (some ⟨nx1, 0, none⟩)), (12, .pointer (some ⟨nx3, 0, none⟩)), (19, .slice Ap0 a0.length cp0), (20, .int .i64 (a0.length : Int)), (21, .int .i64 x9)]) (by kernel_rfl) ?_
              refine RL.simP (K' := [(14, .bool (mget t1 (2, 0, (a0.getD (x9).toNat qz32).f2, (a0.getD (x9).toNat qz32).f3)).isSome), (13, .int .u32 ((mget t1 (2, 0, (a0.getD (x9).toNat qz32).f2, (a0.getD (x9).toNat qz32).f3)).getD 0)), (1, .int .i64 a1), (5, .pointer (some ⟨nx0, 0, none⟩)), (6, .pointer (some ⟨nx0 + 1, 0, none⟩)), (8, .map (some g1)), (9, .int .i64 x8), (10, .pointer (some ⟨nx1, 0, none⟩)), (12, .pointer (some ⟨nx3, 0, none⟩)), (19, .slice Ap0 a0.length cp0), (20, .int .i64 (a0.length : Int)), (21, .int .i64 x9)]) (nx' := nx5) (L' := [⟨nx0, [.int .i64 a2.f0, .int .i64 a2.f1], 65⟩, ⟨nx0 + 1, [.int .i64 0, .string (⟨#[]⟩ : ByteArray), .slice none 0 0], 26⟩, ⟨nx1, [.int .i64 x5, .string x6, .slice A2 x7.length c2], 26⟩, ⟨nx3, [.int .i64 ((a0.getD (x9).toNat qz32).f0), .int .i64 ((a0.getD (x9).toNat qz32).f1), .int .i64 ((a0.getD (x9).toNat qz32).f2), .int .i64 ((a0.getD (x9).toNat qz32).f3), .int .u32 ((a0.getD (x9).toNat qz32).f4), .int .i64 ((a0.getD (x9).toNat qz32).f5.f0), .string ((a0.getD (x9).toNat qz32).f5.f1), .slice A1_5_2_ (((a0.getD (x9).toNat qz32).f5.f2).length) c1_5_2_], 28⟩]) [] (RFacts.nil _ _ _) 5 [.no, .no, .no, .no, .no] (by kernel_rfl) (by kernel_rfl) ?_
              refine RL.nil (by kernel_rfl) ?_
              refine QN.then_ ?_
              refine OK.seq K18_38 K18_40 (by kernel_rfl) ?_
              refine OK.join (fun K' I' _ L' X' => ∃ (x15 : Bool), K' = [(1, .int .i64 a1), (5, .pointer (some ⟨nx0, 0, none⟩)), (6, .pointer (some ⟨nx0 + 1, 0, none⟩)), (8, .map (some g1)), (9, .int .i64 x8), (10, .pointer (some ⟨nx1, 0, none⟩)), (12, .pointer (some ⟨nx3, 0, none⟩)), (19, .slice Ap0 a0.length cp0), (20, .int .i64 (a0.length : Int)), (21, .int .i64 x9), (71, .bool x15)] ∧ L' = [⟨nx0, [.int .i64 a2.f0, .int .i64 a2.f1], 65⟩, ⟨nx0 + 1, [.int .i64 0, .string (⟨#[]⟩ : ByteArray), .slice none 0 0], 26⟩, ⟨nx1, [.int .i64 x5, .string x6, .slice A2 x7.length c2], 26⟩, ⟨nx3, [.int .i64 ((a0.getD (x9).toNat qz32).f0), .int .i64 ((a0.getD (x9).toNat qz32).f1), .int .i64 ((a0.getD (x9).toNat qz32).f2), .int .i64 ((a0.getD (x9).toNat qz32).f3), .int .u32 ((a0.getD (x9).toNat qz32).f4), .int .i64 ((a0.getD (x9).toNat qz32).f5.f0), .string ((a0.getD (x9).toNat qz32).f5.f1), .slice A1_5_2_ (((a0.getD (x9).toNat qz32).f5.f2).length) c1_5_2_], 28⟩] ∧ X' = [] ∧ Imm.le I5 I' ∧ quorum_HighestPrepared.k4 a0 x5 x6 x7 x8 x9 x15 = some y2) ?_ ?_
              · rintro _ I6 nx6 _ _ ⟨x15, rfl, rfl, rfl, hi6, H⟩
                replace H : ((if x15 = true then (some ((a0.getD (x9).toNat qz32).f5.f0, (a0.getD (x9).toNat qz32).f5.f1, (a0.getD (x9).toNat qz32).f5.f2, (a0.getD (x9).toNat qz32).f2)) else (some (x5, x6, x7, x8))).bind (quorum_HighestPrepared.k3)) = some y2 := H
                refine QN.then_ ?_
                refine OK.join (fun K' I' _ L' X' => ∃ (x16 : Int) (x17 : ByteArray) (x18 : List Int) (x19 : Int) (A4 : Option Addr) (c4 : Nat), K' = [(1, .int .i64 a1), (5, .pointer (some ⟨nx0, 0, none⟩)), (6, .pointer (some ⟨nx0 + 1, 0, none⟩)), (8, .map (some g1)), (9, .int .i64 x19), (10, .pointer (some ⟨nx1, 0, none⟩)), (19, .slice Ap0 a0.length cp0), (20, .int .i64 (a0.length : Int)), (21, .int .i64 x9)] ∧ L' = [⟨nx0, [.int .i64 a2.f0, .int .i64 a2.f1], 65⟩, ⟨nx0 + 1, [.int .i64 0, .string (⟨#[]⟩ : ByteArray), .slice none 0 0], 26⟩, ⟨nx1, [.int .i64 x16, .string x17, .slice A4 x18.length c4], 26⟩, ⟨nx3, [.int .i64 ((a0.getD (x9).toNat qz32).f0), .int .i64 ((a0.getD (x9).toNat qz32).f1), .int .i64 ((a0.getD (x9).toNat qz32).f2), .int .i64 ((a0.getD (x9).toNat qz32).f3), .int .u32 ((a0.getD (x9).toNat qz32).f4), .int .i64 ((a0.getD (x9).toNat qz32).f5.f0), .string ((a0.getD (x9).toNat qz32).f5.f1), .slice A1_5_2_ (((a0.getD (x9).toNat qz32).f5.f2).length) c1_5_2_], 28⟩] ∧ X' = [] ∧ Imm.le I6 I' ∧ x18.length ≤ c4 ∧ Rd (Ty.int .u8) I' A4 x18 ∧ quorum_HighestPrepared.k3 (x16, x17, x18, x19) = some y2) ?_ ?_
                · rintro _ I7 nx7 _ _ ⟨x16, x17, x18, x19, A4, c4, rfl, rfl, rfl, hi7, hl4, hr4, H⟩
                  replace H : (some (x16, x17, x18, x19)) = some y2 := H
                  refine QN.blkN ?_
                  obtain rfl := Option.some.inj H
                  refine QN.sub (K' := [(1, .int .i64 a1), (5, .pointer (some ⟨nx0, 0, none⟩)), (6, .pointer (some ⟨nx0 + 1, 0, none⟩)), (8, .map (some g1)), (9, .int .i64 x19), (10, .pointer (some ⟨nx1, 0, none⟩)), (19, .slice Ap0 a0.length cp0), (20, .int .i64 (a0.length : Int)), (21, .int .i64 x9)]) (L' := [⟨nx0, [.int .i64 a2.f0, .int .i64 a2.f1], 65⟩, ⟨nx0 + 1, [.int .i64 0, .string (⟨#[]⟩ : ByteArray), .slice none 0 0], 26⟩, ⟨nx1, [.int .i64 x16, .string x17, .slice A4 x18.length c4], 26⟩]) (by kernel_rfl) (.cons_cons _ (.cons_cons _ (.cons_cons _ (.cons _ .slnil)))) (.refl _) ?_
                  exact hJ3 _ _ _ _ _ ⟨x16, x17, x18, x19, A4, c4, rfl, rfl, rfl, (Imm.le_trans (Imm.le_trans hi5 hi6) hi7), hl4, hr4, HK2⟩
                · intro Q_3 hJ6 hQ6
                  obtain ⟨y5, H, HK5⟩ := Option.bind_eq_some_iff.mp H
                  refine OK.cond (.tmp 71) K18_41 K18_43 x15 (by kernel_rfl) (by kernel_rfl) (by kernel_rfl) (fun hb => ?_) (fun hb => ?_)
                  · skip
                    have hc := hb
                    rw [if_pos hc] at H
                    clear hb
                    refine OK.drawnC 9 5 O18_41 [0, 1, 0, 4, 3, 31] (by kernel_rfl) (by kernel_rfl) quorum_HighestPrepared.d1l quorum_HighestPrepared.d1g [] (RI.nil _) [.no, .l 3, .no, .l 3, .no] quorum_HighestPrepared.a18_41 quorum_HighestPrepared.a18_41o (by kernel_rfl) (by kernel_rfl) (fun u => [.pointer (some ⟨nx3, 2, none⟩), .int .i64 ((a0.getD (x9).toNat qz32).f2), .pointer (some ⟨nx3, 5, none⟩), .agg #[.int .i64 ((a0.getD (x9).toNat qz32).f5.f0), .string ((a0.getD (x9).toNat qz32).f5.f1), .slice A1_5_2_ (((a0.getD (x9).toNat qz32).f5.f2).length) c1_5_2_], .int .i64 ((a0.getD (x9).toNat qz32).f2)]) (fun u => [(9, .int .i64 ((a0.getD (x9).toNat qz32).f2)), (75, .agg #[.int .i64 ((a0.getD (x9).toNat qz32).f5.f0), .string ((a0.getD (x9).toNat qz32).f5.f1), .slice A1_5_2_ (((a0.getD (x9).toNat qz32).f5.f2).length) c1_5_2_]), (74, .pointer (some ⟨nx3, 5, none⟩)), (73, .int .i64 ((a0.getD (x9).toNat qz32).f2)), (72, .pointer (some ⟨nx3, 2, none⟩)), (1, .int .i64 a1), (5, .pointer (some ⟨nx0, 0, none⟩)), (6, .pointer (some ⟨nx0 + 1, 0, none⟩)), (8, .map (some g1)), (10, .pointer (some ⟨nx1, 0, none⟩)), (12, .pointer (some ⟨nx3, 0, none⟩)), (19, .slice Ap0 a0.length cp0), (20, .int .i64 (a0.length : Int)), (21, .int .i64 x9), (71, .bool x15)]) (quorum_HighestPrepared.d1v a0 Ap0 cp0 a1 a2 nx0 g1 nx1 x5 x6 x7 A2 c2 x8 x9 nx3 A1_5_2_ c1_5_2_ x15) (quorum_HighestPrepared.d1e a0 Ap0 cp0 a1 a2 nx0 g1 nx1 x5 x6 x7 A2 c2 x8 x9 nx3 A1_5_2_ c1_5_2_ x15) [] framesOk.nil ?_ [] framesOk.nil ?_ ?_
                    · refine LoudsG.nil
                    · refine Givens.nil
                    intro u I8 nx8 hi8 hF
                    clear hF
                    show RL _ _ _ 5 _ [(9, .int .i64 ((a0.getD (x9).toNat qz32).f2)), (75, .agg #[.int .i64 ((a0.getD (x9).toNat qz32).f5.f0), .string ((a0.getD (x9).toNat qz32).f5.f1), .slice A1_5_2_ (((a0.getD (x9).toNat qz32).f5.f2).length) c1_5_2_]), (74, .pointer (some ⟨nx3, 5, none⟩)), (73, .int .i64 ((a0.getD (x9).toNat qz32).f2)), (72, .pointer (some ⟨nx3, 2, none⟩)), (1, .int .i64 a1), (5, .pointer (some ⟨nx0, 0, none⟩)), (6, .pointer (some ⟨nx0 + 1, 0, none⟩)), (8, .map (some g1)), (10, .pointer (some ⟨nx1, 0, none⟩)), (12, .pointer (some ⟨nx3, 0, none⟩)), (19, .slice Ap0 a0.length cp0), (20, .int .i64 (a0.length : Int)), (21, .int .i64 x9), (71, .bool x15)] _ _ _ [⟨nx0, [.int .i64 a2.f0, .int .i64 a2.f1], 65⟩, ⟨nx0 + 1, [.int .i64 0, .string (⟨#[]⟩ : ByteArray), .slice none 0 0], 26⟩, ⟨nx1, [.int .i64 x5, .string x6, .slice A2 x7.length c2], 26⟩, ⟨nx3, [.int .i64 ((a0.getD (x9).toNat qz32).f0), .int .i64 ((a0.getD (x9).toNat qz32).f1), .int .i64 ((a0.getD (x9).toNat qz32).f2), .int .i64 ((a0.getD (x9).toNat qz32).f3), .int .u32 ((a0.getD (x9).toNat qz32).f4), .int .i64 ((a0.getD (x9).toNat qz32).f5.f0), .string ((a0.getD (x9).toNat qz32).f5.f1), .slice A1_5_2_ (((a0.getD (x9).toNat qz32).f5.f2).length) c1_5_2_], 28⟩] []
                    clear u
                    refine RL.simP (K' := [(9, .int .i64 ((a0.getD (x9).toNat qz32).f2)), (1, .int .i64 a1), (5, .pointer (some ⟨nx0, 0, none⟩)), (6, .pointer (some ⟨nx0 + 1, 0, none⟩)), (8, .map (some g1)), (10, .pointer (some ⟨nx1, 0, none⟩)), (19, .slice Ap0 a0.length cp0), (20, .int .i64 (a0.length : Int)), (21, .int .i64 x9)]) (nx' := nx8) (L' := [⟨nx0, [.int .i64 a2.f0, .int .i64 a2.f1], 65⟩, ⟨nx0 + 1, [.int .i64 0, .string (⟨#[]⟩ : ByteArray), .slice none 0 0], 26⟩, ⟨nx1, [.int .i64 ((a0.getD (x9).toNat qz32).f5.f0), .string ((a0.getD (x9).toNat qz32).f5.f1), .slice A1_5_2_ (((a0.getD (x9).toNat qz32).f5.f2).length) c1_5_2_], 26⟩, ⟨nx3, [.int .i64 ((a0.getD (x9).toNat qz32).f0), .int .i64 ((a0.getD (x9).toNat qz32).f1), .int .i64 ((a0.getD (x9).toNat qz32).f2), .int .i64 ((a0.getD (x9).toNat qz32).f3), .int .u32 ((a0.getD (x9).toNat qz32).f4), .int .i64 ((a0.getD (x9).toNat qz32).f5.f0), .string ((a0.getD (x9).toNat qz32).f5.f1), .slice A1_5_2_ (((a0.getD (x9).toNat qz32).f5.f2).length) c1_5_2_], 28⟩]) [] (RFacts.nil _ _ _) 1 [.l 2] (by kernel_rfl) (by kernel_rfl) ?_
                    refine RL.nil (by kernel_rfl) ?_
                    obtain rfl := Option.some.inj H
                    refine QN.sub (K' := [(1, .int .i64 a1), (5, .pointer (some ⟨nx0, 0, none⟩)), (6, .pointer (some ⟨nx0 + 1, 0, none⟩)), (8, .map (some g1)), (9, .int .i64 ((a0.getD (x9).toNat qz32).f2)), (10, .pointer (some ⟨nx1, 0, none⟩)), (19, .slice Ap0 a0.length cp0), (20, .int .i64 (a0.length : Int)), (21, .int .i64 x9)]) (L' := [⟨nx0, [.int .i64 a2.f0, .int .i64 a2.f1], 65⟩, ⟨nx0 + 1, [.int .i64 0, .string (⟨#[]⟩ : ByteArray), .slice none 0 0], 26⟩, ⟨nx1, [.int .i64 ((a0.getD (x9).toNat qz32).f5.f0), .string ((a0.getD (x9).toNat qz32).f5.f1), .slice A1_5_2_ (((a0.getD (x9).toNat qz32).f5.f2).length) c1_5_2_], 26⟩, ⟨nx3, [.int .i64 ((a0.getD (x9).toNat qz32).f0), .int .i64 ((a0.getD (x9).toNat qz32).f1), .int .i64 ((a0.getD (x9).toNat qz32).f2), .int .i64 ((a0.getD (x9).toNat qz32).f3), .int .u32 ((a0.getD (x9).toNat qz32).f4), .int .i64 ((a0.getD (x9).toNat qz32).f5.f0), .string ((a0.getD (x9).toNat qz32).f5.f1), .slice A1_5_2_ (((a0.getD (x9).toNat qz32).f5.f2).length) c1_5_2_], 28⟩]) (by kernel_rfl) (.cons_cons _ (.cons_cons _ (.cons_cons _ (.cons_cons _ .slnil)))) (.refl _) ?_
                    exact hJ6 _ _ _ _ _ ⟨(a0.getD (x9).toNat qz32).f5.f0, (a0.getD (x9).toNat qz32).f5.f1, (a0.getD (x9).toNat qz32).f5.f2, (a0.getD (x9).toNat qz32).f2, A1_5_2_, c1_5_2_, rfl, rfl, rfl, hi8, hl1_5_2_, (Rd.ext (Imm.le_trans (Imm.le_trans hi5 hi6) hi8) hr1_5_2_), HK5⟩
                  · skip
                    have hc := (Bool.eq_false_iff.1 hb)
                    rw [if_neg hc] at H
                    clear hb
                    refine OK.skip (by kernel_rfl) ?_
                    obtain rfl := Option.some.inj H
                    refine QN.sub (K' := [(1, .int .i64 a1), (5, .pointer (some ⟨nx0, 0, none⟩)), (6, .pointer (some ⟨nx0 + 1, 0, none⟩)), (8, .map (some g1)), (9, .int .i64 x8), (10, .pointer (some ⟨nx1, 0, none⟩)), (19, .slice Ap0 a0.length cp0), (20, .int .i64 (a0.length : Int)), (21, .int .i64 x9)]) (L' := [⟨nx0, [.int .i64 a2.f0, .int .i64 a2.f1], 65⟩, ⟨nx0 + 1, [.int .i64 0, .string (⟨#[]⟩ : ByteArray), .slice none 0 0], 26⟩, ⟨nx1, [.int .i64 x5, .string x6, .slice A2 x7.length c2], 26⟩, ⟨nx3, [.int .i64 ((a0.getD (x9).toNat qz32).f0), .int .i64 ((a0.getD (x9).toNat qz32).f1), .int .i64 ((a0.getD (x9).toNat qz32).f2), .int .i64 ((a0.getD (x9).toNat qz32).f3), .int .u32 ((a0.getD (x9).toNat qz32).f4), .int .i64 ((a0.getD (x9).toNat qz32).f5.f0), .string ((a0.getD (x9).toNat qz32).f5.f1), .slice A1_5_2_ (((a0.getD (x9).toNat qz32).f5.f2).length) c1_5_2_], 28⟩]) (by kernel_rfl) (.cons_cons _ (.cons_cons _ (.cons_cons _ (.cons_cons _ .slnil)))) (.refl _) ?_
                    exact hJ6 _ _ _ _ _ ⟨x5, x6, x7, x8, A2, c2, rfl, rfl, rfl, (Imm.le_refl _), hl2, (Rd.ext (Imm.le_trans hi5 hi6) hr2), HK5⟩
              · intro Q_4 hJ5 hQ5
                obtain ⟨y4, H, HK4⟩ := Option.bind_eq_some_iff.mp H
                refine OK.region 8 O18_38 (by kernel_rfl) ?_
                refine RL.simP (K' := [(66, .bool (mget t1 (2, 0, (a0.getD (x9).toNat qz32).f2, (a0.getD (x9).toNat qz32).f3)).isSome), (13, .int .u32 ((mget t1 (2, 0, (a0.getD (x9).toNat qz32).f2, (a0.getD (x9).toNat qz32).f3)).getD 0)), (1, .int .i64 a1), (5, .pointer (some ⟨nx0, 0, none⟩)), (6, .pointer (some ⟨nx0 + 1, 0, none⟩)), (8, .map (some g1)), (9, .int .i64 x8), (10, .pointer (some ⟨nx1, 0, none⟩)), (12, .pointer (some ⟨nx3, 0, none⟩)), (19, .slice Ap0 a0.length cp0), (20, .int .i64 (a0.length : Int)), (21, .int .i64 x9)]) (nx' := nx5) (L' := [⟨nx0, [.int .i64 a2.f0, .int .i64 a2.f1], 65⟩, ⟨nx0 + 1, [.int .i64 0, .string (⟨#[]⟩ : ByteArray), .slice none 0 0], 26⟩, ⟨nx1, [.int .i64 x5, .string x6, .slice A2 x7.length c2], 26⟩, ⟨nx3, [.int .i64 ((a0.getD (x9).toNat qz32).f0), .int .i64 ((a0.getD (x9).toNat qz32).f1), .int .i64 ((a0.getD (x9).toNat qz32).f2), .int .i64 ((a0.getD (x9).toNat qz32).f3), .int .u32 ((a0.getD (x9).toNat qz32).f4), .int .i64 ((a0.getD (x9).toNat qz32).f5.f0), .string ((a0.getD (x9).toNat qz32).f5.f1), .slice A1_5_2_ (((a0.getD (x9).toNat qz32).f5.f2).length) c1_5_2_], 28⟩]) [] (RFacts.nil _ _ _) 2 [.no, .no] (by kernel_rfl) (by kernel_rfl) ?_
                refine RL.cases ((mget t1 (2, 0, (a0.getD (x9).toNat qz32).f2, (a0.getD (x9).toNat qz32).f3)).isSome) (fun hb => ?_) (fun hb => ?_)
                · have hc := hb
                  refine RL.norm (K' := [(66, .bool true), (13, .int .u32 ((mget t1 (2, 0, (a0.getD (x9).toNat qz32).f2, (a0.getD (x9).toNat qz32).f3)).getD 0)), (1, .int .i64 a1), (5, .pointer (some ⟨nx0, 0, none⟩)), (6, .pointer (some ⟨nx0 + 1, 0, none⟩)), (8, .map (some g1)), (9, .int .i64 x8), (10, .pointer (some ⟨nx1, 0, none⟩)), (12, .pointer (some ⟨nx3, 0, none⟩)), (19, .slice Ap0 a0.length cp0), (20, .int .i64 (a0.length : Int)), (21, .int .i64 x9)]) (L' := [⟨nx0, [.int .i64 a2.f0, .int .i64 a2.f1], 65⟩, ⟨nx0 + 1, [.int .i64 0, .string (⟨#[]⟩ : ByteArray), .slice none 0 0], 26⟩, ⟨nx1, [.int .i64 x5, .string x6, .slice A2 x7.length c2], 26⟩, ⟨nx3, [.int .i64 ((a0.getD (x9).toNat qz32).f0), .int .i64 ((a0.getD (x9).toNat qz32).f1), .int .i64 ((a0.getD (x9).toNat qz32).f2), .int .i64 ((a0.getD (x9).toNat qz32).f3), .int .u32 ((a0.getD (x9).toNat qz32).f4), .int .i64 ((a0.getD (x9).toNat qz32).f5.f0), .string ((a0.getD (x9).toNat qz32).f5.f1), .slice A1_5_2_ (((a0.getD (x9).toNat qz32).f5.f2).length) c1_5_2_], 28⟩]) (by rw [hb]; try rfl) rfl (by first | rfl | (rw [hb]; try rfl)) rfl ?_
                  rw [if_pos hc] at H; clear hb
                  refine RL.simP (K' := [(71, .bool (((mget t1 (2, 0, (a0.getD (x9).toNat qz32).f2, (a0.getD (x9).toNat qz32).f3)).getD 0) == ((a0.getD (x9).toNat qz32).f4))), (1, .int .i64 a1), (5, .pointer (some ⟨nx0, 0, none⟩)), (6, .pointer (some ⟨nx0 + 1, 0, none⟩)), (8, .map (some g1)), (9, .int .i64 x8), (10, .pointer (some ⟨nx1, 0, none⟩)), (12, .pointer (some ⟨nx3, 0, none⟩)), (19, .slice Ap0 a0.length cp0), (20, .int .i64 (a0.length : Int)), (21, .int .i64 x9)]) (nx' := nx5) (L' := [⟨nx0, [.int .i64 a2.f0, .int .i64 a2.f1], 65⟩, ⟨nx0 + 1, [.int .i64 0, .string (⟨#[]⟩ : ByteArray), .slice none 0 0], 26⟩, ⟨nx1, [.int .i64 x5, .string x6, .slice A2 x7.length c2], 26⟩, ⟨nx3, [.int .i64 ((a0.getD (x9).toNat qz32).f0), .int .i64 ((a0.getD (x9).toNat qz32).f1), .int .i64 ((a0.getD (x9).toNat qz32).f2), .int .i64 ((a0.getD (x9).toNat qz32).f3), .int .u32 ((a0.getD (x9).toNat qz32).f4), .int .i64 ((a0.getD (x9).toNat qz32).f5.f0), .string ((a0.getD (x9).toNat qz32).f5.f1), .slice A1_5_2_ (((a0.getD (x9).toNat qz32).f5.f2).length) c1_5_2_], 28⟩]) [] (RFacts.nil _ _ _) 5 [.no, .no, .l 3, .no, .no] (by kernel_rfl) (by kernel_rfl) ?_
                  refine RL.nil (by kernel_rfl) ?_
                  obtain rfl := Option.some.inj H
                  refine QN.sub (K' := [(1, .int .i64 a1), (5, .pointer (some ⟨nx0, 0, none⟩)), (6, .pointer (some ⟨nx0 + 1, 0, none⟩)), (8, .map (some g1)), (9, .int .i64 x8), (10, .pointer (some ⟨nx1, 0, none⟩)), (12, .pointer (some ⟨nx3, 0, none⟩)), (19, .slice Ap0 a0.length cp0), (20, .int .i64 (a0.length : Int)), (21, .int .i64 x9), (71, .bool (((mget t1 (2, 0, (a0.getD (x9).toNat qz32).f2, (a0.getD (x9).toNat qz32).f3)).getD 0) == ((a0.getD (x9).toNat qz32).f4)))]) (L' := [⟨nx0, [.int .i64 a2.f0, .int .i64 a2.f1], 65⟩, ⟨nx0 + 1, [.int .i64 0, .string (⟨#[]⟩ : ByteArray), .slice none 0 0], 26⟩, ⟨nx1, [.int .i64 x5, .string x6, .slice A2 x7.length c2], 26⟩, ⟨nx3, [.int .i64 ((a0.getD (x9).toNat qz32).f0), .int .i64 ((a0.getD (x9).toNat qz32).f1), .int .i64 ((a0.getD (x9).toNat qz32).f2), .int .i64 ((a0.getD (x9).toNat qz32).f3), .int .u32 ((a0.getD (x9).toNat qz32).f4), .int .i64 ((a0.getD (x9).toNat qz32).f5.f0), .string ((a0.getD (x9).toNat qz32).f5.f1), .slice A1_5_2_ (((a0.getD (x9).toNat qz32).f5.f2).length) c1_5_2_], 28⟩]) (by kernel_rfl) (.cons_cons _ (.cons_cons _ (.cons_cons _ (.cons_cons _ .slnil)))) (.refl _) ?_
                  exact hJ5 _ _ _ _ _ ⟨(((mget t1 (2, 0, (a0.getD (x9).toNat qz32).f2, (a0.getD (x9).toNat qz32).f3)).getD 0) == ((a0.getD (x9).toNat qz32).f4)), rfl, rfl, rfl, (Imm.le_refl _), HK4⟩
                · have hc := (Bool.eq_false_iff.1 hb)
                  refine RL.norm (K' := [(66, .bool false), (13, .int .u32 ((mget t1 (2, 0, (a0.getD (x9).toNat qz32).f2, (a0.getD (x9).toNat qz32).f3)).getD 0)), (1, .int .i64 a1), (5, .pointer (some ⟨nx0, 0, none⟩)), (6, .pointer (some ⟨nx0 + 1, 0, none⟩)), (8, .map (some g1)), (9, .int .i64 x8), (10, .pointer (some ⟨nx1, 0, none⟩)), (12, .pointer (some ⟨nx3, 0, none⟩)), (19, .slice Ap0 a0.length cp0), (20, .int .i64 (a0.length : Int)), (21, .int .i64 x9)]) (L' := [⟨nx0, [.int .i64 a2.f0, .int .i64 a2.f1], 65⟩, ⟨nx0 + 1, [.int .i64 0, .string (⟨#[]⟩ : ByteArray), .slice none 0 0], 26⟩, ⟨nx1, [.int .i64 x5, .string x6, .slice A2 x7.length c2], 26⟩, ⟨nx3, [.int .i64 ((a0.getD (x9).toNat qz32).f0), .int .i64 ((a0.getD (x9).toNat qz32).f1), .int .i64 ((a0.getD (x9).toNat qz32).f2), .int .i64 ((a0.getD (x9).toNat qz32).f3), .int .u32 ((a0.getD (x9).toNat qz32).f4), .int .i64 ((a0.getD (x9).toNat qz32).f5.f0), .string ((a0.getD (x9).toNat qz32).f5.f1), .slice A1_5_2_ (((a0.getD (x9).toNat qz32).f5.f2).length) c1_5_2_], 28⟩]) (by rw [hb]; try rfl) rfl (by first | rfl | (rw [hb]; try rfl)) rfl ?_
                  rw [if_neg hc] at H; clear hb
                  refine RL.simP (K' := [(71, .bool false), (1, .int .i64 a1), (5, .pointer (some ⟨nx0, 0, none⟩)), (6, .pointer (some ⟨nx0 + 1, 0, none⟩)), (8, .map (some g1)), (9, .int .i64 x8), (10, .pointer (some ⟨nx1, 0, none⟩)), (12, .pointer (some ⟨nx3, 0, none⟩)), (19, .slice Ap0 a0.length cp0), (20, .int .i64 (a0.length : Int)), (21, .int .i64 x9)]) (nx' := nx5) (L' := [⟨nx0, [.int .i64 a2.f0, .int .i64 a2.f1], 65⟩, ⟨nx0 + 1, [.int .i64 0, .string (⟨#[]⟩ : ByteArray), .slice none 0 0], 26⟩, ⟨nx1, [.int .i64 x5, .string x6, .slice A2 x7.length c2], 26⟩, ⟨nx3, [.int .i64 ((a0.getD (x9).toNat qz32).f0), .int .i64 ((a0.getD (x9).toNat qz32).f1), .int .i64 ((a0.getD (x9).toNat qz32).f2), .int .i64 ((a0.getD (x9).toNat qz32).f3), .int .u32 ((a0.getD (x9).toNat qz32).f4), .int .i64 ((a0.getD (x9).toNat qz32).f5.f0), .string ((a0.getD (x9).toNat qz32).f5.f1), .slice A1_5_2_ (((a0.getD (x9).toNat qz32).f5.f2).length) c1_5_2_], 28⟩]) [] (RFacts.nil _ _ _) 5 [.no, .no, .no, .no, .no] (by kernel_rfl) (by kernel_rfl) ?_
                  refine RL.nil (by kernel_rfl) ?_
                  obtain rfl := Option.some.inj H
                  refine QN.sub (K' := [(1, .int .i64 a1), (5, .pointer (some ⟨nx0, 0, none⟩)), (6, .pointer (some ⟨nx0 + 1, 0, none⟩)), (8, .map (some g1)), (9, .int .i64 x8), (10, .pointer (some ⟨nx1, 0, none⟩)), (12, .pointer (some ⟨nx3, 0, none⟩)), (19, .slice Ap0 a0.length cp0), (20, .int .i64 (a0.length : Int)), (21, .int .i64 x9), (71, .bool false)]) (L' := [⟨nx0, [.int .i64 a2.f0, .int .i64 a2.f1], 65⟩, ⟨nx0 + 1, [.int .i64 0, .string (⟨#[]⟩ : ByteArray), .slice none 0 0], 26⟩, ⟨nx1, [.int .i64 x5, .string x6, .slice A2 x7.length c2], 26⟩, ⟨nx3, [.int .i64 ((a0.getD (x9).toNat qz32).f0), .int .i64 ((a0.getD (x9).toNat qz32).f1), .int .i64 ((a0.getD (x9).toNat qz32).f2), .int .i64 ((a0.getD (x9).toNat qz32).f3), .int .u32 ((a0.getD (x9).toNat qz32).f4), .int .i64 ((a0.getD (x9).toNat qz32).f5.f0), .string ((a0.getD (x9).toNat qz32).f5.f1), .slice A1_5_2_ (((a0.getD (x9).toNat qz32).f5.f2).length) c1_5_2_], 28⟩]) (by kernel_rfl) (.cons_cons _ (.cons_cons _ (.cons_cons _ (.cons_cons _ .slnil)))) (.refl _) ?_
                  exact hJ5 _ _ _ _ _ ⟨false, rfl, rfl, rfl, (Imm.le_refl _), HK4⟩
          · intro Q_5 hJ4 hQ4
            obtain ⟨y3, H, HK3⟩ := Option.bind_eq_some_iff.mp H
            refine OK.region 6 O18_29 (by kernel_rfl) ?_
            refine RL.simP (K' := [(28, .bool (((a0.getD (x9).toNat qz32).f0) != 1)), (12, .pointer (some ⟨nx3, 0, none⟩)), (1, .int .i64 a1), (5, .pointer (some ⟨nx0, 0, none⟩)), (6, .pointer (some ⟨nx0 + 1, 0, none⟩)), (8, .map (some g1)), (9, .int .i64 x8), (10, .pointer (some ⟨nx1, 0, none⟩)), (19, .slice Ap0 a0.length cp0), (20, .int .i64 (a0.length : Int)), (21, .int .i64 x9)]) (nx' := nx3 + 1) (L' := [⟨nx0, [.int .i64 a2.f0, .int .i64 a2.f1], 65⟩, ⟨nx0 + 1, [.int .i64 0, .string (⟨#[]⟩ : ByteArray), .slice none 0 0], 26⟩, ⟨nx1, [.int .i64 x5, .string x6, .slice A2 x7.length c2], 26⟩, ⟨nx3, [.int .i64 ((a0.getD (x9).toNat qz32).f0), .int .i64 ((a0.getD (x9).toNat qz32).f1), .int .i64 ((a0.getD (x9).toNat qz32).f2), .int .i64 ((a0.getD (x9).toNat qz32).f3), .int .u32 ((a0.getD (x9).toNat qz32).f4), .int .i64 ((a0.getD (x9).toNat qz32).f5.f0), .string ((a0.getD (x9).toNat qz32).f5.f1), .slice A1_5_2_ (((a0.getD (x9).toNat qz32).f5.f2).length) c1_5_2_], 28⟩]) [] (RFacts.nil _ _ _) 4 [.no, .l 3, .no, .no] (by kernel_rfl) (by kernel_rfl) ?_
            refine RL.cases (((a0.getD (x9).toNat qz32).f0) != 1) (fun hb => ?_) (fun hb => ?_)
            · have hc := (bne_iff_ne.1 hb)
              refine RL.norm (K' := [(28, .bool true), (12, .pointer (some ⟨nx3, 0, none⟩)), (1, .int .i64 a1), (5, .pointer (some ⟨nx0, 0, none⟩)), (6, .pointer (some ⟨nx0 + 1, 0, none⟩)), (8, .map (some g1)), (9, .int .i64 x8), (10, .pointer (some ⟨nx1, 0, none⟩)), (19, .slice Ap0 a0.length cp0), (20, .int .i64 (a0.length : Int)), (21, .int .i64 x9)]) (L' := [⟨nx0, [.int .i64 a2.f0, .int .i64 a2.f1], 65⟩, ⟨nx0 + 1, [.int .i64 0, .string (⟨#[]⟩ : ByteArray), .slice none 0 0], 26⟩, ⟨nx1, [.int .i64 x5, .string x6, .slice A2 x7.length c2], 26⟩, ⟨nx3, [.int .i64 ((a0.getD (x9).toNat qz32).f0), .int .i64 ((a0.getD (x9).toNat qz32).f1), .int .i64 ((a0.getD (x9).toNat qz32).f2), .int .i64 ((a0.getD (x9).toNat qz32).f3), .int .u32 ((a0.getD (x9).toNat qz32).f4), .int .i64 ((a0.getD (x9).toNat qz32).f5.f0), .string ((a0.getD (x9).toNat qz32).f5.f1), .slice A1_5_2_ (((a0.getD (x9).toNat qz32).f5.f2).length) c1_5_2_], 28⟩]) (by rw [hb]; try rfl) rfl (by first | rfl | (rw [hb]; try rfl)) rfl ?_
              rw [if_pos hc] at H; clear hb
              refine RL.simP (K' := [(53, .bool true), (12, .pointer (some ⟨nx3, 0, none⟩)), (1, .int .i64 a1), (5, .pointer (some ⟨nx0, 0, none⟩)), (6, .pointer (some ⟨nx0 + 1, 0, none⟩)), (8, .map (some g1)), (9, .int .i64 x8), (10, .pointer (some ⟨nx1, 0, none⟩)), (19, .slice Ap0 a0.length cp0), (20, .int .i64 (a0.length : Int)), (21, .int .i64 x9)]) (nx' := nx3 + 1) (L' := [⟨nx0, [.int .i64 a2.f0, .int .i64 a2.f1], 65⟩, ⟨nx0 + 1, [.int .i64 0, .string (⟨#[]⟩ : ByteArray), .slice none 0 0], 26⟩, ⟨nx1, [.int .i64 x5, .string x6, .slice A2 x7.length c2], 26⟩, ⟨nx3, [.int .i64 ((a0.getD (x9).toNat qz32).f0), .int .i64 ((a0.getD (x9).toNat qz32).f1), .int .i64 ((a0.getD (x9).toNat qz32).f2), .int .i64 ((a0.getD (x9).toNat qz32).f3), .int .u32 ((a0.getD (x9).toNat qz32).f4), .int .i64 ((a0.getD (x9).toNat qz32).f5.f0), .string ((a0.getD (x9).toNat qz32).f5.f1), .slice A1_5_2_ (((a0.getD (x9).toNat qz32).f5.f2).length) c1_5_2_], 28⟩]) [] (RFacts.nil _ _ _) 25 [.no, .no, .no, .no, .no, .no, .no, .no, .no, .no, .no, .no, .no, .no, .no, .no, .no, .no, .no, .no, .no, .no, .no, .no, .no] (by kernel_rfl) (by kernel_rfl) ?_
              refine RL.nil (by kernel_rfl) ?_
              obtain rfl := Option.some.inj H
              refine QN.sub (K' := [(1, .int .i64 a1), (5, .pointer (some ⟨nx0, 0, none⟩)), (6, .pointer (some ⟨nx0 + 1, 0, none⟩)), (8, .map (some g1)), (9, .int .i64 x8), (10, .pointer (some ⟨nx1, 0, none⟩)), (12, .pointer (some ⟨nx3, 0, none⟩)), (19, .slice Ap0 a0.length cp0), (20, .int .i64 (a0.length : Int)), (21, .int .i64 x9), (53, .bool true)]) (L' := [⟨nx0, [.int .i64 a2.f0, .int .i64 a2.f1], 65⟩, ⟨nx0 + 1, [.int .i64 0, .string (⟨#[]⟩ : ByteArray), .slice none 0 0], 26⟩, ⟨nx1, [.int .i64 x5, .string x6, .slice A2 x7.length c2], 26⟩, ⟨nx3, [.int .i64 ((a0.getD (x9).toNat qz32).f0), .int .i64 ((a0.getD (x9).toNat qz32).f1), .int .i64 ((a0.getD (x9).toNat qz32).f2), .int .i64 ((a0.getD (x9).toNat qz32).f3), .int .u32 ((a0.getD (x9).toNat qz32).f4), .int .i64 ((a0.getD (x9).toNat qz32).f5.f0), .string ((a0.getD (x9).toNat qz32).f5.f1), .slice A1_5_2_ (((a0.getD (x9).toNat qz32).f5.f2).length) c1_5_2_], 28⟩]) (by kernel_rfl) (.cons_cons _ (.cons_cons _ (.cons_cons _ (.cons_cons _ .slnil)))) (.refl _) ?_
              exact hJ4 _ _ _ _ _ ⟨true, rfl, rfl, rfl, (Imm.le_refl _), HK3⟩
            · have hc := (not_not_intro (bne_eq_false_iff_eq.1 hb))
              refine RL.norm (K' := [(28, .bool false), (12, .pointer (some ⟨nx3, 0, none⟩)), (1, .int .i64 a1), (5, .pointer (some ⟨nx0, 0, none⟩)), (6, .pointer (some ⟨nx0 + 1, 0, none⟩)), (8, .map (some g1)), (9, .int .i64 x8), (10, .pointer (some ⟨nx1, 0, none⟩)), (19, .slice Ap0 a0.length cp0), (20, .int .i64 (a0.length : Int)), (21, .int .i64 x9)]) (L' := [⟨nx0, [.int .i64 a2.f0, .int .i64 a2.f1], 65⟩, ⟨nx0 + 1, [.int .i64 0, .string (⟨#[]⟩ : ByteArray), .slice none 0 0], 26⟩, ⟨nx1, [.int .i64 x5, .string x6, .slice A2 x7.length c2], 26⟩, ⟨nx3, [.int .i64 ((a0.getD (x9).toNat qz32).f0), .int .i64 ((a0.getD (x9).toNat qz32).f1), .int .i64 ((a0.getD (x9).toNat qz32).f2), .int .i64 ((a0.getD (x9).toNat qz32).f3), .int .u32 ((a0.getD (x9).toNat qz32).f4), .int .i64 ((a0.getD (x9).toNat qz32).f5.f0), .string ((a0.getD (x9).toNat qz32).f5.f1), .slice A1_5_2_ (((a0.getD (x9).toNat qz32).f5.f2).length) c1_5_2_], 28⟩]) (by rw [hb]; try rfl) rfl (by first | rfl | (rw [hb]; try rfl)) rfl ?_
              rw [if_neg hc] at H; clear hb
              refine RL.simP (K' := [(35, .bool (((a0.getD (x9).toNat qz32).f3) != a2.f1)), (12, .pointer (some ⟨nx3, 0, none⟩)), (1, .int .i64 a1), (5, .pointer (some ⟨nx0, 0, none⟩)), (6, .pointer (some ⟨nx0 + 1, 0, none⟩)), (8, .map (some g1)), (9, .int .i64 x8), (10, .pointer (some ⟨nx1, 0, none⟩)), (19, .slice Ap0 a0.length cp0), (20, .int .i64 (a0.length : Int)), (21, .int .i64 x9)]) (nx' := nx3 + 1) (L' := [⟨nx0, [.int .i64 a2.f0, .int .i64 a2.f1], 65⟩, ⟨nx0 + 1, [.int .i64 0, .string (⟨#[]⟩ : ByteArray), .slice none 0 0], 26⟩, ⟨nx1, [.int .i64 x5, .string x6, .slice A2 x7.length c2], 26⟩, ⟨nx3, [.int .i64 ((a0.getD (x9).toNat qz32).f0), .int .i64 ((a0.getD (x9).toNat qz32).f1), .int .i64 ((a0.getD (x9).toNat qz32).f2), .int .i64 ((a0.getD (x9).toNat qz32).f3), .int .u32 ((a0.getD (x9).toNat qz32).f4), .int .i64 ((a0.getD (x9).toNat qz32).f5.f0), .string ((a0.getD (x9).toNat qz32).f5.f1), .slice A1_5_2_ (((a0.getD (x9).toNat qz32).f5.f2).length) c1_5_2_], 28⟩]) [] (RFacts.nil _ _ _) 7 [.no, .l 3, .no, .l 0, .no, .no, .no] (by kernel_rfl) (by kernel_rfl) ?_
              refine RL.cases (((a0.getD (x9).toNat qz32).f3) != a2.f1) (fun hb => ?_) (fun hb => ?_)
              · have hc := (bne_iff_ne.1 hb)
                refine RL.norm (K' := [(35, .bool true), (12, .pointer (some ⟨nx3, 0, none⟩)), (1, .int .i64 a1), (5, .pointer (some ⟨nx0, 0, none⟩)), (6, .pointer (some ⟨nx0 + 1, 0, none⟩)), (8, .map (some g1)), (9, .int .i64 x8), (10, .pointer (some ⟨nx1, 0, none⟩)), (19, .slice Ap0 a0.length cp0), (20, .int .i64 (a0.length : Int)), (21, .int .i64 x9)]) (L' := [⟨nx0, [.int .i64 a2.f0, .int .i64 a2.f1], 65⟩, ⟨nx0 + 1, [.int .i64 0, .string (⟨#[]⟩ : ByteArray), .slice none 0 0], 26⟩, ⟨nx1, [.int .i64 x5, .string x6, .slice A2 x7.length c2], 26⟩, ⟨nx3, [.int .i64 ((a0.getD (x9).toNat qz32).f0), .int .i64 ((a0.getD (x9).toNat qz32).f1), .int .i64 ((a0.getD (x9).toNat qz32).f2), .int .i64 ((a0.getD (x9).toNat qz32).f3), .int .u32 ((a0.getD (x9).toNat qz32).f4), .int .i64 ((a0.getD (x9).toNat qz32).f5.f0), .string ((a0.getD (x9).toNat qz32).f5.f1), .slice A1_5_2_ (((a0.getD (x9).toNat qz32).f5.f2).length) c1_5_2_], 28⟩]) (by rw [hb]; try rfl) rfl (by first | rfl | (rw [hb]; try rfl)) rfl ?_
                rw [if_pos hc] at H; clear hb
                refine RL.simP (K' := [(53, .bool true), (12, .pointer (some ⟨nx3, 0, none⟩)), (1, .int .i64 a1), (5, .pointer (some ⟨nx0, 0, none⟩)), (6, .pointer (some ⟨nx0 + 1, 0, none⟩)), (8, .map (some g1)), (9, .int .i64 x8), (10, .pointer (some ⟨nx1, 0, none⟩)), (19, .slice Ap0 a0.length cp0), (20, .int .i64 (a0.length : Int)), (21, .int .i64 x9)]) (nx' := nx3 + 1) (L' := [⟨nx0, [.int .i64 a2.f0, .int .i64 a2.f1], 65⟩, ⟨nx0 + 1, [.int .i64 0, .string (⟨#[]⟩ : ByteArray), .slice none 0 0], 26⟩, ⟨nx1, [.int .i64 x5, .string x6, .slice A2 x7.length c2], 26⟩, ⟨nx3, [.int .i64 ((a0.getD (x9).toNat qz32).f0), .int .i64 ((a0.getD (x9).toNat qz32).f1), .int .i64 ((a0.getD (x9).toNat qz32).f2), .int .i64 ((a0.getD (x9).toNat qz32).f3), .int .u32 ((a0.getD (x9).toNat qz32).f4), .int .i64 ((a0.getD (x9).toNat qz32).f5.f0), .string ((a0.getD (x9).toNat qz32).f5.f1), .slice A1_5_2_ (((a0.getD (x9).toNat qz32).f5.f2).length) c1_5_2_], 28⟩]) [] (RFacts.nil _ _ _) 18 [.no, .no, .no, .no, .no, .no, .no, .no, .no, .no, .no, .no, .no, .no, .no, .no, .no, .no] (by kernel_rfl) (by kernel_rfl) ?_
                refine RL.nil (by kernel_rfl) ?_
                obtain rfl := Option.some.inj H
                refine QN.sub (K' := [(1, .int .i64 a1), (5, .pointer (some ⟨nx0, 0, none⟩)), (6, .pointer (some ⟨nx0 + 1, 0, none⟩)), (8, .map (some g1)), (9, .int .i64 x8), (10, .pointer (some ⟨nx1, 0, none⟩)), (12, .pointer (some ⟨nx3, 0, none⟩)), (19, .slice Ap0 a0.length cp0), (20, .int .i64 (a0.length : Int)), (21, .int .i64 x9), (53, .bool true)]) (L' := [⟨nx0, [.int .i64 a2.f0, .int .i64 a2.f1], 65⟩, ⟨nx0 + 1, [.int .i64 0, .string (⟨#[]⟩ : ByteArray), .slice none 0 0], 26⟩, ⟨nx1, [.int .i64 x5, .string x6, .slice A2 x7.length c2], 26⟩, ⟨nx3, [.int .i64 ((a0.getD (x9).toNat qz32).f0), .int .i64 ((a0.getD (x9).toNat qz32).f1), .int .i64 ((a0.getD (x9).toNat qz32).f2), .int .i64 ((a0.getD (x9).toNat qz32).f3), .int .u32 ((a0.getD (x9).toNat qz32).f4), .int .i64 ((a0.getD (x9).toNat qz32).f5.f0), .string ((a0.getD (x9).toNat qz32).f5.f1), .slice A1_5_2_ (((a0.getD (x9).toNat qz32).f5.f2).length) c1_5_2_], 28⟩]) (by kernel_rfl) (.cons_cons _ (.cons_cons _ (.cons_cons _ (.cons_cons _ .slnil)))) (.refl _) ?_
                exact hJ4 _ _ _ _ _ ⟨true, rfl, rfl, rfl, (Imm.le_refl _), HK3⟩
              · have hc := (not_not_intro (bne_eq_false_iff_eq.1 hb))
                refine RL.norm (K' := [(35, .bool false), (12, .pointer (some ⟨nx3, 0, none⟩)), (1, .int .i64 a1), (5, .pointer (some ⟨nx0, 0, none⟩)), (6, .pointer (some ⟨nx0 + 1, 0, none⟩)), (8, .map (some g1)), (9, .int .i64 x8), (10, .pointer (some ⟨nx1, 0, none⟩)), (19, .slice Ap0 a0.length cp0), (20, .int .i64 (a0.length : Int)), (21, .int .i64 x9)]) (L' := [⟨nx0, [.int .i64 a2.f0, .int .i64 a2.f1], 65⟩, ⟨nx0 + 1, [.int .i64 0, .string (⟨#[]⟩ : ByteArray), .slice none 0 0], 26⟩, ⟨nx1, [.int .i64 x5, .string x6, .slice A2 x7.length c2], 26⟩, ⟨nx3, [.int .i64 ((a0.getD (x9).toNat qz32).f0), .int .i64 ((a0.getD (x9).toNat qz32).f1), .int .i64 ((a0.getD (x9).toNat qz32).f2), .int .i64 ((a0.getD (x9).toNat qz32).f3), .int .u32 ((a0.getD (x9).toNat qz32).f4), .int .i64 ((a0.getD (x9).toNat qz32).f5.f0), .string ((a0.getD (x9).toNat qz32).f5.f1), .slice A1_5_2_ (((a0.getD (x9).toNat qz32).f5.f2).length) c1_5_2_], 28⟩]) (by rw [hb]; try rfl) rfl (by first | rfl | (rw [hb]; try rfl)) rfl ?_
                rw [if_neg hc] at H; clear hb
                refine RL.simP (K' := [(42, .bool (decide (((a0.getD (x9).toNat qz32).f2) ≥ a2.f0))), (12, .pointer (some ⟨nx3, 0, none⟩)), (1, .int .i64 a1), (5, .pointer (some ⟨nx0, 0, none⟩)), (6, .pointer (some ⟨nx0 + 1, 0, none⟩)), (8, .map (some g1)), (9, .int .i64 x8), (10, .pointer (some ⟨nx1, 0, none⟩)), (19, .slice Ap0 a0.length cp0), (20, .int .i64 (a0.length : Int)), (21, .int .i64 x9)]) (nx' := nx3 + 1) (L' := [⟨nx0, [.int .i64 a2.f0, .int .i64 a2.f1], 65⟩, ⟨nx0 + 1, [.int .i64 0, .string (⟨#[]⟩ : ByteArray), .slice none 0 0], 26⟩, ⟨nx1, [.int .i64 x5, .string x6, .slice A2 x7.length c2], 26⟩, ⟨nx3, [.int .i64 ((a0.getD (x9).toNat qz32).f0), .int .i64 ((a0.getD (x9).toNat qz32).f1), .int .i64 ((a0.getD (x9).toNat qz32).f2), .int .i64 ((a0.getD (x9).toNat qz32).f3), .int .u32 ((a0.getD (x9).toNat qz32).f4), .int .i64 ((a0.getD (x9).toNat qz32).f5.f0), .string ((a0.getD (x9).toNat qz32).f5.f1), .slice A1_5_2_ (((a0.getD (x9).toNat qz32).f5.f2).length) c1_5_2_], 28⟩]) [] (RFacts.nil _ _ _) 7 [.no, .l 3, .no, .l 0, .no, .no, .no] (by kernel_rfl) (by kernel_rfl) ?_
                refine RL.cases (decide (((a0.getD (x9).toNat qz32).f2) ≥ a2.f0)) (fun hb => ?_) (fun hb => ?_)
                · have hc := (of_decide_eq_true hb)
                  refine RL.norm (K' := [(42, .bool true), (12, .pointer (some ⟨nx3, 0, none⟩)), (1, .int .i64 a1), (5, .pointer (some ⟨nx0, 0, none⟩)), (6, .pointer (some ⟨nx0 + 1, 0, none⟩)), (8, .map (some g1)), (9, .int .i64 x8), (10, .pointer (some ⟨nx1, 0, none⟩)), (19, .slice Ap0 a0.length cp0), (20, .int .i64 (a0.length : Int)), (21, .int .i64 x9)]) (L' := [⟨nx0, [.int .i64 a2.f0, .int .i64 a2.f1], 65⟩, ⟨nx0 + 1, [.int .i64 0, .string (⟨#[]⟩ : ByteArray), .slice none 0 0], 26⟩, ⟨nx1, [.int .i64 x5, .string x6, .slice A2 x7.length c2], 26⟩, ⟨nx3, [.int .i64 ((a0.getD (x9).toNat qz32).f0), .int .i64 ((a0.getD (x9).toNat qz32).f1), .int .i64 ((a0.getD (x9).toNat qz32).f2), .int .i64 ((a0.getD (x9).toNat qz32).f3), .int .u32 ((a0.getD (x9).toNat qz32).f4), .int .i64 ((a0.getD (x9).toNat qz32).f5.f0), .string ((a0.getD (x9).toNat qz32).f5.f1), .slice A1_5_2_ (((a0.getD (x9).toNat qz32).f5.f2).length) c1_5_2_], 28⟩]) (by rw [hb]; try rfl) rfl (by first | rfl | (rw [hb]; try rfl)) rfl ?_
                  rw [if_pos hc] at H; clear hb
                  refine RL.simP (K' := [(53, .bool true), (12, .pointer (some ⟨nx3, 0, none⟩)), (1, .int .i64 a1), (5, .pointer (some ⟨nx0, 0, none⟩)), (6, .pointer (some ⟨nx0 + 1, 0, none⟩)), (8, .map (some g1)), (9, .int .i64 x8), (10, .pointer (some ⟨nx1, 0, none⟩)), (19, .slice Ap0 a0.length cp0), (20, .int .i64 (a0.length : Int)), (21, .int .i64 x9)]) (nx' := nx3 + 1) (L' := [⟨nx0, [.int .i64 a2.f0, .int .i64 a2.f1], 65⟩, ⟨nx0 + 1, [.int .i64 0, .string (⟨#[]⟩ : ByteArray), .slice none 0 0], 26⟩, ⟨nx1, [.int .i64 x5, .string x6, .slice A2 x7.length c2], 26⟩, ⟨nx3, [.int .i64 ((a0.getD (x9).toNat qz32).f0), .int .i64 ((a0.getD (x9).toNat qz32).f1), .int .i64 ((a0.getD (x9).toNat qz32).f2), .int .i64 ((a0.getD (x9).toNat qz32).f3), .int .u32 ((a0.getD (x9).toNat qz32).f4), .int .i64 ((a0.getD (x9).toNat qz32).f5.f0), .string ((a0.getD (x9).toNat qz32).f5.f1), .slice A1_5_2_ (((a0.getD (x9).toNat qz32).f5.f2).length) c1_5_2_], 28⟩]) [] (RFacts.nil _ _ _) 11 [.no, .no, .no, .no, .no, .no, .no, .no, .no, .no, .no] (by kernel_rfl) (by kernel_rfl) ?_
                  refine RL.nil (by kernel_rfl) ?_
                  obtain rfl := Option.some.inj H
                  refine QN.sub (K' := [(1, .int .i64 a1), (5, .pointer (some ⟨nx0, 0, none⟩)), (6, .pointer (some ⟨nx0 + 1, 0, none⟩)), (8, .map (some g1)), (9, .int .i64 x8), (10, .pointer (some ⟨nx1, 0, none⟩)), (12, .pointer (some ⟨nx3, 0, none⟩)), (19, .slice Ap0 a0.length cp0), (20, .int .i64 (a0.length : Int)), (21, .int .i64 x9), (53, .bool true)]) (L' := [⟨nx0, [.int .i64 a2.f0, .int .i64 a2.f1], 65⟩, ⟨nx0 + 1, [.int .i64 0, .string (⟨#[]⟩ : ByteArray), .slice none 0 0], 26⟩, ⟨nx1, [.int .i64 x5, .string x6, .slice A2 x7.length c2], 26⟩, ⟨nx3, [.int .i64 ((a0.getD (x9).toNat qz32).f0), .int .i64 ((a0.getD (x9).toNat qz32).f1), .int .i64 ((a0.getD (x9).toNat qz32).f2), .int .i64 ((a0.getD (x9).toNat qz32).f3), .int .u32 ((a0.getD (x9).toNat qz32).f4), .int .i64 ((a0.getD (x9).toNat qz32).f5.f0), .string ((a0.getD (x9).toNat qz32).f5.f1), .slice A1_5_2_ (((a0.getD (x9).toNat qz32).f5.f2).length) c1_5_2_], 28⟩]) (by kernel_rfl) (.cons_cons _ (.cons_cons _ (.cons_cons _ (.cons_cons _ .slnil)))) (.refl _) ?_
                  exact hJ4 _ _ _ _ _ ⟨true, rfl, rfl, rfl, (Imm.le_refl _), HK3⟩
                · have hc := (of_decide_eq_false hb)
                  refine RL.norm (K' := [(42, .bool false), (12, .pointer (some ⟨nx3, 0, none⟩)), (1, .int .i64 a1), (5, .pointer (some ⟨nx0, 0, none⟩)), (6, .pointer (some ⟨nx0 + 1, 0, none⟩)), (8, .map (some g1)), (9, .int .i64 x8), (10, .pointer (some ⟨nx1, 0, none⟩)), (19, .slice Ap0 a0.length cp0), (20, .int .i64 (a0.length : Int)), (21, .int .i64 x9)]) (L' := [⟨nx0, [.int .i64 a2.f0, .int .i64 a2.f1], 65⟩, ⟨nx0 + 1, [.int .i64 0, .string (⟨#[]⟩ : ByteArray), .slice none 0 0], 26⟩, ⟨nx1, [.int .i64 x5, .string x6, .slice A2 x7.length c2], 26⟩, ⟨nx3, [.int .i64 ((a0.getD (x9).toNat qz32).f0), .int .i64 ((a0.getD (x9).toNat qz32).f1), .int .i64 ((a0.getD (x9).toNat qz32).f2), .int .i64 ((a0.getD (x9).toNat qz32).f3), .int .u32 ((a0.getD (x9).toNat qz32).f4), .int .i64 ((a0.getD (x9).toNat qz32).f5.f0), .string ((a0.getD (x9).toNat qz32).f5.f1), .slice A1_5_2_ (((a0.getD (x9).toNat qz32).f5.f2).length) c1_5_2_], 28⟩]) (by rw [hb]; try rfl) rfl (by first | rfl | (rw [hb]; try rfl)) rfl ?_
                  rw [if_neg hc] at H; clear hb
                  refine RL.simP (K' := [(48, .bool (decide (((a0.getD (x9).toNat qz32).f2) ≤ x8))), (12, .pointer (some ⟨nx3, 0, none⟩)), (1, .int .i64 a1), (5, .pointer (some ⟨nx0, 0, none⟩)), (6, .pointer (some ⟨nx0 + 1, 0, none⟩)), (8, .map (some g1)), (9, .int .i64 x8), (10, .pointer (some ⟨nx1, 0, none⟩)), (19, .slice Ap0 a0.length cp0), (20, .int .i64 (a0.length : Int)), (21, .int .i64 x9)]) (nx' := nx3 + 1) (L' := [⟨nx0, [.int .i64 a2.f0, .int .i64 a2.f1], 65⟩, ⟨nx0 + 1, [.int .i64 0, .string (⟨#[]⟩ : ByteArray), .slice none 0 0], 26⟩, ⟨nx1, [.int .i64 x5, .string x6, .slice A2 x7.length c2], 26⟩, ⟨nx3, [.int .i64 ((a0.getD (x9).toNat qz32).f0), .int .i64 ((a0.getD (x9).toNat qz32).f1), .int .i64 ((a0.getD (x9).toNat qz32).f2), .int .i64 ((a0.getD (x9).toNat qz32).f3), .int .u32 ((a0.getD (x9).toNat qz32).f4), .int .i64 ((a0.getD (x9).toNat qz32).f5.f0), .string ((a0.getD (x9).toNat qz32).f5.f1), .slice A1_5_2_ (((a0.getD (x9).toNat qz32).f5.f2).length) c1_5_2_], 28⟩]) [] (RFacts.nil _ _ _) 6 [.no, .l 3, .no, .no, .no, .no] (by kernel_rfl) (by kernel_rfl) ?_
                  refine RL.cases (decide (((a0.getD (x9).toNat qz32).f2) ≤ x8)) (fun hb => ?_) (fun hb => ?_)
                  · have hc := (of_decide_eq_true hb)
                    refine RL.norm (K' := [(48, .bool true), (12, .pointer (some ⟨nx3, 0, none⟩)), (1, .int .i64 a1), (5, .pointer (some ⟨nx0, 0, none⟩)), (6, .pointer (some ⟨nx0 + 1, 0, none⟩)), (8, .map (some g1)), (9, .int .i64 x8), (10, .pointer (some ⟨nx1, 0, none⟩)), (19, .slice Ap0 a0.length cp0), (20, .int .i64 (a0.length : Int)), (21, .int .i64 x9)]) (L' := [⟨nx0, [.int .i64 a2.f0, .int .i64 a2.f1], 65⟩, ⟨nx0 + 1, [.int .i64 0, .string (⟨#[]⟩ : ByteArray), .slice none 0 0], 26⟩, ⟨nx1, [.int .i64 x5, .string x6, .slice A2 x7.length c2], 26⟩, ⟨nx3, [.int .i64 ((a0.getD (x9).toNat qz32).f0), .int .i64 ((a0.getD (x9).toNat qz32).f1), .int .i64 ((a0.getD (x9).toNat qz32).f2), .int .i64 ((a0.getD (x9).toNat qz32).f3), .int .u32 ((a0.getD (x9).toNat qz32).f4), .int .i64 ((a0.getD (x9).toNat qz32).f5.f0), .string ((a0.getD (x9).toNat qz32).f5.f1), .slice A1_5_2_ (((a0.getD (x9).toNat qz32).f5.f2).length) c1_5_2_], 28⟩]) (by rw [hb]; try rfl) rfl (by first | rfl | (rw [hb]; try rfl)) rfl ?_
                    rw [if_pos hc] at H; clear hb
                    refine RL.simP (K' := [(53, .bool true), (12, .pointer (some ⟨nx3, 0, none⟩)), (1, .int .i64 a1), (5, .pointer (some ⟨nx0, 0, none⟩)), (6, .pointer (some ⟨nx0 + 1, 0, none⟩)), (8, .map (some g1)), (9, .int .i64 x8), (10, .pointer (some ⟨nx1, 0, none⟩)), (19, .slice Ap0 a0.length cp0), (20, .int .i64 (a0.length : Int)), (21, .int .i64 x9)]) (nx' := nx3 + 1) (L' := [⟨nx0, [.int .i64 a2.f0, .int .i64 a2.f1], 65⟩, ⟨nx0 + 1, [.int .i64 0, .string (⟨#[]⟩ : ByteArray), .slice none 0 0], 26⟩, ⟨nx1, [.int .i64 x5, .string x6, .slice A2 x7.length c2], 26⟩, ⟨nx3, [.int .i64 ((a0.getD (x9).toNat qz32).f0), .int .i64 ((a0.getD (x9).toNat qz32).f1), .int .i64 ((a0.getD (x9).toNat qz32).f2), .int .i64 ((a0.getD (x9).toNat qz32).f3), .int .u32 ((a0.getD (x9).toNat qz32).f4), .int .i64 ((a0.getD (x9).toNat qz32).f5.f0), .string ((a0.getD (x9).toNat qz32).f5.f1), .slice A1_5_2_ (((a0.getD (x9).toNat qz32).f5.f2).length) c1_5_2_], 28⟩]) [] (RFacts.nil _ _ _) 5 [.no, .no, .no, .no, .no] (by kernel_rfl) (by kernel_rfl) ?_
                    refine RL.nil (by kernel_rfl) ?_
                    obtain rfl := Option.some.inj H
                    refine QN.sub (K' := [(1, .int .i64 a1), (5, .pointer (some ⟨nx0, 0, none⟩)), (6, .pointer (some ⟨nx0 + 1, 0, none⟩)), (8, .map (some g1)), (9, .int .i64 x8), (10, .pointer (some ⟨nx1, 0, none⟩)), (12, .pointer (some ⟨nx3, 0, none⟩)), (19, .slice Ap0 a0.length cp0), (20, .int .i64 (a0.length : Int)), (21, .int .i64 x9), (53, .bool true)]) (L' := [⟨nx0, [.int .i64 a2.f0, .int .i64 a2.f1], 65⟩, ⟨nx0 + 1, [.int .i64 0, .string (⟨#[]⟩ : ByteArray), .slice none 0 0], 26⟩, ⟨nx1, [.int .i64 x5, .string x6, .slice A2 x7.length c2], 26⟩, ⟨nx3, [.int .i64 ((a0.getD (x9).toNat qz32).f0), .int .i64 ((a0.getD (x9).toNat qz32).f1), .int .i64 ((a0.getD (x9).toNat qz32).f2), .int .i64 ((a0.getD (x9).toNat qz32).f3), .int .u32 ((a0.getD (x9).toNat qz32).f4), .int .i64 ((a0.getD (x9).toNat qz32).f5.f0), .string ((a0.getD (x9).toNat qz32).f5.f1), .slice A1_5_2_ (((a0.getD (x9).toNat qz32).f5.f2).length) c1_5_2_], 28⟩]) (by kernel_rfl) (.cons_cons _ (.cons_cons _ (.cons_cons _ (.cons_cons _ .slnil)))) (.refl _) ?_
                    exact hJ4 _ _ _ _ _ ⟨true, rfl, rfl, rfl, (Imm.le_refl _), HK3⟩
                  · have hc := (of_decide_eq_false hb)
                    refine RL.norm (K' := [(48, .bool false), (12, .pointer (some ⟨nx3, 0, none⟩)), (1, .int .i64 a1), (5, .pointer (some ⟨nx0, 0, none⟩)), (6, .pointer (some ⟨nx0 + 1, 0, none⟩)), (8, .map (some g1)), (9, .int .i64 x8), (10, .pointer (some ⟨nx1, 0, none⟩)), (19, .slice Ap0 a0.length cp0), (20, .int .i64 (a0.length : Int)), (21, .int .i64 x9)]) (L' := [⟨nx0, [.int .i64 a2.f0, .int .i64 a2.f1], 65⟩, ⟨nx0 + 1, [.int .i64 0, .string (⟨#[]⟩ : ByteArray), .slice none 0 0], 26⟩, ⟨nx1, [.int .i64 x5, .string x6, .slice A2 x7.length c2], 26⟩, ⟨nx3, [.int .i64 ((a0.getD (x9).toNat qz32).f0), .int .i64 ((a0.getD (x9).toNat qz32).f1), .int .i64 ((a0.getD (x9).toNat qz32).f2), .int .i64 ((a0.getD (x9).toNat qz32).f3), .int .u32 ((a0.getD (x9).toNat qz32).f4), .int .i64 ((a0.getD (x9).toNat qz32).f5.f0), .string ((a0.getD (x9).toNat qz32).f5.f1), .slice A1_5_2_ (((a0.getD (x9).toNat qz32).f5.f2).length) c1_5_2_], 28⟩]) (by rw [hb]; try rfl) rfl (by first | rfl | (rw [hb]; try rfl)) rfl ?_
                    rw [if_neg hc] at H; clear hb
                    refine RL.simP (K' := [(50, .int .i64 a1), (49, .agg #[.int .i64 ((a0.getD (x9).toNat qz32).f0), .int .i64 ((a0.getD (x9).toNat qz32).f1), .int .i64 ((a0.getD (x9).toNat qz32).f2), .int .i64 ((a0.getD (x9).toNat qz32).f3), .int .u32 ((a0.getD (x9).toNat qz32).f4), .int .i64 ((a0.getD (x9).toNat qz32).f5.f0), .string ((a0.getD (x9).toNat qz32).f5.f1), .slice A1_5_2_ (((a0.getD (x9).toNat qz32).f5.f2).length) c1_5_2_]), (48, .bool false), (12, .pointer (some ⟨nx3, 0, none⟩)), (1, .int .i64 a1), (5, .pointer (some ⟨nx0, 0, none⟩)), (6, .pointer (some ⟨nx0 + 1, 0, none⟩)), (8, .map (some g1)), (9, .int .i64 x8), (10, .pointer (some ⟨nx1, 0, none⟩)), (19, .slice Ap0 a0.length cp0), (20, .int .i64 (a0.length : Int)), (21, .int .i64 x9)]) (nx' := nx3 + 1) (L' := [⟨nx0, [.int .i64 a2.f0, .int .i64 a2.f1], 65⟩, ⟨nx0 + 1, [.int .i64 0, .string (⟨#[]⟩ : ByteArray), .slice none 0 0], 26⟩, ⟨nx1, [.int .i64 x5, .string x6, .slice A2 x7.length c2], 26⟩, ⟨nx3, [.int .i64 ((a0.getD (x9).toNat qz32).f0), .int .i64 ((a0.getD (x9).toNat qz32).f1), .int .i64 ((a0.getD (x9).toNat qz32).f2), .int .i64 ((a0.getD (x9).toNat qz32).f3), .int .u32 ((a0.getD (x9).toNat qz32).f4), .int .i64 ((a0.getD (x9).toNat qz32).f5.f0), .string ((a0.getD (x9).toNat qz32).f5.f1), .slice A1_5_2_ (((a0.getD (x9).toNat qz32).f5.f2).length) c1_5_2_], 28⟩]) [] (RFacts.nil _ _ _) 2 [.l 3, .no] (by kernel_rfl) (by kernel_rfl) ?_
                    obtain ⟨t2, hA2, H⟩ := Option.bind_eq_some_iff.mp H
                    refine RL.callP 23 [.agg #[.int .i64 ((a0.getD (x9).toNat qz32).f0), .int .i64 ((a0.getD (x9).toNat qz32).f1), .int .i64 ((a0.getD (x9).toNat qz32).f2), .int .i64 ((a0.getD (x9).toNat qz32).f3), .int .u32 ((a0.getD (x9).toNat qz32).f4), .int .i64 ((a0.getD (x9).toNat qz32).f5.f0), .string ((a0.getD (x9).toNat qz32).f5.f1), .slice A1_5_2_ (((a0.getD (x9).toNat qz32).f5.f2).length) c1_5_2_], .int .i64 a1] (some 51) (fun w => quorum_Valid.Post I3 w t2) (by kernel_rfl) (by kernel_rfl) (fun w hs => quorum_Valid.calls kq1 I3 (a0.getD (x9).toNat qz32) A1_5_2_ c1_5_2_ a1 w hs.im hl1_5_2_ hr1_5_2_ t2 hA2) ?_
                    rintro w v w' hs ⟨I9, rfl, hg⟩
                    have hi9 := hg.le
                    refine RL.resume (K' := [(51, .bool t2), (50, .int .i64 a1), (49, .agg #[.int .i64 ((a0.getD (x9).toNat qz32).f0), .int .i64 ((a0.getD (x9).toNat qz32).f1), .int .i64 ((a0.getD (x9).toNat qz32).f2), .int .i64 ((a0.getD (x9).toNat qz32).f3), .int .u32 ((a0.getD (x9).toNat qz32).f4), .int .i64 ((a0.getD (x9).toNat qz32).f5.f0), .string ((a0.getD (x9).toNat qz32).f5.f1), .slice A1_5_2_ (((a0.getD (x9).toNat qz32).f5.f2).length) c1_5_2_]), (48, .bool false), (12, .pointer (some ⟨nx3, 0, none⟩)), (1, .int .i64 a1), (5, .pointer (some ⟨nx0, 0, none⟩)), (6, .pointer (some ⟨nx0 + 1, 0, none⟩)), (8, .map (some g1)), (9, .int .i64 x8), (10, .pointer (some ⟨nx1, 0, none⟩)), (19, .slice Ap0 a0.length cp0), (20, .int .i64 (a0.length : Int)), (21, .int .i64 x9)]) (X' := []) (by kernel_rfl) (hs.call hg) ?_
                    clear hs hg
                    generalize w'.heap.size = nx9
                    clear w w'
                    refine RL.simP (K' := [(53, .bool (!t2)), (12, .pointer (some ⟨nx3, 0, none⟩)), (1, .int .i64 a1), (5, .pointer (some ⟨nx0, 0, none⟩)), (6, .pointer (some ⟨nx0 + 1, 0, none⟩)), (8, .map (some g1)), (9, .int .i64 x8), (10, .pointer (some ⟨nx1, 0, none⟩)), (19, .slice Ap0 a0.length cp0), (20, .int .i64 (a0.length : Int)), (21, .int .i64 x9)]) (nx' := nx9) (L' := [⟨nx0, [.int .i64 a2.f0, .int .i64 a2.f1], 65⟩, ⟨nx0 + 1, [.int .i64 0, .string (⟨#[]⟩ : ByteArray), .slice none 0 0], 26⟩, ⟨nx1, [.int .i64 x5, .string x6, .slice A2 x7.length c2], 26⟩, ⟨nx3, [.int .i64 ((a0.getD (x9).toNat qz32).f0), .int .i64 ((a0.getD (x9).toNat qz32).f1), .int .i64 ((a0.getD (x9).toNat qz32).f2), .int .i64 ((a0.getD (x9).toNat qz32).f3), .int .u32 ((a0.getD (x9).toNat qz32).f4), .int .i64 ((a0.getD (x9).toNat qz32).f5.f0), .string ((a0.getD (x9).toNat qz32).f5.f1), .slice A1_5_2_ (((a0.getD (x9).toNat qz32).f5.f2).length) c1_5_2_], 28⟩]) [] (RFacts.nil _ _ _) 2 [.no, .no] (by kernel_rfl) (by kernel_rfl) ?_
                    refine RL.nil (by kernel_rfl) ?_
                    obtain rfl := Option.some.inj H
                    refine QN.sub (K' := [(1, .int .i64 a1), (5, .pointer (some ⟨nx0, 0, none⟩)), (6, .pointer (some ⟨nx0 + 1, 0, none⟩)), (8, .map (some g1)), (9, .int .i64 x8), (10, .pointer (some ⟨nx1, 0, none⟩)), (12, .pointer (some ⟨nx3, 0, none⟩)), (19, .slice Ap0 a0.length cp0), (20, .int .i64 (a0.length : Int)), (21, .int .i64 x9), (53, .bool (!t2))]) (L' := [⟨nx0, [.int .i64 a2.f0, .int .i64 a2.f1], 65⟩, ⟨nx0 + 1, [.int .i64 0, .string (⟨#[]⟩ : ByteArray), .slice none 0 0], 26⟩, ⟨nx1, [.int .i64 x5, .string x6, .slice A2 x7.length c2], 26⟩, ⟨nx3, [.int .i64 ((a0.getD (x9).toNat qz32).f0), .int .i64 ((a0.getD (x9).toNat qz32).f1), .int .i64 ((a0.getD (x9).toNat qz32).f2), .int .i64 ((a0.getD (x9).toNat qz32).f3), .int .u32 ((a0.getD (x9).toNat qz32).f4), .int .i64 ((a0.getD (x9).toNat qz32).f5.f0), .string ((a0.getD (x9).toNat qz32).f5.f1), .slice A1_5_2_ (((a0.getD (x9).toNat qz32).f5.f2).length) c1_5_2_], 28⟩]) (by kernel_rfl) (.cons_cons _ (.cons_cons _ (.cons_cons _ (.cons_cons _ .slnil)))) (.refl _) ?_
                    exact hJ4 _ _ _ _ _ ⟨(!t2), rfl, rfl, rfl, hi9, HK3⟩
      · skip
        have hc := (of_decide_eq_false hb)
        rw [if_neg hc] at H
        clear hb
        refine OK.exit 0 (by kernel_rfl) ?_
        refine QN.thenE ?_
        refine QN.outE hQ2 ?_
        refine QN.blkE ?_
        obtain rfl := Option.some.inj H
        refine QN.sub (K' := [(6, .pointer (some ⟨nx0 + 1, 0, none⟩)), (9, .int .i64 x8), (10, .pointer (some ⟨nx1, 0, none⟩))]) (L' := [⟨nx0, [.int .i64 a2.f0, .int .i64 a2.f1], 65⟩, ⟨nx0 + 1, [.int .i64 0, .string (⟨#[]⟩ : ByteArray), .slice none 0 0], 26⟩, ⟨nx1, [.int .i64 x5, .string x6, .slice A2 x7.length c2], 26⟩]) (by kernel_rfl) (.cons_cons _ (.cons_cons _ (.cons_cons _ .slnil))) (.refl _) ?_
        exact hJ1 _ _ _ _ _ ⟨x5, x6, x7, x8, A2, c2, rfl, rfl, rfl, hi3, hl2, hr2, HK1⟩

end Go.Proofs.YtijhdekfbjafgaaGreat
namespace Go.Proofs.YtijhdekfbjafgaaGreat
open Go Go.RowKit Go.Proofs.YtijhdekfbjafgaaGreat.RW
open Go.Proofs.YtijhdekfbjafgaaGreat.AM hiding lk
set_option linter.unusedVariables false
def Q32.of (x : S28) : Q32 := ⟨x.1, x.2.1, x.2.2.1, x.2.2.2.1, x.2.2.2.2.1, ⟨x.2.2.2.2.2.1, x.2.2.2.2.2.2.1, x.2.2.2.2.2.2.2⟩⟩
theorem Rd.of {I : Imm} {A : Option Addr} {l : List S28} (h : Rd c28.ty I A l) : Rd qt32 I A (l.map Q32.of) := by
  refine ⟨by rw [List.length_map]; exact h.1, fun hn => ?_⟩
  obtain ⟨g, o, e, hc⟩ := h.2 (fun e => hn (by rw [e]; rfl))
  refine ⟨g, o, e, fun j x hj => ?_⟩
  rw [List.getElem?_map] at hj
  cases hx : l[j]? with
  | none => rw [hx] at hj; cases hj
  | some y =>
    rw [hx] at hj
    obtain rfl := Option.some.inj hj
    exact hc j y hx
noncomputable def quorum_HighestPrepared (n : Nat) (l : List S28) (a : Int) (at_ : S65) : Option (S26 × Bool) := (quorum_HighestPrepared.f n (l.map Q32.of) a ⟨at_.1, at_.2⟩).map fun r => (r.1.p, r.2)
noncomputable def quorum_HighestPrepared.d (n : Nat) : FragD := ⟨⟨[(0, ph (.row c28)), (1, pi), (2, pst c65)], []⟩, [⟨1, ⟨[(0, .tup [.st c26, .c (.h .bool)])], []⟩, S26 × Bool, fun x => (x.1.1.1, x.1.1.2.1), fun r => (((r.1, r.2, ()), ()), ()), fun _ => rfl⟩], fun x => quorum_HighestPrepared n x.1.1 x.1.2.1 x.1.2.2.1⟩
noncomputable def quorum_Committed (n : Nat) (l : List S28) (a : Int) (at_ : S65) : Option (Int × Bool) := quorum_Committed.f n (l.map Q32.of) a ⟨at_.1, at_.2⟩
noncomputable def quorum_Committed.d (n : Nat) : FragD := ⟨⟨[(0, ph (.row c28)), (1, pi), (2, pst c65)], []⟩, [⟨1, ⟨[(0, .tup [.c (.h (.int .u32)), .c (.h .bool)])], []⟩, Int × Bool, fun x => (x.1.1.1, x.1.1.2.1), fun r => (((r.1, r.2, ()), ()), ()), fun _ => rfl⟩], fun x => quorum_Committed n x.1.1 x.1.2.1 x.1.2.2.1⟩
noncomputable def quorum_Prepared (n : Nat) (l : List S28) (a : Int) (at_ : S65) : Option (Int × Bool) := quorum_Prepared.f n (l.map Q32.of) a ⟨at_.1, at_.2⟩
noncomputable def quorum_Prepared.d (n : Nat) : FragD := ⟨⟨[(0, ph (.row c28)), (1, pi), (2, pst c65)], []⟩, [⟨1, ⟨[(0, .tup [.c (.h (.int .u32)), .c (.h .bool)])], []⟩, Int × Bool, fun x => (x.1.1.1, x.1.1.2.1), fun r => (((r.1, r.2, ()), ()), ()), fun _ => rfl⟩], fun x => quorum_Prepared n x.1.1 x.1.2.1 x.1.2.2.1⟩
/-- The three arguments. -/
theorem args3 {π : Pi} {I : Imm} {x : SlI [(0, ph (.row c28)), (1, pi), (2, pst c65)]} {vs : List Value} (hls : vs.length = 3) (hvs : ∀ t av, AM.lk (instSl id [(0, ph (.row c28)), (1, pi), (2, pst c65)] x) t = some av → ∃ v, vs[t]? = some v ∧ relV π I av v) :
    ∃ A c, vs = [.slice A x.1.length c, .int .i64 x.2.1, .agg #[.int .i64 x.2.2.1.1, .int .i64 x.2.2.1.2]] ∧ x.1.length ≤ c ∧ Rd c28.ty I A x.1 := by
  match vs, hls with
  | [a, b, d], _ =>
    obtain ⟨v, h0, A, c, rfl, hle, _, hrd⟩ := hvs 0 _ rfl
    obtain ⟨v1, h1, rfl, _⟩ := hvs 1 _ rfl
    obtain ⟨v2, h2, ys, rfl, hy⟩ := hvs 2 _ rfl
    obtain rfl := Option.some.inj h0
    obtain rfl := Option.some.inj h1
    obtain rfl := Option.some.inj h2
    match ys, hy with
    | [y0, y1], hy =>
      obtain ⟨⟨rfl, _⟩, ⟨rfl, _⟩, _⟩ := hy
      exact ⟨A, c, rfl, hle, hrd⟩
theorem quorum_Committed.ok (n : Nat) : FunOK Tryz.prog 85 (quorum_Committed.d n) := by
  intro x y q z hg ho I π w vs hlen hls hvs hm
  obtain ⟨A, c, rfl, hle, hrd⟩ := args3 (x := x.1) hls hvs
  cases ho
  have := quorum_Committed.calls n I (x.1.1.map Q32.of) A c x.1.2.1 ⟨x.1.2.2.1.1, x.1.2.2.1.2⟩ w hm.im (by rw [List.length_map]; exact hle) (Rd.of hrd) y hg
  rw [List.length_map] at this
  refine this.mono ?_
  rintro e w' ⟨v, rfl, J, rfl, hgot⟩
  exact ⟨_, rfl, π, J, Pi.le_refl _, hgot.le, hm.got hgot, fun av hav => by cases hav; exact ⟨_, rfl, ⟨rfl, rfl⟩, ⟨rfl, rfl⟩, trivial⟩⟩
theorem quorum_Prepared.ok (n : Nat) : FunOK Tryz.prog 92 (quorum_Prepared.d n) := by
  intro x y q z hg ho I π w vs hlen hls hvs hm
  obtain ⟨A, c, rfl, hle, hrd⟩ := args3 (x := x.1) hls hvs
  cases ho
  have := quorum_Prepared.calls n I (x.1.1.map Q32.of) A c x.1.2.1 ⟨x.1.2.2.1.1, x.1.2.2.1.2⟩ w hm.im (by rw [List.length_map]; exact hle) (Rd.of hrd) y hg
  rw [List.length_map] at this
  refine this.mono ?_
  rintro e w' ⟨v, rfl, J, rfl, hgot⟩
  exact ⟨_, rfl, π, J, Pi.le_refl _, hgot.le, hm.got hgot, fun av hav => by cases hav; exact ⟨_, rfl, ⟨rfl, rfl⟩, ⟨rfl, rfl⟩, trivial⟩⟩
theorem quorum_HighestPrepared.ok (n : Nat) : FunOK Tryz.prog 33 (quorum_HighestPrepared.d n) := by
  intro x y q z hg ho I π w vs hlen hls hvs hm
  obtain ⟨A, c, rfl, hle, hrd⟩ := args3 (x := x.1) hls hvs
  cases ho
  obtain ⟨r, hr, rfl⟩ := Option.map_eq_some_iff.1 (show (quorum_HighestPrepared.f n (x.1.1.map Q32.of) x.1.2.1 ⟨x.1.2.2.1.1, x.1.2.2.1.2⟩).map _ = some y from hg)
  have := quorum_HighestPrepared.calls n I (x.1.1.map Q32.of) A c x.1.2.1 ⟨x.1.2.2.1.1, x.1.2.2.1.2⟩ w hm.im (by rw [List.length_map]; exact hle) (Rd.of hrd) r hr
  rw [List.length_map] at this
  refine this.mono ?_
  rintro e w' ⟨v, rfl, J, A2, c2, rfl, hgot, hl2, hr2⟩
  exact ⟨_, rfl, π, J, Pi.le_refl _, hgot.le, hm.got hgot, fun av hav => by cases hav; exact ⟨_, rfl, ⟨_, rfl, ⟨rfl, rfl⟩, ⟨rfl, rfl⟩, ⟨A2, c2, rfl, hl2, (fun e => by cases e), hr2⟩, trivial⟩, ⟨rfl, rfl⟩, trivial⟩⟩
end Go.Proofs.YtijhdekfbjafgaaGreat
set_option linter.unusedVariables false
namespace Go.Proofs.YtijhdekfbjafgaaGreat
open Go Go.RowKit Go.Proofs.YtijhdekfbjafgaaGreat.RW Go.Proofs.YtijhdekfbjafgaaGreat.AM

namespace api_Message
noncomputable abbrev K := cBody Tryz.f25
noncomputable abbrev F : List (Nat × FragD) := []
theorem Fok : AllF Tryz.prog (F) := trivial
end api_Message
open api_Message in
noncomputable def api_Message (t0 : List S28) : Option (List S28) :=
ck (decide ((t0.length : Int) = (t0.length : Int))) <|
ck (inb (t0.length : Int) (t0.length + 1)) <|
some (t0.take (t0.length : Int).toNat)
noncomputable def api_Message.d : FragD := ⟨⟨[(0, ph (.row c28))], []⟩, [⟨1, ⟨[(0, .w (.c (.full c28)))], []⟩, List S28, fun x => x.1.1, fun r => ((r, ()), ()), fun _ => rfl⟩], fun x => api_Message x.1.1⟩
open api_Message in
theorem api_Message.ok : FunOK Tryz.prog 25 (api_Message.d) := funR ⟨Tryz.prog, 9, F, [], [], []⟩ Tryz.f25 (by kernel_rfl) (by kernel_rfl) (by kernel_rfl) (Fok) trivial noL (by kernel_rfl) (fun x => by kernel_rfl)

namespace replica_machine_send
noncomputable abbrev K := cBody Tryz.f35
noncomputable abbrev F : List (Nat × FragD) := [(25, api_Message.d)]
theorem Fok : AllF Tryz.prog (F) := ⟨api_Message.ok, trivial⟩
end replica_machine_send
open replica_machine_send in
noncomputable def replica_machine_send (t1 : S28) (o0 : S33) : Option (Int × Int × Int × List S28 × List S26 × List S28) :=
(api_Message o0.2.2.2.2.1).bind fun z1 =>
ck (room (z1.length + 1) 88) <|
some (o0.1, o0.2.1, o0.2.2.1, o0.2.2.2.1, o0.2.2.2.2.2, (z1 ++ [(t1.1, o0.1, t1.2.2)]))
noncomputable def replica_machine_send.d : FragD := ⟨⟨[(0, pp 0), (1, pst c28)], [.stb 55 c33]⟩, [⟨1, ⟨[(0, .tup [])], [.blk 55 [.h (.int .i64), .h (.int .i64), .h (.int .i64), .h (.row c28), .sl 1, .h (.row c26)], .row 28 c28]⟩, Int × Int × Int × List S28 × List S26 × List S28, fun x => (x.2.1.1, x.2.1.2.1, x.2.1.2.2.1, x.2.1.2.2.2.1, x.2.1.2.2.2.2.2.1, x.2.2.1), fun r => (((), ()), ((r.1, r.2.1, r.2.2.1, r.2.2.2.1, (), r.2.2.2.2.1, ()), r.2.2.2.2.2, ())), fun _ => rfl⟩], fun x => replica_machine_send x.1.2.1 x.2.1⟩
open replica_machine_send in
theorem replica_machine_send.ok : FunOK Tryz.prog 35 (replica_machine_send.d) := funR ⟨Tryz.prog, 23, F, [], [], []⟩ Tryz.f35 (by kernel_rfl) (by kernel_rfl) (by kernel_rfl) (Fok) trivial noL (by kernel_rfl) (fun x => by kernel_rfl)

namespace replica_Propose
noncomputable abbrev K := cBody Tryz.f10
noncomputable abbrev F (n : Nat) : List (Nat × FragD) := [(29, codec_EncodeEntry.d n), (30, quorum_Leader.d), (31, replica_machine_position.d), (32, replica_machine_sent.d n), (34, replica_machine_slot.d), (33, quorum_HighestPrepared.d n), (36, codec_Checksum.d), (35, replica_machine_send.d)]
theorem Fok (n : Nat) : AllF Tryz.prog (F n) := ⟨codec_EncodeEntry.ok n, quorum_Leader.ok, replica_machine_position.ok, replica_machine_sent.ok n, replica_machine_slot.ok, quorum_HighestPrepared.ok n, codec_Checksum.ok, replica_machine_send.ok, trivial⟩
noncomputable def j0 (n : Nat) (o0 : S33) (o1 : S26) (o2 : S33) : Option S26 :=
(replica_machine_slot o0.2.2.1 o2).bind fun z5 =>
(quorum_HighestPrepared n o0.2.2.2.1 o0.2.1 z5).bind fun z6 =>
bif z6.2 then
some z6.1
else
some o1
noncomputable def D0 (n : Nat) : FragD := ⟨⟨[(2, pp 0), (3, pp 1), (7, pp 2)], [.stb 33 c33, .stb 26 c26, .stb 55 c33]⟩, [⟨0, ⟨[], [.same, .stb 26 c26, .same]⟩, S26, fun x => x.2.2.1, fun r => ((), ((), r, (), ())), fun _ => rfl⟩], fun x => j0 n x.2.1 x.2.2.1 x.2.2.2.1⟩
theorem T0 (n : Nat) : FragOK Tryz.prog 87 (atN K 400 62) (D0 n) := fragR ⟨Tryz.prog, 87, F n, [], [], []⟩ (Fok n) trivial noL 62 (by kernel_rfl) (fun x => by kernel_rfl)
noncomputable abbrev r0 (n : Nat) : List (Nat × FragD) := (62, D0 n) :: []
theorem R0 (n : Nat) : AllFr Tryz.prog 87 K (r0 n) := ⟨T0 n, trivial⟩
end replica_Propose
open replica_Propose in
noncomputable def replica_Propose (n : Nat) (t0 : S33) (t1 : S26) : Option (Int × Int × Int × List S28 × List S28 × List S26 × List S28 × Int) :=
(codec_EncodeEntry n t1).bind fun z1 =>
(quorum_Leader t0.2.1 t0.2.2.1).bind fun z2 =>
bif z2 != t0.1 then
some (t0.1, t0.2.1, t0.2.2.1, t0.2.2.2.1, t0.2.2.2.2.1, t0.2.2.2.2.2, ([] : List S28), 290)
else
(replica_machine_position t0).bind fun z3 =>
bif decide (z3 ≥ 1000) then
some (t0.1, t0.2.1, t0.2.2.1, t0.2.2.2.1, t0.2.2.2.2.1, t0.2.2.2.2.2, ([] : List S28), 2)
else
bif z1.1 != 0 then
some (t0.1, t0.2.1, t0.2.2.1, t0.2.2.2.1, t0.2.2.2.2.1, t0.2.2.2.2.2, ([] : List S28), 1)
else
(replica_machine_sent n 1 t0).bind fun z4 =>
bif z4.1 then
some (t0.1, t0.2.1, t0.2.2.1, t0.2.2.2.1, t0.2.2.2.2.1, t0.2.2.2.2.2, ([] : List S28), 321)
else
(j0 n t0 t1 z4.2).bind fun z7 =>
(codec_EncodeEntry n z7).bind fun z8 =>
(replica_machine_position z4.2).bind fun z9 =>
(codec_Checksum z8.2).bind fun z10 =>
(replica_machine_send (1, 0, t0.2.2.1, z9, z10, z7) z4.2).bind fun z11 =>
ck (inb (t0.2.2.2.2.1.length : Int) (z11.2.2.2.2.2.length + 1)) <|
some (z11.1, z11.2.1, z11.2.2.1, z11.2.2.2.1, z11.2.2.2.2.2, z11.2.2.2.2.1, (z11.2.2.2.2.2.drop (t0.2.2.2.2.1.length : Int).toNat), 0)
noncomputable def replica_Propose.d (n : Nat) : FragD := ⟨⟨[(0, pst c33), (1, pst c26)], []⟩, [⟨1, ⟨[(0, .tup [.agg [.h (.int .i64), .h (.int .i64), .h (.int .i64), .h (.row c28), .h (.row c28), .h (.row c26)], .c (.h (.row c28)), .c (.h (.int .i64))])], []⟩, Int × Int × Int × List S28 × List S28 × List S26 × List S28 × Int, fun x => (x.1.1.1.1, x.1.1.1.2.1, x.1.1.1.2.2.1, x.1.1.1.2.2.2.1, x.1.1.1.2.2.2.2.1, x.1.1.1.2.2.2.2.2.1, x.1.1.2.1, x.1.1.2.2.1), fun r => ((((r.1, r.2.1, r.2.2.1, r.2.2.2.1, r.2.2.2.2.1, r.2.2.2.2.2.1, ()), r.2.2.2.2.2.2.1, r.2.2.2.2.2.2.2, ()), ()), ()), fun _ => rfl⟩], fun x => replica_Propose n x.1.1 x.1.2.1⟩
open replica_Propose in
theorem replica_Propose.ok (n : Nat) : FunOK Tryz.prog 10 (replica_Propose.d n) := funR ⟨Tryz.prog, 87, F n, (r0 n), [], []⟩ Tryz.f10 (by kernel_rfl) (by kernel_rfl) (by kernel_rfl) (Fok n) (R0 n) noL (by kernel_rfl) (fun x => by kernel_rfl)

namespace replica_Handle_1
noncomputable abbrev K := cBody Tryz.f22
noncomputable abbrev F : List (Nat × FragD) := []
theorem Fok : AllF Tryz.prog (F) := trivial
end replica_Handle_1
open replica_Handle_1 in
noncomputable def replica_Handle_1 (t0 : S28) (o0 : S28) : Option Bool :=
bif t0.1 == o0.1 then
bif t0.2.1 == o0.2.1 then
bif t0.2.2.1 == o0.2.2.1 then
some (t0.2.2.2.1 == o0.2.2.2.1)
else
some false
else
some false
else
some false
noncomputable def replica_Handle_1.d : FragD := ⟨⟨[(0, pst c28), (1, pp 0)], [.stb 28 c28]⟩, [⟨1, ⟨[(0, pb)], [.same]⟩, Bool, fun x => x.1.1, fun r => ((r, ()), ((), ())), fun _ => rfl⟩], fun x => replica_Handle_1 x.1.1 x.2.1⟩
open replica_Handle_1 in
theorem replica_Handle_1.ok : FunOK Tryz.prog 22 (replica_Handle_1.d) := funR ⟨Tryz.prog, 30, F, [], [], []⟩ Tryz.f22 (by kernel_rfl) (by kernel_rfl) (by kernel_rfl) (Fok) trivial noL (by kernel_rfl) (fun x => by kernel_rfl)

namespace api_Message_49_2
noncomputable abbrev K := cBody Tryz.f49
noncomputable abbrev F (n : Nat) : List (Nat × FragD) := [(22, replica_Handle_1.d)]
theorem Fok (n : Nat) : AllF Tryz.prog (F n) := ⟨replica_Handle_1.ok, trivial⟩
noncomputable def s0 (n : Nat) (t8 : Int) (t0 : List S28) (t7 : Int) (o0 : S28) : Option ((Int × S28) ⊕ ((Int × S28) ⊕ S28)) :=
bif decide (t8 < t7) then
ck (inb t8 t0.length) <|
(replica_Handle_1 ((t0.getD t8.toNat z28).1, ((t0.getD t8.toNat z28).2).1, (((t0.getD t8.toNat z28).2).2).1, ((((t0.getD t8.toNat z28).2).2).2).1, (((((t0.getD t8.toNat z28).2).2).2).2).1, ((((((t0.getD t8.toNat z28).2).2).2).2).2).1, (((((((t0.getD t8.toNat z28).2).2).2).2).2).2)) o0).bind fun z1 =>
bif z1 then
some (.inr (.inl (t8, o0)))
else
some (.inl (W .i64 (t8 + 1), o0))
else
some (.inr (.inr o0))
noncomputable def l0 (n : Nat) : Nat → Int → List S28 → Int → S28 → Option ((Int × S28) ⊕ S28)
| 0, _, _, _, _ => none
| k + 1, t8, t0, t7, o0 => (s0 n t8 t0 t7 o0).bind fun z => sm z (fun z => l0 n k z.1 t0 t7 z.2) some
noncomputable def L0 (n : Nat) : LoopD := ⟨[(1, .w (.c (.fn 22 [] [(0, 0)]))), (8, pi)], [(0, ph (.row c28)), (7, pi)], [.stb 28 c28], Int × S28, fun x => (x.1.2.1, x.2.1), fun r => (((), r.1, ()), (r.2, ())), fun _ => rfl, ⟨1, ⟨[(4, pi)], [.stb 28 c28]⟩, Int × S28, fun x => (x.1.1, x.2.1), fun r => ((r.1, ()), (r.2, ())), fun _ => rfl⟩, [⟨2, ⟨[], [.stb 28 c28]⟩, S28, fun x => x.2.1, fun r => ((), (r, ())), fun _ => rfl⟩], fun x => s0 n x.1.2.1 x.1.2.2.1 x.1.2.2.2.1 x.2.1, [0]⟩
theorem T0 (n : Nat) : FragOK Tryz.prog 19 (atN K 400 26) ((L0 n).loopD fun x => l0 n n x.1.2.1 x.1.2.2.1 x.1.2.2.2.1 x.2.1) := loopR (L0 n) 26 (by kernel_rfl) (by kernel_rfl) (fragK ⟨Tryz.prog, 19, F n, [], [], []⟩ (Fok n) trivial noL 52 (by kernel_rfl) (fun x => by kernel_rfl)) (fun k x => l0 n k x.1.2.1 x.1.2.2.1 x.1.2.2.2.1 x.2.1) (fun x => by kernel_rfl) (fun k x => by kernel_rfl) n
noncomputable abbrev r0 (n : Nat) : List (Nat × FragD) := (26, ((L0 n).loopD fun x => l0 n n x.1.2.1 x.1.2.2.1 x.1.2.2.2.1 x.2.1)) :: []
theorem R0 (n : Nat) : AllFr Tryz.prog 19 K (r0 n) := ⟨T0 n, trivial⟩
end api_Message_49_2
open api_Message_49_2 in
noncomputable def api_Message_49_2 (n : Nat) (t0 : List S28) (o0 : S28) : Option (Int × S28) :=
(l0 n n 0 t0 (t0.length : Int) o0).bind fun z2 =>
sm z2 (fun z3 =>
some (z3.1, z3.2)) fun z4 =>
some ((-1), z4)
noncomputable def api_Message_49_2.d (n : Nat) : FragD := ⟨⟨[(0, ph (.row c28)), (1, .w (.c (.fn 22 [] [(0, 0)])))], [.stb 28 c28]⟩, [⟨1, ⟨[(0, pi)], [.stb 28 c28]⟩, Int × S28, fun x => (x.1.1, x.2.1), fun r => ((r.1, ()), (r.2, ())), fun _ => rfl⟩], fun x => api_Message_49_2 n x.1.1 x.2.1⟩
open api_Message_49_2 in
theorem api_Message_49_2.ok (n : Nat) : FunOK Tryz.prog 49 (api_Message_49_2.d n) := funR ⟨Tryz.prog, 19, F n, (r0 n), [], []⟩ Tryz.f49 (by kernel_rfl) (by kernel_rfl) (by kernel_rfl) (Fok n) (R0 n) noL (by kernel_rfl) (fun x => by kernel_rfl)

namespace api_Message_24_2
noncomputable abbrev K := cBody Tryz.f24
noncomputable abbrev F (n : Nat) : List (Nat × FragD) := [(49, api_Message_49_2.d n)]
theorem Fok (n : Nat) : AllF Tryz.prog (F n) := ⟨api_Message_49_2.ok n, trivial⟩
end api_Message_24_2
open api_Message_24_2 in
noncomputable def api_Message_24_2 (n : Nat) (t0 : List S28) (o0 : S28) : Option (Bool × S28) :=
(api_Message_49_2 n t0 o0).bind fun z1 =>
some (decide (z1.1 ≥ 0), z1.2)
noncomputable def api_Message_24_2.d (n : Nat) : FragD := ⟨⟨[(0, ph (.row c28)), (1, .w (.c (.fn 22 [] [(0, 0)])))], [.stb 28 c28]⟩, [⟨1, ⟨[(0, pb)], [.stb 28 c28]⟩, Bool × S28, fun x => (x.1.1, x.2.1), fun r => ((r.1, ()), (r.2, ())), fun _ => rfl⟩], fun x => api_Message_24_2 n x.1.1 x.2.1⟩
open api_Message_24_2 in
theorem api_Message_24_2.ok (n : Nat) : FunOK Tryz.prog 24 (api_Message_24_2.d n) := funR ⟨Tryz.prog, 9, F n, [], [], []⟩ Tryz.f24 (by kernel_rfl) (by kernel_rfl) (by kernel_rfl) (Fok n) trivial noL (by kernel_rfl) (fun x => by kernel_rfl)

namespace replica_rules
noncomputable abbrev K := cBody Tryz.f50
noncomputable abbrev F : List (Nat × FragD) := []
theorem Fok : AllF Tryz.prog (F) := trivial
end replica_rules
open replica_rules in
noncomputable def replica_rules : Option Unit :=
some ()
noncomputable def replica_rules.d : FragD := ⟨⟨[], []⟩, [⟨1, ⟨[(0, .w (.c (.sb 0 4)))], [.blk 81 [.fn 70 [] [], .fn 71 [] [], .fn 72 [] [], .fn 73 [] []]]⟩, Unit, fun _ => (), fun _ => (((), ()), (((), (), (), (), ()), ())), fun _ => rfl⟩], fun _ => replica_rules⟩
open replica_rules in
theorem replica_rules.ok : FunOK Tryz.prog 50 (replica_rules.d) := funR ⟨Tryz.prog, 2, F, [], [], []⟩ Tryz.f50 (by kernel_rfl) (by kernel_rfl) (by kernel_rfl) (Fok) trivial noL (by kernel_rfl) (fun x => by kernel_rfl)




namespace replica_withSum
noncomputable abbrev K := cBody Tryz.f87
noncomputable abbrev F : List (Nat × FragD) := []
theorem Fok : AllF Tryz.prog (F) := trivial
end replica_withSum
open replica_withSum in
noncomputable def replica_withSum (t0 : Int) : Option Int :=
some t0
noncomputable def replica_withSum.d : FragD := ⟨⟨[(0, ph (.int .u32))], []⟩, [⟨1, ⟨[(0, .w (.c (.fn 99 [] [(0, 0)])))], [.stb 23 (.int .u32)]⟩, Int, fun x => x.2.1, fun r => (((), ()), (r, ())), fun _ => rfl⟩], fun x => replica_withSum x.1.1⟩
open replica_withSum in
theorem replica_withSum.ok : FunOK Tryz.prog 87 (replica_withSum.d) := funR ⟨Tryz.prog, 4, F, [], [], []⟩ Tryz.f87 (by kernel_rfl) (by kernel_rfl) (by kernel_rfl) (Fok) trivial noL (by kernel_rfl) (fun x => by kernel_rfl)

namespace replica_withSum_1
noncomputable abbrev K := cBody Tryz.f99
noncomputable abbrev F : List (Nat × FragD) := []
theorem Fok : AllF Tryz.prog (F) := trivial
end replica_withSum_1
open replica_withSum_1 in
noncomputable def replica_withSum_1 (t0 : S28) (o0 : Int) : Option Bool :=
some (t0.2.2.2.2.1 == o0)
noncomputable def replica_withSum_1.d : FragD := ⟨⟨[(0, pst c28), (1, pp 0)], [.stb 23 (.int .u32)]⟩, [⟨1, ⟨[(0, pb)], [.same]⟩, Bool, fun x => x.1.1, fun r => ((r, ()), ((), ())), fun _ => rfl⟩], fun x => replica_withSum_1 x.1.1 x.2.1⟩
open replica_withSum_1 in
theorem replica_withSum_1.ok : FunOK Tryz.prog 99 (replica_withSum_1.d) := funR ⟨Tryz.prog, 8, F, [], [], []⟩ Tryz.f99 (by kernel_rfl) (by kernel_rfl) (by kernel_rfl) (Fok) trivial noL (by kernel_rfl) (fun x => by kernel_rfl)

namespace replica_machine_proposal_1
noncomputable abbrev K := cBody Tryz.f98
noncomputable abbrev F : List (Nat × FragD) := [(31, replica_machine_position.d), (99, replica_withSum_1.d)]
theorem Fok : AllF Tryz.prog (F) := ⟨replica_machine_position.ok, replica_withSum_1.ok, trivial⟩
end replica_machine_proposal_1
open replica_machine_proposal_1 in
noncomputable def replica_machine_proposal_1 (t0 : S28) (o2 : S33) (o3 : Int) : Option Bool :=
bif t0.1 == 1 then
(replica_machine_position o2).bind fun z1 =>
bif t0.2.2.2.1 == z1 then
(replica_withSum_1 t0 o3).bind fun z2 =>
some z2
else
some false
else
some false
noncomputable def replica_machine_proposal_1.d : FragD := ⟨⟨[(0, pst c28), (1, pp 0), (2, pp 1)], [.blk 53 [.ptr 2 0], .blk 50 [.fn 99 [] [(3, 0)]], .stb 55 c33, .stb 23 (.int .u32)]⟩, [⟨1, ⟨[(0, pb)], [.same, .same, .same, .same]⟩, Bool, fun x => x.1.1, fun r => ((r, ()), ((), (), (), (), ())), fun _ => rfl⟩], fun x => replica_machine_proposal_1 x.1.1 x.2.2.2.1 x.2.2.2.2.1⟩
open replica_machine_proposal_1 in
theorem replica_machine_proposal_1.ok : FunOK Tryz.prog 98 (replica_machine_proposal_1.d) := funR ⟨Tryz.prog, 20, F, [], [], []⟩ Tryz.f98 (by kernel_rfl) (by kernel_rfl) (by kernel_rfl) (Fok) trivial noL (by kernel_rfl) (fun x => by kernel_rfl)

namespace api_Message_49_3
noncomputable abbrev K := cBody Tryz.f49
noncomputable abbrev F (n : Nat) : List (Nat × FragD) := [(98, replica_machine_proposal_1.d)]
theorem Fok (n : Nat) : AllF Tryz.prog (F n) := ⟨replica_machine_proposal_1.ok, trivial⟩
noncomputable def s0 (n : Nat) (t8 : Int) (t0 : List S28) (t7 : Int) (o2 : S33) (o3 : Int) : Option ((Int × S33 × Int) ⊕ ((Int × S33 × Int) ⊕ (S33 × Int))) :=
bif decide (t8 < t7) then
ck (inb t8 t0.length) <|
(replica_machine_proposal_1 ((t0.getD t8.toNat z28).1, ((t0.getD t8.toNat z28).2).1, (((t0.getD t8.toNat z28).2).2).1, ((((t0.getD t8.toNat z28).2).2).2).1, (((((t0.getD t8.toNat z28).2).2).2).2).1, ((((((t0.getD t8.toNat z28).2).2).2).2).2).1, (((((((t0.getD t8.toNat z28).2).2).2).2).2).2)) o2 o3).bind fun z1 =>
bif z1 then
some (.inr (.inl (t8, o2, o3)))
else
some (.inl (W .i64 (t8 + 1), o2, o3))
else
some (.inr (.inr (o2, o3)))
noncomputable def l0 (n : Nat) : Nat → Int → List S28 → Int → S33 → Int → Option ((Int × S33 × Int) ⊕ (S33 × Int))
| 0, _, _, _, _, _ => none
| k + 1, t8, t0, t7, o2, o3 => (s0 n t8 t0 t7 o2 o3).bind fun z => sm z (fun z => l0 n k z.1 t0 t7 z.2.1 z.2.2) some
noncomputable def L0 (n : Nat) : LoopD := ⟨[(1, .w (.c (.fn 98 [] [(0, 0), (1, 0)]))), (8, pi)], [(0, ph (.row c28)), (7, pi)], [.blk 53 [.ptr 2 0], .blk 50 [.fn 99 [] [(3, 0)]], .stb 55 c33, .stb 23 (.int .u32)], Int × S33 × Int, fun x => (x.1.2.1, x.2.2.2.1, x.2.2.2.2.1), fun r => (((), r.1, ()), (((), ()), ((), ()), r.2.1, r.2.2, ())), fun _ => rfl, ⟨1, ⟨[(4, pi)], [.blk 53 [.ptr 2 0], .blk 50 [.fn 99 [] [(3, 0)]], .stb 55 c33, .stb 23 (.int .u32)]⟩, Int × S33 × Int, fun x => (x.1.1, x.2.2.2.1, x.2.2.2.2.1), fun r => ((r.1, ()), (((), ()), ((), ()), r.2.1, r.2.2, ())), fun _ => rfl⟩, [⟨2, ⟨[], [.blk 53 [.ptr 2 0], .blk 50 [.fn 99 [] [(3, 0)]], .stb 55 c33, .stb 23 (.int .u32)]⟩, S33 × Int, fun x => (x.2.2.2.1, x.2.2.2.2.1), fun r => ((), (((), ()), ((), ()), r.1, r.2, ())), fun _ => rfl⟩], fun x => s0 n x.1.2.1 x.1.2.2.1 x.1.2.2.2.1 x.2.2.2.1 x.2.2.2.2.1, [0, 1, 2, 3]⟩
theorem T0 (n : Nat) : FragOK Tryz.prog 19 (atN K 400 26) ((L0 n).loopD fun x => l0 n n x.1.2.1 x.1.2.2.1 x.1.2.2.2.1 x.2.2.2.1 x.2.2.2.2.1) := loopR (L0 n) 26 (by kernel_rfl) (by kernel_rfl) (fragK ⟨Tryz.prog, 19, F n, [], [], []⟩ (Fok n) trivial noL 52 (by kernel_rfl) (fun x => by kernel_rfl)) (fun k x => l0 n k x.1.2.1 x.1.2.2.1 x.1.2.2.2.1 x.2.2.2.1 x.2.2.2.2.1) (fun x => by kernel_rfl) (fun k x => by kernel_rfl) n
noncomputable abbrev r0 (n : Nat) : List (Nat × FragD) := (26, ((L0 n).loopD fun x => l0 n n x.1.2.1 x.1.2.2.1 x.1.2.2.2.1 x.2.2.2.1 x.2.2.2.2.1)) :: []
theorem R0 (n : Nat) : AllFr Tryz.prog 19 K (r0 n) := ⟨T0 n, trivial⟩
end api_Message_49_3
open api_Message_49_3 in
noncomputable def api_Message_49_3 (n : Nat) (t0 : List S28) (o2 : S33) (o3 : Int) : Option (Int × S33 × Int) :=
(l0 n n 0 t0 (t0.length : Int) o2 o3).bind fun z2 =>
sm z2 (fun z3 =>
some (z3.1, z3.2.1, z3.2.2)) fun z4 =>
some ((-1), z4.1, z4.2)
noncomputable def api_Message_49_3.d (n : Nat) : FragD := ⟨⟨[(0, ph (.row c28)), (1, .w (.c (.fn 98 [] [(0, 0), (1, 0)])))], [.blk 53 [.ptr 2 0], .blk 50 [.fn 99 [] [(3, 0)]], .stb 55 c33, .stb 23 (.int .u32)]⟩, [⟨1, ⟨[(0, pi)], [.blk 53 [.ptr 2 0], .blk 50 [.fn 99 [] [(3, 0)]], .stb 55 c33, .stb 23 (.int .u32)]⟩, Int × S33 × Int, fun x => (x.1.1, x.2.2.2.1, x.2.2.2.2.1), fun r => ((r.1, ()), (((), ()), ((), ()), r.2.1, r.2.2, ())), fun _ => rfl⟩], fun x => api_Message_49_3 n x.1.1 x.2.2.2.1 x.2.2.2.2.1⟩
open api_Message_49_3 in
theorem api_Message_49_3.ok (n : Nat) : FunOK Tryz.prog 49 (api_Message_49_3.d n) := funR ⟨Tryz.prog, 19, F n, (r0 n), [], []⟩ Tryz.f49 (by kernel_rfl) (by kernel_rfl) (by kernel_rfl) (Fok n) (R0 n) noL (by kernel_rfl) (fun x => by kernel_rfl)

namespace replica_machine_proposal
noncomputable abbrev K := cBody Tryz.f86
noncomputable abbrev F (n : Nat) : List (Nat × FragD) := [(49, api_Message_49_3.d n)]
theorem Fok (n : Nat) : AllF Tryz.prog (F n) := ⟨api_Message_49_3.ok n, trivial⟩
end replica_machine_proposal
open replica_machine_proposal in
noncomputable def replica_machine_proposal (n : Nat) (o0 : S33) (o1 : Int) : Option (S28 × Bool × S33 × Int) :=
(api_Message_49_3 n o0.2.2.2.1 o0 o1).bind fun z1 =>
bif decide (z1.1 < 0) then
some ((0, 0, 0, 0, 0, 0, (⟨#[]⟩ : ByteArray), ([] : List Int)), false, z1.2.1, z1.2.2)
else
ck (inb z1.1 z1.2.1.2.2.2.1.length) <|
some ((z1.2.1.2.2.2.1.getD z1.1.toNat z28), true, z1.2.1, z1.2.2)
noncomputable def replica_machine_proposal.d (n : Nat) : FragD := ⟨⟨[(0, pp 0), (1, .w (.c (.fn 99 [] [(1, 0)])))], [.stb 55 c33, .stb 23 (.int .u32)]⟩, [⟨1, ⟨[(0, .tup [.st c28, .c (.h .bool)])], [.stb 55 c33, .stb 23 (.int .u32)]⟩, S28 × Bool × S33 × Int, fun x => (x.1.1.1, x.1.1.2.1, x.2.1, x.2.2.1), fun r => (((r.1, r.2.1, ()), ()), (r.2.2.1, r.2.2.2, ())), fun _ => rfl⟩], fun x => replica_machine_proposal n x.2.1 x.2.2.1⟩
open replica_machine_proposal in
theorem replica_machine_proposal.ok (n : Nat) : FunOK Tryz.prog 86 (replica_machine_proposal.d n) := funR ⟨Tryz.prog, 25, F n, [], [], []⟩ Tryz.f86 (by kernel_rfl) (by kernel_rfl) (by kernel_rfl) (Fok n) trivial noL (by kernel_rfl) (fun x => by kernel_rfl)

namespace api_Entry
noncomputable abbrev K := cBody Tryz.f88
noncomputable abbrev F : List (Nat × FragD) := []
theorem Fok : AllF Tryz.prog (F) := trivial
end api_Entry
open api_Entry in
noncomputable def api_Entry (t0 : List S26) : Option (List S26) :=
ck (decide ((t0.length : Int) = (t0.length : Int))) <|
ck (inb (t0.length : Int) (t0.length + 1)) <|
some (t0.take (t0.length : Int).toNat)
noncomputable def api_Entry.d : FragD := ⟨⟨[(0, ph (.row c26))], []⟩, [⟨1, ⟨[(0, .w (.c (.full c26)))], []⟩, List S26, fun x => x.1.1, fun r => ((r, ()), ()), fun _ => rfl⟩], fun x => api_Entry x.1.1⟩
open api_Entry in
theorem api_Entry.ok : FunOK Tryz.prog 88 (api_Entry.d) := funR ⟨Tryz.prog, 9, F, [], [], []⟩ Tryz.f88 (by kernel_rfl) (by kernel_rfl) (by kernel_rfl) (Fok) trivial noL (by kernel_rfl) (fun x => by kernel_rfl)

namespace replica_machine_commit
noncomputable abbrev K := cBody Tryz.f70
noncomputable abbrev F (n : Nat) : List (Nat × FragD) := [(31, replica_machine_position.d), (83, slices_Sort_int_int.d), (84, slices_Compact_int_int.d), (34, replica_machine_slot.d), (85, quorum_Committed.d n), (87, replica_withSum.d), (86, replica_machine_proposal.d n), (88, api_Entry.d)]
theorem Fok (n : Nat) : AllF Tryz.prog (F n) := ⟨replica_machine_position.ok, slices_Sort_int_int.ok, slices_Compact_int_int.ok, replica_machine_slot.ok, quorum_Committed.ok n, replica_withSum.ok, replica_machine_proposal.ok n, api_Entry.ok, trivial⟩
noncomputable def s0 (n : Nat) (t18 : Int) (t16 : List S28) (t17 : Int) (o0 : S33) (o1 : List Int) : Option ((Int × S33 × List Int) ⊕ (S33 × List Int)) :=
bif decide (t18 < t17) then
ck (inb t18 t16.length) <|
bif (((t16.getD t18.toNat z28).1) == 3) then
(replica_machine_position o0).bind fun z2 =>
bif ((((((t16.getD t18.toNat z28).2).2).2).1) == z2) then
ck (room (o1.length + 1) 8) <|
some (.inl (W .i64 (t18 + 1), o0, o1 ++ [(((t16.getD t18.toNat z28).2).2).1]))
else
some (.inl (W .i64 (t18 + 1), o0, o1))
else
some (.inl (W .i64 (t18 + 1), o0, o1))
else
some (.inr (o0, o1))
noncomputable def l0 (n : Nat) : Nat → Int → List S28 → Int → S33 → List Int → Option (S33 × List Int)
| 0, _, _, _, _, _ => none
| k + 1, t18, t16, t17, o0, o1 => (s0 n t18 t16 t17 o0 o1).bind fun z => sm z (fun z => l0 n k z.1 t16 t17 z.2.1 z.2.2) some
noncomputable def L0 (n : Nat) : LoopD := ⟨[(0, pp 0), (3, po 1), (18, pi)], [(16, ph (.row c28)), (17, pi)], [.stb 55 c33, .row 3 (.int .i64)], Int × S33 × List Int, fun x => (x.1.2.2.1, x.2.1, x.2.2.1), fun r => (((), (), r.1, ()), (r.2.1, r.2.2, ())), fun _ => rfl, ⟨2, ⟨[(3, po 2)], [.stb 55 c33, .gone, .row 3 (.int .i64)]⟩, S33 × List Int, fun x => (x.2.1, x.2.2.2.1), fun r => (((), ()), (r.1, (), r.2, ())), fun _ => rfl⟩, [], fun x => s0 n x.1.2.2.1 x.1.2.2.2.1 x.1.2.2.2.2.1 x.2.1 x.2.2.1, [0]⟩
theorem T0 (n : Nat) : FragOK Tryz.prog 89 (atN K 400 58) ((L0 n).loopD fun x => l0 n n x.1.2.2.1 x.1.2.2.2.1 x.1.2.2.2.2.1 x.2.1 x.2.2.1) := loopR (L0 n) 58 (by kernel_rfl) (by kernel_rfl) (fragK ⟨Tryz.prog, 89, F n, [], [], []⟩ (Fok n) trivial noL 116 (by kernel_rfl) (fun x => by kernel_rfl)) (fun k x => l0 n k x.1.2.2.1 x.1.2.2.2.1 x.1.2.2.2.2.1 x.2.1 x.2.2.1) (fun x => by kernel_rfl) (fun k x => by kernel_rfl) n
noncomputable abbrev r0 (n : Nat) : List (Nat × FragD) := (58, ((L0 n).loopD fun x => l0 n n x.1.2.2.1 x.1.2.2.2.1 x.1.2.2.2.2.1 x.2.1 x.2.2.1)) :: []
theorem R0 (n : Nat) : AllFr Tryz.prog 89 K (r0 n) := ⟨T0 n, trivial⟩
noncomputable def s1 (n : Nat) (t43 : Int) (t42 : Int) (o0 : S33) (o1 : List Int) : Option ((Int × S33 × List Int) ⊕ ((Bool × Int × Int × Int × List S28 × List S28 × List Int × List S26) ⊕ (S33 × List Int))) :=
bif decide (t43 < t42) then
ck (inb t43 o1.length) <|
(replica_machine_slot (o1.getD t43.toNat 0) o0).bind fun z8 =>
(quorum_Committed n o0.2.2.2.1 o0.2.1 z8).bind fun z9 =>
bif !z9.2 then
some (.inl (W .i64 (t43 + 1), o0, o1))
else
(replica_withSum z9.1).bind fun z10 =>
(replica_machine_proposal n o0 z10).bind fun z11 =>
bif z11.2.1 then
(api_Entry z11.2.2.1.2.2.2.2.2).bind fun z12 =>
ck (room (z12.length + 1) 48) <|
some (.inr (.inl (true, z11.2.2.1.1, z11.2.2.1.2.1, z11.2.2.1.2.2.1, z11.2.2.1.2.2.2.1, z11.2.2.1.2.2.2.2.1, o1, z12 ++ [z11.1.2.2.2.2.2])))
else
some (.inl (W .i64 (t43 + 1), z11.2.2.1, o1))
else
some (.inr (.inr (o0, o1)))
noncomputable def l1 (n : Nat) : Nat → Int → Int → S33 → List Int → Option ((Bool × Int × Int × Int × List S28 × List S28 × List Int × List S26) ⊕ (S33 × List Int))
| 0, _, _, _, _ => none
| k + 1, t43, t42, o0, o1 => (s1 n t43 t42 o0 o1).bind fun z => sm z (fun z => l1 n k z.1 t42 z.2.1 z.2.2) some
noncomputable def L1 (n : Nat) : LoopD := ⟨[(0, pp 0), (41, po 1), (43, pi)], [(42, pi)], [.stb 55 c33, .row 3 (.int .i64)], Int × S33 × List Int, fun x => (x.1.2.2.1, x.2.1, x.2.2.1), fun r => (((), (), r.1, ()), (r.2.1, r.2.2, ())), fun _ => rfl, ⟨1, ⟨[(2, pb)], [.blk 55 [.h (.int .i64), .h (.int .i64), .h (.int .i64), .h (.row c28), .h (.row c28), .sl 2], .row 3 (.int .i64), .row 26 c26]⟩, Bool × Int × Int × Int × List S28 × List S28 × List Int × List S26, fun x => (x.1.1, x.2.1.1, x.2.1.2.1, x.2.1.2.2.1, x.2.1.2.2.2.1, x.2.1.2.2.2.2.1, x.2.2.1, x.2.2.2.1), fun r => ((r.1, ()), ((r.2.1, r.2.2.1, r.2.2.2.1, r.2.2.2.2.1, r.2.2.2.2.2.1, (), ()), r.2.2.2.2.2.2.1, r.2.2.2.2.2.2.2, ())), fun _ => rfl⟩, [⟨4, ⟨[], [.stb 55 c33, .row 3 (.int .i64)]⟩, S33 × List Int, fun x => (x.2.1, x.2.2.1), fun r => ((), (r.1, r.2, ())), fun _ => rfl⟩], fun x => s1 n x.1.2.2.1 x.1.2.2.2.1 x.2.1 x.2.2.1, [0, 1]⟩
theorem T1 (n : Nat) : FragOK Tryz.prog 89 (atN K 400 250) ((L1 n).loopD fun x => l1 n n x.1.2.2.1 x.1.2.2.2.1 x.2.1 x.2.2.1) := loopR (L1 n) 250 (by kernel_rfl) (by kernel_rfl) (fragK ⟨Tryz.prog, 89, F n, (r0 n), [], []⟩ (Fok n) (R0 n) noL 500 (by kernel_rfl) (fun x => by kernel_rfl)) (fun k x => l1 n k x.1.2.2.1 x.1.2.2.2.1 x.2.1 x.2.2.1) (fun x => by kernel_rfl) (fun k x => by kernel_rfl) n
noncomputable abbrev r1 (n : Nat) : List (Nat × FragD) := (250, ((L1 n).loopD fun x => l1 n n x.1.2.2.1 x.1.2.2.2.1 x.2.1 x.2.2.1)) :: (r0 n)
theorem R1 (n : Nat) : AllFr Tryz.prog 89 K (r1 n) := ⟨T1 n, R0 n⟩
end replica_machine_commit
open replica_machine_commit in
noncomputable def replica_machine_commit (n : Nat) (o0 : S33) : Option (Bool × Int × Int × Int × List S28 × List S28 × List S26) :=
(l0 n n 0 o0.2.2.2.1 (o0.2.2.2.1.length : Int) o0 ([] : List Int)).bind fun z5 =>
(slices_Sort_int_int z5.2).bind fun z6 =>
(slices_Compact_int_int z6).bind fun z7 =>
(l1 n n 0 (z7.length : Int) z5.1 z7).bind fun z13 =>
sm z13 (fun z14 =>
some (z14.1, z14.2.1, z14.2.2.1, z14.2.2.2.1, z14.2.2.2.2.1, z14.2.2.2.2.2.1, z14.2.2.2.2.2.2.2)) fun z15 =>
some (false, z15.1.1, z15.1.2.1, z15.1.2.2.1, z15.1.2.2.2.1, z15.1.2.2.2.2.1, z15.1.2.2.2.2.2)
noncomputable def replica_machine_commit.d (n : Nat) : FragD := ⟨⟨[(0, pp 0)], [.stb 55 c33]⟩, [⟨1, ⟨[(0, pb)], [.blk 55 [.h (.int .i64), .h (.int .i64), .h (.int .i64), .h (.row c28), .h (.row c28), .h (.row c26)]]⟩, Bool × Int × Int × Int × List S28 × List S28 × List S26, fun x => (x.1.1, x.2.1.1, x.2.1.2.1, x.2.1.2.2.1, x.2.1.2.2.2.1, x.2.1.2.2.2.2.1, x.2.1.2.2.2.2.2.1), fun r => ((r.1, ()), ((r.2.1, r.2.2.1, r.2.2.2.1, r.2.2.2.2.1, r.2.2.2.2.2.1, r.2.2.2.2.2.2, ()), ())), fun _ => rfl⟩], fun x => replica_machine_commit n x.2.1⟩
open replica_machine_commit in
theorem replica_machine_commit.ok (n : Nat) : FunOK Tryz.prog 70 (replica_machine_commit.d n) := funR ⟨Tryz.prog, 89, F n, (r1 n), [], []⟩ Tryz.f70 (by kernel_rfl) (by kernel_rfl) (by kernel_rfl) (Fok n) (R1 n) noL (by kernel_rfl) (fun x => by kernel_rfl)

namespace replica_machine_progress_1
noncomputable abbrev K := cBody Tryz.f51
noncomputable abbrev F (n : Nat) : List (Nat × FragD) := [(70, replica_machine_commit.d n)]
theorem Fok (n : Nat) : AllF Tryz.prog (F n) := ⟨replica_machine_commit.ok n, trivial⟩
end replica_machine_progress_1
open replica_machine_progress_1 in
noncomputable def replica_machine_progress_1 (n : Nat) (o1 : S33) : Option (Bool × S33) :=
(replica_machine_commit n o1).bind fun z1 =>
some (z1.1, z1.2)
noncomputable def replica_machine_progress_1.d (n : Nat) : FragD := ⟨⟨[(0, .w (.c (.fn 70 [] []))), (1, pp 0)], [.blk 53 [.ptr 1 0], .stb 55 c33]⟩, [⟨1, ⟨[(0, pb)], [.same, .stb 55 c33]⟩, Bool × S33, fun x => (x.1.1, x.2.2.1), fun r => ((r.1, ()), ((), r.2, ())), fun _ => rfl⟩], fun x => replica_machine_progress_1 n x.2.2.1⟩
open replica_machine_progress_1 in
theorem replica_machine_progress_1.ok (n : Nat) : FunOK Tryz.prog 51 (replica_machine_progress_1.d n) := funR ⟨Tryz.prog, 7, F n, [], [], []⟩ Tryz.f51 (by kernel_rfl) (by kernel_rfl) (by kernel_rfl) (Fok n) trivial noL (by kernel_rfl) (fun x => by kernel_rfl)

namespace replica_machine_join
noncomputable abbrev K := cBody Tryz.f71
noncomputable abbrev F (n : Nat) : List (Nat × FragD) := [(83, slices_Sort_int_int.d), (89, quorum_MaxFaulty.d), (35, replica_machine_send.d)]
theorem Fok (n : Nat) : AllF Tryz.prog (F n) := ⟨slices_Sort_int_int.ok, quorum_MaxFaulty.ok, replica_machine_send.ok, trivial⟩
noncomputable def s0 (n : Nat) (t19 : Int) (t17 : List S28) (t18 : Int) (o0 : List Int) : Option ((Int × List Int) ⊕ (List Int)) :=
bif decide (t19 < t18) then
ck (inb t19 t17.length) <|
bif (((t17.getD t19.toNat z28).1) == 4) then
ck (inb (((t17.getD t19.toNat z28).2).1) o0.length) <|
ck (inb (((t17.getD t19.toNat z28).2).1) o0.length) <|
some (.inl (W .i64 (t19 + 1), (o0.set (((t17.getD t19.toNat z28).2).1).toNat (iMax (o0.getD (((t17.getD t19.toNat z28).2).1).toNat 0) ((((t17.getD t19.toNat z28).2).2).1)))))
else
some (.inl (W .i64 (t19 + 1), o0))
else
some (.inr o0)
noncomputable def l0 (n : Nat) : Nat → Int → List S28 → Int → List Int → Option (List Int)
| 0, _, _, _, _ => none
| k + 1, t19, t17, t18, o0 => (s0 n t19 t17 t18 o0).bind fun z => sm z (fun z => l0 n k z.1 t17 t18 z.2) some
noncomputable def L0 (n : Nat) : LoopD := ⟨[(3, po 0), (19, pi)], [(17, ph (.row c28)), (18, pi)], [.row 3 (.int .i64)], Int × List Int, fun x => (x.1.2.1, x.2.1), fun r => (((), r.1, ()), (r.2, ())), fun _ => rfl, ⟨2, ⟨[], [.row 3 (.int .i64)]⟩, List Int, fun x => x.2.1, fun r => ((), (r, ())), fun _ => rfl⟩, [], fun x => s0 n x.1.2.1 x.1.2.2.1 x.1.2.2.2.1 x.2.1, [0]⟩
theorem T0 (n : Nat) : FragOK Tryz.prog 73 (atN K 400 58) ((L0 n).loopD fun x => l0 n n x.1.2.1 x.1.2.2.1 x.1.2.2.2.1 x.2.1) := loopR (L0 n) 58 (by kernel_rfl) (by kernel_rfl) (fragK ⟨Tryz.prog, 73, F n, [], [], []⟩ (Fok n) trivial noL 116 (by kernel_rfl) (fun x => by kernel_rfl)) (fun k x => l0 n k x.1.2.1 x.1.2.2.1 x.1.2.2.2.1 x.2.1) (fun x => by kernel_rfl) (fun k x => by kernel_rfl) n
noncomputable abbrev r0 (n : Nat) : List (Nat × FragD) := (58, ((L0 n).loopD fun x => l0 n n x.1.2.1 x.1.2.2.1 x.1.2.2.2.1 x.2.1)) :: []
theorem R0 (n : Nat) : AllFr Tryz.prog 73 K (r0 n) := ⟨T0 n, trivial⟩
end replica_machine_join
open replica_machine_join in
noncomputable def replica_machine_join (n : Nat) (o0 : S33) : Option (Bool × Int × Int × Int × List S28 × List S28 × List S26) :=
ck (decide (0 ≤ o0.2.1 ∧ o0.2.1 ≤ o0.2.1)) <|
ck (room o0.2.1.toNat 8) <|
(l0 n n 0 o0.2.2.2.1 (o0.2.2.2.1.length : Int) (List.replicate o0.2.1.toNat 0)).bind fun z6 =>
(slices_Sort_int_int z6).bind fun z7 =>
(quorum_MaxFaulty o0.2.1).bind fun z8 =>
let v9 := W .i64 ((W .i64 (o0.2.1 - 1)) - z8);
ck (inb v9 z7.length) <|
bif (decide ((z7.getD v9.toNat 0) ≤ o0.2.2.1)) then
some (false, o0.1, o0.2.1, o0.2.2.1, o0.2.2.2.1, o0.2.2.2.2.1, o0.2.2.2.2.2)
else
(replica_machine_send (4, 0, z7.getD v9.toNat 0, 0, 0, 0, (⟨#[]⟩ : ByteArray), ([] : List Int)) (o0.1, o0.2.1, z7.getD v9.toNat 0, o0.2.2.2)).bind fun z11 =>
some (true, z11.1, z11.2.1, z11.2.2.1, z11.2.2.2.1, z11.2.2.2.2.2, z11.2.2.2.2.1)
noncomputable def replica_machine_join.d (n : Nat) : FragD := ⟨⟨[(0, pp 0)], [.stb 55 c33]⟩, [⟨1, ⟨[(0, pb)], [.blk 55 [.h (.int .i64), .h (.int .i64), .h (.int .i64), .h (.row c28), .h (.row c28), .h (.row c26)]]⟩, Bool × Int × Int × Int × List S28 × List S28 × List S26, fun x => (x.1.1, x.2.1.1, x.2.1.2.1, x.2.1.2.2.1, x.2.1.2.2.2.1, x.2.1.2.2.2.2.1, x.2.1.2.2.2.2.2.1), fun r => ((r.1, ()), ((r.2.1, r.2.2.1, r.2.2.2.1, r.2.2.2.2.1, r.2.2.2.2.2.1, r.2.2.2.2.2.2, ()), ())), fun _ => rfl⟩], fun x => replica_machine_join n x.2.1⟩
open replica_machine_join in
theorem replica_machine_join.ok (n : Nat) : FunOK Tryz.prog 71 (replica_machine_join.d n) := funR ⟨Tryz.prog, 73, F n, (r0 n), [], []⟩ Tryz.f71 (by kernel_rfl) (by kernel_rfl) (by kernel_rfl) (Fok n) (R0 n) noL (by kernel_rfl) (fun x => by kernel_rfl)

namespace replica_machine_progress_1_2
noncomputable abbrev K := cBody Tryz.f51
noncomputable abbrev F (n : Nat) : List (Nat × FragD) := [(71, replica_machine_join.d n)]
theorem Fok (n : Nat) : AllF Tryz.prog (F n) := ⟨replica_machine_join.ok n, trivial⟩
end replica_machine_progress_1_2
open replica_machine_progress_1_2 in
noncomputable def replica_machine_progress_1_2 (n : Nat) (o1 : S33) : Option (Bool × S33) :=
(replica_machine_join n o1).bind fun z1 =>
some (z1.1, z1.2)
noncomputable def replica_machine_progress_1_2.d (n : Nat) : FragD := ⟨⟨[(0, .w (.c (.fn 71 [] []))), (1, pp 0)], [.blk 53 [.ptr 1 0], .stb 55 c33]⟩, [⟨1, ⟨[(0, pb)], [.same, .stb 55 c33]⟩, Bool × S33, fun x => (x.1.1, x.2.2.1), fun r => ((r.1, ()), ((), r.2, ())), fun _ => rfl⟩], fun x => replica_machine_progress_1_2 n x.2.2.1⟩
open replica_machine_progress_1_2 in
theorem replica_machine_progress_1_2.ok (n : Nat) : FunOK Tryz.prog 51 (replica_machine_progress_1_2.d n) := funR ⟨Tryz.prog, 7, F n, [], [], []⟩ Tryz.f51 (by kernel_rfl) (by kernel_rfl) (by kernel_rfl) (Fok n) trivial noL (by kernel_rfl) (fun x => by kernel_rfl)

namespace replica_machine_prepare_1
noncomputable abbrev K := cBody Tryz.f90
noncomputable abbrev F : List (Nat × FragD) := []
theorem Fok : AllF Tryz.prog (F) := trivial
end replica_machine_prepare_1
open replica_machine_prepare_1 in
noncomputable def replica_machine_prepare_1 (t0 : S28) (o1 : S33) : Option Bool :=
some (t0.2.2.1 == o1.2.2.1)
noncomputable def replica_machine_prepare_1.d : FragD := ⟨⟨[(0, pst c28), (1, pp 0)], [.blk 53 [.ptr 1 0], .stb 55 c33]⟩, [⟨1, ⟨[(0, pb)], [.same, .same]⟩, Bool, fun x => x.1.1, fun r => ((r, ()), ((), (), ())), fun _ => rfl⟩], fun x => replica_machine_prepare_1 x.1.1 x.2.2.1⟩
open replica_machine_prepare_1 in
theorem replica_machine_prepare_1.ok : FunOK Tryz.prog 90 (replica_machine_prepare_1.d) := funR ⟨Tryz.prog, 12, F, [], [], []⟩ Tryz.f90 (by kernel_rfl) (by kernel_rfl) (by kernel_rfl) (Fok) trivial noL (by kernel_rfl) (fun x => by kernel_rfl)

namespace replica_machine_proposal_1_2
noncomputable abbrev K := cBody Tryz.f98
noncomputable abbrev F : List (Nat × FragD) := [(31, replica_machine_position.d), (90, replica_machine_prepare_1.d)]
theorem Fok : AllF Tryz.prog (F) := ⟨replica_machine_position.ok, replica_machine_prepare_1.ok, trivial⟩
end replica_machine_proposal_1_2
open replica_machine_proposal_1_2 in
noncomputable def replica_machine_proposal_1_2 (t0 : S28) (o2 : S33) : Option Bool :=
bif t0.1 == 1 then
(replica_machine_position o2).bind fun z1 =>
bif t0.2.2.2.1 == z1 then
(replica_machine_prepare_1 t0 o2).bind fun z2 =>
some z2
else
some false
else
some false
noncomputable def replica_machine_proposal_1_2.d : FragD := ⟨⟨[(0, pst c28), (1, pp 0), (2, pp 1)], [.blk 53 [.ptr 2 0], .blk 50 [.fn 90 [] [(3, 0)]], .stb 55 c33, .blk 53 [.ptr 2 0]]⟩, [⟨1, ⟨[(0, pb)], [.same, .same, .same, .same]⟩, Bool, fun x => x.1.1, fun r => ((r, ()), ((), (), (), (), ())), fun _ => rfl⟩], fun x => replica_machine_proposal_1_2 x.1.1 x.2.2.2.1⟩
open replica_machine_proposal_1_2 in
theorem replica_machine_proposal_1_2.ok : FunOK Tryz.prog 98 (replica_machine_proposal_1_2.d) := funR ⟨Tryz.prog, 20, F, [], [], []⟩ Tryz.f98 (by kernel_rfl) (by kernel_rfl) (by kernel_rfl) (Fok) trivial noL (by kernel_rfl) (fun x => by kernel_rfl)

namespace api_Message_49_4
noncomputable abbrev K := cBody Tryz.f49
noncomputable abbrev F (n : Nat) : List (Nat × FragD) := [(98, replica_machine_proposal_1_2.d)]
theorem Fok (n : Nat) : AllF Tryz.prog (F n) := ⟨replica_machine_proposal_1_2.ok, trivial⟩
noncomputable def s0 (n : Nat) (t8 : Int) (t0 : List S28) (t7 : Int) (o2 : S33) : Option ((Int × S33) ⊕ ((Int × S33) ⊕ S33)) :=
bif decide (t8 < t7) then
ck (inb t8 t0.length) <|
(replica_machine_proposal_1_2 ((t0.getD t8.toNat z28).1, ((t0.getD t8.toNat z28).2).1, (((t0.getD t8.toNat z28).2).2).1, ((((t0.getD t8.toNat z28).2).2).2).1, (((((t0.getD t8.toNat z28).2).2).2).2).1, ((((((t0.getD t8.toNat z28).2).2).2).2).2).1, (((((((t0.getD t8.toNat z28).2).2).2).2).2).2)) o2).bind fun z1 =>
bif z1 then
some (.inr (.inl (t8, o2)))
else
some (.inl (W .i64 (t8 + 1), o2))
else
some (.inr (.inr o2))
noncomputable def l0 (n : Nat) : Nat → Int → List S28 → Int → S33 → Option ((Int × S33) ⊕ S33)
| 0, _, _, _, _ => none
| k + 1, t8, t0, t7, o2 => (s0 n t8 t0 t7 o2).bind fun z => sm z (fun z => l0 n k z.1 t0 t7 z.2) some
noncomputable def L0 (n : Nat) : LoopD := ⟨[(1, .w (.c (.fn 98 [] [(0, 0), (1, 0)]))), (8, pi)], [(0, ph (.row c28)), (7, pi)], [.blk 53 [.ptr 2 0], .blk 50 [.fn 90 [] [(3, 0)]], .stb 55 c33, .blk 53 [.ptr 2 0]], Int × S33, fun x => (x.1.2.1, x.2.2.2.1), fun r => (((), r.1, ()), (((), ()), ((), ()), r.2, ((), ()), ())), fun _ => rfl, ⟨1, ⟨[(4, pi)], [.blk 53 [.ptr 2 0], .blk 50 [.fn 90 [] [(3, 0)]], .stb 55 c33, .blk 53 [.ptr 2 0]]⟩, Int × S33, fun x => (x.1.1, x.2.2.2.1), fun r => ((r.1, ()), (((), ()), ((), ()), r.2, ((), ()), ())), fun _ => rfl⟩, [⟨2, ⟨[], [.blk 53 [.ptr 2 0], .blk 50 [.fn 90 [] [(3, 0)]], .stb 55 c33, .blk 53 [.ptr 2 0]]⟩, S33, fun x => x.2.2.2.1, fun r => ((), (((), ()), ((), ()), r, ((), ()), ())), fun _ => rfl⟩], fun x => s0 n x.1.2.1 x.1.2.2.1 x.1.2.2.2.1 x.2.2.2.1, [0, 1, 2, 3]⟩
theorem T0 (n : Nat) : FragOK Tryz.prog 19 (atN K 400 26) ((L0 n).loopD fun x => l0 n n x.1.2.1 x.1.2.2.1 x.1.2.2.2.1 x.2.2.2.1) := loopR (L0 n) 26 (by kernel_rfl) (by kernel_rfl) (fragK ⟨Tryz.prog, 19, F n, [], [], []⟩ (Fok n) trivial noL 52 (by kernel_rfl) (fun x => by kernel_rfl)) (fun k x => l0 n k x.1.2.1 x.1.2.2.1 x.1.2.2.2.1 x.2.2.2.1) (fun x => by kernel_rfl) (fun k x => by kernel_rfl) n
noncomputable abbrev r0 (n : Nat) : List (Nat × FragD) := (26, ((L0 n).loopD fun x => l0 n n x.1.2.1 x.1.2.2.1 x.1.2.2.2.1 x.2.2.2.1)) :: []
theorem R0 (n : Nat) : AllFr Tryz.prog 19 K (r0 n) := ⟨T0 n, trivial⟩
end api_Message_49_4
open api_Message_49_4 in
noncomputable def api_Message_49_4 (n : Nat) (t0 : List S28) (o2 : S33) : Option (Int × S33) :=
(l0 n n 0 t0 (t0.length : Int) o2).bind fun z2 =>
sm z2 (fun z3 =>
some (z3.1, z3.2)) fun z4 =>
some ((-1), z4)
noncomputable def api_Message_49_4.d (n : Nat) : FragD := ⟨⟨[(0, ph (.row c28)), (1, .w (.c (.fn 98 [] [(0, 0), (1, 0)])))], [.blk 53 [.ptr 2 0], .blk 50 [.fn 90 [] [(3, 0)]], .stb 55 c33, .blk 53 [.ptr 2 0]]⟩, [⟨1, ⟨[(0, pi)], [.blk 53 [.ptr 2 0], .blk 50 [.fn 90 [] [(3, 0)]], .stb 55 c33, .blk 53 [.ptr 2 0]]⟩, Int × S33, fun x => (x.1.1, x.2.2.2.1), fun r => ((r.1, ()), (((), ()), ((), ()), r.2, ((), ()), ())), fun _ => rfl⟩], fun x => api_Message_49_4 n x.1.1 x.2.2.2.1⟩
open api_Message_49_4 in
theorem api_Message_49_4.ok (n : Nat) : FunOK Tryz.prog 49 (api_Message_49_4.d n) := funR ⟨Tryz.prog, 19, F n, (r0 n), [], []⟩ Tryz.f49 (by kernel_rfl) (by kernel_rfl) (by kernel_rfl) (Fok n) (R0 n) noL (by kernel_rfl) (fun x => by kernel_rfl)

namespace replica_machine_proposal_2
noncomputable abbrev K := cBody Tryz.f86
noncomputable abbrev F (n : Nat) : List (Nat × FragD) := [(49, api_Message_49_4.d n)]
theorem Fok (n : Nat) : AllF Tryz.prog (F n) := ⟨api_Message_49_4.ok n, trivial⟩
end replica_machine_proposal_2
open replica_machine_proposal_2 in
noncomputable def replica_machine_proposal_2 (n : Nat) (o0 : S33) : Option (S28 × Bool × S33) :=
(api_Message_49_4 n o0.2.2.2.1 o0).bind fun z1 =>
bif decide (z1.1 < 0) then
some ((0, 0, 0, 0, 0, 0, (⟨#[]⟩ : ByteArray), ([] : List Int)), false, z1.2)
else
ck (inb z1.1 z1.2.2.2.2.1.length) <|
some ((z1.2.2.2.2.1.getD z1.1.toNat z28), true, z1.2)
noncomputable def replica_machine_proposal_2.d (n : Nat) : FragD := ⟨⟨[(0, pp 0), (1, .w (.c (.fn 90 [] [(1, 0)])))], [.stb 55 c33, .blk 53 [.ptr 0 0]]⟩, [⟨1, ⟨[(0, .tup [.st c28, .c (.h .bool)])], [.stb 55 c33, .blk 53 [.ptr 0 0]]⟩, S28 × Bool × S33, fun x => (x.1.1.1, x.1.1.2.1, x.2.1), fun r => (((r.1, r.2.1, ()), ()), (r.2.2, ((), ()), ())), fun _ => rfl⟩], fun x => replica_machine_proposal_2 n x.2.1⟩
open replica_machine_proposal_2 in
theorem replica_machine_proposal_2.ok (n : Nat) : FunOK Tryz.prog 86 (replica_machine_proposal_2.d n) := funR ⟨Tryz.prog, 25, F n, [], [], []⟩ Tryz.f86 (by kernel_rfl) (by kernel_rfl) (by kernel_rfl) (Fok n) trivial noL (by kernel_rfl) (fun x => by kernel_rfl)


namespace replica_machine_acceptable_1
noncomputable abbrev K := cBody Tryz.f100
noncomputable abbrev F (n : Nat) : List (Nat × FragD) := [(31, replica_machine_position.d), (34, replica_machine_slot.d), (92, quorum_Prepared.d n)]
theorem Fok (n : Nat) : AllF Tryz.prog (F n) := ⟨replica_machine_position.ok, replica_machine_slot.ok, quorum_Prepared.ok n, trivial⟩
noncomputable def j0 (n : Nat) (o1 : S28) (o2 : S28) (o3 : S33) : Option (Unit ⊕ Bool) :=
bif o2.1 != 2 then
some (.inr false)
else
(replica_machine_position o3).bind fun z1 =>
bif o2.2.2.2.1 != z1 then
some (.inr false)
else
bif (decide (o2.2.2.1 ≤ o1.2.2.1)) then
some (.inr false)
else
bif (decide (o2.2.2.1 ≥ o3.2.2.1)) then
some (.inr false)
else
some (.inl ())
noncomputable def D0 (n : Nat) : FragD := ⟨⟨[(1, pp 0), (2, pp 1), (4, pp 2)], [.blk 53 [.ptr 3 0], .stb 28 c28, .stb 28 c28, .stb 55 c33]⟩, [⟨0, ⟨[], [.same, .same, .same, .same]⟩, Unit, fun _ => (), fun _ => ((), ((), (), (), (), ())), fun _ => rfl⟩, ⟨1, ⟨[(5, pb)], [.same, .same, .same, .same]⟩, Bool, fun x => x.1.1, fun r => ((r, ()), ((), (), (), (), ())), fun _ => rfl⟩], fun x => j0 n x.2.2.1 x.2.2.2.1 x.2.2.2.2.1⟩
theorem T0 (n : Nat) : FragOK Tryz.prog 59 (atN K 400 6) (D0 n) := fragR ⟨Tryz.prog, 59, F n, [], [], []⟩ (Fok n) trivial noL 6 (by kernel_rfl) (fun x => by kernel_rfl)
noncomputable abbrev r0 (n : Nat) : List (Nat × FragD) := (6, D0 n) :: []
theorem R0 (n : Nat) : AllFr Tryz.prog 59 K (r0 n) := ⟨T0 n, trivial⟩
end replica_machine_acceptable_1
open replica_machine_acceptable_1 in
noncomputable def replica_machine_acceptable_1 (n : Nat) (t0 : S28) (o1 : S28) (o2 : Int) (o3 : S33) : Option Bool :=
(j0 n o1 t0 o3).bind fun z4 =>
sm z4 (fun z5 =>
(replica_machine_slot t0.2.2.1 o3).bind fun z7 =>
(quorum_Prepared n o3.2.2.2.1 o3.2.1 z7).bind fun z8 =>
bif z8.2 then
some (z8.1 == o2)
else
some false) fun z6 =>
some z6
noncomputable def replica_machine_acceptable_1.d (n : Nat) : FragD := ⟨⟨[(0, pst c28), (1, pp 0), (2, pp 1), (3, pp 2)], [.blk 53 [.ptr 3 0], .stb 28 c28, .stb 23 (.int .u32), .stb 55 c33]⟩, [⟨1, ⟨[(0, pb)], [.same, .same, .same, .same]⟩, Bool, fun x => x.1.1, fun r => ((r, ()), ((), (), (), (), ())), fun _ => rfl⟩], fun x => replica_machine_acceptable_1 n x.1.1 x.2.2.1 x.2.2.2.1 x.2.2.2.2.1⟩
open replica_machine_acceptable_1 in
theorem replica_machine_acceptable_1.ok (n : Nat) : FunOK Tryz.prog 100 (replica_machine_acceptable_1.d n) := funR ⟨Tryz.prog, 59, F n, (r0 n), [], []⟩ Tryz.f100 (by kernel_rfl) (by kernel_rfl) (by kernel_rfl) (Fok n) (R0 n) noL (by kernel_rfl) (fun x => by kernel_rfl)

namespace api_Message_49_5
noncomputable abbrev K := cBody Tryz.f49
noncomputable abbrev F (n : Nat) : List (Nat × FragD) := [(100, replica_machine_acceptable_1.d n)]
theorem Fok (n : Nat) : AllF Tryz.prog (F n) := ⟨replica_machine_acceptable_1.ok n, trivial⟩
noncomputable def s0 (n : Nat) (t8 : Int) (t0 : List S28) (t7 : Int) (o1 : S28) (o2 : Int) (o3 : S33) : Option ((Int × S28 × Int × S33) ⊕ ((Int × S28 × Int × S33) ⊕ (S28 × Int × S33))) :=
bif decide (t8 < t7) then
ck (inb t8 t0.length) <|
(replica_machine_acceptable_1 n ((t0.getD t8.toNat z28).1, ((t0.getD t8.toNat z28).2).1, (((t0.getD t8.toNat z28).2).2).1, ((((t0.getD t8.toNat z28).2).2).2).1, (((((t0.getD t8.toNat z28).2).2).2).2).1, ((((((t0.getD t8.toNat z28).2).2).2).2).2).1, (((((((t0.getD t8.toNat z28).2).2).2).2).2).2)) o1 o2 o3).bind fun z1 =>
bif z1 then
some (.inr (.inl (t8, o1, o2, o3)))
else
some (.inl (W .i64 (t8 + 1), o1, o2, o3))
else
some (.inr (.inr (o1, o2, o3)))
noncomputable def l0 (n : Nat) : Nat → Int → List S28 → Int → S28 → Int → S33 → Option ((Int × S28 × Int × S33) ⊕ (S28 × Int × S33))
| 0, _, _, _, _, _, _ => none
| k + 1, t8, t0, t7, o1, o2, o3 => (s0 n t8 t0 t7 o1 o2 o3).bind fun z => sm z (fun z => l0 n k z.1 t0 t7 z.2.1 z.2.2.1 z.2.2.2) some
noncomputable def L0 (n : Nat) : LoopD := ⟨[(1, .w (.c (.fn 100 [] [(0, 0), (1, 0), (2, 0)]))), (8, pi)], [(0, ph (.row c28)), (7, pi)], [.blk 53 [.ptr 3 0], .stb 28 c28, .stb 23 (.int .u32), .stb 55 c33], Int × S28 × Int × S33, fun x => (x.1.2.1, x.2.2.1, x.2.2.2.1, x.2.2.2.2.1), fun r => (((), r.1, ()), (((), ()), r.2.1, r.2.2.1, r.2.2.2, ())), fun _ => rfl, ⟨1, ⟨[(4, pi)], [.blk 53 [.ptr 3 0], .stb 28 c28, .stb 23 (.int .u32), .stb 55 c33]⟩, Int × S28 × Int × S33, fun x => (x.1.1, x.2.2.1, x.2.2.2.1, x.2.2.2.2.1), fun r => ((r.1, ()), (((), ()), r.2.1, r.2.2.1, r.2.2.2, ())), fun _ => rfl⟩, [⟨2, ⟨[], [.blk 53 [.ptr 3 0], .stb 28 c28, .stb 23 (.int .u32), .stb 55 c33]⟩, S28 × Int × S33, fun x => (x.2.2.1, x.2.2.2.1, x.2.2.2.2.1), fun r => ((), (((), ()), r.1, r.2.1, r.2.2, ())), fun _ => rfl⟩], fun x => s0 n x.1.2.1 x.1.2.2.1 x.1.2.2.2.1 x.2.2.1 x.2.2.2.1 x.2.2.2.2.1, [0, 1, 2, 3]⟩
theorem T0 (n : Nat) : FragOK Tryz.prog 19 (atN K 400 26) ((L0 n).loopD fun x => l0 n n x.1.2.1 x.1.2.2.1 x.1.2.2.2.1 x.2.2.1 x.2.2.2.1 x.2.2.2.2.1) := loopR (L0 n) 26 (by kernel_rfl) (by kernel_rfl) (fragK ⟨Tryz.prog, 19, F n, [], [], []⟩ (Fok n) trivial noL 52 (by kernel_rfl) (fun x => by kernel_rfl)) (fun k x => l0 n k x.1.2.1 x.1.2.2.1 x.1.2.2.2.1 x.2.2.1 x.2.2.2.1 x.2.2.2.2.1) (fun x => by kernel_rfl) (fun k x => by kernel_rfl) n
noncomputable abbrev r0 (n : Nat) : List (Nat × FragD) := (26, ((L0 n).loopD fun x => l0 n n x.1.2.1 x.1.2.2.1 x.1.2.2.2.1 x.2.2.1 x.2.2.2.1 x.2.2.2.2.1)) :: []
theorem R0 (n : Nat) : AllFr Tryz.prog 19 K (r0 n) := ⟨T0 n, trivial⟩
end api_Message_49_5
open api_Message_49_5 in
noncomputable def api_Message_49_5 (n : Nat) (t0 : List S28) (o1 : S28) (o2 : Int) (o3 : S33) : Option (Int × S28 × Int × S33) :=
(l0 n n 0 t0 (t0.length : Int) o1 o2 o3).bind fun z2 =>
sm z2 (fun z3 =>
some (z3.1, z3.2.1, z3.2.2.1, z3.2.2.2)) fun z4 =>
some ((-1), z4.1, z4.2.1, z4.2.2)
noncomputable def api_Message_49_5.d (n : Nat) : FragD := ⟨⟨[(0, ph (.row c28)), (1, .w (.c (.fn 100 [] [(0, 0), (1, 0), (2, 0)])))], [.blk 53 [.ptr 3 0], .stb 28 c28, .stb 23 (.int .u32), .stb 55 c33]⟩, [⟨1, ⟨[(0, pi)], [.blk 53 [.ptr 3 0], .stb 28 c28, .stb 23 (.int .u32), .stb 55 c33]⟩, Int × S28 × Int × S33, fun x => (x.1.1, x.2.2.1, x.2.2.2.1, x.2.2.2.2.1), fun r => ((r.1, ()), (((), ()), r.2.1, r.2.2.1, r.2.2.2, ())), fun _ => rfl⟩], fun x => api_Message_49_5 n x.1.1 x.2.2.1 x.2.2.2.1 x.2.2.2.2.1⟩
open api_Message_49_5 in
theorem api_Message_49_5.ok (n : Nat) : FunOK Tryz.prog 49 (api_Message_49_5.d n) := funR ⟨Tryz.prog, 19, F n, (r0 n), [], []⟩ Tryz.f49 (by kernel_rfl) (by kernel_rfl) (by kernel_rfl) (Fok n) (R0 n) noL (by kernel_rfl) (fun x => by kernel_rfl)

namespace api_Message_24_3
noncomputable abbrev K := cBody Tryz.f24
noncomputable abbrev F (n : Nat) : List (Nat × FragD) := [(49, api_Message_49_5.d n)]
theorem Fok (n : Nat) : AllF Tryz.prog (F n) := ⟨api_Message_49_5.ok n, trivial⟩
end api_Message_24_3
open api_Message_24_3 in
noncomputable def api_Message_24_3 (n : Nat) (t0 : List S28) (o1 : S28) (o2 : Int) (o3 : S33) : Option (Bool × S28 × Int × S33) :=
(api_Message_49_5 n t0 o1 o2 o3).bind fun z1 =>
some (decide (z1.1 ≥ 0), z1.2.1, z1.2.2.1, z1.2.2.2)
noncomputable def api_Message_24_3.d (n : Nat) : FragD := ⟨⟨[(0, ph (.row c28)), (1, .w (.c (.fn 100 [] [(0, 0), (1, 0), (2, 0)])))], [.blk 53 [.ptr 3 0], .stb 28 c28, .stb 23 (.int .u32), .stb 55 c33]⟩, [⟨1, ⟨[(0, pb)], [.blk 53 [.ptr 3 0], .stb 28 c28, .stb 23 (.int .u32), .stb 55 c33]⟩, Bool × S28 × Int × S33, fun x => (x.1.1, x.2.2.1, x.2.2.2.1, x.2.2.2.2.1), fun r => ((r.1, ()), (((), ()), r.2.1, r.2.2.1, r.2.2.2, ())), fun _ => rfl⟩], fun x => api_Message_24_3 n x.1.1 x.2.2.1 x.2.2.2.1 x.2.2.2.2.1⟩
open api_Message_24_3 in
theorem api_Message_24_3.ok (n : Nat) : FunOK Tryz.prog 24 (api_Message_24_3.d n) := funR ⟨Tryz.prog, 9, F n, [], [], []⟩ Tryz.f24 (by kernel_rfl) (by kernel_rfl) (by kernel_rfl) (Fok n) trivial noL (by kernel_rfl) (fun x => by kernel_rfl)

namespace replica_machine_acceptable
noncomputable abbrev K := cBody Tryz.f91
noncomputable abbrev F (n : Nat) : List (Nat × FragD) := [(31, replica_machine_position.d), (24, api_Message_24_3.d n)]
theorem Fok (n : Nat) : AllF Tryz.prog (F n) := ⟨replica_machine_position.ok, api_Message_24_3.ok n, trivial⟩
noncomputable def j0 (n : Nat) (t13 : List S28) (t15 : Int) (o1 : S28) (o2 : S33) : Option S28 :=
ck (inb t15 t13.length) <|
bif (((t13.getD t15.toNat z28).1) == 3) then
(replica_machine_position o2).bind fun z2 =>
bif ((((((t13.getD t15.toNat z28).2).2).2).1) == z2) then
bif (decide (((((t13.getD t15.toNat z28).2).2).1) > o1.2.2.1)) then
some ((t13.getD t15.toNat z28).1, ((t13.getD t15.toNat z28).2).1, (((t13.getD t15.toNat z28).2).2).1, ((((t13.getD t15.toNat z28).2).2).2).1, (((((t13.getD t15.toNat z28).2).2).2).2).1, ((((((t13.getD t15.toNat z28).2).2).2).2).2).1, (((((((t13.getD t15.toNat z28).2).2).2).2).2).2))
else
some o1
else
some o1
else
some o1
noncomputable def D0 (n : Nat) : FragD := ⟨⟨[(2, pp 0), (5, pp 1), (13, ph (.row c28)), (15, pi)], [.blk 53 [.ptr 2 0], .stb 28 c28, .stb 55 c33]⟩, [⟨0, ⟨[], [.same, .stb 28 c28, .same]⟩, S28, fun x => x.2.2.1, fun r => ((), ((), r, (), ())), fun _ => rfl⟩], fun x => j0 n x.1.2.2.1 x.1.2.2.2.1 x.2.2.1 x.2.2.2.1⟩
theorem T0 (n : Nat) : FragOK Tryz.prog 54 (atN K 400 934) (D0 n) := fragR ⟨Tryz.prog, 54, F n, [], [], []⟩ (Fok n) trivial noL 934 (by kernel_rfl) (fun x => by kernel_rfl)
noncomputable abbrev r0 (n : Nat) : List (Nat × FragD) := (934, D0 n) :: []
theorem R0 (n : Nat) : AllFr Tryz.prog 54 K (r0 n) := ⟨T0 n, trivial⟩
noncomputable def s1 (n : Nat) (t15 : Int) (t13 : List S28) (t14 : Int) (o1 : S28) (o2 : S33) : Option ((Int × S28 × S33) ⊕ (S28 × S33)) :=
bif decide (t15 < t14) then
(j0 n t13 t15 o1 o2).bind fun z5 =>
some (.inl (W .i64 (t15 + 1), z5, o2))
else
some (.inr (o1, o2))
noncomputable def l1 (n : Nat) : Nat → Int → List S28 → Int → S28 → S33 → Option (S28 × S33)
| 0, _, _, _, _, _ => none
| k + 1, t15, t13, t14, o1, o2 => (s1 n t15 t13 t14 o1 o2).bind fun z => sm z (fun z => l1 n k z.1 t13 t14 z.2.1 z.2.2) some
noncomputable def L1 (n : Nat) : LoopD := ⟨[(2, pp 0), (5, pp 1), (15, pi)], [(13, ph (.row c28)), (14, pi)], [.blk 53 [.ptr 2 0], .stb 28 c28, .stb 55 c33], Int × S28 × S33, fun x => (x.1.2.2.1, x.2.2.1, x.2.2.2.1), fun r => (((), (), r.1, ()), (((), ()), r.2.1, r.2.2, ())), fun _ => rfl, ⟨2, ⟨[], [.blk 53 [.ptr 2 0], .stb 28 c28, .stb 55 c33]⟩, S28 × S33, fun x => (x.2.2.1, x.2.2.2.1), fun r => ((), (((), ()), r.1, r.2, ())), fun _ => rfl⟩, [], fun x => s1 n x.1.2.2.1 x.1.2.2.2.1 x.1.2.2.2.2.1 x.2.2.1 x.2.2.2.1, [0, 1, 2]⟩
theorem T1 (n : Nat) : FragOK Tryz.prog 54 (atN K 400 58) ((L1 n).loopD fun x => l1 n n x.1.2.2.1 x.1.2.2.2.1 x.1.2.2.2.2.1 x.2.2.1 x.2.2.2.1) := loopR (L1 n) 58 (by kernel_rfl) (by kernel_rfl) (fragK ⟨Tryz.prog, 54, F n, (r0 n), [], []⟩ (Fok n) (R0 n) noL 116 (by kernel_rfl) (fun x => by kernel_rfl)) (fun k x => l1 n k x.1.2.2.1 x.1.2.2.2.1 x.1.2.2.2.2.1 x.2.2.1 x.2.2.2.1) (fun x => by kernel_rfl) (fun k x => by kernel_rfl) n
noncomputable abbrev r1 (n : Nat) : List (Nat × FragD) := (58, ((L1 n).loopD fun x => l1 n n x.1.2.2.1 x.1.2.2.2.1 x.1.2.2.2.2.1 x.2.2.1 x.2.2.2.1)) :: (r0 n)
theorem R1 (n : Nat) : AllFr Tryz.prog 54 K (r1 n) := ⟨T1 n, R0 n⟩
noncomputable def j2 (n : Nat) (o0 : Int) (o1 : S28) : Option (Unit ⊕ Bool) :=
bif decide (o1.2.2.1 < 0) then
some (.inr true)
else
bif o1.2.2.2.2.1 == o0 then
some (.inr true)
else
some (.inl ())
noncomputable def D2 (n : Nat) : FragD := ⟨⟨[(3, pp 0), (5, pp 1)], [.stb 23 (.int .u32), .stb 28 c28]⟩, [⟨0, ⟨[], [.same, .same]⟩, Unit, fun _ => (), fun _ => ((), ((), (), ())), fun _ => rfl⟩, ⟨1, ⟨[(4, pb)], [.same, .same]⟩, Bool, fun x => x.1.1, fun r => ((r, ()), ((), (), ())), fun _ => rfl⟩], fun x => j2 n x.2.1 x.2.2.1⟩
theorem T2 (n : Nat) : FragOK Tryz.prog 54 (atN K 400 30) (D2 n) := fragR ⟨Tryz.prog, 54, F n, (r1 n), [], []⟩ (Fok n) (R1 n) noL 30 (by kernel_rfl) (fun x => by kernel_rfl)
noncomputable abbrev r2 (n : Nat) : List (Nat × FragD) := (30, D2 n) :: (r1 n)
theorem R2 (n : Nat) : AllFr Tryz.prog 54 K (r2 n) := ⟨T2 n, R1 n⟩
end replica_machine_acceptable
open replica_machine_acceptable in
noncomputable def replica_machine_acceptable (n : Nat) (t1 : Int) (o0 : S33) : Option (Bool × S33) :=
(l1 n n 0 o0.2.2.2.2.1 (o0.2.2.2.2.1.length : Int) (0, 0, (-1), 0, 0, 0, (⟨#[]⟩ : ByteArray), ([] : List Int)) o0).bind fun z6 =>
(j2 n t1 z6.1).bind fun z7 =>
sm z7 (fun z8 =>
(api_Message_24_3 n z6.2.2.2.2.1 z6.1 t1 z6.2).bind fun z10 =>
some (z10.1, z10.2.2.2)) fun z9 =>
some (z9, z6.2)
noncomputable def replica_machine_acceptable.d (n : Nat) : FragD := ⟨⟨[(0, pp 0), (1, ph (.int .u32))], [.stb 55 c33]⟩, [⟨1, ⟨[(0, pb)], [.stb 55 c33]⟩, Bool × S33, fun x => (x.1.1, x.2.1), fun r => ((r.1, ()), (r.2, ())), fun _ => rfl⟩], fun x => replica_machine_acceptable n x.1.2.1 x.2.1⟩
open replica_machine_acceptable in
theorem replica_machine_acceptable.ok (n : Nat) : FunOK Tryz.prog 91 (replica_machine_acceptable.d n) := funR ⟨Tryz.prog, 54, F n, (r2 n), [], []⟩ Tryz.f91 (by kernel_rfl) (by kernel_rfl) (by kernel_rfl) (Fok n) (R2 n) noL (by kernel_rfl) (fun x => by kernel_rfl)

namespace replica_machine_prepare
noncomputable abbrev K := cBody Tryz.f72
noncomputable abbrev F (n : Nat) : List (Nat × FragD) := [(86, replica_machine_proposal_2.d n), (31, replica_machine_position.d), (32, replica_machine_sent.d n), (91, replica_machine_acceptable.d n), (35, replica_machine_send.d)]
theorem Fok (n : Nat) : AllF Tryz.prog (F n) := ⟨replica_machine_proposal_2.ok n, replica_machine_position.ok, replica_machine_sent.ok n, replica_machine_acceptable.ok n, replica_machine_send.ok, trivial⟩
noncomputable def j0 (n : Nat) (t4 : Bool) (o1 : S28) (o2 : S33) : Option (S33 ⊕ (Bool × S33)) :=
bif !t4 then
some (.inr (false, o2))
else
(replica_machine_position o2).bind fun z2 =>
bif decide (z2 ≥ 1000) then
some (.inr (false, o2))
else
(replica_machine_sent n 2 o2).bind fun z3 =>
bif z3.1 then
some (.inr (false, z3.2))
else
(replica_machine_acceptable n o1.2.2.2.2.1 z3.2).bind fun z4 =>
bif !z4.1 then
some (.inr (false, z4.2))
else
some (.inl z4.2)
noncomputable def D0 (n : Nat) : FragD := ⟨⟨[(1, pp 0), (3, pp 1), (4, pb)], [.blk 53 [.ptr 2 0], .stb 28 c28, .stb 55 c33]⟩, [⟨0, ⟨[], [.same, .same, .stb 55 c33]⟩, S33, fun x => x.2.2.2.1, fun r => ((), ((), (), r, ())), fun _ => rfl⟩, ⟨1, ⟨[(2, pb)], [.same, .same, .stb 55 c33]⟩, Bool × S33, fun x => (x.1.1, x.2.2.2.1), fun r => ((r.1, ()), ((), (), r.2, ())), fun _ => rfl⟩], fun x => j0 n x.1.2.2.1 x.2.2.1 x.2.2.2.1⟩
theorem T0 (n : Nat) : FragOK Tryz.prog 41 (atN K 400 14) (D0 n) := fragR ⟨Tryz.prog, 41, F n, [], [], []⟩ (Fok n) trivial noL 14 (by kernel_rfl) (fun x => by kernel_rfl)
noncomputable abbrev r0 (n : Nat) : List (Nat × FragD) := (14, D0 n) :: []
theorem R0 (n : Nat) : AllFr Tryz.prog 41 K (r0 n) := ⟨T0 n, trivial⟩
end replica_machine_prepare
open replica_machine_prepare in
noncomputable def replica_machine_prepare (n : Nat) (o0 : S33) : Option (Bool × Int × Int × Int × List S28 × List S28 × List S26) :=
(replica_machine_proposal_2 n o0).bind fun z1 =>
(j0 n z1.2.1 z1.1 z1.2.2).bind fun z5 =>
sm z5 (fun z6 =>
(replica_machine_position z6).bind fun z8 =>
(replica_machine_send (2, 0, z6.2.2.1, z8, z1.1.2.2.2.2.1, 0, (⟨#[]⟩ : ByteArray), ([] : List Int)) z6).bind fun z9 =>
some (true, z9.1, z9.2.1, z9.2.2.1, z9.2.2.2.1, z9.2.2.2.2.2, z9.2.2.2.2.1)) fun z7 =>
some (z7.1, z7.2.1, z7.2.2.1, z7.2.2.2.1, z7.2.2.2.2.1, z7.2.2.2.2.2.1, z7.2.2.2.2.2.2)
noncomputable def replica_machine_prepare.d (n : Nat) : FragD := ⟨⟨[(0, pp 0)], [.stb 55 c33]⟩, [⟨1, ⟨[(0, pb)], [.blk 55 [.h (.int .i64), .h (.int .i64), .h (.int .i64), .h (.row c28), .h (.row c28), .h (.row c26)]]⟩, Bool × Int × Int × Int × List S28 × List S28 × List S26, fun x => (x.1.1, x.2.1.1, x.2.1.2.1, x.2.1.2.2.1, x.2.1.2.2.2.1, x.2.1.2.2.2.2.1, x.2.1.2.2.2.2.2.1), fun r => ((r.1, ()), ((r.2.1, r.2.2.1, r.2.2.2.1, r.2.2.2.2.1, r.2.2.2.2.2.1, r.2.2.2.2.2.2, ()), ())), fun _ => rfl⟩], fun x => replica_machine_prepare n x.2.1⟩
open replica_machine_prepare in
theorem replica_machine_prepare.ok (n : Nat) : FunOK Tryz.prog 72 (replica_machine_prepare.d n) := funR ⟨Tryz.prog, 41, F n, (r0 n), [], []⟩ Tryz.f72 (by kernel_rfl) (by kernel_rfl) (by kernel_rfl) (Fok n) (R0 n) noL (by kernel_rfl) (fun x => by kernel_rfl)

namespace replica_machine_progress_1_3
noncomputable abbrev K := cBody Tryz.f51
noncomputable abbrev F (n : Nat) : List (Nat × FragD) := [(72, replica_machine_prepare.d n)]
theorem Fok (n : Nat) : AllF Tryz.prog (F n) := ⟨replica_machine_prepare.ok n, trivial⟩
end replica_machine_progress_1_3
open replica_machine_progress_1_3 in
noncomputable def replica_machine_progress_1_3 (n : Nat) (o1 : S33) : Option (Bool × S33) :=
(replica_machine_prepare n o1).bind fun z1 =>
some (z1.1, z1.2)
noncomputable def replica_machine_progress_1_3.d (n : Nat) : FragD := ⟨⟨[(0, .w (.c (.fn 72 [] []))), (1, pp 0)], [.blk 53 [.ptr 1 0], .stb 55 c33]⟩, [⟨1, ⟨[(0, pb)], [.same, .stb 55 c33]⟩, Bool × S33, fun x => (x.1.1, x.2.2.1), fun r => ((r.1, ()), ((), r.2, ())), fun _ => rfl⟩], fun x => replica_machine_progress_1_3 n x.2.2.1⟩
open replica_machine_progress_1_3 in
theorem replica_machine_progress_1_3.ok (n : Nat) : FunOK Tryz.prog 51 (replica_machine_progress_1_3.d n) := funR ⟨Tryz.prog, 7, F n, [], [], []⟩ Tryz.f51 (by kernel_rfl) (by kernel_rfl) (by kernel_rfl) (Fok n) trivial noL (by kernel_rfl) (fun x => by kernel_rfl)

namespace replica_machine_lock
noncomputable abbrev K := cBody Tryz.f73
noncomputable abbrev F (n : Nat) : List (Nat × FragD) := [(34, replica_machine_slot.d), (92, quorum_Prepared.d n), (32, replica_machine_sent.d n), (87, replica_withSum.d), (86, replica_machine_proposal.d n), (31, replica_machine_position.d), (35, replica_machine_send.d)]
theorem Fok (n : Nat) : AllF Tryz.prog (F n) := ⟨replica_machine_slot.ok, quorum_Prepared.ok n, replica_machine_sent.ok n, replica_withSum.ok, replica_machine_proposal.ok n, replica_machine_position.ok, replica_machine_send.ok, trivial⟩
noncomputable def j0 (n : Nat) (t4 : Bool) (o0 : S33) : Option (S33 ⊕ (Bool × S33)) :=
bif !t4 then
some (.inr (false, o0))
else
(replica_machine_sent n 3 o0).bind fun z3 =>
bif z3.1 then
some (.inr (false, z3.2))
else
some (.inl z3.2)
noncomputable def D0 (n : Nat) : FragD := ⟨⟨[(0, pp 0), (4, pb)], [.stb 55 c33]⟩, [⟨0, ⟨[], [.stb 55 c33]⟩, S33, fun x => x.2.1, fun r => ((), (r, ())), fun _ => rfl⟩, ⟨1, ⟨[(2, pb)], [.stb 55 c33]⟩, Bool × S33, fun x => (x.1.1, x.2.1), fun r => ((r.1, ()), (r.2, ())), fun _ => rfl⟩], fun x => j0 n x.1.2.1 x.2.1⟩
theorem T0 (n : Nat) : FragOK Tryz.prog 54 (atN K 400 14) (D0 n) := fragR ⟨Tryz.prog, 54, F n, [], [], []⟩ (Fok n) trivial noL 14 (by kernel_rfl) (fun x => by kernel_rfl)
noncomputable abbrev r0 (n : Nat) : List (Nat × FragD) := (14, D0 n) :: []
theorem R0 (n : Nat) : AllFr Tryz.prog 54 K (r0 n) := ⟨T0 n, trivial⟩
end replica_machine_lock
open replica_machine_lock in
noncomputable def replica_machine_lock (n : Nat) (o0 : S33) : Option (Bool × Int × Int × Int × List S28 × List S28 × List S26) :=
(replica_machine_slot o0.2.2.1 o0).bind fun z1 =>
(quorum_Prepared n o0.2.2.2.1 o0.2.1 z1).bind fun z2 =>
(j0 n z2.2 o0).bind fun z4 =>
sm z4 (fun z5 =>
(replica_withSum z2.1).bind fun z7 =>
(replica_machine_proposal n z5 z7).bind fun z8 =>
bif !z8.2.1 then
some (false, z8.2.2.1.1, z8.2.2.1.2.1, z8.2.2.1.2.2.1, z8.2.2.1.2.2.2.1, z8.2.2.1.2.2.2.2.1, z8.2.2.1.2.2.2.2.2)
else
(replica_machine_position z8.2.2.1).bind fun z9 =>
(replica_machine_send (3, 0, z8.2.2.1.2.2.1, z9, z2.1, 0, (⟨#[]⟩ : ByteArray), ([] : List Int)) z8.2.2.1).bind fun z10 =>
some (true, z10.1, z10.2.1, z10.2.2.1, z10.2.2.2.1, z10.2.2.2.2.2, z10.2.2.2.2.1)) fun z6 =>
some (z6.1, z6.2.1, z6.2.2.1, z6.2.2.2.1, z6.2.2.2.2.1, z6.2.2.2.2.2.1, z6.2.2.2.2.2.2)
noncomputable def replica_machine_lock.d (n : Nat) : FragD := ⟨⟨[(0, pp 0)], [.stb 55 c33]⟩, [⟨1, ⟨[(0, pb)], [.blk 55 [.h (.int .i64), .h (.int .i64), .h (.int .i64), .h (.row c28), .h (.row c28), .h (.row c26)]]⟩, Bool × Int × Int × Int × List S28 × List S28 × List S26, fun x => (x.1.1, x.2.1.1, x.2.1.2.1, x.2.1.2.2.1, x.2.1.2.2.2.1, x.2.1.2.2.2.2.1, x.2.1.2.2.2.2.2.1), fun r => ((r.1, ()), ((r.2.1, r.2.2.1, r.2.2.2.1, r.2.2.2.2.1, r.2.2.2.2.2.1, r.2.2.2.2.2.2, ()), ())), fun _ => rfl⟩], fun x => replica_machine_lock n x.2.1⟩
open replica_machine_lock in
theorem replica_machine_lock.ok (n : Nat) : FunOK Tryz.prog 73 (replica_machine_lock.d n) := funR ⟨Tryz.prog, 54, F n, (r0 n), [], []⟩ Tryz.f73 (by kernel_rfl) (by kernel_rfl) (by kernel_rfl) (Fok n) (R0 n) noL (by kernel_rfl) (fun x => by kernel_rfl)
end Go.Proofs.YtijhdekfbjafgaaGreat
set_option linter.unusedVariables false
namespace Go.Proofs.YtijhdekfbjafgaaGreat
open Go Go.RowKit Go.Proofs.YtijhdekfbjafgaaGreat.RW Go.Proofs.YtijhdekfbjafgaaGreat.AM
namespace replica_machine_progress_1_4
noncomputable abbrev K := cBody Tryz.f51
noncomputable abbrev F (n : Nat) : List (Nat × FragD) := [(73, replica_machine_lock.d n)]
theorem Fok (n : Nat) : AllF Tryz.prog (F n) := ⟨replica_machine_lock.ok n, trivial⟩
end replica_machine_progress_1_4
open replica_machine_progress_1_4 in
noncomputable def replica_machine_progress_1_4 (n : Nat) (o1 : S33) : Option (Bool × S33) :=
(replica_machine_lock n o1).bind fun z1 =>
some (z1.1, z1.2)
noncomputable def replica_machine_progress_1_4.d (n : Nat) : FragD := ⟨⟨[(0, .w (.c (.fn 73 [] []))), (1, pp 0)], [.blk 53 [.ptr 1 0], .stb 55 c33]⟩, [⟨1, ⟨[(0, pb)], [.same, .stb 55 c33]⟩, Bool × S33, fun x => (x.1.1, x.2.2.1), fun r => ((r.1, ()), ((), r.2, ())), fun _ => rfl⟩], fun x => replica_machine_progress_1_4 n x.2.2.1⟩
open replica_machine_progress_1_4 in
theorem replica_machine_progress_1_4.ok (n : Nat) : FunOK Tryz.prog 51 (replica_machine_progress_1_4.d n) := funR ⟨Tryz.prog, 7, F n, [], [], []⟩ Tryz.f51 (by kernel_rfl) (by kernel_rfl) (by kernel_rfl) (Fok n) trivial noL (by kernel_rfl) (fun x => by kernel_rfl)

namespace replica_machine_bool_74
noncomputable abbrev K := cBody Tryz.f74
noncomputable abbrev F (n : Nat) : List (Nat × FragD) := [(51, replica_machine_progress_1.d n), (51, replica_machine_progress_1_2.d n), (51, replica_machine_progress_1_3.d n), (51, replica_machine_progress_1_4.d n)]
theorem Fok (n : Nat) : AllF Tryz.prog (F n) := ⟨replica_machine_progress_1.ok n, replica_machine_progress_1_2.ok n, replica_machine_progress_1_3.ok n, replica_machine_progress_1_4.ok n, trivial⟩
end replica_machine_bool_74
open replica_machine_bool_74 in
noncomputable def replica_machine_bool_74 (n : Nat) (o2 : S33) : Option (Int × S33) :=
(replica_machine_progress_1 n o2).bind fun z1 =>
bif z1.1 then
some (0, z1.2)
else
(replica_machine_progress_1_2 n z1.2).bind fun z2 =>
bif z2.1 then
some (1, z2.2)
else
(replica_machine_progress_1_3 n z2.2).bind fun z3 =>
bif z3.1 then
some (2, z3.2)
else
(replica_machine_progress_1_4 n z3.2).bind fun z4 =>
bif z4.1 then
some (3, z4.2)
else
some ((-1), z4.2)
noncomputable def replica_machine_bool_74.d (n : Nat) : FragD := ⟨⟨[(0, .w (.c (.sb 0 4))), (1, .w (.c (.fn 51 [] [(1, 0)])))], [.blk 81 [.fn 70 [] [], .fn 71 [] [], .fn 72 [] [], .fn 73 [] []], .blk 53 [.ptr 2 0], .stb 55 c33]⟩, [⟨1, ⟨[(0, pi)], [.same, .same, .stb 55 c33]⟩, Int × S33, fun x => (x.1.1, x.2.2.2.1), fun r => ((r.1, ()), ((), (), r.2, ())), fun _ => rfl⟩], fun x => replica_machine_bool_74 n x.2.2.2.1⟩
open replica_machine_bool_74 in
theorem replica_machine_bool_74.ok (n : Nat) : FunOK Tryz.prog 74 (replica_machine_bool_74.d n) := funR ⟨Tryz.prog, 19, F n, [], [], [(26, 4)]⟩ Tryz.f74 (by kernel_rfl) (by kernel_rfl) (by kernel_rfl) (Fok n) trivial noL (by kernel_rfl) (fun x => by kernel_rfl)

namespace replica_machine_bool
noncomputable abbrev K := cBody Tryz.f52
noncomputable abbrev F (n : Nat) : List (Nat × FragD) := [(74, replica_machine_bool_74.d n)]
theorem Fok (n : Nat) : AllF Tryz.prog (F n) := ⟨replica_machine_bool_74.ok n, trivial⟩
end replica_machine_bool
open replica_machine_bool in
noncomputable def replica_machine_bool (n : Nat) (o2 : S33) : Option (Bool × S33) :=
(replica_machine_bool_74 n o2).bind fun z1 =>
some (decide (z1.1 ≥ 0), z1.2)
noncomputable def replica_machine_bool.d (n : Nat) : FragD := ⟨⟨[(0, .w (.c (.sb 0 4))), (1, .w (.c (.fn 51 [] [(1, 0)])))], [.blk 81 [.fn 70 [] [], .fn 71 [] [], .fn 72 [] [], .fn 73 [] []], .blk 53 [.ptr 2 0], .stb 55 c33]⟩, [⟨1, ⟨[(0, pb)], [.blk 81 [.fn 70 [] [], .fn 71 [] [], .fn 72 [] [], .fn 73 [] []], .same, .stb 55 c33]⟩, Bool × S33, fun x => (x.1.1, x.2.2.2.1), fun r => ((r.1, ()), (((), (), (), (), ()), (), r.2, ())), fun _ => rfl⟩], fun x => replica_machine_bool n x.2.2.2.1⟩
open replica_machine_bool in
theorem replica_machine_bool.ok (n : Nat) : FunOK Tryz.prog 52 (replica_machine_bool.d n) := funR ⟨Tryz.prog, 9, F n, [], [], []⟩ Tryz.f52 (by kernel_rfl) (by kernel_rfl) (by kernel_rfl) (Fok n) trivial noL (by kernel_rfl) (fun x => by kernel_rfl)

namespace replica_machine_progress
noncomputable abbrev K := cBody Tryz.f26
noncomputable abbrev F (n : Nat) : List (Nat × FragD) := [(50, replica_rules.d), (52, replica_machine_bool.d n)]
theorem Fok (n : Nat) : AllF Tryz.prog (F n) := ⟨replica_rules.ok, replica_machine_bool.ok n, trivial⟩
noncomputable def s0 (n : Nat) (o2 : S33) : Option (S33 ⊕ S33) :=
(replica_machine_bool n o2).bind fun z2 =>
bif z2.1 then
some (.inl z2.2)
else
some (.inr z2.2)
noncomputable def l0 (n : Nat) : Nat → S33 → Option S33
| 0, _ => none
| k + 1, o2 => (s0 n o2).bind fun z => sm z (fun z => l0 n k z) some
noncomputable def L0 (n : Nat) : LoopD := ⟨[(2, .w (.c (.sb 0 4))), (3, .w (.c (.fn 51 [] [(1, 0)])))], [], [.blk 81 [.fn 70 [] [], .fn 71 [] [], .fn 72 [] [], .fn 73 [] []], .blk 53 [.ptr 2 0], .stb 55 c33], S33, fun x => x.2.2.2.1, fun r => (((), (), ()), (((), (), (), (), ()), ((), ()), r, ())), fun _ => rfl, ⟨2, ⟨[], [.blk 81 [.fn 70 [] [], .fn 71 [] [], .fn 72 [] [], .fn 73 [] []], .blk 53 [.ptr 2 0], .stb 55 c33]⟩, S33, fun x => x.2.2.2.1, fun r => ((), (((), (), (), (), ()), ((), ()), r, ())), fun _ => rfl⟩, [], fun x => s0 n x.2.2.2.1, [0, 1, 2]⟩
theorem T0 (n : Nat) : FragOK Tryz.prog 9 (atN K 400 30) ((L0 n).loopD fun x => l0 n n x.2.2.2.1) := loopR (L0 n) 30 (by kernel_rfl) (by kernel_rfl) (fragK ⟨Tryz.prog, 9, F n, [], [], []⟩ (Fok n) trivial noL 60 (by kernel_rfl) (fun x => by kernel_rfl)) (fun k x => l0 n k x.2.2.2.1) (fun x => by kernel_rfl) (fun k x => by kernel_rfl) n
noncomputable abbrev r0 (n : Nat) : List (Nat × FragD) := (30, ((L0 n).loopD fun x => l0 n n x.2.2.2.1)) :: []
theorem R0 (n : Nat) : AllFr Tryz.prog 9 K (r0 n) := ⟨T0 n, trivial⟩
end replica_machine_progress
open replica_machine_progress in
noncomputable def replica_machine_progress (n : Nat) (o0 : S33) : Option S33 :=
(replica_rules).bind fun _ =>
(l0 n n o0).bind fun z3 =>
some z3
noncomputable def replica_machine_progress.d (n : Nat) : FragD := ⟨⟨[(0, pp 0)], [.stb 55 c33]⟩, [⟨1, ⟨[(0, .tup [])], [.stb 55 c33]⟩, S33, fun x => x.2.1, fun r => (((), ()), (r, ())), fun _ => rfl⟩], fun x => replica_machine_progress n x.2.1⟩
open replica_machine_progress in
theorem replica_machine_progress.ok (n : Nat) : FunOK Tryz.prog 26 (replica_machine_progress.d n) := funR ⟨Tryz.prog, 9, F n, (r0 n), [], []⟩ Tryz.f26 (by kernel_rfl) (by kernel_rfl) (by kernel_rfl) (Fok n) (R0 n) noL (by kernel_rfl) (fun x => by kernel_rfl)

namespace replica_Handle
noncomputable abbrev K := cBody Tryz.f8
noncomputable abbrev F (n : Nat) : List (Nat × FragD) := [(23, quorum_Valid.d n), (24, api_Message_24_2.d n), (25, api_Message.d), (26, replica_machine_progress.d n)]
theorem Fok (n : Nat) : AllF Tryz.prog (F n) := ⟨quorum_Valid.ok n, api_Message_24_2.ok n, api_Message.ok, replica_machine_progress.ok n, trivial⟩
noncomputable def j0 (n : Nat) (o0 : S33) (o1 : S28) (o2 : S33) : Option (S28 ⊕ (S28 × S33 × List S28)) :=
(quorum_Valid n o1 o0.2.1).bind fun z1 =>
bif !z1 then
some (.inr (o1, o0, ([] : List S28)))
else
(api_Message_24_2 n o0.2.2.2.1 o1).bind fun z2 =>
bif z2.1 then
some (.inr (z2.2, o0, ([] : List S28)))
else
some (.inl z2.2)
noncomputable def D0 (n : Nat) : FragD := ⟨⟨[(2, pp 0), (3, pp 1), (4, pp 2), (6, .w (.c (.fn 22 [] [(1, 0)])))], [.stb 33 c33, .stb 28 c28, .stb 33 c33]⟩, [⟨0, ⟨[], [.same, .stb 28 c28, .same]⟩, S28, fun x => x.2.2.1, fun r => ((), ((), r, (), ())), fun _ => rfl⟩, ⟨1, ⟨[(5, po 3)], [.same, .stb 28 c28, .stb 33 c33, .row 28 c28]⟩, S28 × S33 × List S28, fun x => (x.2.2.1, x.2.2.2.1, x.2.2.2.2.1), fun r => (((), ()), ((), r.1, r.2.1, r.2.2, ())), fun _ => rfl⟩], fun x => j0 n x.2.1 x.2.2.1 x.2.2.2.1⟩
theorem T0 (n : Nat) : FragOK Tryz.prog 52 (atN K 400 14) (D0 n) := fragR ⟨Tryz.prog, 52, F n, [], [], []⟩ (Fok n) trivial noL 14 (by kernel_rfl) (fun x => by kernel_rfl)
noncomputable abbrev r0 (n : Nat) : List (Nat × FragD) := (14, D0 n) :: []
theorem R0 (n : Nat) : AllFr Tryz.prog 52 K (r0 n) := ⟨T0 n, trivial⟩
end replica_Handle
open replica_Handle in
noncomputable def replica_Handle (n : Nat) (t0 : S33) (t1 : S28) : Option (S33 × List S28) :=
(j0 n t0 t1 (0, 0, 0, ([] : List S28), ([] : List S28), ([] : List S26))).bind fun z3 =>
sm z3 (fun z4 =>
(api_Message t0.2.2.2.1).bind fun z6 =>
ck (room (z6.length + 1) 88) <|
(replica_machine_progress n (t0.1, t0.2.1, t0.2.2.1, z6 ++ [z4], t0.2.2.2.2)).bind fun z7 =>
ck (inb (t0.2.2.2.2.1.length : Int) (z7.2.2.2.2.1.length + 1)) <|
some (z7, (z7.2.2.2.2.1.drop (t0.2.2.2.2.1.length : Int).toNat))) fun z5 =>
some (z5.2.1, z5.2.2)
noncomputable def replica_Handle.d (n : Nat) : FragD := ⟨⟨[(0, pst c33), (1, pst c28)], []⟩, [⟨1, ⟨[(0, .tup [.st c33, .c (.h (.row c28))])], []⟩, S33 × List S28, fun x => (x.1.1.1, x.1.1.2.1), fun r => (((r.1, r.2, ()), ()), ()), fun _ => rfl⟩], fun x => replica_Handle n x.1.1 x.1.2.1⟩
open replica_Handle in
theorem replica_Handle.ok (n : Nat) : FunOK Tryz.prog 8 (replica_Handle.d n) := funR ⟨Tryz.prog, 52, F n, (r0 n), [], []⟩ Tryz.f8 (by kernel_rfl) (by kernel_rfl) (by kernel_rfl) (Fok n) (R0 n) noL (by kernel_rfl) (fun x => by kernel_rfl)

namespace replica_Timeout
noncomputable abbrev K := cBody Tryz.f12
noncomputable abbrev F (n : Nat) : List (Nat × FragD) := [(35, replica_machine_send.d), (26, replica_machine_progress.d n)]
theorem Fok (n : Nat) : AllF Tryz.prog (F n) := ⟨replica_machine_send.ok, replica_machine_progress.ok n, trivial⟩
end replica_Timeout
open replica_Timeout in
noncomputable def replica_Timeout (n : Nat) (t0 : S33) : Option (S33 × List S28) :=
bif (decide (t0.2.2.1 ≥ 1048576)) then
some (t0, ([] : List S28))
else
(replica_machine_send (4, 0, W .i64 (t0.2.2.1 + 1), 0, 0, 0, (⟨#[]⟩ : ByteArray), ([] : List Int)) (t0.1, t0.2.1, W .i64 (t0.2.2.1 + 1), t0.2.2.2)).bind fun z2 =>
(replica_machine_progress n (z2.1, z2.2.1, z2.2.2.1, z2.2.2.2.1, z2.2.2.2.2.2, z2.2.2.2.2.1)).bind fun z3 =>
ck (inb (t0.2.2.2.2.1.length : Int) (z3.2.2.2.2.1.length + 1)) <|
some (z3, (z3.2.2.2.2.1.drop (t0.2.2.2.2.1.length : Int).toNat))
noncomputable def replica_Timeout.d (n : Nat) : FragD := ⟨⟨[(0, pst c33)], []⟩, [⟨1, ⟨[(0, .tup [.st c33, .c (.h (.row c28))])], []⟩, S33 × List S28, fun x => (x.1.1.1, x.1.1.2.1), fun r => (((r.1, r.2, ()), ()), ()), fun _ => rfl⟩], fun x => replica_Timeout n x.1.1⟩
open replica_Timeout in
theorem replica_Timeout.ok (n : Nat) : FunOK Tryz.prog 12 (replica_Timeout.d n) := funR ⟨Tryz.prog, 44, F n, [], [], []⟩ Tryz.f12 (by kernel_rfl) (by kernel_rfl) (by kernel_rfl) (Fok n) trivial noL (by kernel_rfl) (fun x => by kernel_rfl)

namespace armillaryref27_Same
noncomputable abbrev K := cBody Tryz.f45
noncomputable abbrev F : List (Nat × FragD) := []
theorem Fok : AllF Tryz.prog (F) := trivial
end armillaryref27_Same
open armillaryref27_Same in
noncomputable def armillaryref27_Same (t0 : S26) (t1 : S26) : Option Bool :=
bif t0.1 == t1.1 then
bif (t0.2.1.toList == t1.2.1.toList) then
some ((strOfNums t0.2.2).toList == (strOfNums t1.2.2).toList)
else
some false
else
some false
noncomputable def armillaryref27_Same.d : FragD := ⟨⟨[(0, pst c26), (1, pst c26)], []⟩, [⟨1, ⟨[(0, pb)], []⟩, Bool, fun x => x.1.1, fun r => ((r, ()), ()), fun _ => rfl⟩], fun x => armillaryref27_Same x.1.1 x.1.2.1⟩
open armillaryref27_Same in
theorem armillaryref27_Same.ok : FunOK Tryz.prog 45 (armillaryref27_Same.d) := funR ⟨Tryz.prog, 26, F, [], [], []⟩ Tryz.f45 (by kernel_rfl) (by kernel_rfl) (by kernel_rfl) (Fok) trivial noL (by kernel_rfl) (fun x => by kernel_rfl)

namespace armillaryref30_SameLog
noncomputable abbrev K := cBody Tryz.f18
noncomputable abbrev F (n : Nat) : List (Nat × FragD) := [(45, armillaryref27_Same.d)]
theorem Fok (n : Nat) : AllF Tryz.prog (F n) := ⟨armillaryref27_Same.ok, trivial⟩
noncomputable def s0 (n : Nat) (t5 : Int) (t0 : List S26) (t1 : List S26) : Option (Int ⊕ (Bool ⊕ Unit)) :=
bif (decide (t5 < (t0.length : Int))) then
ck (inb t5 t0.length) <|
ck (inb t5 t1.length) <|
(armillaryref27_Same ((t0.getD t5.toNat z26).1, ((t0.getD t5.toNat z26).2)) ((t1.getD t5.toNat z26).1, ((t1.getD t5.toNat z26).2))).bind fun z3 =>
bif !z3 then
some (.inr (.inl false))
else
some (.inl (W .i64 (t5 + 1)))
else
some (.inr (.inr ()))
noncomputable def l0 (n : Nat) : Nat → Int → List S26 → List S26 → Option (Bool ⊕ Unit)
| 0, _, _, _ => none
| k + 1, t5, t0, t1 => (s0 n t5 t0 t1).bind fun z => sm z (fun z => l0 n k z t0 t1) some
noncomputable def L0 (n : Nat) : LoopD := ⟨[(5, pi)], [(0, ph (.row c26)), (1, ph (.row c26))], [], Int, fun x => x.1.1, fun r => ((r, ()), ()), fun _ => rfl, ⟨1, ⟨[(4, pb)], []⟩, Bool, fun x => x.1.1, fun r => ((r, ()), ()), fun _ => rfl⟩, [⟨2, ⟨[], []⟩, Unit, fun _ => (), fun _ => ((), ()), fun _ => rfl⟩], fun x => s0 n x.1.1 x.1.2.1 x.1.2.2.1, []⟩
theorem T0 (n : Nat) : FragOK Tryz.prog 27 (atN K 400 58) ((L0 n).loopD fun x => l0 n n x.1.1 x.1.2.1 x.1.2.2.1) := loopR (L0 n) 58 (by kernel_rfl) (by kernel_rfl) (fragK ⟨Tryz.prog, 27, F n, [], [], []⟩ (Fok n) trivial noL 116 (by kernel_rfl) (fun x => by kernel_rfl)) (fun k x => l0 n k x.1.1 x.1.2.1 x.1.2.2.1) (fun x => by kernel_rfl) (fun k x => by kernel_rfl) n
noncomputable abbrev r0 (n : Nat) : List (Nat × FragD) := (58, ((L0 n).loopD fun x => l0 n n x.1.1 x.1.2.1 x.1.2.2.1)) :: []
theorem R0 (n : Nat) : AllFr Tryz.prog 27 K (r0 n) := ⟨T0 n, trivial⟩
end armillaryref30_SameLog
open armillaryref30_SameLog in
noncomputable def armillaryref30_SameLog (n : Nat) (t0 : List S26) (t1 : List S26) : Option Bool :=
bif ((t0.length : Int) != (t1.length : Int)) then
some false
else
(l0 n n 0 t0 t1).bind fun z4 =>
sm z4 (fun z5 =>
some z5) fun z6 =>
some true
noncomputable def armillaryref30_SameLog.d (n : Nat) : FragD := ⟨⟨[(0, ph (.row c26)), (1, ph (.row c26))], []⟩, [⟨1, ⟨[(0, pb)], []⟩, Bool, fun x => x.1.1, fun r => ((r, ()), ()), fun _ => rfl⟩], fun x => armillaryref30_SameLog n x.1.1 x.1.2.1⟩
open armillaryref30_SameLog in
theorem armillaryref30_SameLog.ok (n : Nat) : FunOK Tryz.prog 18 (armillaryref30_SameLog.d n) := funR ⟨Tryz.prog, 27, F n, (r0 n), [], []⟩ Tryz.f18 (by kernel_rfl) (by kernel_rfl) (by kernel_rfl) (Fok n) (R0 n) noL (by kernel_rfl) (fun x => by kernel_rfl)

namespace armillaryref27_SameMessage
noncomputable abbrev K := cBody Tryz.f44
noncomputable abbrev F : List (Nat × FragD) := [(45, armillaryref27_Same.d)]
theorem Fok : AllF Tryz.prog (F) := ⟨armillaryref27_Same.ok, trivial⟩
end armillaryref27_SameMessage
open armillaryref27_SameMessage in
noncomputable def armillaryref27_SameMessage (t0 : S28) (t1 : S28) : Option Bool :=
bif t0.1 == t1.1 then
bif t0.2.1 == t1.2.1 then
bif t0.2.2.1 == t1.2.2.1 then
bif t0.2.2.2.1 == t1.2.2.2.1 then
bif (t0.2.2.2.2.1 == t1.2.2.2.2.1) then
(armillaryref27_Same t0.2.2.2.2.2 t1.2.2.2.2.2).bind fun z2 =>
some z2
else
some false
else
some false
else
some false
else
some false
else
some false
noncomputable def armillaryref27_SameMessage.d : FragD := ⟨⟨[(0, pst c28), (1, pst c28)], []⟩, [⟨1, ⟨[(0, pb)], []⟩, Bool, fun x => x.1.1, fun r => ((r, ()), ()), fun _ => rfl⟩], fun x => armillaryref27_SameMessage x.1.1 x.1.2.1⟩
open armillaryref27_SameMessage in
theorem armillaryref27_SameMessage.ok : FunOK Tryz.prog 44 (armillaryref27_SameMessage.d) := funR ⟨Tryz.prog, 45, F, [], [], []⟩ Tryz.f44 (by kernel_rfl) (by kernel_rfl) (by kernel_rfl) (Fok) trivial noL (by kernel_rfl) (fun x => by kernel_rfl)

namespace armillaryref30_SameMessages
noncomputable abbrev K := cBody Tryz.f14
noncomputable abbrev F (n : Nat) : List (Nat × FragD) := [(44, armillaryref27_SameMessage.d)]
theorem Fok (n : Nat) : AllF Tryz.prog (F n) := ⟨armillaryref27_SameMessage.ok, trivial⟩
noncomputable def s0 (n : Nat) (t5 : Int) (t0 : List S28) (t1 : List S28) : Option (Int ⊕ (Bool ⊕ Unit)) :=
bif (decide (t5 < (t0.length : Int))) then
ck (inb t5 t0.length) <|
ck (inb t5 t1.length) <|
(armillaryref27_SameMessage ((t0.getD t5.toNat z28).1, ((t0.getD t5.toNat z28).2).1, (((t0.getD t5.toNat z28).2).2).1, ((((t0.getD t5.toNat z28).2).2).2).1, (((((t0.getD t5.toNat z28).2).2).2).2).1, ((((((t0.getD t5.toNat z28).2).2).2).2).2).1, (((((((t0.getD t5.toNat z28).2).2).2).2).2).2)) ((t1.getD t5.toNat z28).1, ((t1.getD t5.toNat z28).2).1, (((t1.getD t5.toNat z28).2).2).1, ((((t1.getD t5.toNat z28).2).2).2).1, (((((t1.getD t5.toNat z28).2).2).2).2).1, ((((((t1.getD t5.toNat z28).2).2).2).2).2).1, (((((((t1.getD t5.toNat z28).2).2).2).2).2).2))).bind fun z3 =>
bif !z3 then
some (.inr (.inl false))
else
some (.inl (W .i64 (t5 + 1)))
else
some (.inr (.inr ()))
noncomputable def l0 (n : Nat) : Nat → Int → List S28 → List S28 → Option (Bool ⊕ Unit)
| 0, _, _, _ => none
| k + 1, t5, t0, t1 => (s0 n t5 t0 t1).bind fun z => sm z (fun z => l0 n k z t0 t1) some
noncomputable def L0 (n : Nat) : LoopD := ⟨[(5, pi)], [(0, ph (.row c28)), (1, ph (.row c28))], [], Int, fun x => x.1.1, fun r => ((r, ()), ()), fun _ => rfl, ⟨1, ⟨[(4, pb)], []⟩, Bool, fun x => x.1.1, fun r => ((r, ()), ()), fun _ => rfl⟩, [⟨2, ⟨[], []⟩, Unit, fun _ => (), fun _ => ((), ()), fun _ => rfl⟩], fun x => s0 n x.1.1 x.1.2.1 x.1.2.2.1, []⟩
theorem T0 (n : Nat) : FragOK Tryz.prog 27 (atN K 400 58) ((L0 n).loopD fun x => l0 n n x.1.1 x.1.2.1 x.1.2.2.1) := loopR (L0 n) 58 (by kernel_rfl) (by kernel_rfl) (fragK ⟨Tryz.prog, 27, F n, [], [], []⟩ (Fok n) trivial noL 116 (by kernel_rfl) (fun x => by kernel_rfl)) (fun k x => l0 n k x.1.1 x.1.2.1 x.1.2.2.1) (fun x => by kernel_rfl) (fun k x => by kernel_rfl) n
noncomputable abbrev r0 (n : Nat) : List (Nat × FragD) := (58, ((L0 n).loopD fun x => l0 n n x.1.1 x.1.2.1 x.1.2.2.1)) :: []
theorem R0 (n : Nat) : AllFr Tryz.prog 27 K (r0 n) := ⟨T0 n, trivial⟩
end armillaryref30_SameMessages
open armillaryref30_SameMessages in
noncomputable def armillaryref30_SameMessages (n : Nat) (t0 : List S28) (t1 : List S28) : Option Bool :=
bif ((t0.length : Int) != (t1.length : Int)) then
some false
else
(l0 n n 0 t0 t1).bind fun z4 =>
sm z4 (fun z5 =>
some z5) fun z6 =>
some true
noncomputable def armillaryref30_SameMessages.d (n : Nat) : FragD := ⟨⟨[(0, ph (.row c28)), (1, ph (.row c28))], []⟩, [⟨1, ⟨[(0, pb)], []⟩, Bool, fun x => x.1.1, fun r => ((r, ()), ()), fun _ => rfl⟩], fun x => armillaryref30_SameMessages n x.1.1 x.1.2.1⟩
open armillaryref30_SameMessages in
theorem armillaryref30_SameMessages.ok (n : Nat) : FunOK Tryz.prog 14 (armillaryref30_SameMessages.d n) := funR ⟨Tryz.prog, 27, F n, (r0 n), [], []⟩ Tryz.f14 (by kernel_rfl) (by kernel_rfl) (by kernel_rfl) (Fok n) (R0 n) noL (by kernel_rfl) (fun x => by kernel_rfl)

namespace armillaryref30_Same
noncomputable abbrev K := cBody Tryz.f6
noncomputable abbrev F (n : Nat) : List (Nat × FragD) := [(14, armillaryref30_SameMessages.d n), (18, armillaryref30_SameLog.d n)]
theorem Fok (n : Nat) : AllF Tryz.prog (F n) := ⟨armillaryref30_SameMessages.ok n, armillaryref30_SameLog.ok n, trivial⟩
end armillaryref30_Same
open armillaryref30_Same in
noncomputable def armillaryref30_Same (n : Nat) (t0 : S33) (t1 : S33) : Option Bool :=
bif t0.1 == t1.1 then
bif t0.2.1 == t1.2.1 then
bif t0.2.2.1 == t1.2.2.1 then
(armillaryref30_SameMessages n t0.2.2.2.1 t1.2.2.2.1).bind fun z1 =>
bif z1 then
(armillaryref30_SameMessages n t0.2.2.2.2.1 t1.2.2.2.2.1).bind fun z2 =>
bif z2 then
(armillaryref30_SameLog n t0.2.2.2.2.2 t1.2.2.2.2.2).bind fun z3 =>
some z3
else
some false
else
some false
else
some false
else
some false
else
some false
noncomputable def armillaryref30_Same.d (n : Nat) : FragD := ⟨⟨[(0, pst c33), (1, pst c33)], []⟩, [⟨1, ⟨[(0, pb)], []⟩, Bool, fun x => x.1.1, fun r => ((r, ()), ()), fun _ => rfl⟩], fun x => armillaryref30_Same n x.1.1 x.1.2.1⟩
open armillaryref30_Same in
theorem armillaryref30_Same.ok (n : Nat) : FunOK Tryz.prog 6 (armillaryref30_Same.d n) := funR ⟨Tryz.prog, 45, F n, [], [], []⟩ Tryz.f6 (by kernel_rfl) (by kernel_rfl) (by kernel_rfl) (Fok n) trivial noL (by kernel_rfl) (fun x => by kernel_rfl)

namespace replica_Recover
noncomputable abbrev K := cBody Tryz.f15
noncomputable abbrev F : List (Nat × FragD) := []
theorem Fok : AllF Tryz.prog (F) := trivial
end replica_Recover
open replica_Recover in
noncomputable def replica_Recover (t0 : S33) : Option S33 :=
some (t0.1, t0.2.1, t0.2.2.1, ([] : List S28), t0.2.2.2.2)
noncomputable def replica_Recover.d : FragD := ⟨⟨[(0, pst c33)], []⟩, [⟨1, ⟨[(0, pst c33)], []⟩, S33, fun x => x.1.1, fun r => ((r, ()), ()), fun _ => rfl⟩], fun x => replica_Recover x.1.1⟩
open replica_Recover in
theorem replica_Recover.ok : FunOK Tryz.prog 15 (replica_Recover.d) := funR ⟨Tryz.prog, 5, F, [], [], []⟩ Tryz.f15 (by kernel_rfl) (by kernel_rfl) (by kernel_rfl) (Fok) trivial noL (by kernel_rfl) (fun x => by kernel_rfl)

namespace armillarylaw30_sanity
noncomputable abbrev K := cBody Tryz.f4
noncomputable abbrev F (n : Nat) : List (Nat × FragD) := [(17, replica_New.d), (10, replica_Propose.d n), (8, replica_Handle.d n), (12, replica_Timeout.d n), (18, armillaryref30_SameLog.d n), (6, armillaryref30_Same.d n), (15, replica_Recover.d)]
theorem Fok (n : Nat) : AllF Tryz.prog (F n) := ⟨replica_New.ok, replica_Propose.ok n, replica_Handle.ok n, replica_Timeout.ok n, armillaryref30_SameLog.ok n, armillaryref30_Same.ok n, replica_Recover.ok, trivial⟩
end armillarylaw30_sanity
open armillarylaw30_sanity in
noncomputable def armillarylaw30_sanity (n : Nat) : Option Bool :=
(replica_New 0 1).bind fun z1 =>
(replica_Propose n z1 (1, (⟨#[97]⟩ : ByteArray), ([] : List Int))).bind fun z2 =>
(replica_Propose n (z2.1, z2.2.1, z2.2.2.1, z2.2.2.2.1, z2.2.2.2.2.1, z2.2.2.2.2.2.1) (1, (⟨#[97]⟩ : ByteArray), ([] : List Int))).bind fun z3 =>
bif ((z2.2.2.2.2.2.2.1.length : Int) != 1) then
some false
else
ck (inb 0 z2.2.2.2.2.2.2.1.length) <|
(replica_Handle n (z2.1, z2.2.1, z2.2.2.1, z2.2.2.2.1, z2.2.2.2.2.1, z2.2.2.2.2.2.1) (z2.2.2.2.2.2.2.1.getD 0 z28)).bind fun z6 =>
bif (z6.2.length : Int) != 1 then
some false
else
ck (inb 0 z6.2.length) <|
(replica_Handle n z6.1 ((z6.2.getD 0 z28).1, ((z6.2.getD 0 z28).2).1, (((z6.2.getD 0 z28).2).2).1, ((((z6.2.getD 0 z28).2).2).2).1, (((((z6.2.getD 0 z28).2).2).2).2).1, ((((((z6.2.getD 0 z28).2).2).2).2).2).1, (((((((z6.2.getD 0 z28).2).2).2).2).2).2))).bind fun z7 =>
bif (z7.2.length : Int) != 1 then
some false
else
ck (inb 0 z7.2.length) <|
(replica_Handle n z7.1 ((z7.2.getD 0 z28).1, ((z7.2.getD 0 z28).2).1, (((z7.2.getD 0 z28).2).2).1, ((((z7.2.getD 0 z28).2).2).2).1, (((((z7.2.getD 0 z28).2).2).2).2).1, ((((((z7.2.getD 0 z28).2).2).2).2).2).1, (((((((z7.2.getD 0 z28).2).2).2).2).2).2))).bind fun z8 =>
(replica_New 1 4).bind fun z9 =>
(replica_Propose n z9 (1, (⟨#[97]⟩ : ByteArray), ([] : List Int))).bind fun z10 =>
(replica_New 0 4).bind fun z11 =>
(replica_Propose n z11 (0, (⟨#[]⟩ : ByteArray), ([] : List Int))).bind fun z12 =>
(replica_New 2 4).bind fun z13 =>
(replica_Timeout n z13).bind fun z14 =>
(replica_New 2 4).bind fun z15 =>
(replica_Handle n z15 (9, 0, 0, 0, 0, 0, (⟨#[]⟩ : ByteArray), ([] : List Int))).bind fun z16 =>
bif z2.2.2.2.2.2.2.2 == 0 then
bif z3.2.2.2.2.2.2.2 == 321 then
ck (inb 0 z2.2.2.2.2.2.2.1.length) <|
bif (z2.2.2.2.2.2.2.1.getD 0 z28).1 == 1 then
ck (inb 0 z6.2.length) <|
bif (((z6.2.getD 0 z28).1) == 2) then
ck (inb 0 z7.2.length) <|
bif (((z7.2.getD 0 z28).1) == 3) then
bif (z8.2.length : Int) == 0 then
(armillaryref30_SameLog n z8.1.2.2.2.2.2 [(1, (⟨#[97]⟩ : ByteArray), ([] : List Int))]).bind fun z21 =>
bif z21 then
bif z10.2.2.2.2.2.2.2 == 290 then
bif z12.2.2.2.2.2.2.2 == 1 then
bif z14.1.2.2.1 == 1 then
bif (z14.2.length : Int) == 1 then
ck (inb 0 z14.2.length) <|
bif (((z14.2.getD 0 z28).1) == 4) then
ck (inb 0 z14.2.length) <|
bif (((((z14.2.getD 0 z28).2).2).1) == 1) then
ck (inb 0 z14.2.length) <|
bif ((((z14.2.getD 0 z28).2).1) == 2) then
(replica_New 2 4).bind fun z25 =>
(armillaryref30_Same n z16.1 z25).bind fun z26 =>
bif z26 then
bif (z16.2.length : Int) == 0 then
(replica_Recover z8.1).bind fun z27 =>
bif ((z27.2.2.2.1.length : Int) == 0) then
(replica_Recover z8.1).bind fun z29 =>
some ((z29.2.2.2.2.1.length : Int) == 3)
else
some false
else
some false
else
some false
else
some false
else
some false
else
some false
else
some false
else
some false
else
some false
else
some false
else
some false
else
some false
else
some false
else
some false
else
some false
else
some false
else
some false
noncomputable def armillarylaw30_sanity.d (n : Nat) : FragD := ⟨⟨[], []⟩, [⟨1, ⟨[(0, pb)], []⟩, Bool, fun x => x.1.1, fun r => ((r, ()), ()), fun _ => rfl⟩], fun _ => armillarylaw30_sanity n⟩
open armillarylaw30_sanity in
theorem armillarylaw30_sanity.ok (n : Nat) : FunOK Tryz.prog 4 (armillarylaw30_sanity.d n) := funR ⟨Tryz.prog, 197, F n, [], [], []⟩ Tryz.f4 (by kernel_rfl) (by kernel_rfl) (by kernel_rfl) (Fok n) trivial noL (by kernel_rfl) (fun x => by kernel_rfl)

namespace armillaryref30_entry
noncomputable abbrev K := cBody Tryz.f47
noncomputable abbrev F : List (Nat × FragD) := []
theorem Fok : AllF Tryz.prog (F) := trivial
end armillaryref30_entry
open armillaryref30_entry in
noncomputable def armillaryref30_entry (t0 : Int) : Option S26 :=
let v1 := [(⟨#[97]⟩ : ByteArray), (⟨#[98]⟩ : ByteArray), (⟨#[99]⟩ : ByteArray)];
ck (inb (t0.tmod 3) v1.length) <|
some (1, (v1.getD (t0.tmod 3).toNat (⟨#[]⟩ : ByteArray)), ([] : List Int))
noncomputable def armillaryref30_entry.d : FragD := ⟨⟨[(0, ph (.int .u8))], []⟩, [⟨1, ⟨[(0, pst c26)], []⟩, S26, fun x => x.1.1, fun r => ((r, ()), ()), fun _ => rfl⟩], fun x => armillaryref30_entry x.1.1⟩
open armillaryref30_entry in
theorem armillaryref30_entry.ok : FunOK Tryz.prog 47 (armillaryref30_entry.d) := funR ⟨Tryz.prog, 9, F, [], [], []⟩ Tryz.f47 (by kernel_rfl) (by kernel_rfl) (by kernel_rfl) (Fok) trivial noL (by kernel_rfl) (fun x => by kernel_rfl)

namespace armillaryref27_ValidEntry
noncomputable abbrev K := cBody Tryz.f38
noncomputable abbrev F : List (Nat × FragD) := []
theorem Fok : AllF Tryz.prog (F) := trivial
end armillaryref27_ValidEntry
open armillaryref27_ValidEntry in
noncomputable def armillaryref27_ValidEntry (t0 : S26) : Option Bool :=
bif decide (t0.1 ≥ 1) then
bif decide (t0.1 ≤ 4) then
bif (decide ((t0.2.1.size : Int) ≥ 1)) then
bif (decide ((t0.2.1.size : Int) ≤ 40)) then
some (decide ((t0.2.2.length : Int) ≤ 20000))
else
some false
else
some false
else
some false
else
some false
noncomputable def armillaryref27_ValidEntry.d : FragD := ⟨⟨[(0, pst c26)], []⟩, [⟨1, ⟨[(0, pb)], []⟩, Bool, fun x => x.1.1, fun r => ((r, ()), ()), fun _ => rfl⟩], fun x => armillaryref27_ValidEntry x.1.1⟩
open armillaryref27_ValidEntry in
theorem armillaryref27_ValidEntry.ok : FunOK Tryz.prog 38 (armillaryref27_ValidEntry.d) := funR ⟨Tryz.prog, 29, F, [], [], []⟩ Tryz.f38 (by kernel_rfl) (by kernel_rfl) (by kernel_rfl) (Fok) trivial noL (by kernel_rfl) (fun x => by kernel_rfl)

namespace armillaryref27_AppendVarint
noncomputable abbrev K := cBody Tryz.f68
noncomputable abbrev F (n : Nat) : List (Nat × FragD) := []
theorem Fok (n : Nat) : AllF Tryz.prog (F n) := trivial
noncomputable def j0 (n : Nat) (t1 : Int) (t5 : Int) : Option Int :=
bif decide (t1 < 0) then
some (bXor .u64 18446744073709551615 t5)
else
some t5
noncomputable def D0 (n : Nat) : FragD := ⟨⟨[(1, pi), (5, ph (.int .u64))], []⟩, [⟨0, ⟨[(5, ph (.int .u64))], []⟩, Int, fun x => x.1.1, fun r => ((r, ()), ()), fun _ => rfl⟩], fun x => j0 n x.1.1 x.1.2.1⟩
theorem T0 (n : Nat) : FragOK Tryz.prog 32 (atN K 400 14) (D0 n) := fragR ⟨Tryz.prog, 32, F n, [], [], []⟩ (Fok n) trivial noL 14 (by kernel_rfl) (fun x => by kernel_rfl)
noncomputable abbrev r0 (n : Nat) : List (Nat × FragD) := (14, D0 n) :: []
theorem R0 (n : Nat) : AllFr Tryz.prog 32 K (r0 n) := ⟨T0 n, trivial⟩
noncomputable def s1 (n : Nat) (t5 : Int) (o0 : List Int) : Option ((Int × List Int) ⊕ (Int × List Int)) :=
bif decide (t5 ≥ 128) then
ck (room (o0.length + 1) 1) <|
some (.inl (Int.fdiv t5 128, (o0 ++ [bOr .u8 (W .u8 t5) 128])))
else
some (.inr (t5, o0))
noncomputable def l1 (n : Nat) : Nat → Int → List Int → Option (Int × List Int)
| 0, _, _ => none
| k + 1, t5, o0 => (s1 n t5 o0).bind fun z => sm z (fun z => l1 n k z.1 z.2) some
noncomputable def L1 (n : Nat) : LoopD := ⟨[(5, ph (.int .u64)), (6, po 0)], [], [.row 5 (.int .u8)], Int × List Int, fun x => (x.1.1, x.2.1), fun r => ((r.1, (), ()), (r.2, ())), fun _ => rfl, ⟨2, ⟨[(5, ph (.int .u64)), (6, po 1)], [.gone, .row 5 (.int .u8)]⟩, Int × List Int, fun x => (x.1.1, x.2.2.1), fun r => ((r.1, (), ()), ((), r.2, ())), fun _ => rfl⟩, [], fun x => s1 n x.1.1 x.2.1, []⟩
theorem T1 (n : Nat) : FragOK Tryz.prog 32 (atN K 400 124) ((L1 n).loopD fun x => l1 n n x.1.1 x.2.1) := loopR (L1 n) 124 (by kernel_rfl) (by kernel_rfl) (fragK ⟨Tryz.prog, 32, F n, (r0 n), [], []⟩ (Fok n) (R0 n) noL 248 (by kernel_rfl) (fun x => by kernel_rfl)) (fun k x => l1 n k x.1.1 x.2.1) (fun x => by kernel_rfl) (fun k x => by kernel_rfl) n
noncomputable abbrev r1 (n : Nat) : List (Nat × FragD) := (124, ((L1 n).loopD fun x => l1 n n x.1.1 x.2.1)) :: (r0 n)
theorem R1 (n : Nat) : AllFr Tryz.prog 32 K (r1 n) := ⟨T1 n, R0 n⟩
end armillaryref27_AppendVarint
open armillaryref27_AppendVarint in
noncomputable def armillaryref27_AppendVarint (n : Nat) (t0 : List Int) (t1 : Int) : Option (List Int) :=
(j0 n t1 (W .u64 ((W .u64 t1) * 2))).bind fun z2 =>
ck (room (0 + t0.length) 1) <|
(l1 n n z2 (([] : List Int) ++ t0)).bind fun z4 =>
ck (room (z4.2.length + 1) 1) <|
some (z4.2 ++ [W .u8 z4.1])
noncomputable def armillaryref27_AppendVarint.d (n : Nat) : FragD := ⟨⟨[(0, ph (.row (.int .u8))), (1, pi)], []⟩, [⟨1, ⟨[(0, po 0)], [.row 5 (.int .u8)]⟩, List Int, fun x => x.2.1, fun r => (((), ()), (r, ())), fun _ => rfl⟩], fun x => armillaryref27_AppendVarint n x.1.1 x.1.2.1⟩
open armillaryref27_AppendVarint in
theorem armillaryref27_AppendVarint.ok (n : Nat) : FunOK Tryz.prog 68 (armillaryref27_AppendVarint.d n) := funR ⟨Tryz.prog, 32, F n, (r1 n), [], []⟩ Tryz.f68 (by kernel_rfl) (by kernel_rfl) (by kernel_rfl) (Fok n) (R1 n) noL (by kernel_rfl) (fun x => by kernel_rfl)

namespace armillaryref27_EncodeEntry
noncomputable abbrev K := cBody Tryz.f41
noncomputable abbrev F (n : Nat) : List (Nat × FragD) := [(38, armillaryref27_ValidEntry.d), (68, armillaryref27_AppendVarint.d n)]
theorem Fok (n : Nat) : AllF Tryz.prog (F n) := ⟨armillaryref27_ValidEntry.ok, armillaryref27_AppendVarint.ok n, trivial⟩
end armillaryref27_EncodeEntry
open armillaryref27_EncodeEntry in
noncomputable def armillaryref27_EncodeEntry (n : Nat) (t0 : S26) : Option (Int × List Int) :=
(armillaryref27_ValidEntry t0).bind fun z1 =>
bif !z1 then
some (1, ([] : List Int))
else
(armillaryref27_AppendVarint n ([] : List Int) t0.1).bind fun z2 =>
(armillaryref27_AppendVarint n z2 (t0.2.1.size : Int)).bind fun z3 =>
ck (decide (t0.2.1.size ≤ 9223372036854775807)) <|
ck (room (z3.length + (bytesOf t0.2.1).length) 1) <|
(armillaryref27_AppendVarint n (z3 ++ (bytesOf t0.2.1)) (t0.2.2.length : Int)).bind fun z4 =>
ck (room (z4.length + t0.2.2.length) 1) <|
some (0, z4 ++ t0.2.2)
noncomputable def armillaryref27_EncodeEntry.d (n : Nat) : FragD := ⟨⟨[(0, pst c26)], []⟩, [⟨1, ⟨[(0, .tup [.c (.sl 0), .c (.h (.int .i64))])], [.row 5 (.int .u8)]⟩, Int × List Int, fun x => (x.1.1.2.1, x.2.1), fun r => ((((), r.1, ()), ()), (r.2, ())), fun _ => rfl⟩], fun x => armillaryref27_EncodeEntry n x.1.1⟩
open armillaryref27_EncodeEntry in
theorem armillaryref27_EncodeEntry.ok (n : Nat) : FunOK Tryz.prog 41 (armillaryref27_EncodeEntry.d n) := funR ⟨Tryz.prog, 30, F n, [], [], []⟩ Tryz.f41 (by kernel_rfl) (by kernel_rfl) (by kernel_rfl) (Fok n) trivial noL (by kernel_rfl) (fun x => by kernel_rfl)

namespace armillaryref29_replicas
noncomputable abbrev K := cBody Tryz.f53
noncomputable abbrev F : List (Nat × FragD) := []
theorem Fok : AllF Tryz.prog (F) := trivial
end armillaryref29_replicas
open armillaryref29_replicas in
noncomputable def armillaryref29_replicas (t0 : Int) : Option Bool :=
bif decide (t0 ≥ 1) then
some (decide (t0 ≤ 13))
else
some false
noncomputable def armillaryref29_replicas.d : FragD := ⟨⟨[(0, pi)], []⟩, [⟨1, ⟨[(0, pb)], []⟩, Bool, fun x => x.1.1, fun r => ((r, ()), ()), fun _ => rfl⟩], fun x => armillaryref29_replicas x.1.1⟩
open armillaryref29_replicas in
theorem armillaryref29_replicas.ok : FunOK Tryz.prog 53 (armillaryref29_replicas.d) := funR ⟨Tryz.prog, 9, F, [], [], []⟩ Tryz.f53 (by kernel_rfl) (by kernel_rfl) (by kernel_rfl) (Fok) trivial noL (by kernel_rfl) (fun x => by kernel_rfl)

namespace armillaryref29_Leader
noncomputable abbrev K := cBody Tryz.f37
noncomputable abbrev F : List (Nat × FragD) := [(53, armillaryref29_replicas.d)]
theorem Fok : AllF Tryz.prog (F) := ⟨armillaryref29_replicas.ok, trivial⟩
end armillaryref29_Leader
open armillaryref29_Leader in
noncomputable def armillaryref29_Leader (t0 : Int) (t1 : Int) : Option Int :=
(armillaryref29_replicas t0).bind fun z1 =>
bif !z1 then
some (-1)
else
bif decide (t1 < 0) then
some (-1)
else
ck (!decide (t0 = 0)) <|
some (t1.tmod t0)
noncomputable def armillaryref29_Leader.d : FragD := ⟨⟨[(0, pi), (1, pi)], []⟩, [⟨1, ⟨[(0, pi)], []⟩, Int, fun x => x.1.1, fun r => ((r, ()), ()), fun _ => rfl⟩], fun x => armillaryref29_Leader x.1.1 x.1.2.1⟩
open armillaryref29_Leader in
theorem armillaryref29_Leader.ok : FunOK Tryz.prog 37 (armillaryref29_Leader.d) := funR ⟨Tryz.prog, 15, F, [], [], []⟩ Tryz.f37 (by kernel_rfl) (by kernel_rfl) (by kernel_rfl) (Fok) trivial noL (by kernel_rfl) (fun x => by kernel_rfl)

namespace armillaryref27_Checksum
noncomputable abbrev K := cBody Tryz.f43
noncomputable abbrev F (n : Nat) : List (Nat × FragD) := []
theorem Fok (n : Nat) : AllF Tryz.prog (F n) := trivial
noncomputable def s0 (n : Nat) (t3 : Int) (t5 : Int) : Option ((Int × Int) ⊕ Int) :=
bif decide (t5 < 8) then
bif (bAnd .u32 t3 1) == 1 then
some (.inl ((bXor .u32 (Int.fdiv t3 2) 3988292384), W .i64 (t5 + 1)))
else
some (.inl (Int.fdiv t3 2, W .i64 (t5 + 1)))
else
some (.inr t3)
noncomputable def l0 (n : Nat) : Nat → Int → Int → Option Int
| 0, _, _ => none
| k + 1, t3, t5 => (s0 n t3 t5).bind fun z => sm z (fun z => l0 n k z.1 z.2) some
noncomputable def L0 (n : Nat) : LoopD := ⟨[(3, ph (.int .u32)), (5, pi)], [], [], Int × Int, fun x => (x.1.1, x.1.2.1), fun r => ((r.1, r.2, ()), ()), fun _ => rfl, ⟨4, ⟨[(3, ph (.int .u32))], []⟩, Int, fun x => x.1.1, fun r => ((r, ()), ()), fun _ => rfl⟩, [], fun x => s0 n x.1.1 x.1.2.1, []⟩
theorem T0 (n : Nat) : FragOK Tryz.prog 33 (atN K 400 7462) ((L0 n).loopD fun x => l0 n n x.1.1 x.1.2.1) := loopR (L0 n) 7462 (by kernel_rfl) (by kernel_rfl) (fragK ⟨Tryz.prog, 33, F n, [], [], []⟩ (Fok n) trivial noL 14924 (by kernel_rfl) (fun x => by kernel_rfl)) (fun k x => l0 n k x.1.1 x.1.2.1) (fun x => by kernel_rfl) (fun k x => by kernel_rfl) n
noncomputable abbrev r0 (n : Nat) : List (Nat × FragD) := (7462, ((L0 n).loopD fun x => l0 n n x.1.1 x.1.2.1)) :: []
theorem R0 (n : Nat) : AllFr Tryz.prog 33 K (r0 n) := ⟨T0 n, trivial⟩
noncomputable def s1 (n : Nat) (t3 : Int) (t4 : Int) (t0 : List Int) : Option ((Int × Int) ⊕ Int) :=
bif (decide (t4 < (t0.length : Int))) then
ck (inb t4 t0.length) <|
(l0 n n (bXor .u32 t3 (W .u32 (t0.getD t4.toNat 0))) 0).bind fun z4 =>
some (.inl (z4, W .i64 (t4 + 1)))
else
some (.inr t3)
noncomputable def l1 (n : Nat) : Nat → Int → Int → List Int → Option Int
| 0, _, _, _ => none
| k + 1, t3, t4, t0 => (s1 n t3 t4 t0).bind fun z => sm z (fun z => l1 n k z.1 z.2 t0) some
noncomputable def L1 (n : Nat) : LoopD := ⟨[(3, ph (.int .u32)), (4, pi)], [(0, ph (.row (.int .u8)))], [], Int × Int, fun x => (x.1.1, x.1.2.1), fun r => ((r.1, r.2, ()), ()), fun _ => rfl, ⟨2, ⟨[(3, ph (.int .u32))], []⟩, Int, fun x => x.1.1, fun r => ((r, ()), ()), fun _ => rfl⟩, [], fun x => s1 n x.1.1 x.1.2.1 x.1.2.2.1, []⟩
theorem T1 (n : Nat) : FragOK Tryz.prog 33 (atN K 400 58) ((L1 n).loopD fun x => l1 n n x.1.1 x.1.2.1 x.1.2.2.1) := loopR (L1 n) 58 (by kernel_rfl) (by kernel_rfl) (fragK ⟨Tryz.prog, 33, F n, (r0 n), [], []⟩ (Fok n) (R0 n) noL 116 (by kernel_rfl) (fun x => by kernel_rfl)) (fun k x => l1 n k x.1.1 x.1.2.1 x.1.2.2.1) (fun x => by kernel_rfl) (fun k x => by kernel_rfl) n
noncomputable abbrev r1 (n : Nat) : List (Nat × FragD) := (58, ((L1 n).loopD fun x => l1 n n x.1.1 x.1.2.1 x.1.2.2.1)) :: (r0 n)
theorem R1 (n : Nat) : AllFr Tryz.prog 33 K (r1 n) := ⟨T1 n, R0 n⟩
end armillaryref27_Checksum
open armillaryref27_Checksum in
noncomputable def armillaryref27_Checksum (n : Nat) (t0 : List Int) : Option Int :=
(l1 n n 4294967295 0 t0).bind fun z5 =>
some (bXor .u32 z5 4294967295)
noncomputable def armillaryref27_Checksum.d (n : Nat) : FragD := ⟨⟨[(0, ph (.row (.int .u8)))], []⟩, [⟨1, ⟨[(0, ph (.int .u32))], []⟩, Int, fun x => x.1.1, fun r => ((r, ()), ()), fun _ => rfl⟩], fun x => armillaryref27_Checksum n x.1.1⟩
open armillaryref27_Checksum in
theorem armillaryref27_Checksum.ok (n : Nat) : FunOK Tryz.prog 43 (armillaryref27_Checksum.d n) := funR ⟨Tryz.prog, 33, F n, (r1 n), [], []⟩ Tryz.f43 (by kernel_rfl) (by kernel_rfl) (by kernel_rfl) (Fok n) (R1 n) noL (by kernel_rfl) (fun x => by kernel_rfl)

namespace armillaryref30_MadeMessage
noncomputable abbrev K := cBody Tryz.f46
noncomputable abbrev F (n : Nat) : List (Nat × FragD) := [(47, armillaryref30_entry.d), (41, armillaryref27_EncodeEntry.d n), (37, armillaryref29_Leader.d), (43, armillaryref27_Checksum.d n)]
theorem Fok (n : Nat) : AllF Tryz.prog (F n) := ⟨armillaryref30_entry.ok, armillaryref27_EncodeEntry.ok n, armillaryref29_Leader.ok, armillaryref27_Checksum.ok n, trivial⟩
end armillaryref30_MadeMessage
open armillaryref30_MadeMessage in
noncomputable def armillaryref30_MadeMessage (n : Nat) (t0 : S28) (t1 : Int) (t2 : Int) : Option S28 :=
let v1 := W .i64 (1 + (bAnd .i64 t0.1 3));
ck (!decide (t2 = 0)) <|
let v2 := (bAnd .i64 t0.2.1 255).tmod t2;
(armillaryref30_entry t1).bind fun z3 =>
(armillaryref27_EncodeEntry n z3).bind fun z4 =>
bif v1 == 1 then
(armillaryref29_Leader t2 (bAnd .i64 t0.2.2.1 3)).bind fun z5 =>
(armillaryref27_Checksum n z4.2).bind fun z6 =>
some (v1, z5, bAnd .i64 t0.2.2.1 3, bAnd .i64 t0.2.2.2.1 1, z6, z3)
else
bif v1 == 4 then
some (v1, v2, bAnd .i64 t0.2.2.1 3, 0, 0, 0, (⟨#[]⟩ : ByteArray), ([] : List Int))
else
(armillaryref27_Checksum n z4.2).bind fun z7 =>
some (v1, v2, bAnd .i64 t0.2.2.1 3, bAnd .i64 t0.2.2.2.1 1, z7, 0, (⟨#[]⟩ : ByteArray), ([] : List Int))
noncomputable def armillaryref30_MadeMessage.d (n : Nat) : FragD := ⟨⟨[(0, pst c28), (1, ph (.int .u8)), (2, pi)], []⟩, [⟨1, ⟨[(0, pst c28)], []⟩, S28, fun x => x.1.1, fun r => ((r, ()), ()), fun _ => rfl⟩], fun x => armillaryref30_MadeMessage n x.1.1 x.1.2.1 x.1.2.2.1⟩
open armillaryref30_MadeMessage in
theorem armillaryref30_MadeMessage.ok (n : Nat) : FunOK Tryz.prog 46 (armillaryref30_MadeMessage.d n) := funR ⟨Tryz.prog, 55, F n, [], [], []⟩ Tryz.f46 (by kernel_rfl) (by kernel_rfl) (by kernel_rfl) (Fok n) trivial noL (by kernel_rfl) (fun x => by kernel_rfl)

namespace armillarylaw30_apply
noncomputable abbrev K := cBody Tryz.f19
noncomputable abbrev F (n : Nat) : List (Nat × FragD) := [(10, replica_Propose.d n), (12, replica_Timeout.d n), (15, replica_Recover.d), (46, armillaryref30_MadeMessage.d n), (8, replica_Handle.d n)]
theorem Fok (n : Nat) : AllF Tryz.prog (F n) := ⟨replica_Propose.ok n, replica_Timeout.ok n, replica_Recover.ok, armillaryref30_MadeMessage.ok n, replica_Handle.ok n, trivial⟩
end armillarylaw30_apply
open armillarylaw30_apply in
noncomputable def armillarylaw30_apply (n : Nat) (t0 : S33) (t1 : S49) : Option (S33 × List S28) :=
bif (t1.1.tmod 12) == 0 then
let v1 := [(⟨#[97]⟩ : ByteArray), (⟨#[98]⟩ : ByteArray), (⟨#[99]⟩ : ByteArray)];
ck (inb (t1.2.2.tmod 3) v1.length) <|
(replica_Propose n t0 (1, (v1.getD (t1.2.2.tmod 3).toNat (⟨#[]⟩ : ByteArray)), ([] : List Int))).bind fun z3 =>
some ((z3.1, z3.2.1, z3.2.2.1, z3.2.2.2.1, z3.2.2.2.2.1, z3.2.2.2.2.2.1), z3.2.2.2.2.2.2.1)
else
bif (t1.1.tmod 12) == 1 then
(replica_Timeout n t0).bind fun z4 =>
some (z4.1, z4.2)
else
bif (t1.1.tmod 12) == 2 then
(replica_Recover t0).bind fun z5 =>
some (z5, ([] : List S28))
else
(armillaryref30_MadeMessage n t1.2.1 t1.2.2 (iMax t0.2.1 1)).bind fun z6 =>
(replica_Handle n t0 z6).bind fun z7 =>
some (z7.1, z7.2)
noncomputable def armillarylaw30_apply.d (n : Nat) : FragD := ⟨⟨[(0, pst c33), (1, pst c49)], []⟩, [⟨1, ⟨[(0, .tup [.st c33, .c (.h (.row c28))])], []⟩, S33 × List S28, fun x => (x.1.1.1, x.1.1.2.1), fun r => (((r.1, r.2, ()), ()), ()), fun _ => rfl⟩], fun x => armillarylaw30_apply n x.1.1 x.1.2.1⟩
open armillarylaw30_apply in
theorem armillarylaw30_apply.ok (n : Nat) : FunOK Tryz.prog 19 (armillarylaw30_apply.d n) := funR ⟨Tryz.prog, 61, F n, [], [], []⟩ Tryz.f19 (by kernel_rfl) (by kernel_rfl) (by kernel_rfl) (Fok n) trivial noL (by kernel_rfl) (fun x => by kernel_rfl)

namespace armillarylaw30_run
noncomputable abbrev K := cBody Tryz.f5
noncomputable abbrev F (n : Nat) : List (Nat × FragD) := [(17, replica_New.d), (19, armillarylaw30_apply.d n)]
theorem Fok (n : Nat) : AllF Tryz.prog (F n) := ⟨replica_New.ok, armillarylaw30_apply.ok n, trivial⟩
noncomputable def j0 (n : Nat) (t2 : List S49) (t9 : Int) : Option (Unit ⊕ Unit) :=
bif (decide (t9 < (t2.length : Int))) then
bif decide (t9 < 40) then
some (.inl ())
else
some (.inr ())
else
some (.inr ())
noncomputable def D0 (n : Nat) : FragD := ⟨⟨[(2, ph (.row c49)), (9, pi)], []⟩, [⟨0, ⟨[], []⟩, Unit, fun _ => (), fun _ => ((), ()), fun _ => rfl⟩, ⟨2, ⟨[], []⟩, Unit, fun _ => (), fun _ => ((), ()), fun _ => rfl⟩], fun x => j0 n x.1.1 x.1.2.1⟩
theorem T0 (n : Nat) : FragOK Tryz.prog 43 (atN K 400 488) (D0 n) := fragR ⟨Tryz.prog, 43, F n, [], [], []⟩ (Fok n) trivial noL 488 (by kernel_rfl) (fun x => by kernel_rfl)
noncomputable abbrev r0 (n : Nat) : List (Nat × FragD) := (488, D0 n) :: []
theorem R0 (n : Nat) : AllFr Tryz.prog 43 K (r0 n) := ⟨T0 n, trivial⟩
noncomputable def s1 (n : Nat) (t9 : Int) (t2 : List S49) (o0 : S33) : Option ((Int × S33) ⊕ S33) :=
(j0 n t2 t9).bind fun z4 =>
sm z4 (fun z5 =>
ck (inb t9 t2.length) <|
(armillarylaw30_apply n o0 ((t2.getD t9.toNat z49).1, ((((t2.getD t9.toNat z49).2).1).1, ((((t2.getD t9.toNat z49).2).1).2).1, (((((t2.getD t9.toNat z49).2).1).2).2).1, ((((((t2.getD t9.toNat z49).2).1).2).2).2).1, (((((((t2.getD t9.toNat z49).2).1).2).2).2).2).1, ((((((((t2.getD t9.toNat z49).2).1).2).2).2).2).2).1, (((((((((t2.getD t9.toNat z49).2).1).2).2).2).2).2).2)), ((t2.getD t9.toNat z49).2).2)).bind fun z7 =>
some (.inl (W .i64 (t9 + 1), z7.1))) fun z6 =>
some (.inr o0)
noncomputable def l1 (n : Nat) : Nat → Int → List S49 → S33 → Option S33
| 0, _, _, _ => none
| k + 1, t9, t2, o0 => (s1 n t9 t2 o0).bind fun z => sm z (fun z => l1 n k z.1 t2 z.2) some
noncomputable def L1 (n : Nat) : LoopD := ⟨[(8, pp 0), (9, pi)], [(2, ph (.row c49))], [.stb 33 c33], Int × S33, fun x => (x.1.2.1, x.2.1), fun r => (((), r.1, ()), (r.2, ())), fun _ => rfl, ⟨2, ⟨[], [.stb 33 c33]⟩, S33, fun x => x.2.1, fun r => ((), (r, ())), fun _ => rfl⟩, [], fun x => s1 n x.1.2.1 x.1.2.2.1 x.2.1, [0]⟩
theorem T1 (n : Nat) : FragOK Tryz.prog 43 (atN K 400 122) ((L1 n).loopD fun x => l1 n n x.1.2.1 x.1.2.2.1 x.2.1) := loopR (L1 n) 122 (by kernel_rfl) (by kernel_rfl) (fragK ⟨Tryz.prog, 43, F n, (r0 n), [], []⟩ (Fok n) (R0 n) noL 244 (by kernel_rfl) (fun x => by kernel_rfl)) (fun k x => l1 n k x.1.2.1 x.1.2.2.1 x.2.1) (fun x => by kernel_rfl) (fun k x => by kernel_rfl) n
noncomputable abbrev r1 (n : Nat) : List (Nat × FragD) := (122, ((L1 n).loopD fun x => l1 n n x.1.2.1 x.1.2.2.1 x.2.1)) :: (r0 n)
theorem R1 (n : Nat) : AllFr Tryz.prog 43 K (r1 n) := ⟨T1 n, R0 n⟩
end armillarylaw30_run
open armillarylaw30_run in
noncomputable def armillarylaw30_run (n : Nat) (t0 : Int) (t1 : Int) (t2 : List S49) : Option S33 :=
let v1 := W .i64 (1 + (W .i64 (t1.tmod 7)));
ck (!decide (v1 = 0)) <|
(replica_New ((W .i64 t0).tmod v1) v1).bind fun z2 =>
(l1 n n 0 t2 z2).bind fun z8 =>
some z8
noncomputable def armillarylaw30_run.d (n : Nat) : FragD := ⟨⟨[(0, ph (.int .u8)), (1, ph (.int .u8)), (2, ph (.row c49))], []⟩, [⟨1, ⟨[(0, pst c33)], []⟩, S33, fun x => x.1.1, fun r => ((r, ()), ()), fun _ => rfl⟩], fun x => armillarylaw30_run n x.1.1 x.1.2.1 x.1.2.2.1⟩
open armillarylaw30_run in
theorem armillarylaw30_run.ok (n : Nat) : FunOK Tryz.prog 5 (armillarylaw30_run.d n) := funR ⟨Tryz.prog, 43, F n, (r1 n), [], []⟩ Tryz.f5 (by kernel_rfl) (by kernel_rfl) (by kernel_rfl) (Fok n) (R1 n) noL (by kernel_rfl) (fun x => by kernel_rfl)

namespace armillaryref30_New
noncomputable abbrev K := cBody Tryz.f20
noncomputable abbrev F : List (Nat × FragD) := []
theorem Fok : AllF Tryz.prog (F) := trivial
end armillaryref30_New
open armillaryref30_New in
noncomputable def armillaryref30_New (t0 : Int) (t1 : Int) : Option S33 :=
some (t0, t1, 0, ([] : List S28), ([] : List S28), ([] : List S26))
noncomputable def armillaryref30_New.d : FragD := ⟨⟨[(0, pi), (1, pi)], []⟩, [⟨1, ⟨[(0, pst c33)], []⟩, S33, fun x => x.1.1, fun r => ((r, ()), ()), fun _ => rfl⟩], fun x => armillaryref30_New x.1.1 x.1.2.1⟩
open armillaryref30_New in
theorem armillaryref30_New.ok : FunOK Tryz.prog 20 (armillaryref30_New.d) := funR ⟨Tryz.prog, 8, F, [], [], []⟩ Tryz.f20 (by kernel_rfl) (by kernel_rfl) (by kernel_rfl) (Fok) trivial noL (by kernel_rfl) (fun x => by kernel_rfl)

namespace armillaryref30_said
noncomputable abbrev K := cBody Tryz.f39
noncomputable abbrev F (n : Nat) : List (Nat × FragD) := []
theorem Fok (n : Nat) : AllF Tryz.prog (F n) := trivial
noncomputable def s0 (n : Nat) (t9 : Int) (t1 : Int) (t2 : Int) (t3 : Int) (o0 : S33) : Option ((Int × S33) ⊕ ((Bool × S33) ⊕ S33)) :=
bif (decide (t9 < (o0.2.2.2.2.1.length : Int))) then
ck (inb t9 o0.2.2.2.2.1.length) <|
bif (o0.2.2.2.2.1.getD t9.toNat z28).1 == t1 then
ck (inb t9 o0.2.2.2.2.1.length) <|
bif (o0.2.2.2.2.1.getD t9.toNat z28).2.2.1 == t2 then
ck (inb t9 o0.2.2.2.2.1.length) <|
bif (o0.2.2.2.2.1.getD t9.toNat z28).2.2.2.1 == t3 then
some (.inr (.inl (true, o0)))
else
some (.inl (W .i64 (t9 + 1), o0))
else
some (.inl (W .i64 (t9 + 1), o0))
else
some (.inl (W .i64 (t9 + 1), o0))
else
some (.inr (.inr o0))
noncomputable def l0 (n : Nat) : Nat → Int → Int → Int → Int → S33 → Option ((Bool × S33) ⊕ S33)
| 0, _, _, _, _, _ => none
| k + 1, t9, t1, t2, t3, o0 => (s0 n t9 t1 t2 t3 o0).bind fun z => sm z (fun z => l0 n k z.1 t1 t2 t3 z.2) some
noncomputable def L0 (n : Nat) : LoopD := ⟨[(4, pp 0), (9, pi)], [(1, pi), (2, pi), (3, pi)], [.stb 33 c33], Int × S33, fun x => (x.1.2.1, x.2.1), fun r => (((), r.1, ()), (r.2, ())), fun _ => rfl, ⟨1, ⟨[(8, pb)], [.stb 33 c33]⟩, Bool × S33, fun x => (x.1.1, x.2.1), fun r => ((r.1, ()), (r.2, ())), fun _ => rfl⟩, [⟨2, ⟨[], [.stb 33 c33]⟩, S33, fun x => x.2.1, fun r => ((), (r, ())), fun _ => rfl⟩], fun x => s0 n x.1.2.1 x.1.2.2.1 x.1.2.2.2.1 x.1.2.2.2.2.1 x.2.1, [0]⟩
theorem T0 (n : Nat) : FragOK Tryz.prog 45 (atN K 400 26) ((L0 n).loopD fun x => l0 n n x.1.2.1 x.1.2.2.1 x.1.2.2.2.1 x.1.2.2.2.2.1 x.2.1) := loopR (L0 n) 26 (by kernel_rfl) (by kernel_rfl) (fragK ⟨Tryz.prog, 45, F n, [], [], []⟩ (Fok n) trivial noL 52 (by kernel_rfl) (fun x => by kernel_rfl)) (fun k x => l0 n k x.1.2.1 x.1.2.2.1 x.1.2.2.2.1 x.1.2.2.2.2.1 x.2.1) (fun x => by kernel_rfl) (fun k x => by kernel_rfl) n
noncomputable abbrev r0 (n : Nat) : List (Nat × FragD) := (26, ((L0 n).loopD fun x => l0 n n x.1.2.1 x.1.2.2.1 x.1.2.2.2.1 x.1.2.2.2.2.1 x.2.1)) :: []
theorem R0 (n : Nat) : AllFr Tryz.prog 45 K (r0 n) := ⟨T0 n, trivial⟩
end armillaryref30_said
open armillaryref30_said in
noncomputable def armillaryref30_said (n : Nat) (t0 : S33) (t1 : Int) (t2 : Int) (t3 : Int) : Option Bool :=
(l0 n n 0 t1 t2 t3 t0).bind fun z5 =>
sm z5 (fun z6 =>
some z6.1) fun z7 =>
some false
noncomputable def armillaryref30_said.d (n : Nat) : FragD := ⟨⟨[(0, pst c33), (1, pi), (2, pi), (3, pi)], []⟩, [⟨1, ⟨[(0, pb)], []⟩, Bool, fun x => x.1.1, fun r => ((r, ()), ()), fun _ => rfl⟩], fun x => armillaryref30_said n x.1.1 x.1.2.1 x.1.2.2.1 x.1.2.2.2.1⟩
open armillaryref30_said in
theorem armillaryref30_said.ok (n : Nat) : FunOK Tryz.prog 39 (armillaryref30_said.d n) := funR ⟨Tryz.prog, 45, F n, (r0 n), [], []⟩ Tryz.f39 (by kernel_rfl) (by kernel_rfl) (by kernel_rfl) (Fok n) (R0 n) noL (by kernel_rfl) (fun x => by kernel_rfl)

namespace armillaryref29_Sum
noncomputable abbrev K := cBody Tryz.f54
noncomputable abbrev F (n : Nat) : List (Nat × FragD) := [(41, armillaryref27_EncodeEntry.d n), (43, armillaryref27_Checksum.d n)]
theorem Fok (n : Nat) : AllF Tryz.prog (F n) := ⟨armillaryref27_EncodeEntry.ok n, armillaryref27_Checksum.ok n, trivial⟩
end armillaryref29_Sum
open armillaryref29_Sum in
noncomputable def armillaryref29_Sum (n : Nat) (t0 : S26) : Option (Int × Bool) :=
(armillaryref27_EncodeEntry n t0).bind fun z1 =>
(armillaryref27_Checksum n z1.2).bind fun z2 =>
some (z2, z1.1 == 0)
noncomputable def armillaryref29_Sum.d (n : Nat) : FragD := ⟨⟨[(0, pst c26)], []⟩, [⟨1, ⟨[(0, .tup [.c (.h (.int .u32)), .c (.h .bool)])], []⟩, Int × Bool, fun x => (x.1.1.1, x.1.1.2.1), fun r => (((r.1, r.2, ()), ()), ()), fun _ => rfl⟩], fun x => armillaryref29_Sum n x.1.1⟩
open armillaryref29_Sum in
theorem armillaryref29_Sum.ok (n : Nat) : FunOK Tryz.prog 54 (armillaryref29_Sum.d n) := funR ⟨Tryz.prog, 15, F n, [], [], []⟩ Tryz.f54 (by kernel_rfl) (by kernel_rfl) (by kernel_rfl) (Fok n) trivial noL (by kernel_rfl) (fun x => by kernel_rfl)

namespace armillaryref29_zero
noncomputable abbrev K := cBody Tryz.f55
noncomputable abbrev F : List (Nat × FragD) := []
theorem Fok : AllF Tryz.prog (F) := trivial
end armillaryref29_zero
open armillaryref29_zero in
noncomputable def armillaryref29_zero (t0 : S26) : Option Bool :=
bif t0.1 == 0 then
bif (t0.2.1.size : Int) == 0 then
some ((t0.2.2.length : Int) == 0)
else
some false
else
some false
noncomputable def armillaryref29_zero.d : FragD := ⟨⟨[(0, pst c26)], []⟩, [⟨1, ⟨[(0, pb)], []⟩, Bool, fun x => x.1.1, fun r => ((r, ()), ()), fun _ => rfl⟩], fun x => armillaryref29_zero x.1.1⟩
open armillaryref29_zero in
theorem armillaryref29_zero.ok : FunOK Tryz.prog 55 (armillaryref29_zero.d) := funR ⟨Tryz.prog, 18, F, [], [], []⟩ Tryz.f55 (by kernel_rfl) (by kernel_rfl) (by kernel_rfl) (Fok) trivial noL (by kernel_rfl) (fun x => by kernel_rfl)

namespace armillaryref29_Valid
noncomputable abbrev K := cBody Tryz.f27
noncomputable abbrev F (n : Nat) : List (Nat × FragD) := [(53, armillaryref29_replicas.d), (54, armillaryref29_Sum.d n), (37, armillaryref29_Leader.d), (55, armillaryref29_zero.d)]
theorem Fok (n : Nat) : AllF Tryz.prog (F n) := ⟨armillaryref29_replicas.ok, armillaryref29_Sum.ok n, armillaryref29_Leader.ok, armillaryref29_zero.ok, trivial⟩
noncomputable def j0 (n : Nat) (t1 : Int) (o0 : S28) : Option (Unit ⊕ Bool) :=
(armillaryref29_replicas t1).bind fun z1 =>
bif !z1 then
some (.inr false)
else
bif decide (o0.2.1 < 0) then
some (.inr false)
else
bif decide (o0.2.1 ≥ t1) then
some (.inr false)
else
bif decide (o0.2.2.1 < 0) then
some (.inr false)
else
bif (decide (o0.2.2.1 > 1048576)) then
some (.inr false)
else
bif decide (o0.2.2.2.1 < 0) then
some (.inr false)
else
bif (decide (o0.2.2.2.1 ≥ 1000)) then
some (.inr false)
else
some (.inl ())
noncomputable def D0 (n : Nat) : FragD := ⟨⟨[(1, pi), (2, pp 0)], [.stb 28 c28]⟩, [⟨0, ⟨[], [.same]⟩, Unit, fun _ => (), fun _ => ((), ((), ())), fun _ => rfl⟩, ⟨1, ⟨[(4, pb)], [.same]⟩, Bool, fun x => x.1.1, fun r => ((r, ()), ((), ())), fun _ => rfl⟩], fun x => j0 n x.1.1 x.2.1⟩
theorem T0 (n : Nat) : FragOK Tryz.prog 92 (atN K 400 6) (D0 n) := fragR ⟨Tryz.prog, 92, F n, [], [], []⟩ (Fok n) trivial noL 6 (by kernel_rfl) (fun x => by kernel_rfl)
noncomputable abbrev r0 (n : Nat) : List (Nat × FragD) := (6, D0 n) :: []
theorem R0 (n : Nat) : AllFr Tryz.prog 92 K (r0 n) := ⟨T0 n, trivial⟩
end armillaryref29_Valid
open armillaryref29_Valid in
noncomputable def armillaryref29_Valid (n : Nat) (t0 : S28) (t1 : Int) : Option Bool :=
(j0 n t1 t0).bind fun z4 =>
sm z4 (fun z5 =>
bif t0.1 == 1 then
(armillaryref29_Sum n t0.2.2.2.2.2).bind fun z7 =>
bif z7.2 then
(armillaryref29_Leader t1 t0.2.2.1).bind fun z8 =>
bif t0.2.1 == z8 then
some (z7.1 == t0.2.2.2.2.1)
else
some false
else
some false
else
bif t0.1 == 2 then
(armillaryref29_zero t0.2.2.2.2.2).bind fun z9 =>
some z9
else
bif t0.1 == 3 then
(armillaryref29_zero t0.2.2.2.2.2).bind fun z10 =>
some z10
else
bif t0.1 == 4 then
(armillaryref29_zero t0.2.2.2.2.2).bind fun z11 =>
bif z11 then
bif t0.2.2.2.1 == 0 then
some (t0.2.2.2.2.1 == 0)
else
some false
else
some false
else
some false) fun z6 =>
some z6
noncomputable def armillaryref29_Valid.d (n : Nat) : FragD := ⟨⟨[(0, pst c28), (1, pi)], []⟩, [⟨1, ⟨[(0, pb)], []⟩, Bool, fun x => x.1.1, fun r => ((r, ()), ()), fun _ => rfl⟩], fun x => armillaryref29_Valid n x.1.1 x.1.2.1⟩
open armillaryref29_Valid in
theorem armillaryref29_Valid.ok (n : Nat) : FunOK Tryz.prog 27 (armillaryref29_Valid.d n) := funR ⟨Tryz.prog, 92, F n, (r0 n), [], []⟩ Tryz.f27 (by kernel_rfl) (by kernel_rfl) (by kernel_rfl) (Fok n) (R0 n) noL (by kernel_rfl) (fun x => by kernel_rfl)

namespace armillaryref29_counts
noncomputable abbrev K := cBody Tryz.f94
noncomputable abbrev F (n : Nat) : List (Nat × FragD) := [(27, armillaryref29_Valid.d n)]
theorem Fok (n : Nat) : AllF Tryz.prog (F n) := ⟨armillaryref29_Valid.ok n, trivial⟩
noncomputable def j0 (n : Nat) (t0 : List S28) (t1 : Int) (t2 : Int) (t7 : Int) : Option (Unit ⊕ Bool) :=
ck (inb t7 t0.length) <|
ck (inb t2 t0.length) <|
bif (((t0.getD t7.toNat z28).1) == ((t0.getD t2.toNat z28).1)) then
ck (inb t7 t0.length) <|
ck (inb t2 t0.length) <|
bif ((((t0.getD t7.toNat z28).2).1) == (((t0.getD t2.toNat z28).2).1)) then
ck (inb t7 t0.length) <|
ck (inb t2 t0.length) <|
bif (((((t0.getD t7.toNat z28).2).2).1) == ((((t0.getD t2.toNat z28).2).2).1)) then
ck (inb t7 t0.length) <|
ck (inb t2 t0.length) <|
bif ((((((t0.getD t7.toNat z28).2).2).2).1) == (((((t0.getD t2.toNat z28).2).2).2).1)) then
ck (inb t7 t0.length) <|
(armillaryref29_Valid n ((t0.getD t7.toNat z28).1, ((t0.getD t7.toNat z28).2).1, (((t0.getD t7.toNat z28).2).2).1, ((((t0.getD t7.toNat z28).2).2).2).1, (((((t0.getD t7.toNat z28).2).2).2).2).1, ((((((t0.getD t7.toNat z28).2).2).2).2).2).1, (((((((t0.getD t7.toNat z28).2).2).2).2).2).2)) t1).bind fun z6 =>
bif z6 then
some (.inr false)
else
some (.inl ())
else
some (.inl ())
else
some (.inl ())
else
some (.inl ())
else
some (.inl ())
noncomputable def D0 (n : Nat) : FragD := ⟨⟨[(0, ph (.row c28)), (1, pi), (2, pi), (7, pi)], []⟩, [⟨0, ⟨[], []⟩, Unit, fun _ => (), fun _ => ((), ()), fun _ => rfl⟩, ⟨1, ⟨[(6, pb)], []⟩, Bool, fun x => x.1.1, fun r => ((r, ()), ()), fun _ => rfl⟩], fun x => j0 n x.1.1 x.1.2.1 x.1.2.2.1 x.1.2.2.2.1⟩
theorem T0 (n : Nat) : FragOK Tryz.prog 78 (atN K 400 466) (D0 n) := fragR ⟨Tryz.prog, 78, F n, [], [], []⟩ (Fok n) trivial noL 466 (by kernel_rfl) (fun x => by kernel_rfl)
noncomputable abbrev r0 (n : Nat) : List (Nat × FragD) := (466, D0 n) :: []
theorem R0 (n : Nat) : AllFr Tryz.prog 78 K (r0 n) := ⟨T0 n, trivial⟩
noncomputable def s1 (n : Nat) (t7 : Int) (t0 : List S28) (t1 : Int) (t2 : Int) : Option (Int ⊕ (Bool ⊕ Unit)) :=
bif decide (t7 < t2) then
(j0 n t0 t1 t2 t7).bind fun z7 =>
sm z7 (fun z8 =>
some (.inl (W .i64 (t7 + 1)))) fun z9 =>
some (.inr (.inl z9))
else
some (.inr (.inr ()))
noncomputable def l1 (n : Nat) : Nat → Int → List S28 → Int → Int → Option (Bool ⊕ Unit)
| 0, _, _, _, _ => none
| k + 1, t7, t0, t1, t2 => (s1 n t7 t0 t1 t2).bind fun z => sm z (fun z => l1 n k z t0 t1 t2) some
noncomputable def L1 (n : Nat) : LoopD := ⟨[(7, pi)], [(0, ph (.row c28)), (1, pi), (2, pi)], [], Int, fun x => x.1.1, fun r => ((r, ()), ()), fun _ => rfl, ⟨1, ⟨[(6, pb)], []⟩, Bool, fun x => x.1.1, fun r => ((r, ()), ()), fun _ => rfl⟩, [⟨2, ⟨[], []⟩, Unit, fun _ => (), fun _ => ((), ()), fun _ => rfl⟩], fun x => s1 n x.1.1 x.1.2.1 x.1.2.2.1 x.1.2.2.2.1, []⟩
theorem T1 (n : Nat) : FragOK Tryz.prog 78 (atN K 400 58) ((L1 n).loopD fun x => l1 n n x.1.1 x.1.2.1 x.1.2.2.1 x.1.2.2.2.1) := loopR (L1 n) 58 (by kernel_rfl) (by kernel_rfl) (fragK ⟨Tryz.prog, 78, F n, (r0 n), [], []⟩ (Fok n) (R0 n) noL 116 (by kernel_rfl) (fun x => by kernel_rfl)) (fun k x => l1 n k x.1.1 x.1.2.1 x.1.2.2.1 x.1.2.2.2.1) (fun x => by kernel_rfl) (fun k x => by kernel_rfl) n
noncomputable abbrev r1 (n : Nat) : List (Nat × FragD) := (58, ((L1 n).loopD fun x => l1 n n x.1.1 x.1.2.1 x.1.2.2.1 x.1.2.2.2.1)) :: (r0 n)
theorem R1 (n : Nat) : AllFr Tryz.prog 78 K (r1 n) := ⟨T1 n, R0 n⟩
end armillaryref29_counts
open armillaryref29_counts in
noncomputable def armillaryref29_counts (n : Nat) (t0 : List S28) (t1 : Int) (t2 : Int) : Option Bool :=
ck (inb t2 t0.length) <|
(armillaryref29_Valid n ((t0.getD t2.toNat z28).1, ((t0.getD t2.toNat z28).2).1, (((t0.getD t2.toNat z28).2).2).1, ((((t0.getD t2.toNat z28).2).2).2).1, (((((t0.getD t2.toNat z28).2).2).2).2).1, ((((((t0.getD t2.toNat z28).2).2).2).2).2).1, (((((((t0.getD t2.toNat z28).2).2).2).2).2).2)) t1).bind fun z1 =>
bif !z1 then
some false
else
(l1 n n 0 t0 t1 t2).bind fun z10 =>
sm z10 (fun z11 =>
some z11) fun z12 =>
some true
noncomputable def armillaryref29_counts.d (n : Nat) : FragD := ⟨⟨[(0, ph (.row c28)), (1, pi), (2, pi)], []⟩, [⟨1, ⟨[(0, pb)], []⟩, Bool, fun x => x.1.1, fun r => ((r, ()), ()), fun _ => rfl⟩], fun x => armillaryref29_counts n x.1.1 x.1.2.1 x.1.2.2.1⟩
open armillaryref29_counts in
theorem armillaryref29_counts.ok (n : Nat) : FunOK Tryz.prog 94 (armillaryref29_counts.d n) := funR ⟨Tryz.prog, 78, F n, (r1 n), [], []⟩ Tryz.f94 (by kernel_rfl) (by kernel_rfl) (by kernel_rfl) (Fok n) (R1 n) noL (by kernel_rfl) (fun x => by kernel_rfl)

namespace armillaryref29_MaxFaulty
noncomputable abbrev K := cBody Tryz.f77
noncomputable abbrev F : List (Nat × FragD) := [(53, armillaryref29_replicas.d)]
theorem Fok : AllF Tryz.prog (F) := ⟨armillaryref29_replicas.ok, trivial⟩
end armillaryref29_MaxFaulty
open armillaryref29_MaxFaulty in
noncomputable def armillaryref29_MaxFaulty (t0 : Int) : Option Int :=
(armillaryref29_replicas t0).bind fun z1 =>
bif !z1 then
some 0
else
some (W .i64 ((W .i64 (t0 - 1)).tdiv 3))
noncomputable def armillaryref29_MaxFaulty.d : FragD := ⟨⟨[(0, pi)], []⟩, [⟨1, ⟨[(0, pi)], []⟩, Int, fun x => x.1.1, fun r => ((r, ()), ()), fun _ => rfl⟩], fun x => armillaryref29_MaxFaulty x.1.1⟩
open armillaryref29_MaxFaulty in
theorem armillaryref29_MaxFaulty.ok : FunOK Tryz.prog 77 (armillaryref29_MaxFaulty.d) := funR ⟨Tryz.prog, 9, F, [], [], []⟩ Tryz.f77 (by kernel_rfl) (by kernel_rfl) (by kernel_rfl) (Fok) trivial noL (by kernel_rfl) (fun x => by kernel_rfl)

namespace armillaryref29_Size
noncomputable abbrev K := cBody Tryz.f95
noncomputable abbrev F : List (Nat × FragD) := [(53, armillaryref29_replicas.d), (77, armillaryref29_MaxFaulty.d)]
theorem Fok : AllF Tryz.prog (F) := ⟨armillaryref29_replicas.ok, armillaryref29_MaxFaulty.ok, trivial⟩
end armillaryref29_Size
open armillaryref29_Size in
noncomputable def armillaryref29_Size (t0 : Int) : Option Int :=
(armillaryref29_replicas t0).bind fun z1 =>
bif !z1 then
some 0
else
(armillaryref29_MaxFaulty t0).bind fun z2 =>
some (W .i64 (t0 - z2))
noncomputable def armillaryref29_Size.d : FragD := ⟨⟨[(0, pi)], []⟩, [⟨1, ⟨[(0, pi)], []⟩, Int, fun x => x.1.1, fun r => ((r, ()), ()), fun _ => rfl⟩], fun x => armillaryref29_Size x.1.1⟩
open armillaryref29_Size in
theorem armillaryref29_Size.ok : FunOK Tryz.prog 95 (armillaryref29_Size.d) := funR ⟨Tryz.prog, 10, F, [], [], []⟩ Tryz.f95 (by kernel_rfl) (by kernel_rfl) (by kernel_rfl) (Fok) trivial noL (by kernel_rfl) (fun x => by kernel_rfl)
end Go.Proofs.YtijhdekfbjafgaaGreat
