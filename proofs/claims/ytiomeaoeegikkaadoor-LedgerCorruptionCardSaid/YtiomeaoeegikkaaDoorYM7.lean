/- What a function of the program computes, and the walk that shows it; made by a program of the session's out of the translation; no conditions beyond those that the theorems name. -/
import Derived.Test.YtiomeaoeegikkaaDoorY3
import Derived.Test.YtiomeaoeegikkaaDoorY5
import Derived.Test.YtiomeaoeegikkaaDoorY6
import Derived.Test.YtiomeaoeegikkaaDoorY4
import Derived.Test.YtiomeaoeegikkaaDoorRows
import Derived.Test.YtiomeaoeegikkaaDoorCards
import Derived.Test.YtiomeaoeegikkaaDoorTie
import Derived.SevenTiedAt
import Derived.WalkKit
import Derived.ProofKit
import Derived.OpenShut
import Derived.ShutString
import Derived.ChangeOld
import Derived.Below
import Derived.Carry
import Derived.WideShapes
namespace Go.Proofs.YtiomeaoeegikkaaDoor
open Go Go.Proofs.YtiomeaoeegikkaaDoor.RW
set_option linter.unusedVariables false
set_option maxRecDepth 100000
set_option maxHeartbeats 8000000

/-! ### armillarylaw28_LedgerCorruption: function 7, armillary/armillarylaw28.LedgerCorruption -/
noncomputable def K7_0 : Code := cBody Tryd.f7
def armillarylaw28_LedgerCorruption.k1  (x3 : Bool) : Option (Bool) := (some x3)
def armillarylaw28_LedgerCorruption.k2  (x6 : Bool) : Option (Bool) := (some x6)
def armillarylaw28_LedgerCorruption.k3 (k : Nat) (a1 : Int) (a2 : Int) (t1 : Bool) (t2 : List S25) (t3 : List Int × Bool) : Int × Int → Option (Bool)
 | (x4, x5) => (if (W .i64 (((W .i64 (a1)).tmod (t3.1.length : Int)) - x5)) < 4 then (some t1) else (if (([] : List Int).length + t3.1.length) * 1 ≤ 140737488355328 then (if 0 ≤ ((W .i64 (a1)).tmod (t3.1.length : Int)) then (if ((W .i64 (a1)).tmod (t3.1.length : Int)) < ((([] : List Int) ++ t3.1).length : Int) then (if 0 ≤ ((W .i64 (a1)).tmod (t3.1.length : Int)) then (if ((W .i64 (a1)).tmod (t3.1.length : Int)) < ((([] : List Int) ++ t3.1).length : Int) then ((ledger_Scan.f k ((([] : List Int) ++ t3.1).set ((W .i64 (a1)).tmod (t3.1.length : Int)).toNat (bXor .u8 ((([] : List Int) ++ t3.1).getD ((W .i64 (a1)).tmod (t3.1.length : Int)).toNat 0) a2))).bind fun t4 => ((if (0 : Int) ≤ x4 then (if x4 ≤ (t2.length : Int) then ((armillaryref28_Same.f k t4.1 (rpart t2 0 x4)).bind fun t5 => (if t5 = true then (if t4.2.1 = x5 then (if t4.2.2 = 270 then (some t1) else (some false)) else (some false)) else (some false))) else none) else none).bind (armillarylaw28_LedgerCorruption.k2))) else none) else none) else none) else none) else none))
def armillarylaw28_LedgerCorruption.l1 (a1 : Int) (t2 : List S25) (t3 : List Int × Bool) : Nat → Int → Int → Int → Option (Int × Int)
 | 0, _, _, _ => none
 | k + 1, x7, x8, x9 => (if x9 < (t2.length : Int) then (if (0 : Int) ≤ (W .i64 (x9 + 1)) then (if (W .i64 (x9 + 1)) ≤ (t2.length : Int) then ((armillarylaw28_build.f k [] (rpart t2 0 (W .i64 (x9 + 1)))).bind fun t6 => ((if (t6.1.length : Int) ≤ ((W .i64 (a1)).tmod (t3.1.length : Int)) then (some (W .i64 (x9 + 1), (t6.1.length : Int))) else (some (x7, x8))).bind (fun (x10, x11) => (armillarylaw28_LedgerCorruption.l1 a1 t2 t3 k x10 x11 (W .i64 (x9 + 1)))))) else none) else none) else (some (x7, x8)))
def armillarylaw28_LedgerCorruption.k5 (k : Nat) (a1 : Int) (a2 : Int) (t1 : Bool) (t2 : List S25) (t3 : List Int × Bool) : Bool × Bool → Option (Bool)
 | (x1, x2) => (if x2 = true then ((if x1 = true then (some t1) else (some false)).bind (armillarylaw28_LedgerCorruption.k1)) else (if (t3.1.length : Int) = 0 then none else ((armillarylaw28_LedgerCorruption.l1 a1 t2 t3 k 0 0 0).bind (armillarylaw28_LedgerCorruption.k3 k a1 a2 t1 t2 t3))))
def armillarylaw28_LedgerCorruption.f (k : Nat) (a0 : List S25) (a1 : Int) (a2 : Int) : Option (Bool) := ((armillarylaw28_sanity.f k ).bind fun t1 => ((armillaryref28_Made.f k a0 8).bind fun t2 => ((armillarylaw28_build.f k [] t2).bind fun t3 => ((if t3.2 = true then (if (t2.length : Int) = 0 then (some (true, true)) else (some (true, (a2 == 0)))) else (some (false, true))).bind (armillarylaw28_LedgerCorruption.k5 k a1 a2 t1 t2 t3)))))
def armillarylaw28_LedgerCorruption.Post (I : Imm) (w : World) (r : Bool) (v : Value) (w' : World) : Prop :=
 ∃ (J : Imm), v = .bool r ∧ Got w w' I J []
theorem armillarylaw28_LedgerCorruption.calls (k : Nat) (I0 : Imm) (a0 : List S25) (Ap0 : Option Addr) (cp0 : Nat) (a1 : Int) (a2 : Int) (w : World) (hI : I0.at_ w) (hG : Glob I0) (hlp0 : a0.length ≤ cp0) (hrp0 : Rd t25 I0 Ap0 a0) (r : Bool) (h : armillarylaw28_LedgerCorruption.f k a0 a1 a2 = some r) :
  Calls Tryd.prog 7 [.slice Ap0 a0.length cp0, .int .u16 a1, .int .u8 a2].toArray w fun e w' => ∃ v, e = .returned v ∧ armillarylaw28_LedgerCorruption.Post I0 w r v w' := by
 have H : ((armillarylaw28_sanity.f k ).bind fun t1 => ((armillaryref28_Made.f k a0 8).bind fun t2 => ((armillarylaw28_build.f k [] t2).bind fun t3 => ((if t3.2 = true then (if (t2.length : Int) = 0 then (some (true, true)) else (some (true, (a2 == 0)))) else (some (false, true))).bind (armillarylaw28_LedgerCorruption.k5 k a1 a2 t1 t2 t3))))) = some r := h
 clear h
 refine calls_body Tryd.func7 (by kernel_rfl) 111 (by kernel_rfl) (by kernel_rfl) ⟨w, fun _ => False, I0⟩ I0 [] [(0, .slice Ap0 a0.length cp0), (1, .int .u16 a1), (2, .int .u8 a2)] (by kernel_rfl) (Sat.start w _ I0 hI) ?_
 generalize w.heap.size = nx0
 show OK _ K7_0 _ _ _ _ _ _ _ _
 refine OK.sr ?_
 refine RL.st 1 [(0, .slice Ap0 a0.length cp0), (1, .int .u16 a1), (2, .int .u8 a2)] ?_
 refine OK.sr ?_
 obtain ⟨t1, hA1, H⟩ := bnd H
 refine RL.callP 11 [] (some 21) (fun w => armillarylaw28_sanity.Post I0 w t1) (by kernel_rfl) (by kernel_rfl) (fun w hs => armillarylaw28_sanity.calls k I0  w hs.im hG t1 hA1) ?_
 rintro w v w' hs ⟨I1, rfl, hg⟩
 have hi1 := hg.le
 refine RL.resume (X' := []) rfl (hs.call hg) ?_
 clear hs hg
 generalize w'.heap.size = nx1
 clear w w'
 refine RL.st 1 [(7, .bool t1), (0, .slice Ap0 a0.length cp0), (1, .int .u16 a1), (2, .int .u8 a2)] ?_
 refine OK.sr ?_
 refine RL.s 1 [(22, .slice Ap0 a0.length cp0), (7, .bool t1), (1, .int .u16 a1), (2, .int .u8 a2)] ?_
 obtain ⟨t2, hA2, H⟩ := bnd H
 refine RL.callP 12 [.slice Ap0 a0.length cp0, i6 8] (some 23) (fun w => armillaryref28_Made.Post I1 w t2) (by kernel_rfl) (by kernel_rfl) (fun w hs => armillaryref28_Made.calls k I1 a0 Ap0 cp0 8 w hs.im hlp0 (Rd.ext hi1 hrp0) t2 hA2) ?_
 rintro w v w' hs ⟨I2, A1, c1, cs1, rfl, hg, hp1⟩
 have hi2 := hg.le
 refine RL.resume (X' := [orow 25 3 A1 t2.length c1 cs1]) rfl (hs.call hg) ?_
 clear hs hg
 generalize w'.heap.size = nx2
 clear w w'
 refine RL.st 1 [(8, .slice A1 t2.length c1), (7, .bool t1), (1, .int .u16 a1), (2, .int .u8 a2)] ?_
 refine OK.sr ?_
 refine RL.s 1 [(25, .slice A1 t2.length c1), (8, .slice A1 t2.length c1), (7, .bool t1), (1, .int .u16 a1), (2, .int .u8 a2)] ?_
 refine RL.freeze (e := 25) (sz := 3) (S := A1) (n := t2.length) (cap := c1) 0 (by kernel_rfl) hp1 rfl (fun I3 hi3 hl1 hr1 => ?_)
 skip
 obtain ⟨t3, hA3, H⟩ := bnd H
 refine RL.callP 24 [.slice none 0 0, .slice A1 t2.length c1] (some 26) (fun w => armillarylaw28_build.Post I3 w t3) (by kernel_rfl) (by kernel_rfl) (fun w hs => armillarylaw28_build.calls k I3 [] none 0 t2 A1 c1 w hs.im (Nat.le_refl _) (Rd.nil _ _ _) hl1 hr1 t3 hA3) ?_
 rintro w v w' hs ⟨I4, A2, c2, rfl, hg, hl2, hr2⟩
 have hi4 := hg.le
 refine RL.resume (X' := []) rfl (hs.call hg) ?_
 clear hs hg
 generalize w'.heap.size = nx3
 clear w w'
 refine RL.st 5 [(10, .bool t3.2), (9, .slice A2 t3.1.length c2), (8, .slice A1 t2.length c1), (7, .bool t1), (1, .int .u16 a1), (2, .int .u8 a2)] ?_
 refine OK.sq ?_
 refine OK.sq ?_
 refine OK.join (fun K' I' _ L' X' => ∃ (x1 : Bool) (x2 : Bool), K' = [(1, .int .u16 a1), (2, .int .u8 a2), (7, .bool t1), (8, .slice A1 t2.length c1), (9, .slice A2 t3.1.length c2), (10, .bool x1), (39, .bool x2)] ∧ L' = [] ∧ X' = [] ∧ Imm.le I4 I' ∧ armillarylaw28_LedgerCorruption.k5 k a1 a2 t1 t2 t3 (x1, x2) = some r) ?_ ?_
 ·rintro _ I5 nx4 _ _ ⟨x1, x2, rfl, rfl, rfl, hi5, H⟩
  rw [armillarylaw28_LedgerCorruption.k5] at H
  refine QN.then_ ?_
  refine OK.cd x2 (fun hb => ?_) (fun hb => ?_)
  ·skip
   have hc := hb
   rw [if_pos hc] at H
   clear hb
   refine OK.sq ?_
   refine OK.join (fun K' I' _ L' X' => ∃ (x3 : Bool), K' = [(6, .bool x3)] ∧ L' = [] ∧ X' = [] ∧ Imm.le I5 I' ∧ armillarylaw28_LedgerCorruption.k1 x3 = some r) ?_ ?_
   ·rintro _ I6 nx5 _ _ ⟨x3, rfl, rfl, rfl, hi6, H⟩
    rw [armillarylaw28_LedgerCorruption.k1] at H
    refine QN.then_ ?_
    refine OK.re ?_
    refine QN.thenR ?_
    obtain rfl := Option.some.inj H
    refine QN.body rfl [] (RFacts.nil _ _ _) (.no) (.bool x3) (by kernel_rfl) (by kernel_rfl) (by kernel_rfl) ?_ _ (.inr rfl)
    exact fun w' hs' => ⟨_, rfl, I6, rfl, hs'.got _ .slnil⟩
   ·intro Q_1 hJ2 hQ2
    obtain ⟨y2, H, HK2⟩ := bnd H
    refine OK.rg ?_
    refine RL.s 2 [(41, .bool x1), (7, .bool t1)] ?_
    refine RL.cases x1 (fun hb => ?_) (fun hb => ?_)
    ·have hc := hb
     rw [hb]
     rw [if_pos hc] at H; clear hb
     refine RL.s 3 [(6, .bool t1)] ?_
     refine RL.nil (by kernel_rfl) ?_
     obtain rfl := Option.some.inj H
     exact QN.sb (hJ2 _ _ _ _ _ ⟨t1, rfl, rfl, rfl, (Imm.le_refl _), HK2⟩) .slnil (.refl _)
    ·have hc := (Bool.eq_false_iff.1 hb)
     rw [hb]
     rw [if_neg hc] at H; clear hb
     refine RL.s 3 [(6, .bool false)] ?_
     refine RL.nil (by kernel_rfl) ?_
     obtain rfl := Option.some.inj H
     exact QN.sb (hJ2 _ _ _ _ _ ⟨false, rfl, rfl, rfl, (Imm.le_refl _), HK2⟩) .slnil (.refl _)
  ·skip
   have hc := (Bool.eq_false_iff.1 hb)
   rw [if_neg hc] at H
   clear hb
   refine OK.skt ?_
   refine OK.sr ?_
   refine RL.s 4 [(47, i6 (t3.1.length : Int)), (45, i6 (W .i64 (a1))), (2, .int .u8 a2), (7, .bool t1), (8, .slice A1 t2.length c1), (9, .slice A2 t3.1.length c2)] ?_
   by_cases hc : (t3.1.length : Int) = 0
   ·rw [if_pos hc] at H; cases H
   rw [if_neg hc] at H
   refine RL.rem .i64 (W .i64 (a1)) (t3.1.length : Int) (some 48) (by kernel_rfl) (by kernel_rfl) hc (K' := [(48, i6 ((W .i64 (a1)).tmod (t3.1.length : Int))), (47, i6 (t3.1.length : Int)), (45, i6 (W .i64 (a1))), (2, .int .u8 a2), (7, .bool t1), (8, .slice A1 t2.length c1), (9, .slice A2 t3.1.length c2)]) (by kernel_rfl) ?_
   refine RL.st 3 [(13, i6 0), (12, i6 0), (11, i6 ((W .i64 (a1)).tmod (t3.1.length : Int))), (2, .int .u8 a2), (7, .bool t1), (8, .slice A1 t2.length c1), (9, .slice A2 t3.1.length c2)] ?_
   refine OK.sq ?_
   refine OK.sr ?_
   refine RL.st 1 [(14, i6 0), (13, i6 0), (12, i6 0), (11, i6 ((W .i64 (a1)).tmod (t3.1.length : Int))), (2, .int .u8 a2), (7, .bool t1), (8, .slice A1 t2.length c1), (9, .slice A2 t3.1.length c2)] ?_
   refine OK.join (fun K' I' _ L' X' => ∃ (x4 : Int) (x5 : Int), K' = [(2, .int .u8 a2), (7, .bool t1), (8, .slice A1 t2.length c1), (9, .slice A2 t3.1.length c2), (11, i6 ((W .i64 (a1)).tmod (t3.1.length : Int))), (12, i6 x4), (13, i6 x5)] ∧ L' = [] ∧ X' = [] ∧ Imm.le I5 I' ∧ armillarylaw28_LedgerCorruption.k3 k a1 a2 t1 t2 t3 (x4, x5) = some r) ?_ ?_
   ·rintro _ I7 nx6 _ _ ⟨x4, x5, rfl, rfl, rfl, hi7, H⟩
    rw [armillarylaw28_LedgerCorruption.k3] at H
    refine QN.then_ ?_
    refine OK.sq ?_
    refine OK.sr ?_
    refine RL.st 4 [(74, .bool (decide ((W .i64 (((W .i64 (a1)).tmod (t3.1.length : Int)) - x5)) < 4))), (2, .int .u8 a2), (7, .bool t1), (8, .slice A1 t2.length c1), (9, .slice A2 t3.1.length c2), (11, i6 ((W .i64 (a1)).tmod (t3.1.length : Int))), (12, i6 x4), (13, i6 x5)] ?_
    refine OK.cd (decide ((W .i64 (((W .i64 (a1)).tmod (t3.1.length : Int)) - x5)) < 4)) (fun hb => ?_) (fun hb => ?_)
    ·skip
     have hc := (of_decide_eq_true hb)
     rw [if_pos hc] at H
     clear hb
     refine OK.sr ?_
     refine RL.st 2 [(6, .bool t1)] ?_
     refine OK.re ?_
     refine QN.thenR ?_
     obtain rfl := Option.some.inj H
     refine QN.body rfl [] (RFacts.nil _ _ _) (.no) (.bool t1) (by kernel_rfl) (by kernel_rfl) (by kernel_rfl) ?_ _ (.inr rfl)
     exact fun w' hs' => ⟨_, rfl, I7, rfl, hs'.got _ .slnil⟩
    ·skip
     have hc := (of_decide_eq_false hb)
     rw [if_neg hc] at H
     clear hb
     refine OK.skt ?_
     refine OK.sr ?_
     refine RL.sp 2 [(77, .slice A2 t3.1.length c2), (76, .slice (some ⟨nx6, 0, none⟩) 0 0), (2, .int .u8 a2), (7, .bool t1), (8, .slice A1 t2.length c1), (11, i6 ((W .i64 (a1)).tmod (t3.1.length : Int))), (12, i6 x4), (13, i6 x5)] (nx6 + 1) [⟨nx6, [], 5⟩] ?_
     refine RL.toRow (b := ⟨nx6, [], 5⟩) 0 0 1 (by kernel_rfl) (by kernel_rfl) (by decide) ?_
     have hp2 : Reps (Ty.int .u8) I7 ([] : List Int) [] := rfl
     refine RL.norm (L' := []) (X' := [orow 5 1 (some ⟨nx6, 0, none⟩) (([] : List Int).length) 0 []]) rfl rfl (by kernel_rfl) (by kernel_rfl) ?_
     obtain ⟨hz1, H⟩ := ifs H
     refine RL.appendR (T := 22) (e := 5) (S := (some ⟨nx6, 0, none⟩)) (S2 := A2) 1 1 22 0 c2 [] (Ty.int .u8) ([] : List Int) t3.1 0 (some 78) (by kernel_rfl) (by kernel_rfl) (by kernel_rfl) (by kernel_rfl) (by kernel_rfl) (by decide) (by kernel_rfl) hp2 (Rd.ext (Imm.le_trans hi5 hi7) hr2) hz1 (by omega) (fun A3 c3 nx7 cs2 hp3 => ?_)
     refine RL.sub (K' := [(78, .slice A3 ((([] : List Int) ++ t3.1).length) c3), (77, .slice A2 t3.1.length c2), (76, .slice (some ⟨nx6, 0, none⟩) 0 0), (2, .int .u8 a2), (7, .bool t1), (8, .slice A1 t2.length c1), (11, i6 ((W .i64 (a1)).tmod (t3.1.length : Int))), (12, i6 x4), (13, i6 x5)]) (L' := []) (X' := [orow 5 1 A3 ((([] : List Int) ++ t3.1).length) c3 cs2]) (by kernel_rfl) (.refl _) (.refl _) ?_
     refine RL.st 1 [(17, .slice A3 ((([] : List Int) ++ t3.1).length) c3), (2, .int .u8 a2), (7, .bool t1), (8, .slice A1 t2.length c1), (11, i6 ((W .i64 (a1)).tmod (t3.1.length : Int))), (12, i6 x4), (13, i6 x5)] ?_
     refine OK.sr ?_
     refine RL.s 4 [(82, i6 ((W .i64 (a1)).tmod (t3.1.length : Int))), (81, .slice A3 ((([] : List Int) ++ t3.1).length) c3), (80, i6 ((W .i64 (a1)).tmod (t3.1.length : Int))), (79, .slice A3 ((([] : List Int) ++ t3.1).length) c3), (17, .slice A3 ((([] : List Int) ++ t3.1).length) c3), (2, .int .u8 a2), (7, .bool t1), (8, .slice A1 t2.length c1), (12, i6 x4), (13, i6 x5)] ?_
     obtain ⟨hib0, H⟩ := ifs H
     obtain ⟨hib1, H⟩ := ifs H
     have hx01_ := hib0; have hx11_ := hib1
     refine RL.ownAddr (e := 5) (sz := 1) (S := A3) (n := (([] : List Int) ++ t3.1).length) (cap := c3) (cs := cs2) 0 (by kernel_rfl) (by omega) (fun g1_ hA1_ => ?_)
     have hc1_ := Ty.int_own hp3 ((W .i64 (a1)).tmod (t3.1.length : Int)) hib0 hib1
     refine RL.idx 1 .i64 ((W .i64 (a1)).tmod (t3.1.length : Int)) hA1_ ((([] : List Int) ++ t3.1).length) c3 (some 83) (by kernel_rfl) (by kernel_rfl) (T := 22) (e := 5) (by kernel_rfl) (by kernel_rfl) hib0 hib1 (K' := [(83, pt g1_ (0 + ((W .i64 (a1)).tmod (t3.1.length : Int)).toNat * 1)), (82, i6 ((W .i64 (a1)).tmod (t3.1.length : Int))), (81, .slice A3 ((([] : List Int) ++ t3.1).length) c3), (80, i6 ((W .i64 (a1)).tmod (t3.1.length : Int))), (79, .slice A3 ((([] : List Int) ++ t3.1).length) c3), (17, .slice A3 ((([] : List Int) ++ t3.1).length) c3), (2, .int .u8 a2), (7, .bool t1), (8, .slice A1 t2.length c1), (12, i6 x4), (13, i6 x5)]) (by kernel_rfl) ?_
     refine RL.simK (K' := [(86, .int .u8 (bXor .u8 ((([] : List Int) ++ t3.1).getD ((W .i64 (a1)).tmod (t3.1.length : Int)).toNat 0) a2)), (80, i6 ((W .i64 (a1)).tmod (t3.1.length : Int))), (79, .slice A3 ((([] : List Int) ++ t3.1).length) c3), (17, .slice A3 ((([] : List Int) ++ t3.1).length) c3), (7, .bool t1), (8, .slice A1 t2.length c1), (12, i6 x4), (13, i6 x5)]) [(⟨g1_, 0 + ((W .i64 (a1)).tmod (t3.1.length : Int)).toNat * 1, none⟩, .int .u8 ((([] : List Int) ++ t3.1).getD ((W .i64 (a1)).tmod (t3.1.length : Int)).toNat 0))] (RFacts.ownQ (e := 5) (sz := 1) (S := A3) (n := (([] : List Int) ++ t3.1).length) (cap := c3) (cs := cs2) 0 (by kernel_rfl) hA1_ (0 + ((W .i64 (a1)).tmod (t3.1.length : Int)).toNat * 1) (((W .i64 (a1)).tmod (t3.1.length : Int)).toNat * 1 + 0) (by omega) (hc1_ 0 _ rfl) (RFacts.nil _ _ _)) 3 [.r 0, .no, .no] (by kernel_rfl) (by kernel_rfl) ?_
     obtain ⟨hib0, H⟩ := ifs H
     obtain ⟨hib1, H⟩ := ifs H
     have hx02_ := hib0; have hx12_ := hib1
     refine RL.ownAddr (e := 5) (sz := 1) (S := A3) (n := (([] : List Int) ++ t3.1).length) (cap := c3) (cs := cs2) 0 (by kernel_rfl) (by omega) (fun g2_ hA2_ => ?_)
     have hc2_ := Ty.int_own hp3 ((W .i64 (a1)).tmod (t3.1.length : Int)) hib0 hib1
     refine RL.idx 1 .i64 ((W .i64 (a1)).tmod (t3.1.length : Int)) hA2_ ((([] : List Int) ++ t3.1).length) c3 (some 87) (by kernel_rfl) (by kernel_rfl) (T := 22) (e := 5) (by kernel_rfl) (by kernel_rfl) hib0 hib1 (K' := [(87, pt g2_ (0 + ((W .i64 (a1)).tmod (t3.1.length : Int)).toNat * 1)), (86, .int .u8 (bXor .u8 ((([] : List Int) ++ t3.1).getD ((W .i64 (a1)).tmod (t3.1.length : Int)).toNat 0) a2)), (80, i6 ((W .i64 (a1)).tmod (t3.1.length : Int))), (79, .slice A3 ((([] : List Int) ++ t3.1).length) c3), (17, .slice A3 ((([] : List Int) ++ t3.1).length) c3), (7, .bool t1), (8, .slice A1 t2.length c1), (12, i6 x4), (13, i6 x5)]) (by kernel_rfl) ?_
     refine RL.storeL (T := 5) (e := 5) 1 0 hA2_ c3 ((W .i64 (a1)).tmod (t3.1.length : Int)) cs2 [.int .u8 (bXor .u8 ((([] : List Int) ++ t3.1).getD ((W .i64 (a1)).tmod (t3.1.length : Int)).toNat 0) a2)] (.int .u8 (bXor .u8 ((([] : List Int) ++ t3.1).getD ((W .i64 (a1)).tmod (t3.1.length : Int)).toNat 0) a2)) (Ty.int .u8) (([] : List Int) ++ t3.1) (bXor .u8 ((([] : List Int) ++ t3.1).getD ((W .i64 (a1)).tmod (t3.1.length : Int)).toNat 0) a2) (by kernel_rfl) (by kernel_rfl) (by kernel_rfl) (by kernel_rfl) (by kernel_rfl) rfl (by kernel_rfl) hp3 hx02_ hx12_ (fun cs3 hp4 => ?_)
     refine RL.sub (K' := [(86, .int .u8 (bXor .u8 ((([] : List Int) ++ t3.1).getD ((W .i64 (a1)).tmod (t3.1.length : Int)).toNat 0) a2)), (80, i6 ((W .i64 (a1)).tmod (t3.1.length : Int))), (79, .slice A3 ((([] : List Int) ++ t3.1).length) c3), (17, .slice A3 ((([] : List Int) ++ t3.1).length) c3), (7, .bool t1), (8, .slice A1 t2.length c1), (12, i6 x4), (13, i6 x5)]) (L' := []) (X' := [orow 5 1 A3 (((([] : List Int) ++ t3.1).set ((W .i64 (a1)).tmod (t3.1.length : Int)).toNat (bXor .u8 ((([] : List Int) ++ t3.1).getD ((W .i64 (a1)).tmod (t3.1.length : Int)).toNat 0) a2)).length) c3 cs3]) (by kernel_rfl) (.refl _) (.refl _) ?_
     refine RL.norm (K' := [(86, .int .u8 (bXor .u8 ((([] : List Int) ++ t3.1).getD ((W .i64 (a1)).tmod (t3.1.length : Int)).toNat 0) a2)), (80, i6 ((W .i64 (a1)).tmod (t3.1.length : Int))), (79, .slice A3 (((([] : List Int) ++ t3.1).set ((W .i64 (a1)).tmod (t3.1.length : Int)).toNat (bXor .u8 ((([] : List Int) ++ t3.1).getD ((W .i64 (a1)).tmod (t3.1.length : Int)).toNat 0) a2)).length) c3), (17, .slice A3 (((([] : List Int) ++ t3.1).set ((W .i64 (a1)).tmod (t3.1.length : Int)).toNat (bXor .u8 ((([] : List Int) ++ t3.1).getD ((W .i64 (a1)).tmod (t3.1.length : Int)).toNat 0) a2)).length) c3), (7, .bool t1), (8, .slice A1 t2.length c1), (12, i6 x4), (13, i6 x5)]) (L' := []) (by simp only [List.length_set]) rfl (by first | rfl | simp only [List.length_set]) rfl ?_
     refine RL.nil (by kernel_rfl) ?_
     refine QN.sub (K' := [(17, .slice A3 (((([] : List Int) ++ t3.1).set ((W .i64 (a1)).tmod (t3.1.length : Int)).toNat (bXor .u8 ((([] : List Int) ++ t3.1).getD ((W .i64 (a1)).tmod (t3.1.length : Int)).toNat 0) a2)).length) c3), (7, .bool t1), (8, .slice A1 t2.length c1), (12, i6 x4), (13, i6 x5)]) (L' := []) (by kernel_rfl) .slnil (.refl _) ?_
     refine QN.then_ ?_
     refine OK.sr ?_
     refine RL.s 1 [(89, .slice A3 (((([] : List Int) ++ t3.1).set ((W .i64 (a1)).tmod (t3.1.length : Int)).toNat (bXor .u8 ((([] : List Int) ++ t3.1).getD ((W .i64 (a1)).tmod (t3.1.length : Int)).toNat 0) a2)).length) c3), (7, .bool t1), (8, .slice A1 t2.length c1), (12, i6 x4), (13, i6 x5)] ?_
     refine RL.freeze (e := 5) (sz := 1) (S := A3) (n := ((([] : List Int) ++ t3.1).set ((W .i64 (a1)).tmod (t3.1.length : Int)).toNat (bXor .u8 ((([] : List Int) ++ t3.1).getD ((W .i64 (a1)).tmod (t3.1.length : Int)).toNat 0) a2)).length) (cap := c3) 0 (by kernel_rfl) hp4 rfl (fun I8 hi8 hl3 hr3 => ?_)
     skip
     obtain ⟨t4, hA4, H⟩ := bnd H
     refine RL.callP 16 [.slice A3 (((([] : List Int) ++ t3.1).set ((W .i64 (a1)).tmod (t3.1.length : Int)).toNat (bXor .u8 ((([] : List Int) ++ t3.1).getD ((W .i64 (a1)).tmod (t3.1.length : Int)).toNat 0) a2)).length) c3] (some 90) (fun w => ledger_Scan.Post I8 w t4) (by kernel_rfl) (by kernel_rfl) (fun w hs => ledger_Scan.calls k I8 ((([] : List Int) ++ t3.1).set ((W .i64 (a1)).tmod (t3.1.length : Int)).toNat (bXor .u8 ((([] : List Int) ++ t3.1).getD ((W .i64 (a1)).tmod (t3.1.length : Int)).toNat 0) a2)) A3 c3 w hs.im (Glob.ext (Imm.le_trans (Imm.le_trans (Imm.le_trans (Imm.le_trans (Imm.le_trans (Imm.le_trans hi1 hi2) hi3) hi4) hi5) hi7) hi8) hG) hl3 hr3 t4 hA4) ?_
     rintro w v w' hs ⟨I9, A4, c4, cs4, rfl, hg, hp5⟩
     have hi9 := hg.le
     refine RL.resume (X' := [orow 25 3 A4 t4.1.length c4 cs4]) rfl (hs.call hg) ?_
     clear hs hg
     generalize w'.heap.size = nx8
     clear w w'
     refine RL.st 7 [(20, i6 t4.2.2), (19, i6 t4.2.1), (18, .slice A4 t4.1.length c4), (7, .bool t1), (8, .slice A1 t2.length c1), (12, i6 x4), (13, i6 x5)] ?_
     refine OK.sq ?_
     refine OK.join (fun K' I' _ L' X' => ∃ (x6 : Bool), K' = [(6, .bool x6)] ∧ L' = [] ∧ X' = [] ∧ Imm.le I9 I' ∧ armillarylaw28_LedgerCorruption.k2 x6 = some r) ?_ ?_
     ·rintro _ I10 nx9 _ _ ⟨x6, rfl, rfl, rfl, hi10, H⟩
      rw [armillarylaw28_LedgerCorruption.k2] at H
      refine QN.then_ ?_
      refine OK.re ?_
      obtain rfl := Option.some.inj H
      refine QN.body rfl [] (RFacts.nil _ _ _) (.no) (.bool x6) (by kernel_rfl) (by kernel_rfl) (by kernel_rfl) ?_ _ (.inr rfl)
      exact fun w' hs' => ⟨_, rfl, I10, rfl, hs'.got _ .slnil⟩
     ·intro Q_2 hJ4 hQ4
      obtain ⟨y4, H, HK4⟩ := bnd H
      refine OK.rg ?_
      refine RL.s 3 [(96, i6 x4), (95, .slice A1 t2.length c1), (94, .slice A4 t4.1.length c4), (20, i6 t4.2.2), (19, i6 t4.2.1), (7, .bool t1), (13, i6 x5)] ?_
      obtain ⟨hs1_1, H⟩ := ifs H
      obtain ⟨hs2_1, H⟩ := ifs H
      refine RL.subH (T := 23) (e := 25) (l := t2) (S := A1) (cap := c1) (hi := x4) 3 .i64 (some 97) (by kernel_rfl) (by kernel_rfl) (by kernel_rfl) (by kernel_rfl) hl1 hs1_1 hs2_1 (K' := [(97, .slice (slA A1 (0 : Int).toNat c1 3) ((rpart t2 0 x4).length) (c1 - (0 : Int).toNat)), (96, i6 x4), (95, .slice A1 t2.length c1), (94, .slice A4 t4.1.length c4), (20, i6 t4.2.2), (19, i6 t4.2.1), (7, .bool t1), (13, i6 x5)]) (by kernel_rfl) ?_
      obtain ⟨t5, hA5, H⟩ := bnd H
      refine RL.callP 19 [.slice A4 t4.1.length c4, .slice (slA A1 (0 : Int).toNat c1 3) ((rpart t2 0 x4).length) (c1 - (0 : Int).toNat)] (some 98) (fun w v w' => ∃ I', Imm.le I9 I' ∧ armillaryref28_Same.Post I' w t5 v w') (by kernel_rfl) (by kernel_rfl) (fun w hs => ?_) ?_
      ·skip
       obtain ⟨JL1, hj1, hn1, hw1, hs⟩ := Sat.freeze (e := 25) (sz := 3) (S := A4) (n := t4.1.length) (cap := c4) (m := 0) hs (by kernel_rfl) hp5 rfl
       exact (armillaryref28_Same.calls k JL1 t4.1 A4 c4 (rpart t2 0 x4) (slA A1 (0 : Int).toNat c1 3) (c1 - (0 : Int).toNat) _ hs.im hn1 hw1 (part_le hl1 (Int.le_refl 0) hs1_1 hs2_1) (Rd.ext hj1 (rd_sub (Rd.ext (Imm.le_trans (Imm.le_trans (Imm.le_trans (Imm.le_trans hi4 hi5) hi7) hi8) hi9) hr1) hl1 (Int.le_refl 0) hs1_1 hs2_1)) t5 hA5).mono (fun e w' ⟨v, hv, hp⟩ => ⟨v, hv, JL1, hj1, hp⟩)
      rintro w v w' hs ⟨I', hle, J, rfl, hg⟩
      refine RL.resume (X' := [orow 25 3 A4 t4.1.length c4 cs4]) rfl (hs.call (hg.back hle)) ?_
      clear hs hg hle I' J
      generalize w'.heap.size = nx10
      clear w w'
      refine RL.s 1 [(99, .bool t5), (20, i6 t4.2.2), (19, i6 t4.2.1), (7, .bool t1), (13, i6 x5)] ?_
      refine RL.cases t5 (fun hb => ?_) (fun hb => ?_)
      ·have hc := hb
       rw [hb]
       rw [if_pos hc] at H; clear hb
       refine RL.s 5 [(104, .bool (t4.2.1 == x5)), (20, i6 t4.2.2), (7, .bool t1)] ?_
       refine RL.cases (t4.2.1 == x5) (fun hb => ?_) (fun hb => ?_)
       ·have hc := (beq_iff_eq.1 hb)
        rw [hb]
        rw [if_pos hc] at H; clear hb
        refine RL.s 4 [(108, .bool (t4.2.2 == 270)), (7, .bool t1)] ?_
        refine RL.cases (t4.2.2 == 270) (fun hb => ?_) (fun hb => ?_)
        ·have hc := (beq_iff_eq.1 hb)
         rw [hb]
         rw [if_pos hc] at H; clear hb
         refine RL.s 3 [(6, .bool t1)] ?_
         refine RL.nil (by kernel_rfl) ?_
         obtain rfl := Option.some.inj H
         refine QN.sel (K' := [(6, .bool t1)]) (L' := []) [] (by kernel_rfl) (by kernel_rfl) .slnil ?_
         refine QN.norm (X' := []) rfl rfl rfl (by kernel_rfl) ?_
         exact hJ4 _ _ _ _ _ ⟨t1, rfl, rfl, rfl, (Imm.le_refl _), HK4⟩
        ·have hc := (beq_eq_false_iff_ne.1 hb)
         rw [hb]
         rw [if_neg hc] at H; clear hb
         refine RL.s 3 [(6, .bool false)] ?_
         refine RL.nil (by kernel_rfl) ?_
         obtain rfl := Option.some.inj H
         refine QN.sel (K' := [(6, .bool false)]) (L' := []) [] (by kernel_rfl) (by kernel_rfl) .slnil ?_
         refine QN.norm (X' := []) rfl rfl rfl (by kernel_rfl) ?_
         exact hJ4 _ _ _ _ _ ⟨false, rfl, rfl, rfl, (Imm.le_refl _), HK4⟩
       ·have hc := (beq_eq_false_iff_ne.1 hb)
        rw [hb]
        rw [if_neg hc] at H; clear hb
        refine RL.s 7 [(6, .bool false)] ?_
        refine RL.nil (by kernel_rfl) ?_
        obtain rfl := Option.some.inj H
        refine QN.sel (K' := [(6, .bool false)]) (L' := []) [] (by kernel_rfl) (by kernel_rfl) .slnil ?_
        refine QN.norm (X' := []) rfl rfl rfl (by kernel_rfl) ?_
        exact hJ4 _ _ _ _ _ ⟨false, rfl, rfl, rfl, (Imm.le_refl _), HK4⟩
      ·have hc := (Bool.eq_false_iff.1 hb)
       rw [hb]
       rw [if_neg hc] at H; clear hb
       refine RL.s 12 [(6, .bool false)] ?_
       refine RL.nil (by kernel_rfl) ?_
       obtain rfl := Option.some.inj H
       refine QN.sel (K' := [(6, .bool false)]) (L' := []) [] (by kernel_rfl) (by kernel_rfl) .slnil ?_
       refine QN.norm (X' := []) rfl rfl rfl (by kernel_rfl) ?_
       exact hJ4 _ _ _ _ _ ⟨false, rfl, rfl, rfl, (Imm.le_refl _), HK4⟩
   ·intro Q_3 hJ3 hQ3
    obtain ⟨y3, H, HK3⟩ := bnd H
    refine OK.bk 0 ?_
    refine OK.sub (K' := [(2, .int .u8 a2), (7, .bool t1), (8, .slice A1 t2.length c1), (9, .slice A2 t3.1.length c2), (11, i6 ((W .i64 (a1)).tmod (t3.1.length : Int))), (12, i6 0), (13, i6 0), (14, i6 0)]) (L' := []) (by kernel_rfl) .slnil (.refl _) ?_
    refine OK.lp (fun n_ K' I' _ L' X' => ∃ (x7 : Int) (x8 : Int) (x9 : Int), K' = [(2, .int .u8 a2), (7, .bool t1), (8, .slice A1 t2.length c1), (9, .slice A2 t3.1.length c2), (11, i6 ((W .i64 (a1)).tmod (t3.1.length : Int))), (12, i6 x7), (13, i6 x8), (14, i6 x9)] ∧ L' = [] ∧ X' = [] ∧ Imm.le I5 I' ∧ armillarylaw28_LedgerCorruption.l1 a1 t2 t3 n_ x7 x8 x9 = some y3) k ⟨0, 0, 0, rfl, rfl, rfl, (Imm.le_refl _), H⟩ ?_ ?_
    ·rintro _ _ _ _ _ ⟨x7, x8, x9, rfl, rfl, rfl, _, H⟩
     cases H
    ·rintro kq1 _ I11 nx11 _ _ ⟨x7, x8, x9, rfl, rfl, rfl, hi11, H⟩ Q_l1 hJ5 hQ5
     rw [armillarylaw28_LedgerCorruption.l1] at H
     refine OK.sq ?_
     refine OK.sr ?_
     refine RL.st 4 [(52, .bool (decide (x9 < (t2.length : Int)))), (2, .int .u8 a2), (7, .bool t1), (8, .slice A1 t2.length c1), (9, .slice A2 t3.1.length c2), (11, i6 ((W .i64 (a1)).tmod (t3.1.length : Int))), (12, i6 x7), (13, i6 x8), (14, i6 x9)] ?_
     refine OK.cd (decide (x9 < (t2.length : Int))) (fun hb => ?_) (fun hb => ?_)
     ·skip
      have hc := (of_decide_eq_true hb)
      rw [if_pos hc] at H
      clear hb
      refine OK.skt ?_
      refine OK.sq ?_
      refine OK.bk 1 ?_
      refine OK.sr ?_
      refine RL.s 3 [(58, i6 (W .i64 (x9 + 1))), (56, .slice A1 t2.length c1), (2, .int .u8 a2), (7, .bool t1), (8, .slice A1 t2.length c1), (9, .slice A2 t3.1.length c2), (11, i6 ((W .i64 (a1)).tmod (t3.1.length : Int))), (12, i6 x7), (13, i6 x8), (14, i6 x9)] ?_
      obtain ⟨hs1_2, H⟩ := ifs H
      obtain ⟨hs2_2, H⟩ := ifs H
      refine RL.subH (T := 23) (e := 25) (l := t2) (S := A1) (cap := c1) (hi := W .i64 (x9 + 1)) 3 .i64 (some 59) (by kernel_rfl) (by kernel_rfl) (by kernel_rfl) (by kernel_rfl) hl1 hs1_2 hs2_2 (K' := [(59, .slice (slA A1 (0 : Int).toNat c1 3) ((rpart t2 0 (W .i64 (x9 + 1))).length) (c1 - (0 : Int).toNat)), (58, i6 (W .i64 (x9 + 1))), (56, .slice A1 t2.length c1), (2, .int .u8 a2), (7, .bool t1), (8, .slice A1 t2.length c1), (9, .slice A2 t3.1.length c2), (11, i6 ((W .i64 (a1)).tmod (t3.1.length : Int))), (12, i6 x7), (13, i6 x8), (14, i6 x9)]) (by kernel_rfl) ?_
      obtain ⟨t6, hA6, H⟩ := bnd H
      refine RL.callP 24 [.slice none 0 0, .slice (slA A1 (0 : Int).toNat c1 3) ((rpart t2 0 (W .i64 (x9 + 1))).length) (c1 - (0 : Int).toNat)] (some 60) (fun w => armillarylaw28_build.Post I11 w t6) (by kernel_rfl) (by kernel_rfl) (fun w hs => armillarylaw28_build.calls kq1 I11 [] none 0 (rpart t2 0 (W .i64 (x9 + 1))) (slA A1 (0 : Int).toNat c1 3) (c1 - (0 : Int).toNat) w hs.im (Nat.le_refl _) (Rd.nil _ _ _) (part_le hl1 (Int.le_refl 0) hs1_2 hs2_2) (rd_sub (Rd.ext (Imm.le_trans (Imm.le_trans hi4 hi5) hi11) hr1) hl1 (Int.le_refl 0) hs1_2 hs2_2) t6 hA6) ?_
      rintro w v w' hs ⟨I12, A5, c5, rfl, hg, hl4, hr4⟩
      have hi12 := hg.le
      refine RL.resume (X' := []) rfl (hs.call hg) ?_
      clear hs hg
      generalize w'.heap.size = nx12
      clear w w'
      refine RL.st 5 [(15, .slice A5 t6.1.length c5), (2, .int .u8 a2), (7, .bool t1), (8, .slice A1 t2.length c1), (9, .slice A2 t3.1.length c2), (11, i6 ((W .i64 (a1)).tmod (t3.1.length : Int))), (12, i6 x7), (13, i6 x8), (14, i6 x9)] ?_
      refine OK.sr ?_
      refine RL.st 4 [(66, .bool (decide ((t6.1.length : Int) ≤ ((W .i64 (a1)).tmod (t3.1.length : Int))))), (15, .slice A5 t6.1.length c5), (2, .int .u8 a2), (7, .bool t1), (8, .slice A1 t2.length c1), (9, .slice A2 t3.1.length c2), (11, i6 ((W .i64 (a1)).tmod (t3.1.length : Int))), (12, i6 x7), (13, i6 x8), (14, i6 x9)] ?_
      refine OK.join (fun K' I' _ L' X' => ∃ (x10 : Int) (x11 : Int), K' = [(2, .int .u8 a2), (7, .bool t1), (8, .slice A1 t2.length c1), (9, .slice A2 t3.1.length c2), (11, i6 ((W .i64 (a1)).tmod (t3.1.length : Int))), (12, i6 x10), (13, i6 x11), (14, i6 x9)] ∧ L' = [] ∧ X' = [] ∧ Imm.le I12 I' ∧ (armillarylaw28_LedgerCorruption.l1 a1 t2 t3 kq1 x10 x11 (W .i64 (x9 + 1))) = some y3) ?_ ?_
      ·rintro _ I13 nx13 _ _ ⟨x10, x11, rfl, rfl, rfl, hi13, H⟩
       replace H : (armillarylaw28_LedgerCorruption.l1 a1 t2 t3 kq1 x10 x11 (W .i64 (x9 + 1))) = some y3 := H
       refine QN.blkN ?_
       refine QN.then_ ?_
       refine OK.rg ?_
       refine RL.s 3 [(14, i6 (W .i64 (x9 + 1))), (2, .int .u8 a2), (7, .bool t1), (8, .slice A1 t2.length c1), (9, .slice A2 t3.1.length c2), (11, i6 ((W .i64 (a1)).tmod (t3.1.length : Int))), (12, i6 x10), (13, i6 x11)] ?_
       refine RL.nil (by kernel_rfl) ?_
       exact QN.sb (hJ5 _ _ _ _ _ ⟨x10, x11, W .i64 (x9 + 1), rfl, rfl, rfl, (Imm.le_trans (Imm.le_trans hi11 hi12) hi13), H⟩) .slnil (.refl _)
      ·intro Q_4 hJ6 hQ6
       obtain ⟨y5, H, HK5⟩ := bnd H
       refine OK.cd (decide ((t6.1.length : Int) ≤ ((W .i64 (a1)).tmod (t3.1.length : Int)))) (fun hb => ?_) (fun hb => ?_)
       ·skip
        have hc := (of_decide_eq_true hb)
        rw [if_pos hc] at H
        clear hb
        refine OK.sr ?_
        refine RL.st 3 [(12, i6 (W .i64 (x9 + 1))), (15, .slice A5 t6.1.length c5), (2, .int .u8 a2), (7, .bool t1), (8, .slice A1 t2.length c1), (9, .slice A2 t3.1.length c2), (11, i6 ((W .i64 (a1)).tmod (t3.1.length : Int))), (14, i6 x9)] ?_
        refine OK.rg ?_
        refine RL.s 3 [(13, i6 (t6.1.length : Int)), (12, i6 (W .i64 (x9 + 1))), (2, .int .u8 a2), (7, .bool t1), (8, .slice A1 t2.length c1), (9, .slice A2 t3.1.length c2), (11, i6 ((W .i64 (a1)).tmod (t3.1.length : Int))), (14, i6 x9)] ?_
        refine RL.nil (by kernel_rfl) ?_
        obtain rfl := Option.some.inj H
        exact QN.sb (hJ6 _ _ _ _ _ ⟨W .i64 (x9 + 1), (t6.1.length : Int), rfl, rfl, rfl, (Imm.le_refl _), HK5⟩) .slnil (.refl _)
       ·skip
        have hc := (of_decide_eq_false hb)
        rw [if_neg hc] at H
        clear hb
        refine OK.sk ?_
        obtain rfl := Option.some.inj H
        exact QN.sb (hJ6 _ _ _ _ _ ⟨x7, x8, rfl, rfl, rfl, (Imm.le_refl _), HK5⟩) .slnil (.refl _)
     ·skip
      have hc := (of_decide_eq_false hb)
      rw [if_neg hc] at H
      clear hb
      refine OK.ex 0 ?_
      refine QN.thenE ?_
      refine QN.outE hQ5 ?_
      refine QN.blkE ?_
      obtain rfl := Option.some.inj H
      exact QN.sb (hJ3 _ _ _ _ _ ⟨x7, x8, rfl, rfl, rfl, hi11, HK3⟩) .slnil (.refl _)
 ·intro Q_5 hJ1 hQ1
  obtain ⟨y1, H, HK1⟩ := bnd H
  refine OK.rg ?_
  refine RL.s 3 [(31, .bool (!t3.2)), (10, .bool t3.2), (9, .slice A2 t3.1.length c2), (8, .slice A1 t2.length c1), (7, .bool t1), (1, .int .u16 a1), (2, .int .u8 a2)] ?_
  refine RL.cases t3.2 (fun hb => ?_) (fun hb => ?_)
  ·have hc := hb
   rw [hb]
   rw [if_pos hc] at H; clear hb
   refine RL.s 5 [(36, .bool ((t2.length : Int) == 0)), (10, .bool true), (9, .slice A2 t3.1.length c2), (8, .slice A1 t2.length c1), (7, .bool t1), (1, .int .u16 a1), (2, .int .u8 a2)] ?_
   refine RL.cases ((t2.length : Int) == 0) (fun hb => ?_) (fun hb => ?_)
   ·have hc := (beq_iff_eq.1 hb)
    rw [hb]
    rw [if_pos hc] at H; clear hb
    refine RL.s 3 [(39, .bool true), (10, .bool true), (9, .slice A2 t3.1.length c2), (8, .slice A1 t2.length c1), (7, .bool t1), (1, .int .u16 a1), (2, .int .u8 a2)] ?_
    refine RL.nil (by kernel_rfl) ?_
    obtain rfl := Option.some.inj H
    exact QN.sb (hJ1 _ _ _ _ _ ⟨true, true, rfl, rfl, rfl, (Imm.le_refl _), HK1⟩) .slnil (.refl _)
   ·have hc := (beq_eq_false_iff_ne.1 hb)
    rw [hb]
    rw [if_neg hc] at H; clear hb
    refine RL.s 3 [(39, .bool (a2 == 0)), (10, .bool true), (9, .slice A2 t3.1.length c2), (8, .slice A1 t2.length c1), (7, .bool t1), (1, .int .u16 a1), (2, .int .u8 a2)] ?_
    refine RL.nil (by kernel_rfl) ?_
    obtain rfl := Option.some.inj H
    exact QN.sb (hJ1 _ _ _ _ _ ⟨true, (a2 == 0), rfl, rfl, rfl, (Imm.le_refl _), HK1⟩) .slnil (.refl _)
  ·have hc := (Bool.eq_false_iff.1 hb)
   rw [hb]
   rw [if_neg hc] at H; clear hb
   refine RL.s 8 [(39, .bool true), (10, .bool false), (9, .slice A2 t3.1.length c2), (8, .slice A1 t2.length c1), (7, .bool t1), (1, .int .u16 a1), (2, .int .u8 a2)] ?_
   refine RL.nil (by kernel_rfl) ?_
   obtain rfl := Option.some.inj H
   exact QN.sb (hJ1 _ _ _ _ _ ⟨false, true, rfl, rfl, rfl, (Imm.le_refl _), HK1⟩) .slnil (.refl _)

end Go.Proofs.YtiomeaoeegikkaaDoor
namespace Go.Proofs.YtiomeaoeegikkaaDoor
open Go Go.Proofs.YtiomeaoeegikkaaDoor.RW Go.Proofs.YtiomeaoeegikkaaDoor.led
set_option linter.unusedVariables false
theorem corr_l1 (a1 : Int) (es : List S25) (hok : okL es) (hn : es.length ≤ 100) (p : Nat) (hp : (W .i64 a1).tmod (((logOf es, true) : List Int × Bool).1.length : Int) = (p : Int)) : ∀ (d n c : Nat), d + n = es.length → CutAt es p n c →
    ∃ c', CutAt es p es.length c' ∧ Ev (fun k => armillarylaw28_LedgerCorruption.l1 a1 es (logOf es, true) k (c : Int) (Le es c : Int) (n : Int)) ((c' : Int), (Le es c' : Int))
  | 0, n, c, hd, hf => by
    obtain rfl : n = es.length := by omega
    exact ⟨c, hf, Ev.succ (g := fun _ => some ((c : Int), (Le es c : Int))) (fun k => by rw [armillarylaw28_LedgerCorruption.l1, if_neg (by omega)]) (Ev.const rfl)⟩
  | d + 1, n, c, hd, hf => by
    have hn' : n < es.length := by omega
    have e6 := build_ev (es.take (n + 1)) (hok.take _) (by rw [List.length_take]; omega) [] (by decide)
    rw [List.nil_append] at e6
    have hstep : ∀ k, armillarylaw28_LedgerCorruption.l1 a1 es (logOf es, true) (k + 1) (c : Int) (Le es c : Int) (n : Int) = (armillarylaw28_build.f k [] (es.take (n + 1))).bind fun t6 => ((if (t6.1.length : Int) ≤ (p : Int) then (some (((n + 1 : Nat) : Int), (t6.1.length : Int))) else (some ((c : Int), (Le es c : Int)))).bind (fun (x7, x8) => (armillarylaw28_LedgerCorruption.l1 a1 es (logOf es, true) k x7 x8 ((n + 1 : Nat) : Int)))) := by
      intro k
      rw [armillarylaw28_LedgerCorruption.l1, if_pos (by omega), Wn (by omega), if_pos (by omega), if_pos (by omega), rpart_take, hp]
    by_cases hl : Le es (n + 1) ≤ p
    · obtain ⟨c', h1, h2⟩ := corr_l1 a1 es hok hn p hp d (n + 1) (n + 1) (by omega) (hf.up hl)
      refine ⟨c', h1, Ev.succ hstep (Ev.bind e6 (Ev.congr (fun k => ?_) h2))⟩
      rw [if_pos (by show ((Le es (n + 1) : Nat) : Int) ≤ _; omega)]
      rfl
    · obtain ⟨c', h1, h2⟩ := corr_l1 a1 es hok hn p hp d (n + 1) c (by omega) (hf.stay hl)
      refine ⟨c', h1, Ev.succ hstep (Ev.bind e6 (Ev.congr (fun k => ?_) h2))⟩
      rw [if_neg (by show ¬ ((Le es (n + 1) : Nat) : Int) ≤ _; omega)]
      rfl
theorem armillarylaw28_LedgerCorruption_holds (a0 : List S25) (a1 a2 : Int) (hp0 : ∀ x ∈ a0, p25 x) (h0 : a0.length ≤ 9223372036854775807) (w1 : (Lit.int .u16 a1).wf = true) (w2 : (Lit.int .u8 a2).wf = true) : ∃ k, armillarylaw28_LedgerCorruption.f k a0 a1 a2 = some true := by
  obtain ⟨es, e2, hok, hn, _⟩ := made_ev a0 hp0 (by omega) 8 (by decide)
  have hl := logOf_len hok
  have e3 := build_ev es hok (by omega) [] (by decide)
  rw [List.nil_append] at e3
  have ha1 : 0 ≤ a1 ∧ a1 < 65536 := by
    simp [Lit.wf, IntKind.min, IntKind.max, IntKind.signed, IntKind.bits] at w1
    omega
  have ha2 := u8_wf w2
  refine Ev.get (Ev.bind sanity_ev (Ev.bind e2 (Ev.bind e3 ?_)))
  by_cases hz : es.length = 0
  · refine Ev.bind1 (r := (true, true)) (by show (if true = true then _ else _) = _; rw [if_pos rfl, if_pos (by omega)]) ?_
    exact Ev.congr (g := fun _ => some true) (fun k => rfl) (Ev.const rfl)
  by_cases hc0 : a2 = 0
  · refine Ev.bind1 (r := (true, true)) (by show (if true = true then _ else _) = _; rw [if_pos rfl, if_neg (by omega), hc0]; rfl) ?_
    exact Ev.congr (g := fun _ => some true) (fun k => rfl) (Ev.const rfl)
  refine Ev.bind1 (r := (true, false)) (by
    show (if true = true then _ else _) = _
    rw [if_pos rfl, if_neg (by omega)]
    have : (a2 == 0) = false := beq_eq_false_iff_ne.2 hc0
    rw [this]) ?_
  have hlp : 0 < (logOf es).length := by
    cases es with
    | nil => exact absurd rfl hz
    | cons e es => rw [logOf_cons, List.length_append, rec_len]; omega
  obtain ⟨p, hp, hpl⟩ : ∃ p : Nat, (W .i64 a1).tmod (((logOf es, true) : List Int × Bool).1.length : Int) = (p : Int) ∧ p < (logOf es).length := by
    show ∃ p : Nat, (W .i64 a1).tmod ((logOf es).length : Int) = (p : Int) ∧ p < (logOf es).length
    rw [W64 (by omega) (by omega), Int.tmod_eq_emod_of_nonneg (by omega)]
    have h1 := Int.emod_nonneg a1 (b := ((logOf es).length : Int)) (by omega)
    have h2 := Int.emod_lt_of_pos a1 (b := ((logOf es).length : Int)) (by omega)
    exact ⟨(a1 % ((logOf es).length : Int)).toNat, by omega, by omega⟩
  obtain ⟨c, hf, hloop⟩ := corr_l1 a1 es hok (by omega) p hp es.length 0 0 rfl (CutAt.zero es p)
  have hcl := hf.le
  have hfit := hf.fit
  have hcl2 : c < es.length := by
    rcases Nat.lt_or_ge c es.length with h | h
    · exact h
    · have hce : c = es.length := by omega
      rw [hce, Le_all] at hfit
      omega
  have he := hok _ (List.getElem_mem hcl2)
  have hle := enc_len he
  have hrl := rec_len es[c]
  have hmax : ¬ Le es (c + 1) ≤ p := fun h => by have := hf.max (c + 1) (by omega) h; omega
  rw [Le_succ hcl2] at hmax
  refine Ev.congr (fun k => if_neg (by show ¬ ((logOf es).length : Int) = 0; omega)) ?_
  refine Ev.bind hloop ?_
  simp only [armillarylaw28_LedgerCorruption.k3, hp]
  by_cases h4 : p - Le es c < 4
  · exact Ev.congr (fun k => if_pos (by rw [W64 (by omega) (by omega)]; omega)) (Ev.const rfl)
  refine Ev.congr (fun k => if_neg (by rw [W64 (by omega) (by omega)]; omega)) ?_
  simp only [List.nil_append]
  refine Ev.congr (fun k => if_pos (by show (0 + (logOf es).length) * 1 ≤ _; omega)) ?_
  refine Ev.congr (fun k => if_pos (by omega)) ?_
  refine Ev.congr (fun k => if_pos (by omega)) ?_
  refine Ev.congr (fun k => if_pos (by omega)) ?_
  refine Ev.congr (fun k => if_pos (by omega)) ?_
  have hb := logOf_bytes hok
  have hsp := log_split hcl2
  have hj : p - Le es c < (rec_ es[c]).length := by omega
  have hgd : (logOf es).getD p 0 = (rec_ es[c])[p - Le es c] := by
    rw [List.getD_eq_getElem?_getD, hsp, List.getElem?_append_right hfit]
    show ((rec_ es[c] ++ logOf (es.drop (c + 1)))[p - Le es c]?).getD 0 = _
    rw [List.getElem?_append_left hj, List.getElem?_eq_getElem hj]
    rfl
  have hbyte := rec_bytes he _ (List.getElem_mem hj)
  obtain ⟨hxb, hxn⟩ := xor8_ne hbyte ha2 hc0
  have hset : (logOf es).set p (bXor .u8 ((rec_ es[c])[p - Le es c]) a2) = logOf (es.take c) ++ ((rec_ es[c]).set (p - Le es c) (bXor .u8 ((rec_ es[c])[p - Le es c]) a2) ++ logOf (es.drop (c + 1))) := by
    conv => lhs; rw [hsp]
    rw [List.set_append_right _ _ hfit]
    show logOf (es.take c) ++ (rec_ es[c] ++ logOf (es.drop (c + 1))).set (p - Le es c) _ = _
    rw [List.set_append_left _ _ hj]
  have hbd : isBytes (logOf (es.drop (c + 1))) := logOf_bytes (fun x hx => hok x (List.mem_of_mem_drop hx))
  have hll := congrArg List.length hsp
  rw [List.length_append, List.length_append] at hll
  have hft := first_turned he (logOf (es.drop (c + 1))) hbd (by rw [List.length_append]; omega) (j := p - Le es c) (by omega) hj hxb hxn
  have hsc := scan_bad (es := es.take c) (hok.take c) (by rw [List.length_take]; omega) (r := (rec_ es[c]).set (p - Le es c) (bXor .u8 ((rec_ es[c])[p - Le es c]) a2) ++ logOf (es.drop (c + 1))) ((set_bytes (rec_bytes he) hxb).app hbd) (by rw [List.length_append, List.length_set]; omega) (by rw [List.length_append, List.length_set]; omega) hft
  rw [← hset] at hsc
  rw [tn, hgd]
  refine Ev.bind hsc ?_
  refine Ev.bind (r := true) ?_ (Ev.const rfl)
  refine Ev.congr (fun k => if_pos (by omega)) ?_
  refine Ev.congr (fun k => if_pos (by omega)) ?_
  rw [rpart_take]
  have hsame : Ev (fun k => armillaryref28_Same.f k (es.take c) (es.take c)) true := same_ev (by rw [List.length_take]; omega)
  refine Ev.bind hsame ?_
  refine Ev.congr (fun k => if_pos rfl) ?_
  refine Ev.congr (fun k => if_pos rfl) ?_
  exact Ev.congr (fun k => if_pos rfl) (Ev.const rfl)
end Go.Proofs.YtiomeaoeegikkaaDoor
namespace Go.Proofs.YtiomeaoeegikkaaDoor.ledgerCorruption
open Go.ChangeShapes Go.WideShapes Go.ChangeAt Go.RowKit Go.Proofs.YtiomeaoeegikkaaDoor Go.Proofs.YtiomeaoeegikkaaDoor.RW
open Go.ChangeMaps (open_string shut_string)
set_option linter.unusedVariables false
set_option maxRecDepth 1000000
set_option maxHeartbeats 8000000

theorem own : ownKnob Tryd.prog.godebug = none := by kernel_rfl
theorem laidOut : laidOutB Tryd.prog = true := by kernel_rfl
theorem lifted (os : Os) (started : os.Started) (H : Type) (enc : TypeId × Value → H) :
  ReturnsInHanded {} Tryd.checked os 7 .any (fun w args => (Rows.ledgerCorruptionSpec.pre enc Tryd.prog Tryd.f7 [] false w args ∧ laidMetH Tryd.prog lh.laid w) ∧ sizedMet enc Tryd.prog Tryd.f7 (OpenSpec.ofChange Rows.ledgerCorruptionSpec) false w args) (Rows.ledgerCorruptionSpec.post enc Tryd.prog Tryd.f7 false true false false) := by
 refine returnsInHanded_of_change_and (C := Tryd.checked) (X := fun w _ => laidMetH Tryd.prog lh.laid w) (fun _ _ _ hh h => h.of_heap hh) own started (by kernel_rfl) Tryd.func7
  (ChangeSpec.witness_at (enc := enc) (C := Tryd.checked) (os := os) (X := fun w _ => laidMetH Tryd.prog lh.laid w) false (lh.laidWorld os) #[.slice none 0 0, .int .u16 0, .int .u8 0] 8 rfl (by kernel_rfl) (by kernel_rfl) (by kernel_rfl) (by kernel_rfl) (by kernel_rfl) (lh.laidWorld_met os _)) ?_
 intro W base args ds gs before hval0 hW hcnd _ hL _
 have hval : ∀ (j : Nat) t v, Tryd.f7.params[j]? = some t → args[j]? = some v → Value.okWide Tryd.prog W .any base t v := hval0
 have hW' := hW
 obtain ⟨p, q, hA0, hV, rfl, hfz, hnd⟩ := hW
 have hA : DataW.TrodAll enc Tryd.prog W 0 (fun _ => true) true Tryd.f7.params.toList args.toList ds p := hA0
 rw [Tryd.params7] at hA hval
 obtain ⟨v0, vs0, d0, ds0, p0, q0, hargs, rfl, rfl, h0, z0⟩ := trodAll_cons hA
 obtain ⟨v1, vs1, d1, ds1, p1, q1, rfl, rfl, rfl, h1, z1⟩ := trodAll_cons z0
 obtain ⟨v2, vs2, d2, ds2, p2, q2, rfl, rfl, rfl, h2, z2⟩ := trodAll_cons z1
 obtain ⟨rfl, rfl, rfl⟩ := trodAll_nil z2
 obtain rfl : args = #[v0, v1, v2] := by cases args; simp_all
 obtain ⟨rfl, rfl⟩ := trodVars_none hV
 have k0 := h0
 have lt0 : ∀ x ∈ p0, x.block < W.heap.size := by obtain ⟨m, hm⟩ := k0; exact DataW.trod_lt m _ _ _ hm
 obtain ⟨b0, len0, cap0, rfl⟩ := okWide_slice Tryd.underlying23 (hval 0 23 v0 rfl rfl)
 obtain ⟨fuel0, hf0⟩ := h0
 obtain ⟨a0, ⟨A0, c0, e0, l0, r0⟩, hp0⟩ := (opens_slice (e := 25) o25 (by kernel_rfl) (by kernel_rfl) (Nat.le_of_ble_eq_true (by kernel_rfl)) : Opens Tryd.prog (Ty.slice t25) 23 (fun l => ∀ x ∈ l, p25 x)) W 0 _ _ _ _ _ hf0
 obtain ⟨rfl, rfl, rfl⟩ : b0 = A0 ∧ len0 = a0.length ∧ cap0 = c0 := by simpa [Value.cells] using e0
 obtain ⟨a1, rfl, rfl, rfl, w1⟩ := open_int Tryd.underlying44 (hval 1 44 v1 rfl rfl) h1
 obtain ⟨a2, rfl, rfl, rfl, w2⟩ := open_int Tryd.underlying5 (hval 2 5 v2 rfl rfl) h2
 clear hA0 hval0
 obtain ⟨k, hk⟩ := armillarylaw28_LedgerCorruption_holds a0 a1 a2 hp0 r0.1 w1 w2
 refine (armillarylaw28_LedgerCorruption.calls k (wImm W) a0 b0 cap0 a1 a2 W (wImm_at W) (lh.glob_of_laid hL) l0 r0 true hk).mono ?_
 rintro e W' ⟨v, rfl, J, rfl, hg⟩
 have bel : Below W.heap.size W W' := ⟨hg.evo.os, hg.evo.tape, hg.evo.output, hg.evo.size, fun k hk => hg.evo.blk k hk (fun h => h)⟩
 exact ⟨_, rfl, _, _, _, [], _, [], hW', trodAll_mk1 (shut_bool Tryd.underlying4 _), (trodAll_cons_mk (Below.trod laidOut (by kernel_rfl) (of_decide_eq_true (by kernel_rfl)) k0 bel lt0) (trodAll_cons_mk (shut_int Tryd.underlying44 w1) (trodAll_cons_mk (shut_int Tryd.underlying5 w2) trodAll_mk0))), rfl, bel.frame _, fun h => by cases h⟩

theorem over : Rows.ledgerCorruptionRow.holds Tryd.pinned (OpenSpec.ofChange Rows.ledgerCorruptionSpec) :=
 OpenClaim.holds_of_wide 7 Tryd.f7 rfl rfl rfl rfl rfl rfl rfl ⟨rfl, rfl, rfl, rfl, rfl⟩ rfl rfl rfl rfl rfl (by kernel_rfl) Tryd.func7 (by kernel_rfl)
  (of_decide_eq_true (by kernel_rfl)) (by unfold Func.isWrapper; first | (rw [if_pos (by decide +kernel)]; kernel_rfl) | (rw [if_neg (by decide +kernel)]; exact ⟨rfl, rfl⟩))
  (fun os started H enc _ => lifted os started H enc)
theorem tied : Rows.LedgerCorruptionCardSaid :=
  Claim7.holds_tied_plain_at .later [] [.handle] true (true, "fef0f658d46f2b31548aceb5a193b059c844c18693a0855299c2bac37f2f0ac5") true
    over (fun _ h => by cases h) (by kernel_rfl) (fun _ h => by cases h) ledgerCorruption_row_tie rfl ⟨rfl, rfl⟩ (by kernel_rfl) rfl
    (fun f fn hf hfn => by
      obtain rfl : f = 7 := Option.some.inj ((show Tryd.prog.funcNamed "armillary/armillarylaw28.LedgerCorruption" = some 7 by kernel_rfl).symm.trans hf) |>.symm
      obtain rfl : fn = Tryd.f7 := (Option.some.inj (Tryd.func7.symm.trans hfn)).symm
      refine ⟨by kernel_rfl, fun j t ht => ?_⟩
      have hm := Array.mem_of_getElem? ht
      rw [Tryd.params7] at hm
      simp only [List.mem_toArray, List.mem_cons, List.not_mem_nil, or_false] at hm
      first
        | (obtain rfl := hm; show Tryd.prog.wantsStandIn _ = false; kernel_rfl)
        | (rcases hm with rfl | rfl <;> show Tryd.prog.wantsStandIn _ = false <;> kernel_rfl)
        | (rcases hm with rfl | rfl | rfl <;> show Tryd.prog.wantsStandIn _ = false <;> kernel_rfl))
    (by kernel_rfl)
theorem proved : Rows.LedgerCorruptionCardSaid := tied
#print axioms proved
end Go.Proofs.YtiomeaoeegikkaaDoor.ledgerCorruption
