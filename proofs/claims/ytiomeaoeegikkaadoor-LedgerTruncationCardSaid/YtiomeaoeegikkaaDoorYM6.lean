/- What a function of the program computes, and the walk that shows it; made by a program of the session's out of the translation; no conditions beyond those that the theorems name. -/
import Derived.Test.YtiomeaoeegikkaaDoorY3
import Derived.Test.YtiomeaoeegikkaaDoorY5
import Derived.Test.YtiomeaoeegikkaaDoorY6
import Derived.Test.YtiomeaoeegikkaaDoorY4
import Derived.Test.YtiomeaoeegikkaaDoorRows
import Derived.Test.YtiomeaoeegikkaaDoorCards
import Derived.Test.YtiomeaoeegikkaaDoorTie
import Derived.SevenTiedAt
import Derived.WalkKit
import Derived.ProofKit
import Derived.OpenShut
import Derived.ShutString
import Derived.ChangeOld
import Derived.Below
import Derived.Carry
import Derived.WideShapes
namespace Go.Proofs.YtiomeaoeegikkaaDoor
open Go Go.Proofs.YtiomeaoeegikkaaDoor.RW
set_option linter.unusedVariables false
set_option maxRecDepth 100000
set_option maxHeartbeats 8000000

/-! ### armillarylaw28_LedgerTruncation: function 6, armillary/armillarylaw28.LedgerTruncation -/
noncomputable def K6_0 : Code := cBody Tryd.f6
def armillarylaw28_LedgerTruncation.k1  (x3 : Bool) : Option (Bool) := (some x3)
def armillarylaw28_LedgerTruncation.k2 (k : Nat) (a1 : Int) (t1 : Bool) (t2 : List S25) (t3 : List Int × Bool) : (Int × Int) ⊕ (Bool) → Option (Bool)
 | .inl (x1, x2) => (if (0 : Int) ≤ ((W .i64 (a1)).tmod (W .i64 ((t3.1.length : Int) + 1))) then (if ((W .i64 (a1)).tmod (W .i64 ((t3.1.length : Int) + 1))) ≤ (t3.1.length : Int) then ((ledger_Scan.f k (rpart t3.1 0 ((W .i64 (a1)).tmod (W .i64 ((t3.1.length : Int) + 1))))).bind fun t4 => ((if (0 : Int) ≤ x1 then (if x1 ≤ (t2.length : Int) then ((armillaryref28_Same.f k t4.1 (rpart t2 0 x1)).bind fun t5 => (if t5 = true then (if t4.2.1 = x2 then (if ((t4.2.2 == 0) == (x2 == ((W .i64 (a1)).tmod (W .i64 ((t3.1.length : Int) + 1))))) = true then (if t4.2.2 = 0 then (some t1) else (if t4.2.2 = 271 then (some t1) else (some false))) else (some false)) else (some false)) else (some false))) else none) else none).bind (armillarylaw28_LedgerTruncation.k1))) else none) else none)
 | .inr r_ => some r_
def armillarylaw28_LedgerTruncation.l1 (a1 : Int) (t2 : List S25) (t3 : List Int × Bool) : Nat → Int → Int → Int → Option ((Int × Int) ⊕ (Bool))
 | 0, _, _, _ => none
 | k + 1, x4, x5, x6 => (if x6 < (t2.length : Int) then (if (0 : Int) ≤ (W .i64 (x6 + 1)) then (if (W .i64 (x6 + 1)) ≤ (t2.length : Int) then ((armillarylaw28_build.f k [] (rpart t2 0 (W .i64 (x6 + 1)))).bind fun t6 => (if t6.2 = true then ((if (t6.1.length : Int) ≤ ((W .i64 (a1)).tmod (W .i64 ((t3.1.length : Int) + 1))) then (some (W .i64 (x6 + 1), (t6.1.length : Int))) else (some (x4, x5))).bind (fun (x7, x8) => (armillarylaw28_LedgerTruncation.l1 a1 t2 t3 k x7 x8 (W .i64 (x6 + 1))))) else (some (Sum.inr false)))) else none) else none) else (some (Sum.inl (x4, x5))))
def armillarylaw28_LedgerTruncation.f (k : Nat) (a0 : List S25) (a1 : Int) : Option (Bool) := ((armillarylaw28_sanity.f k ).bind fun t1 => ((armillaryref28_Made.f k a0 8).bind fun t2 => ((armillarylaw28_build.f k [] t2).bind fun t3 => (if t3.2 = true then (if (W .i64 ((t3.1.length : Int) + 1)) = 0 then none else ((armillarylaw28_LedgerTruncation.l1 a1 t2 t3 k 0 0 0).bind (armillarylaw28_LedgerTruncation.k2 k a1 t1 t2 t3))) else (some false)))))
def armillarylaw28_LedgerTruncation.Post (I : Imm) (w : World) (r : Bool) (v : Value) (w' : World) : Prop :=
 ∃ (J : Imm), v = .bool r ∧ Got w w' I J []
theorem armillarylaw28_LedgerTruncation.calls (k : Nat) (I0 : Imm) (a0 : List S25) (Ap0 : Option Addr) (cp0 : Nat) (a1 : Int) (w : World) (hI : I0.at_ w) (hG : Glob I0) (hlp0 : a0.length ≤ cp0) (hrp0 : Rd t25 I0 Ap0 a0) (r : Bool) (h : armillarylaw28_LedgerTruncation.f k a0 a1 = some r) :
  Calls Tryd.prog 6 [.slice Ap0 a0.length cp0, .int .u16 a1].toArray w fun e w' => ∃ v, e = .returned v ∧ armillarylaw28_LedgerTruncation.Post I0 w r v w' := by
 have H : ((armillarylaw28_sanity.f k ).bind fun t1 => ((armillaryref28_Made.f k a0 8).bind fun t2 => ((armillarylaw28_build.f k [] t2).bind fun t3 => (if t3.2 = true then (if (W .i64 ((t3.1.length : Int) + 1)) = 0 then none else ((armillarylaw28_LedgerTruncation.l1 a1 t2 t3 k 0 0 0).bind (armillarylaw28_LedgerTruncation.k2 k a1 t1 t2 t3))) else (some false))))) = some r := h
 clear h
 refine calls_body Tryd.func6 (by kernel_rfl) 95 (by kernel_rfl) (by kernel_rfl) ⟨w, fun _ => False, I0⟩ I0 [] [(0, .slice Ap0 a0.length cp0), (1, .int .u16 a1)] (by kernel_rfl) (Sat.start w _ I0 hI) ?_
 generalize w.heap.size = nx0
 show OK _ K6_0 _ _ _ _ _ _ _ _
 refine OK.sr ?_
 refine RL.st 1 [(0, .slice Ap0 a0.length cp0), (1, .int .u16 a1)] ?_
 refine OK.sr ?_
 obtain ⟨t1, hA1, H⟩ := bnd H
 refine RL.callP 11 [] (some 18) (fun w => armillarylaw28_sanity.Post I0 w t1) (by kernel_rfl) (by kernel_rfl) (fun w hs => armillarylaw28_sanity.calls k I0  w hs.im hG t1 hA1) ?_
 rintro w v w' hs ⟨I1, rfl, hg⟩
 have hi1 := hg.le
 refine RL.resume (X' := []) rfl (hs.call hg) ?_
 clear hs hg
 generalize w'.heap.size = nx1
 clear w w'
 refine RL.st 1 [(5, .bool t1), (0, .slice Ap0 a0.length cp0), (1, .int .u16 a1)] ?_
 refine OK.sr ?_
 refine RL.s 1 [(19, .slice Ap0 a0.length cp0), (5, .bool t1), (1, .int .u16 a1)] ?_
 obtain ⟨t2, hA2, H⟩ := bnd H
 refine RL.callP 12 [.slice Ap0 a0.length cp0, i6 8] (some 20) (fun w => armillaryref28_Made.Post I1 w t2) (by kernel_rfl) (by kernel_rfl) (fun w hs => armillaryref28_Made.calls k I1 a0 Ap0 cp0 8 w hs.im hlp0 (Rd.ext hi1 hrp0) t2 hA2) ?_
 rintro w v w' hs ⟨I2, A1, c1, cs1, rfl, hg, hp1⟩
 have hi2 := hg.le
 refine RL.resume (X' := [orow 25 3 A1 t2.length c1 cs1]) rfl (hs.call hg) ?_
 clear hs hg
 generalize w'.heap.size = nx2
 clear w w'
 refine RL.st 1 [(6, .slice A1 t2.length c1), (5, .bool t1), (1, .int .u16 a1)] ?_
 refine OK.sr ?_
 refine RL.s 1 [(22, .slice A1 t2.length c1), (6, .slice A1 t2.length c1), (5, .bool t1), (1, .int .u16 a1)] ?_
 refine RL.freeze (e := 25) (sz := 3) (S := A1) (n := t2.length) (cap := c1) 0 (by kernel_rfl) hp1 rfl (fun I3 hi3 hl1 hr1 => ?_)
 skip
 obtain ⟨t3, hA3, H⟩ := bnd H
 refine RL.callP 24 [.slice none 0 0, .slice A1 t2.length c1] (some 23) (fun w => armillarylaw28_build.Post I3 w t3) (by kernel_rfl) (by kernel_rfl) (fun w hs => armillarylaw28_build.calls k I3 [] none 0 t2 A1 c1 w hs.im (Nat.le_refl _) (Rd.nil _ _ _) hl1 hr1 t3 hA3) ?_
 rintro w v w' hs ⟨I4, A2, c2, rfl, hg, hl2, hr2⟩
 have hi4 := hg.le
 refine RL.resume (X' := []) rfl (hs.call hg) ?_
 clear hs hg
 generalize w'.heap.size = nx3
 clear w w'
 refine RL.st 5 [(8, .bool t3.2), (7, .slice A2 t3.1.length c2), (6, .slice A1 t2.length c1), (5, .bool t1), (1, .int .u16 a1)] ?_
 refine OK.sq ?_
 refine OK.sr ?_
 refine RL.st 2 [(27, .bool (!t3.2)), (7, .slice A2 t3.1.length c2), (6, .slice A1 t2.length c1), (5, .bool t1), (1, .int .u16 a1)] ?_
 refine OK.cd (!t3.2) (fun hb => ?_) (fun hb => ?_)
 ·have hb : t3.2 = false := by simpa using hb
  have hc := (Bool.eq_false_iff.1 hb)
  rw [if_neg hc] at H
  clear hb
  refine OK.sr ?_
  refine RL.st 1 [(4, .bool false)] ?_
  refine OK.re ?_
  refine QN.thenR ?_
  obtain rfl := Option.some.inj H
  refine QN.body rfl [] (RFacts.nil _ _ _) (.no) (.bool false) (by kernel_rfl) (by kernel_rfl) (by kernel_rfl) ?_ _ (.inr rfl)
  exact fun w' hs' => ⟨_, rfl, I4, rfl, hs'.got _ .slnil⟩
 ·have hb : t3.2 = true := by simpa using hb
  have hc := hb
  rw [if_pos hc] at H
  clear hb
  refine OK.skt ?_
  refine OK.sr ?_
  refine RL.s 5 [(32, i6 (W .i64 ((t3.1.length : Int) + 1))), (29, i6 (W .i64 (a1))), (7, .slice A2 t3.1.length c2), (6, .slice A1 t2.length c1), (5, .bool t1)] ?_
  by_cases hc : (W .i64 ((t3.1.length : Int) + 1)) = 0
  ·rw [if_pos hc] at H; cases H
  rw [if_neg hc] at H
  refine RL.rem .i64 (W .i64 (a1)) (W .i64 ((t3.1.length : Int) + 1)) (some 33) (by kernel_rfl) (by kernel_rfl) hc (K' := [(33, i6 ((W .i64 (a1)).tmod (W .i64 ((t3.1.length : Int) + 1)))), (32, i6 (W .i64 ((t3.1.length : Int) + 1))), (29, i6 (W .i64 (a1))), (7, .slice A2 t3.1.length c2), (6, .slice A1 t2.length c1), (5, .bool t1)]) (by kernel_rfl) ?_
  refine RL.st 3 [(11, i6 0), (10, i6 0), (9, i6 ((W .i64 (a1)).tmod (W .i64 ((t3.1.length : Int) + 1)))), (7, .slice A2 t3.1.length c2), (6, .slice A1 t2.length c1), (5, .bool t1)] ?_
  refine OK.sq ?_
  refine OK.sr ?_
  refine RL.st 1 [(12, i6 0), (11, i6 0), (10, i6 0), (9, i6 ((W .i64 (a1)).tmod (W .i64 ((t3.1.length : Int) + 1)))), (7, .slice A2 t3.1.length c2), (6, .slice A1 t2.length c1), (5, .bool t1)] ?_
  refine OK.join (fun K' I' _ L' X' => ∃ (x1 : Int) (x2 : Int), K' = [(5, .bool t1), (6, .slice A1 t2.length c1), (7, .slice A2 t3.1.length c2), (9, i6 ((W .i64 (a1)).tmod (W .i64 ((t3.1.length : Int) + 1)))), (10, i6 x1), (11, i6 x2)] ∧ L' = [] ∧ X' = [] ∧ Imm.le I4 I' ∧ armillarylaw28_LedgerTruncation.k2 k a1 t1 t2 t3 (Sum.inl (x1, x2)) = some r) ?_ ?_
  ·rintro _ I5 nx4 _ _ ⟨x1, x2, rfl, rfl, rfl, hi5, H⟩
   rw [armillarylaw28_LedgerTruncation.k2] at H
   refine QN.then_ ?_
   refine OK.sr ?_
   refine RL.s 2 [(60, i6 ((W .i64 (a1)).tmod (W .i64 ((t3.1.length : Int) + 1)))), (59, .slice A2 t3.1.length c2), (5, .bool t1), (6, .slice A1 t2.length c1), (9, i6 ((W .i64 (a1)).tmod (W .i64 ((t3.1.length : Int) + 1)))), (10, i6 x1), (11, i6 x2)] ?_
   obtain ⟨hs1_1, H⟩ := ifs H
   obtain ⟨hs2_1, H⟩ := ifs H
   refine RL.subH (T := 22) (e := 5) (l := t3.1) (S := A2) (cap := c2) (hi := (W .i64 (a1)).tmod (W .i64 ((t3.1.length : Int) + 1))) 1 .i64 (some 61) (by kernel_rfl) (by kernel_rfl) (by kernel_rfl) (by kernel_rfl) hl2 hs1_1 hs2_1 (K' := [(61, .slice (slA A2 (0 : Int).toNat c2 1) ((rpart t3.1 0 ((W .i64 (a1)).tmod (W .i64 ((t3.1.length : Int) + 1)))).length) (c2 - (0 : Int).toNat)), (60, i6 ((W .i64 (a1)).tmod (W .i64 ((t3.1.length : Int) + 1)))), (59, .slice A2 t3.1.length c2), (5, .bool t1), (6, .slice A1 t2.length c1), (9, i6 ((W .i64 (a1)).tmod (W .i64 ((t3.1.length : Int) + 1)))), (10, i6 x1), (11, i6 x2)]) (by kernel_rfl) ?_
   obtain ⟨t4, hA4, H⟩ := bnd H
   refine RL.callP 16 [.slice (slA A2 (0 : Int).toNat c2 1) ((rpart t3.1 0 ((W .i64 (a1)).tmod (W .i64 ((t3.1.length : Int) + 1)))).length) (c2 - (0 : Int).toNat)] (some 62) (fun w => ledger_Scan.Post I5 w t4) (by kernel_rfl) (by kernel_rfl) (fun w hs => ledger_Scan.calls k I5 (rpart t3.1 0 ((W .i64 (a1)).tmod (W .i64 ((t3.1.length : Int) + 1)))) (slA A2 (0 : Int).toNat c2 1) (c2 - (0 : Int).toNat) w hs.im (Glob.ext (Imm.le_trans (Imm.le_trans (Imm.le_trans (Imm.le_trans hi1 hi2) hi3) hi4) hi5) hG) (part_le hl2 (Int.le_refl 0) hs1_1 hs2_1) (rd_sub (Rd.ext hi5 hr2) hl2 (Int.le_refl 0) hs1_1 hs2_1) t4 hA4) ?_
   rintro w v w' hs ⟨I6, A3, c3, cs2, rfl, hg, hp2⟩
   have hi6 := hg.le
   refine RL.resume (X' := [orow 25 3 A3 t4.1.length c3 cs2]) rfl (hs.call hg) ?_
   clear hs hg
   generalize w'.heap.size = nx5
   clear w w'
   refine RL.st 7 [(17, i6 t4.2.2), (16, i6 t4.2.1), (15, .slice A3 t4.1.length c3), (5, .bool t1), (6, .slice A1 t2.length c1), (9, i6 ((W .i64 (a1)).tmod (W .i64 ((t3.1.length : Int) + 1)))), (10, i6 x1), (11, i6 x2)] ?_
   refine OK.sq ?_
   refine OK.join (fun K' I' _ L' X' => ∃ (x3 : Bool), K' = [(4, .bool x3)] ∧ L' = [] ∧ X' = [] ∧ Imm.le I6 I' ∧ armillarylaw28_LedgerTruncation.k1 x3 = some r) ?_ ?_
   ·rintro _ I7 nx6 _ _ ⟨x3, rfl, rfl, rfl, hi7, H⟩
    rw [armillarylaw28_LedgerTruncation.k1] at H
    refine QN.then_ ?_
    refine OK.re ?_
    obtain rfl := Option.some.inj H
    refine QN.body rfl [] (RFacts.nil _ _ _) (.no) (.bool x3) (by kernel_rfl) (by kernel_rfl) (by kernel_rfl) ?_ _ (.inr rfl)
    exact fun w' hs' => ⟨_, rfl, I7, rfl, hs'.got _ .slnil⟩
   ·intro Q_1 hJ2 hQ2
    obtain ⟨y2, H, HK2⟩ := bnd H
    refine OK.rg ?_
    refine RL.s 3 [(68, i6 x1), (67, .slice A1 t2.length c1), (66, .slice A3 t4.1.length c3), (17, i6 t4.2.2), (16, i6 t4.2.1), (5, .bool t1), (9, i6 ((W .i64 (a1)).tmod (W .i64 ((t3.1.length : Int) + 1)))), (11, i6 x2)] ?_
    obtain ⟨hs1_2, H⟩ := ifs H
    obtain ⟨hs2_2, H⟩ := ifs H
    refine RL.subH (T := 23) (e := 25) (l := t2) (S := A1) (cap := c1) (hi := x1) 3 .i64 (some 69) (by kernel_rfl) (by kernel_rfl) (by kernel_rfl) (by kernel_rfl) hl1 hs1_2 hs2_2 (K' := [(69, .slice (slA A1 (0 : Int).toNat c1 3) ((rpart t2 0 x1).length) (c1 - (0 : Int).toNat)), (68, i6 x1), (67, .slice A1 t2.length c1), (66, .slice A3 t4.1.length c3), (17, i6 t4.2.2), (16, i6 t4.2.1), (5, .bool t1), (9, i6 ((W .i64 (a1)).tmod (W .i64 ((t3.1.length : Int) + 1)))), (11, i6 x2)]) (by kernel_rfl) ?_
    obtain ⟨t5, hA5, H⟩ := bnd H
    refine RL.callP 19 [.slice A3 t4.1.length c3, .slice (slA A1 (0 : Int).toNat c1 3) ((rpart t2 0 x1).length) (c1 - (0 : Int).toNat)] (some 70) (fun w v w' => ∃ I', Imm.le I6 I' ∧ armillaryref28_Same.Post I' w t5 v w') (by kernel_rfl) (by kernel_rfl) (fun w hs => ?_) ?_
    ·skip
     obtain ⟨JL1, hj1, hn1, hw1, hs⟩ := Sat.freeze (e := 25) (sz := 3) (S := A3) (n := t4.1.length) (cap := c3) (m := 0) hs (by kernel_rfl) hp2 rfl
     exact (armillaryref28_Same.calls k JL1 t4.1 A3 c3 (rpart t2 0 x1) (slA A1 (0 : Int).toNat c1 3) (c1 - (0 : Int).toNat) _ hs.im hn1 hw1 (part_le hl1 (Int.le_refl 0) hs1_2 hs2_2) (Rd.ext hj1 (rd_sub (Rd.ext (Imm.le_trans (Imm.le_trans hi4 hi5) hi6) hr1) hl1 (Int.le_refl 0) hs1_2 hs2_2)) t5 hA5).mono (fun e w' ⟨v, hv, hp⟩ => ⟨v, hv, JL1, hj1, hp⟩)
    rintro w v w' hs ⟨I', hle, J, rfl, hg⟩
    refine RL.resume (X' := [orow 25 3 A3 t4.1.length c3 cs2]) rfl (hs.call (hg.back hle)) ?_
    clear hs hg hle I' J
    generalize w'.heap.size = nx7
    clear w w'
    refine RL.s 1 [(71, .bool t5), (17, i6 t4.2.2), (16, i6 t4.2.1), (5, .bool t1), (9, i6 ((W .i64 (a1)).tmod (W .i64 ((t3.1.length : Int) + 1)))), (11, i6 x2)] ?_
    refine RL.cases t5 (fun hb => ?_) (fun hb => ?_)
    ·have hc := hb
     rw [hb]
     rw [if_pos hc] at H; clear hb
     refine RL.s 5 [(76, .bool (t4.2.1 == x2)), (17, i6 t4.2.2), (5, .bool t1), (9, i6 ((W .i64 (a1)).tmod (W .i64 ((t3.1.length : Int) + 1)))), (11, i6 x2)] ?_
     refine RL.cases (t4.2.1 == x2) (fun hb => ?_) (fun hb => ?_)
     ·have hc := (beq_iff_eq.1 hb)
      rw [hb]
      rw [if_pos hc] at H; clear hb
      refine RL.s 8 [(84, .bool ((t4.2.2 == 0) == (x2 == ((W .i64 (a1)).tmod (W .i64 ((t3.1.length : Int) + 1)))))), (17, i6 t4.2.2), (5, .bool t1)] ?_
      refine RL.cases ((t4.2.2 == 0) == (x2 == ((W .i64 (a1)).tmod (W .i64 ((t3.1.length : Int) + 1))))) (fun hb => ?_) (fun hb => ?_)
      ·have hc := hb
       rw [hb]
       rw [if_pos hc] at H; clear hb
       refine RL.s 3 [(87, .bool (t4.2.2 == 0)), (84, .bool true), (17, i6 t4.2.2), (5, .bool t1)] ?_
       refine RL.cases (t4.2.2 == 0) (fun hb => ?_) (fun hb => ?_)
       ·have hc := (beq_iff_eq.1 hb)
        rw [hb]
        rw [if_pos hc] at H; clear hb
        refine RL.s 8 [(4, .bool t1)] ?_
        refine RL.nil (by kernel_rfl) ?_
        obtain rfl := Option.some.inj H
        refine QN.sel (K' := [(4, .bool t1)]) (L' := []) [] (by kernel_rfl) (by kernel_rfl) .slnil ?_
        refine QN.norm (X' := []) rfl rfl rfl (by kernel_rfl) ?_
        exact hJ2 _ _ _ _ _ ⟨t1, rfl, rfl, rfl, (Imm.le_refl _), HK2⟩
       ·have hc := (beq_eq_false_iff_ne.1 hb)
        rw [hb]
        rw [if_neg hc] at H; clear hb
        refine RL.s 5 [(92, .bool (t4.2.2 == 271)), (5, .bool t1)] ?_
        refine RL.cases (t4.2.2 == 271) (fun hb => ?_) (fun hb => ?_)
        ·have hc := (beq_iff_eq.1 hb)
         rw [hb]
         rw [if_pos hc] at H; clear hb
         refine RL.s 3 [(4, .bool t1)] ?_
         refine RL.nil (by kernel_rfl) ?_
         obtain rfl := Option.some.inj H
         refine QN.sel (K' := [(4, .bool t1)]) (L' := []) [] (by kernel_rfl) (by kernel_rfl) .slnil ?_
         refine QN.norm (X' := []) rfl rfl rfl (by kernel_rfl) ?_
         exact hJ2 _ _ _ _ _ ⟨t1, rfl, rfl, rfl, (Imm.le_refl _), HK2⟩
        ·have hc := (beq_eq_false_iff_ne.1 hb)
         rw [hb]
         rw [if_neg hc] at H; clear hb
         refine RL.s 3 [(4, .bool false)] ?_
         refine RL.nil (by kernel_rfl) ?_
         obtain rfl := Option.some.inj H
         refine QN.sel (K' := [(4, .bool false)]) (L' := []) [] (by kernel_rfl) (by kernel_rfl) .slnil ?_
         refine QN.norm (X' := []) rfl rfl rfl (by kernel_rfl) ?_
         exact hJ2 _ _ _ _ _ ⟨false, rfl, rfl, rfl, (Imm.le_refl _), HK2⟩
      ·have hc := (Bool.eq_false_iff.1 hb)
       rw [hb]
       rw [if_neg hc] at H; clear hb
       refine RL.s 11 [(4, .bool false)] ?_
       refine RL.nil (by kernel_rfl) ?_
       obtain rfl := Option.some.inj H
       refine QN.sel (K' := [(4, .bool false)]) (L' := []) [] (by kernel_rfl) (by kernel_rfl) .slnil ?_
       refine QN.norm (X' := []) rfl rfl rfl (by kernel_rfl) ?_
       exact hJ2 _ _ _ _ _ ⟨false, rfl, rfl, rfl, (Imm.le_refl _), HK2⟩
     ·have hc := (beq_eq_false_iff_ne.1 hb)
      rw [hb]
      rw [if_neg hc] at H; clear hb
      refine RL.s 19 [(4, .bool false)] ?_
      refine RL.nil (by kernel_rfl) ?_
      obtain rfl := Option.some.inj H
      refine QN.sel (K' := [(4, .bool false)]) (L' := []) [] (by kernel_rfl) (by kernel_rfl) .slnil ?_
      refine QN.norm (X' := []) rfl rfl rfl (by kernel_rfl) ?_
      exact hJ2 _ _ _ _ _ ⟨false, rfl, rfl, rfl, (Imm.le_refl _), HK2⟩
    ·have hc := (Bool.eq_false_iff.1 hb)
     rw [hb]
     rw [if_neg hc] at H; clear hb
     refine RL.s 24 [(4, .bool false)] ?_
     refine RL.nil (by kernel_rfl) ?_
     obtain rfl := Option.some.inj H
     refine QN.sel (K' := [(4, .bool false)]) (L' := []) [] (by kernel_rfl) (by kernel_rfl) .slnil ?_
     refine QN.norm (X' := []) rfl rfl rfl (by kernel_rfl) ?_
     exact hJ2 _ _ _ _ _ ⟨false, rfl, rfl, rfl, (Imm.le_refl _), HK2⟩
  ·intro Q_2 hJ1 hQ1
   obtain ⟨y1, H, HK1⟩ := bnd H
   refine OK.bk 0 ?_
   refine OK.sub (K' := [(5, .bool t1), (6, .slice A1 t2.length c1), (7, .slice A2 t3.1.length c2), (9, i6 ((W .i64 (a1)).tmod (W .i64 ((t3.1.length : Int) + 1)))), (10, i6 0), (11, i6 0), (12, i6 0)]) (L' := []) (by kernel_rfl) .slnil (.refl _) ?_
   refine OK.lp (fun n_ K' I' _ L' X' => ∃ (x4 : Int) (x5 : Int) (x6 : Int), K' = [(5, .bool t1), (6, .slice A1 t2.length c1), (7, .slice A2 t3.1.length c2), (9, i6 ((W .i64 (a1)).tmod (W .i64 ((t3.1.length : Int) + 1)))), (10, i6 x4), (11, i6 x5), (12, i6 x6)] ∧ L' = [] ∧ X' = [] ∧ Imm.le I4 I' ∧ armillarylaw28_LedgerTruncation.l1 a1 t2 t3 n_ x4 x5 x6 = some y1) k ⟨0, 0, 0, rfl, rfl, rfl, (Imm.le_refl _), H⟩ ?_ ?_
   ·rintro _ _ _ _ _ ⟨x4, x5, x6, rfl, rfl, rfl, _, H⟩
    cases H
   ·rintro kq1 _ I8 nx8 _ _ ⟨x4, x5, x6, rfl, rfl, rfl, hi8, H⟩ Q_l1 hJ3 hQ3
    rw [armillarylaw28_LedgerTruncation.l1] at H
    refine OK.sq ?_
    refine OK.sr ?_
    refine RL.st 4 [(37, .bool (decide (x6 < (t2.length : Int)))), (5, .bool t1), (6, .slice A1 t2.length c1), (7, .slice A2 t3.1.length c2), (9, i6 ((W .i64 (a1)).tmod (W .i64 ((t3.1.length : Int) + 1)))), (10, i6 x4), (11, i6 x5), (12, i6 x6)] ?_
    refine OK.cd (decide (x6 < (t2.length : Int))) (fun hb => ?_) (fun hb => ?_)
    ·skip
     have hc := (of_decide_eq_true hb)
     rw [if_pos hc] at H
     clear hb
     refine OK.skt ?_
     refine OK.sq ?_
     refine OK.bk 1 ?_
     refine OK.sr ?_
     refine RL.s 3 [(43, i6 (W .i64 (x6 + 1))), (41, .slice A1 t2.length c1), (5, .bool t1), (6, .slice A1 t2.length c1), (7, .slice A2 t3.1.length c2), (9, i6 ((W .i64 (a1)).tmod (W .i64 ((t3.1.length : Int) + 1)))), (10, i6 x4), (11, i6 x5), (12, i6 x6)] ?_
     obtain ⟨hs1_3, H⟩ := ifs H
     obtain ⟨hs2_3, H⟩ := ifs H
     refine RL.subH (T := 23) (e := 25) (l := t2) (S := A1) (cap := c1) (hi := W .i64 (x6 + 1)) 3 .i64 (some 44) (by kernel_rfl) (by kernel_rfl) (by kernel_rfl) (by kernel_rfl) hl1 hs1_3 hs2_3 (K' := [(44, .slice (slA A1 (0 : Int).toNat c1 3) ((rpart t2 0 (W .i64 (x6 + 1))).length) (c1 - (0 : Int).toNat)), (43, i6 (W .i64 (x6 + 1))), (41, .slice A1 t2.length c1), (5, .bool t1), (6, .slice A1 t2.length c1), (7, .slice A2 t3.1.length c2), (9, i6 ((W .i64 (a1)).tmod (W .i64 ((t3.1.length : Int) + 1)))), (10, i6 x4), (11, i6 x5), (12, i6 x6)]) (by kernel_rfl) ?_
     obtain ⟨t6, hA6, H⟩ := bnd H
     refine RL.callP 24 [.slice none 0 0, .slice (slA A1 (0 : Int).toNat c1 3) ((rpart t2 0 (W .i64 (x6 + 1))).length) (c1 - (0 : Int).toNat)] (some 45) (fun w => armillarylaw28_build.Post I8 w t6) (by kernel_rfl) (by kernel_rfl) (fun w hs => armillarylaw28_build.calls kq1 I8 [] none 0 (rpart t2 0 (W .i64 (x6 + 1))) (slA A1 (0 : Int).toNat c1 3) (c1 - (0 : Int).toNat) w hs.im (Nat.le_refl _) (Rd.nil _ _ _) (part_le hl1 (Int.le_refl 0) hs1_3 hs2_3) (rd_sub (Rd.ext (Imm.le_trans hi4 hi8) hr1) hl1 (Int.le_refl 0) hs1_3 hs2_3) t6 hA6) ?_
     rintro w v w' hs ⟨I9, A4, c4, rfl, hg, hl3, hr3⟩
     have hi9 := hg.le
     refine RL.resume (X' := []) rfl (hs.call hg) ?_
     clear hs hg
     generalize w'.heap.size = nx9
     clear w w'
     refine RL.st 5 [(14, .bool t6.2), (13, .slice A4 t6.1.length c4), (5, .bool t1), (6, .slice A1 t2.length c1), (7, .slice A2 t3.1.length c2), (9, i6 ((W .i64 (a1)).tmod (W .i64 ((t3.1.length : Int) + 1)))), (10, i6 x4), (11, i6 x5), (12, i6 x6)] ?_
     refine OK.sq ?_
     refine OK.sr ?_
     refine RL.st 2 [(49, .bool (!t6.2)), (13, .slice A4 t6.1.length c4), (5, .bool t1), (6, .slice A1 t2.length c1), (7, .slice A2 t3.1.length c2), (9, i6 ((W .i64 (a1)).tmod (W .i64 ((t3.1.length : Int) + 1)))), (10, i6 x4), (11, i6 x5), (12, i6 x6)] ?_
     refine OK.cd (!t6.2) (fun hb => ?_) (fun hb => ?_)
     ·have hb : t6.2 = false := by simpa using hb
      have hc := (Bool.eq_false_iff.1 hb)
      rw [if_neg hc] at H
      clear hb
      refine OK.sr ?_
      refine RL.st 1 [(4, .bool false)] ?_
      refine OK.re ?_
      refine QN.thenR ?_
      refine QN.blkR ?_
      refine QN.thenR ?_
      refine QN.outR hQ3 ?_
      refine QN.blkR ?_
      refine QN.outR hQ1 ?_
      refine QN.thenR ?_
      obtain rfl := Option.some.inj H
      replace H : some false = some r := HK1
      obtain rfl := Option.some.inj H
      refine QN.body rfl [] (RFacts.nil _ _ _) (.no) (.bool false) (by kernel_rfl) (by kernel_rfl) (by kernel_rfl) ?_ _ (.inr rfl)
      exact fun w' hs' => ⟨_, rfl, I9, rfl, hs'.got _ .slnil⟩
     ·have hb : t6.2 = true := by simpa using hb
      have hc := hb
      rw [if_pos hc] at H
      clear hb
      refine OK.skt ?_
      refine OK.sr ?_
      refine RL.st 4 [(53, .bool (decide ((t6.1.length : Int) ≤ ((W .i64 (a1)).tmod (W .i64 ((t3.1.length : Int) + 1)))))), (13, .slice A4 t6.1.length c4), (5, .bool t1), (6, .slice A1 t2.length c1), (7, .slice A2 t3.1.length c2), (9, i6 ((W .i64 (a1)).tmod (W .i64 ((t3.1.length : Int) + 1)))), (10, i6 x4), (11, i6 x5), (12, i6 x6)] ?_
      refine OK.join (fun K' I' _ L' X' => ∃ (x7 : Int) (x8 : Int), K' = [(5, .bool t1), (6, .slice A1 t2.length c1), (7, .slice A2 t3.1.length c2), (9, i6 ((W .i64 (a1)).tmod (W .i64 ((t3.1.length : Int) + 1)))), (10, i6 x7), (11, i6 x8), (12, i6 x6)] ∧ L' = [] ∧ X' = [] ∧ Imm.le I9 I' ∧ (armillarylaw28_LedgerTruncation.l1 a1 t2 t3 kq1 x7 x8 (W .i64 (x6 + 1))) = some y1) ?_ ?_
      ·rintro _ I10 nx10 _ _ ⟨x7, x8, rfl, rfl, rfl, hi10, H⟩
       replace H : (armillarylaw28_LedgerTruncation.l1 a1 t2 t3 kq1 x7 x8 (W .i64 (x6 + 1))) = some y1 := H
       refine QN.blkN ?_
       refine QN.then_ ?_
       refine OK.rg ?_
       refine RL.s 3 [(12, i6 (W .i64 (x6 + 1))), (5, .bool t1), (6, .slice A1 t2.length c1), (7, .slice A2 t3.1.length c2), (9, i6 ((W .i64 (a1)).tmod (W .i64 ((t3.1.length : Int) + 1)))), (10, i6 x7), (11, i6 x8)] ?_
       refine RL.nil (by kernel_rfl) ?_
       exact QN.sb (hJ3 _ _ _ _ _ ⟨x7, x8, W .i64 (x6 + 1), rfl, rfl, rfl, (Imm.le_trans (Imm.le_trans hi8 hi9) hi10), H⟩) .slnil (.refl _)
      ·intro Q_3 hJ4 hQ4
       obtain ⟨y3, H, HK3⟩ := bnd H
       refine OK.cd (decide ((t6.1.length : Int) ≤ ((W .i64 (a1)).tmod (W .i64 ((t3.1.length : Int) + 1))))) (fun hb => ?_) (fun hb => ?_)
       ·skip
        have hc := (of_decide_eq_true hb)
        rw [if_pos hc] at H
        clear hb
        refine OK.sr ?_
        refine RL.st 3 [(10, i6 (W .i64 (x6 + 1))), (13, .slice A4 t6.1.length c4), (5, .bool t1), (6, .slice A1 t2.length c1), (7, .slice A2 t3.1.length c2), (9, i6 ((W .i64 (a1)).tmod (W .i64 ((t3.1.length : Int) + 1)))), (12, i6 x6)] ?_
        refine OK.rg ?_
        refine RL.s 3 [(11, i6 (t6.1.length : Int)), (10, i6 (W .i64 (x6 + 1))), (5, .bool t1), (6, .slice A1 t2.length c1), (7, .slice A2 t3.1.length c2), (9, i6 ((W .i64 (a1)).tmod (W .i64 ((t3.1.length : Int) + 1)))), (12, i6 x6)] ?_
        refine RL.nil (by kernel_rfl) ?_
        obtain rfl := Option.some.inj H
        exact QN.sb (hJ4 _ _ _ _ _ ⟨W .i64 (x6 + 1), (t6.1.length : Int), rfl, rfl, rfl, (Imm.le_refl _), HK3⟩) .slnil (.refl _)
       ·skip
        have hc := (of_decide_eq_false hb)
        rw [if_neg hc] at H
        clear hb
        refine OK.sk ?_
        obtain rfl := Option.some.inj H
        exact QN.sb (hJ4 _ _ _ _ _ ⟨x4, x5, rfl, rfl, rfl, (Imm.le_refl _), HK3⟩) .slnil (.refl _)
    ·skip
     have hc := (of_decide_eq_false hb)
     rw [if_neg hc] at H
     clear hb
     refine OK.ex 0 ?_
     refine QN.thenE ?_
     refine QN.outE hQ3 ?_
     refine QN.blkE ?_
     obtain rfl := Option.some.inj H
     exact QN.sb (hJ1 _ _ _ _ _ ⟨x4, x5, rfl, rfl, rfl, hi8, HK1⟩) .slnil (.refl _)

end Go.Proofs.YtiomeaoeegikkaaDoor
namespace Go.Proofs.YtiomeaoeegikkaaDoor
open Go Go.Proofs.YtiomeaoeegikkaaDoor.RW Go.Proofs.YtiomeaoeegikkaaDoor.led
set_option linter.unusedVariables false
theorem trunc_l1 (a1 : Int) (es : List S25) (hok : okL es) (hn : es.length ≤ 100) (p : Nat) (hp : (W .i64 a1).tmod (W .i64 ((((logOf es, true) : List Int × Bool).1.length : Int) + 1)) = (p : Int)) : ∀ (d n c : Nat), d + n = es.length → CutAt es p n c →
    ∃ c', CutAt es p es.length c' ∧ Ev (fun k => armillarylaw28_LedgerTruncation.l1 a1 es (logOf es, true) k (c : Int) (Le es c : Int) (n : Int)) (.inl ((c' : Int), (Le es c' : Int)))
  | 0, n, c, hd, hf => by
    obtain rfl : n = es.length := by omega
    exact ⟨c, hf, Ev.succ (g := fun _ => some (.inl ((c : Int), (Le es c : Int)))) (fun k => by rw [armillarylaw28_LedgerTruncation.l1, if_neg (by omega)]) (Ev.const rfl)⟩
  | d + 1, n, c, hd, hf => by
    have hn' : n < es.length := by omega
    have e6 := build_ev (es.take (n + 1)) (hok.take _) (by rw [List.length_take]; omega) [] (by decide)
    rw [List.nil_append] at e6
    have hstep : ∀ k, armillarylaw28_LedgerTruncation.l1 a1 es (logOf es, true) (k + 1) (c : Int) (Le es c : Int) (n : Int) = (armillarylaw28_build.f k [] (es.take (n + 1))).bind fun t6 => (if t6.2 = true then ((if (t6.1.length : Int) ≤ (p : Int) then (some (((n + 1 : Nat) : Int), (t6.1.length : Int))) else (some ((c : Int), (Le es c : Int)))).bind (fun (x7, x8) => (armillarylaw28_LedgerTruncation.l1 a1 es (logOf es, true) k x7 x8 ((n + 1 : Nat) : Int)))) else (some (Sum.inr false))) := by
      intro k
      rw [armillarylaw28_LedgerTruncation.l1, if_pos (by omega), Wn (by omega), if_pos (by omega), if_pos (by omega), rpart_take, hp]
    by_cases hl : Le es (n + 1) ≤ p
    · obtain ⟨c', h1, h2⟩ := trunc_l1 a1 es hok hn p hp d (n + 1) (n + 1) (by omega) (hf.up hl)
      refine ⟨c', h1, Ev.succ hstep (Ev.bind e6 (Ev.congr (fun k => ?_) h2))⟩
      show (if true = true then _ else _) = _
      rw [if_pos rfl, if_pos (by show ((Le es (n + 1) : Nat) : Int) ≤ _; omega)]
      rfl
    · obtain ⟨c', h1, h2⟩ := trunc_l1 a1 es hok hn p hp d (n + 1) c (by omega) (hf.stay hl)
      refine ⟨c', h1, Ev.succ hstep (Ev.bind e6 (Ev.congr (fun k => ?_) h2))⟩
      show (if true = true then _ else _) = _
      rw [if_pos rfl, if_neg (by show ¬ ((Le es (n + 1) : Nat) : Int) ≤ _; omega)]
      rfl
theorem armillarylaw28_LedgerTruncation_holds (a0 : List S25) (a1 : Int) (hp0 : ∀ x ∈ a0, p25 x) (h0 : a0.length ≤ 9223372036854775807) (w1 : (Lit.int .u16 a1).wf = true) : ∃ k, armillarylaw28_LedgerTruncation.f k a0 a1 = some true := by
  obtain ⟨es, e2, hok, hn, _⟩ := made_ev a0 hp0 (by omega) 8 (by decide)
  have hl := logOf_len hok
  have e3 := build_ev es hok (by omega) [] (by decide)
  rw [List.nil_append] at e3
  have ha1 : 0 ≤ a1 ∧ a1 < 65536 := by
    simp [Lit.wf, IntKind.min, IntKind.max, IntKind.signed, IntKind.bits] at w1
    omega
  obtain ⟨p, hp, hpl⟩ : ∃ p : Nat, (W .i64 a1).tmod (W .i64 ((((logOf es, true) : List Int × Bool).1.length : Int) + 1)) = (p : Int) ∧ p ≤ (logOf es).length := by
    show ∃ p : Nat, (W .i64 a1).tmod (W .i64 (((logOf es).length : Int) + 1)) = (p : Int) ∧ p ≤ (logOf es).length
    rw [W64 (by omega) (by omega), W64 (by omega) (by omega), Int.tmod_eq_emod_of_nonneg (by omega)]
    have h1 := Int.emod_nonneg a1 (b := ((logOf es).length : Int) + 1) (by omega)
    have h2 := Int.emod_lt_of_pos a1 (b := ((logOf es).length : Int) + 1) (by omega)
    exact ⟨(a1 % (((logOf es).length : Int) + 1)).toNat, by omega, by omega⟩
  obtain ⟨c, hf, hloop⟩ := trunc_l1 a1 es hok (by omega) p hp es.length 0 0 rfl (CutAt.zero es p)
  have hcl := hf.le
  refine Ev.get (Ev.bind sanity_ev (Ev.bind e2 (Ev.bind e3 ?_)))
  refine Ev.congr (fun k => if_pos rfl) ?_
  refine Ev.congr (fun k => if_neg (by show W .i64 (((logOf es).length : Int) + 1) ≠ 0; rw [W64 (by omega) (by omega)]; omega)) ?_
  refine Ev.bind hloop ?_
  simp only [armillarylaw28_LedgerTruncation.k2, hp]
  refine Ev.congr (fun k => if_pos (by omega)) ?_
  refine Ev.congr (fun k => if_pos (by omega)) ?_
  rw [rpart_take, rpart_take]
  have hsame : Ev (fun k => armillaryref28_Same.f k (es.take c) (es.take c)) true := same_ev (by rw [List.length_take]; omega)
  rcases scan_cut hok (by omega) hf hpl with ⟨hpe, hs⟩ | ⟨hpe, hs⟩
  · refine Ev.bind hs ?_
    refine Ev.bind (r := true) ?_ (Ev.const rfl)
    refine Ev.congr (fun k => if_pos (by omega)) ?_
    refine Ev.congr (fun k => if_pos (by omega)) ?_
    refine Ev.bind hsame ?_
    refine Ev.congr (fun k => if_pos rfl) ?_
    refine Ev.congr (fun k => if_pos rfl) ?_
    refine Ev.congr (fun k => if_pos (by rw [hpe]; simp)) ?_
    exact Ev.congr (fun k => if_pos rfl) (Ev.const rfl)
  · refine Ev.bind hs ?_
    refine Ev.bind (r := true) ?_ (Ev.const rfl)
    refine Ev.congr (fun k => if_pos (by omega)) ?_
    refine Ev.congr (fun k => if_pos (by omega)) ?_
    refine Ev.bind hsame ?_
    refine Ev.congr (fun k => if_pos rfl) ?_
    refine Ev.congr (fun k => if_pos rfl) ?_
    refine Ev.congr (fun k => if_pos (by
      have : (((Le es c : Nat) : Int) == (p : Int)) = false := beq_eq_false_iff_ne.2 (by omega)
      rw [this]; rfl)) ?_
    refine Ev.congr (fun k => if_neg (by show ¬ (271 : Int) = 0; decide)) ?_
    exact Ev.congr (fun k => if_pos rfl) (Ev.const rfl)
end Go.Proofs.YtiomeaoeegikkaaDoor
namespace Go.Proofs.YtiomeaoeegikkaaDoor.ledgerTruncation
open Go.ChangeShapes Go.WideShapes Go.ChangeAt Go.RowKit Go.Proofs.YtiomeaoeegikkaaDoor Go.Proofs.YtiomeaoeegikkaaDoor.RW
open Go.ChangeMaps (open_string shut_string)
set_option linter.unusedVariables false
set_option maxRecDepth 1000000
set_option maxHeartbeats 8000000

theorem own : ownKnob Tryd.prog.godebug = none := by kernel_rfl
theorem laidOut : laidOutB Tryd.prog = true := by kernel_rfl
theorem lifted (os : Os) (started : os.Started) (H : Type) (enc : TypeId × Value → H) :
  ReturnsInHanded {} Tryd.checked os 6 .any (fun w args => (Rows.ledgerTruncationSpec.pre enc Tryd.prog Tryd.f6 [] false w args ∧ laidMetH Tryd.prog lh.laid w) ∧ sizedMet enc Tryd.prog Tryd.f6 (OpenSpec.ofChange Rows.ledgerTruncationSpec) false w args) (Rows.ledgerTruncationSpec.post enc Tryd.prog Tryd.f6 false true false false) := by
 refine returnsInHanded_of_change_and (C := Tryd.checked) (X := fun w _ => laidMetH Tryd.prog lh.laid w) (fun _ _ _ hh h => h.of_heap hh) own started (by kernel_rfl) Tryd.func6
  (ChangeSpec.witness_at (enc := enc) (C := Tryd.checked) (os := os) (X := fun w _ => laidMetH Tryd.prog lh.laid w) false (lh.laidWorld os) #[.slice none 0 0, .int .u16 0] 8 rfl (by kernel_rfl) (by kernel_rfl) (by kernel_rfl) (by kernel_rfl) (by kernel_rfl) (lh.laidWorld_met os _)) ?_
 intro W base args ds gs before hval0 hW hcnd _ hL _
 have hval : ∀ (j : Nat) t v, Tryd.f6.params[j]? = some t → args[j]? = some v → Value.okWide Tryd.prog W .any base t v := hval0
 have hW' := hW
 obtain ⟨p, q, hA0, hV, rfl, hfz, hnd⟩ := hW
 have hA : DataW.TrodAll enc Tryd.prog W 0 (fun _ => true) true Tryd.f6.params.toList args.toList ds p := hA0
 rw [Tryd.params6] at hA hval
 obtain ⟨v0, vs0, d0, ds0, p0, q0, hargs, rfl, rfl, h0, z0⟩ := trodAll_cons hA
 obtain ⟨v1, vs1, d1, ds1, p1, q1, rfl, rfl, rfl, h1, z1⟩ := trodAll_cons z0
 obtain ⟨rfl, rfl, rfl⟩ := trodAll_nil z1
 obtain rfl : args = #[v0, v1] := by cases args; simp_all
 obtain ⟨rfl, rfl⟩ := trodVars_none hV
 have k0 := h0
 have lt0 : ∀ x ∈ p0, x.block < W.heap.size := by obtain ⟨m, hm⟩ := k0; exact DataW.trod_lt m _ _ _ hm
 obtain ⟨b0, len0, cap0, rfl⟩ := okWide_slice Tryd.underlying23 (hval 0 23 v0 rfl rfl)
 obtain ⟨fuel0, hf0⟩ := h0
 obtain ⟨a0, ⟨A0, c0, e0, l0, r0⟩, hp0⟩ := (opens_slice (e := 25) o25 (by kernel_rfl) (by kernel_rfl) (Nat.le_of_ble_eq_true (by kernel_rfl)) : Opens Tryd.prog (Ty.slice t25) 23 (fun l => ∀ x ∈ l, p25 x)) W 0 _ _ _ _ _ hf0
 obtain ⟨rfl, rfl, rfl⟩ : b0 = A0 ∧ len0 = a0.length ∧ cap0 = c0 := by simpa [Value.cells] using e0
 obtain ⟨a1, rfl, rfl, rfl, w1⟩ := open_int Tryd.underlying44 (hval 1 44 v1 rfl rfl) h1
 clear hA0 hval0
 obtain ⟨k, hk⟩ := armillarylaw28_LedgerTruncation_holds a0 a1 hp0 r0.1 w1
 refine (armillarylaw28_LedgerTruncation.calls k (wImm W) a0 b0 cap0 a1 W (wImm_at W) (lh.glob_of_laid hL) l0 r0 true hk).mono ?_
 rintro e W' ⟨v, rfl, J, rfl, hg⟩
 have bel : Below W.heap.size W W' := ⟨hg.evo.os, hg.evo.tape, hg.evo.output, hg.evo.size, fun k hk => hg.evo.blk k hk (fun h => h)⟩
 exact ⟨_, rfl, _, _, _, [], _, [], hW', trodAll_mk1 (shut_bool Tryd.underlying4 _), (trodAll_cons_mk (Below.trod laidOut (by kernel_rfl) (of_decide_eq_true (by kernel_rfl)) k0 bel lt0) (trodAll_cons_mk (shut_int Tryd.underlying44 w1) trodAll_mk0)), rfl, bel.frame _, fun h => by cases h⟩

theorem over : Rows.ledgerTruncationRow.holds Tryd.pinned (OpenSpec.ofChange Rows.ledgerTruncationSpec) :=
 OpenClaim.holds_of_wide 6 Tryd.f6 rfl rfl rfl rfl rfl rfl rfl ⟨rfl, rfl, rfl, rfl, rfl⟩ rfl rfl rfl rfl rfl (by kernel_rfl) Tryd.func6 (by kernel_rfl)
  (of_decide_eq_true (by kernel_rfl)) (by unfold Func.isWrapper; first | (rw [if_pos (by decide +kernel)]; kernel_rfl) | (rw [if_neg (by decide +kernel)]; exact ⟨rfl, rfl⟩))
  (fun os started H enc _ => lifted os started H enc)
theorem tied : Rows.LedgerTruncationCardSaid :=
  Claim7.holds_tied_plain_at .later [] [.handle] true (true, "fef0f658d46f2b31548aceb5a193b059c844c18693a0855299c2bac37f2f0ac5") true
    over (fun _ h => by cases h) (by kernel_rfl) (fun _ h => by cases h) ledgerTruncation_row_tie rfl ⟨rfl, rfl⟩ (by kernel_rfl) rfl
    (fun f fn hf hfn => by
      obtain rfl : f = 6 := Option.some.inj ((show Tryd.prog.funcNamed "armillary/armillarylaw28.LedgerTruncation" = some 6 by kernel_rfl).symm.trans hf) |>.symm
      obtain rfl : fn = Tryd.f6 := (Option.some.inj (Tryd.func6.symm.trans hfn)).symm
      refine ⟨by kernel_rfl, fun j t ht => ?_⟩
      have hm := Array.mem_of_getElem? ht
      rw [Tryd.params6] at hm
      simp only [List.mem_toArray, List.mem_cons, List.not_mem_nil, or_false] at hm
      first
        | (obtain rfl := hm; show Tryd.prog.wantsStandIn _ = false; kernel_rfl)
        | (rcases hm with rfl | rfl <;> show Tryd.prog.wantsStandIn _ = false <;> kernel_rfl)
        | (rcases hm with rfl | rfl | rfl <;> show Tryd.prog.wantsStandIn _ = false <;> kernel_rfl))
    (by kernel_rfl)
theorem proved : Rows.LedgerTruncationCardSaid := tied
#print axioms proved
end Go.Proofs.YtiomeaoeegikkaaDoor.ledgerTruncation
