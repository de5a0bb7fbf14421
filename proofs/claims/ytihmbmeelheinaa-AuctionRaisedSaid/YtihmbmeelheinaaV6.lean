/- Words of the walk, the functions' walks and plain laws, joined; no conditions beyond those that the theorems name. -/
import Derived.Test.YtihmbmeelheinaaV2
import Derived.Test.YtihmbmeelheinaaV5
import Derived.Test.YtihmbmeelheinaaV3
import Derived.Test.YtihmbmeelheinaaV4
namespace Go.Proofs.Ytihmbmeelheinaa
open Go Go.Proofs.Ytihmbmeelheinaa.RW
set_option linter.unusedVariables false
set_option maxRecDepth 100000
set_option maxHeartbeats 8000000

/-! ### armillarylaw23_sanity: function 11, armillary/armillarylaw23.sanity -/
noncomputable def K11_0 : Code := cBody Try.f11
def armillarylaw23_sanity.k1  (x2 : Bool) : Option (Bool) := (some x2)
def armillarylaw23_sanity.k2 (k : Nat) (t1 : S29 × Int) (t2 : List Int × List Int × List (List Int)) (t3 : S29 × Int) (t4 : S29 × Int) (x1 : Bool) : Option (Bool) := (if x1 = true then (some false) else ((if t1.2 = 0 then ((armillaryref23_Same.f k t1.1 (⟨[1, 2], [5, 6], [4, 0]⟩ : S29)).bind fun t5 => (if t5 = true then (if 0 < (t2.1.length : Int) then (if (t2.1.getD (0 : Int).toNat 0) = 1 then (if 1 < (t2.2.1.length : Int) then (if (t2.2.1.getD (1 : Int).toNat 0) = 6 then (if 0 < (t2.2.2.length : Int) then (if 0 < ((t2.2.2.getD (0 : Int).toNat []).length : Int) then (if ((t2.2.2.getD (0 : Int).toNat []).getD (0 : Int).toNat 0) = 10 then (if 0 < (t2.2.2.length : Int) then (if 1 < ((t2.2.2.getD (0 : Int).toNat []).length : Int) then (if ((t2.2.2.getD (0 : Int).toNat []).getD (1 : Int).toNat 0) = 0 then (if 1 < (t2.2.2.length : Int) then (if 0 < ((t2.2.2.getD (1 : Int).toNat []).length : Int) then (if ((t2.2.2.getD (1 : Int).toNat []).getD (0 : Int).toNat 0) = 7 then (if 1 < (t2.2.2.length : Int) then (if 1 < ((t2.2.2.getD (1 : Int).toNat []).length : Int) then (if ((t2.2.2.getD (1 : Int).toNat []).getD (1 : Int).toNat 0) = 3 then (if t3.2 = 0 then (if (t3.1.f0.length : Int) = 0 then (if t4.2 = 1 then ((auction_Utility.f k [(⟨2, 6, 3⟩ : S48), (⟨1, 5, 10⟩ : S48), (⟨2, 5, 7⟩ : S48)] t1.1 1).bind fun t6 => (if t6 = 6 then ((auction_Utility.f k [(⟨2, 6, 3⟩ : S48), (⟨1, 5, 10⟩ : S48), (⟨2, 5, 7⟩ : S48)] t1.1 2).bind fun t7 => (if t7 = 3 then ((auction_Utility.f k [(⟨2, 6, 3⟩ : S48), (⟨1, 5, 10⟩ : S48), (⟨2, 5, 7⟩ : S48)] t1.1 9).bind fun t8 => (if t8 = 0 then ((auction_Welfare.f k [(⟨2, 6, 3⟩ : S48), (⟨1, 5, 10⟩ : S48), (⟨2, 5, 7⟩ : S48)] t1.1).bind fun t9 => (if t9 = 13 then ((auction_Valid.f k [(⟨2, 6, 3⟩ : S48), (⟨1, 5, 10⟩ : S48), (⟨2, 5, 7⟩ : S48)]).bind fun t10 => (if t10 = true then ((auction_Valid.f k [(⟨1, 1, 0⟩ : S48)]).bind fun t11 => (if t11 = true then (some false) else ((auction_Valid.f k [(⟨1001, 1, 1⟩ : S48)]).bind fun t12 => (some (!t12))))) else (some false))) else (some false))) else (some false))) else (some false))) else (some false))) else (some false)) else (some false)) else (some false)) else (some false)) else none) else none) else (some false)) else none) else none) else (some false)) else none) else none) else (some false)) else none) else none) else (some false)) else none) else (some false)) else none) else (some false))) else (some false)).bind (armillarylaw23_sanity.k1)))
def armillarylaw23_sanity.f (k : Nat)  : Option (Bool) := ((auction_Clear.f k [(⟨2, 6, 3⟩ : S48), (⟨1, 5, 10⟩ : S48), (⟨2, 5, 7⟩ : S48)]).bind fun t1 => ((auction_Tabulate.f k [(⟨2, 6, 3⟩ : S48), (⟨1, 5, 10⟩ : S48), (⟨2, 5, 7⟩ : S48)]).bind fun t2 => ((auction_Clear.f k []).bind fun t3 => ((auction_Clear.f k [(⟨1, 1, 1⟩ : S48), (⟨1, 1, 2⟩ : S48)]).bind fun t4 => ((if (t2.1.length : Int) ≠ 2 then (some true) else (if (t2.2.1.length : Int) ≠ 2 then (some true) else (if (t2.2.2.length : Int) ≠ 2 then (some true) else (if 0 < (t2.2.2.length : Int) then (if ((t2.2.2.getD (0 : Int).toNat []).length : Int) ≠ 2 then (some true) else (if 1 < (t2.2.2.length : Int) then (some (((t2.2.2.getD (1 : Int).toNat []).length : Int) != 2)) else none)) else none)))).bind (armillarylaw23_sanity.k2 k t1 t2 t3 t4))))))
def armillarylaw23_sanity.Post (I : Imm) (w : World) (r : Bool) (v : Value) (w' : World) : Prop :=
 ∃ (J : Imm), v = .bool r ∧ Got w w' I J []
theorem armillarylaw23_sanity.calls (k : Nat) (I0 : Imm)  (w : World) (hI : I0.at_ w)  (r : Bool) (h : armillarylaw23_sanity.f k  = some r) :
  Calls Try.prog 11 [].toArray w fun e w' => ∃ v, e = .returned v ∧ armillarylaw23_sanity.Post I0 w r v w' := by
 have H : ((auction_Clear.f k [(⟨2, 6, 3⟩ : S48), (⟨1, 5, 10⟩ : S48), (⟨2, 5, 7⟩ : S48)]).bind fun t1 => ((auction_Tabulate.f k [(⟨2, 6, 3⟩ : S48), (⟨1, 5, 10⟩ : S48), (⟨2, 5, 7⟩ : S48)]).bind fun t2 => ((auction_Clear.f k []).bind fun t3 => ((auction_Clear.f k [(⟨1, 1, 1⟩ : S48), (⟨1, 1, 2⟩ : S48)]).bind fun t4 => ((if (t2.1.length : Int) ≠ 2 then (some true) else (if (t2.2.1.length : Int) ≠ 2 then (some true) else (if (t2.2.2.length : Int) ≠ 2 then (some true) else (if 0 < (t2.2.2.length : Int) then (if ((t2.2.2.getD (0 : Int).toNat []).length : Int) ≠ 2 then (some true) else (if 1 < (t2.2.2.length : Int) then (some (((t2.2.2.getD (1 : Int).toNat []).length : Int) != 2)) else none)) else none)))).bind (armillarylaw23_sanity.k2 k t1 t2 t3 t4)))))) = some r := h
 clear h
 refine calls_body Try.func11 (by kernel_rfl) 172 (by kernel_rfl) (by kernel_rfl) ⟨w, fun _ => False, I0⟩ I0 [] [] (by kernel_rfl) (Sat.start w _ I0 hI) ?_
 generalize w.heap.size = nx0
 show OK _ K11_0 _ _ _ _ _ _ _ _
 refine OK.sr ?_
 refine RL.st 1 [] ?_
 refine OK.sr ?_
 refine RL.spt 5 [(1, .slice (some ⟨nx0, 0, none⟩) 3 3)] (nx0 + 1) [⟨nx0, [i6 2, i6 6, i6 3, i6 1, i6 5, i6 10, i6 2, i6 5, i6 7], 48⟩] ?_
 refine OK.sr ?_
 refine RL.s 1 [(16, .slice (some ⟨nx0, 0, none⟩) 3 3), (1, .slice (some ⟨nx0, 0, none⟩) 3 3)] ?_
 refine RL.freezeL (d := t48) (xs := [(⟨2, 6, 3⟩ : S48), (⟨1, 5, 10⟩ : S48), (⟨2, 5, 7⟩ : S48)]) (b := ⟨nx0, [i6 2, i6 6, i6 3, i6 1, i6 5, i6 10, i6 2, i6 5, i6 7], 48⟩) 0 (by kernel_rfl) ⟨_, _, rfl, (t48_mk _ _), ⟨_, _, rfl, (t48_mk _ _), ⟨_, _, rfl, (t48_mk _ _), rfl⟩⟩⟩ (Nat.le_of_ble_eq_true rfl) (fun I1 hi1 hr1 => ?_)
 obtain ⟨t1, hA1, H⟩ := bnd H
 refine RL.callP 15 [.slice (some ⟨nx0, 0, none⟩) 3 3] (some 17) (fun w => auction_Clear.Post I1 w t1) (by kernel_rfl) (by kernel_rfl) (fun w hs => auction_Clear.calls k I1 [(⟨2, 6, 3⟩ : S48), (⟨1, 5, 10⟩ : S48), (⟨2, 5, 7⟩ : S48)] (some ⟨nx0, 0, none⟩) 3 w hs.im (Nat.le_of_ble_eq_true rfl) hr1 t1 hA1) ?_
 rintro w v w' hs ⟨I2, A1, c1, cs1, A2, c2, cs2, A3, c3, cs3, rfl, hg, hp1, hp2, hp3⟩
 have hi2 := hg.le
 refine RL.resume (X' := [orow 3 1 A1 t1.1.f0.length c1 cs1, orow 3 1 A2 t1.1.f1.length c2 cs2, orow 2 1 A3 t1.1.f2.length c3 cs3]) rfl (hs.call hg) ?_
 clear hs hg
 generalize w'.heap.size = nx1
 clear w w'
 refine RL.freeze (e := 3) (sz := 1) (S := A1) (n := t1.1.f0.length) (cap := c1) 0 (by kernel_rfl) hp1 rfl (fun I3 hi3 hl1 hr2 => ?_)
 skip
 refine RL.freeze (e := 3) (sz := 1) (S := A2) (n := t1.1.f1.length) (cap := c2) 0 (by kernel_rfl) (Reps.ext hi3 hp2) rfl (fun I4 hi4 hl2 hr3 => ?_)
 skip
 refine RL.freeze (e := 2) (sz := 1) (S := A3) (n := t1.1.f2.length) (cap := c3) 0 (by kernel_rfl) (Reps.ext (Imm.le_trans hi3 hi4) hp3) rfl (fun I5 hi5 hl3 hr4 => ?_)
 skip
 refine RL.simP (K' := [(3, i6 t1.2), (2, pt nx1 0), (1, .slice (some ⟨nx0, 0, none⟩) 3 3)]) (nx' := nx1 + 1) (L' := [⟨nx1, [.slice A1 t1.1.f0.length c1, .slice A2 t1.1.f1.length c2, .slice A3 t1.1.f2.length c3], 29⟩]) [] (RFacts.nil _ _ _) 6 [.no, .no, .no, .no, .l 0, .no] (by kernel_rfl) (by kernel_rfl) ?_
 refine RL.nt ?_
 refine OK.sr ?_
 refine RL.s 1 [(21, .slice (some ⟨nx0, 0, none⟩) 3 3), (3, i6 t1.2), (2, pt nx1 0), (1, .slice (some ⟨nx0, 0, none⟩) 3 3)] ?_
 obtain ⟨t2, hA2, H⟩ := bnd H
 refine RL.callP 17 [.slice (some ⟨nx0, 0, none⟩) 3 3] (some 22) (fun w => auction_Tabulate.Post I5 w t2) (by kernel_rfl) (by kernel_rfl) (fun w hs => auction_Tabulate.calls k I5 [(⟨2, 6, 3⟩ : S48), (⟨1, 5, 10⟩ : S48), (⟨2, 5, 7⟩ : S48)] (some ⟨nx0, 0, none⟩) 3 w hs.im (Nat.le_of_ble_eq_true rfl) (Rd.ext (Imm.le_trans (Imm.le_trans (Imm.le_trans hi2 hi3) hi4) hi5) hr1) t2 hA2) ?_
 rintro w v w' hs ⟨I6, A4, c4, cs4, A5, c5, cs5, A6, c6, cs6, rfl, hg, hp4, hp5, hp6⟩
 have hi6 := hg.le
 refine RL.resume (X' := [orow 3 1 A4 t2.1.length c4 cs4, orow 3 1 A5 t2.2.1.length c5 cs5, orow 27 1 A6 t2.2.2.length c6 cs6]) rfl (hs.call hg) ?_
 clear hs hg
 generalize w'.heap.size = nx2
 clear w w'
 refine RL.st 7 [(6, .slice A6 t2.2.2.length c6), (5, .slice A5 t2.2.1.length c5), (4, .slice A4 t2.1.length c4), (3, i6 t1.2), (2, pt nx1 0), (1, .slice (some ⟨nx0, 0, none⟩) 3 3)] ?_
 refine OK.sr ?_
 obtain ⟨t3, hA3, H⟩ := bnd H
 refine RL.callP 15 [.slice none 0 0] (some 27) (fun w => auction_Clear.Post I6 w t3) (by kernel_rfl) (by kernel_rfl) (fun w hs => auction_Clear.calls k I6 [] none 0 w hs.im (Nat.le_refl _) (Rd.nil _ _ _) t3 hA3) ?_
 rintro w v w' hs ⟨I7, A7, c7, cs7, A8, c8, cs8, A9, c9, cs9, rfl, hg, hp7, hp8, hp9⟩
 have hi7 := hg.le
 refine RL.resume (X' := [orow 3 1 A4 t2.1.length c4 cs4, orow 3 1 A5 t2.2.1.length c5 cs5, orow 27 1 A6 t2.2.2.length c6 cs6, orow 3 1 A7 t3.1.f0.length c7 cs7, orow 3 1 A8 t3.1.f1.length c8 cs8, orow 2 1 A9 t3.1.f2.length c9 cs9]) rfl (hs.call hg) ?_
 clear hs hg
 generalize w'.heap.size = nx3
 clear w w'
 refine RL.freeze (e := 3) (sz := 1) (S := A7) (n := t3.1.f0.length) (cap := c7) 3 (by kernel_rfl) hp7 rfl (fun I8 hi8 hl4 hr5 => ?_)
 skip
 refine RL.freeze (e := 3) (sz := 1) (S := A8) (n := t3.1.f1.length) (cap := c8) 3 (by kernel_rfl) (Reps.ext hi8 hp8) rfl (fun I9 hi9 hl5 hr6 => ?_)
 skip
 refine RL.freeze (e := 2) (sz := 1) (S := A9) (n := t3.1.f2.length) (cap := c9) 3 (by kernel_rfl) (Reps.ext (Imm.le_trans hi8 hi9) hp9) rfl (fun I10 hi10 hl6 hr7 => ?_)
 skip
 refine RL.simP (K' := [(8, i6 t3.2), (7, pt nx3 0), (6, .slice A6 t2.2.2.length c6), (5, .slice A5 t2.2.1.length c5), (4, .slice A4 t2.1.length c4), (3, i6 t1.2), (2, pt nx1 0), (1, .slice (some ⟨nx0, 0, none⟩) 3 3)]) (nx' := nx3 + 1) (L' := [⟨nx1, [.slice A1 t1.1.f0.length c1, .slice A2 t1.1.f1.length c2, .slice A3 t1.1.f2.length c3], 29⟩, ⟨nx3, [.slice A7 t3.1.f0.length c7, .slice A8 t3.1.f1.length c8, .slice A9 t3.1.f2.length c9], 29⟩]) [] (RFacts.nil _ _ _) 6 [.no, .no, .no, .no, .l 1, .no] (by kernel_rfl) (by kernel_rfl) ?_
 refine RL.nt ?_
 refine OK.sr ?_
 refine RL.sp 3 [(33, .slice (some ⟨nx3 + 1, 0, none⟩) 2 2), (8, i6 t3.2), (7, pt nx3 0), (6, .slice A6 t2.2.2.length c6), (5, .slice A5 t2.2.1.length c5), (4, .slice A4 t2.1.length c4), (3, i6 t1.2), (2, pt nx1 0), (1, .slice (some ⟨nx0, 0, none⟩) 3 3)] (nx3 + 2) [⟨nx1, [.slice A1 t1.1.f0.length c1, .slice A2 t1.1.f1.length c2, .slice A3 t1.1.f2.length c3], 29⟩, ⟨nx3, [.slice A7 t3.1.f0.length c7, .slice A8 t3.1.f1.length c8, .slice A9 t3.1.f2.length c9], 29⟩, ⟨nx3 + 1, [i6 1, i6 1, i6 1, i6 1, i6 1, i6 2], 48⟩] ?_
 refine RL.freezeL (d := t48) (xs := [(⟨1, 1, 1⟩ : S48), (⟨1, 1, 2⟩ : S48)]) (b := ⟨nx3 + 1, [i6 1, i6 1, i6 1, i6 1, i6 1, i6 2], 48⟩) 2 (by kernel_rfl) ⟨_, _, rfl, (t48_mk _ _), ⟨_, _, rfl, (t48_mk _ _), rfl⟩⟩ (Nat.le_of_ble_eq_true rfl) (fun I11 hi11 hr8 => ?_)
 obtain ⟨t4, hA4, H⟩ := bnd H
 refine RL.callP 15 [.slice (some ⟨nx3 + 1, 0, none⟩) 2 2] (some 34) (fun w => auction_Clear.Post I11 w t4) (by kernel_rfl) (by kernel_rfl) (fun w hs => auction_Clear.calls k I11 [(⟨1, 1, 1⟩ : S48), (⟨1, 1, 2⟩ : S48)] (some ⟨nx3 + 1, 0, none⟩) 2 w hs.im (Nat.le_of_ble_eq_true rfl) hr8 t4 hA4) ?_
 rintro w v w' hs ⟨I12, A10, c10, cs10, A11, c11, cs11, A12, c12, cs12, rfl, hg, hp10, hp11, hp12⟩
 have hi12 := hg.le
 refine RL.resume (X' := [orow 3 1 A4 t2.1.length c4 cs4, orow 3 1 A5 t2.2.1.length c5 cs5, orow 27 1 A6 t2.2.2.length c6 cs6, orow 3 1 A10 t4.1.f0.length c10 cs10, orow 3 1 A11 t4.1.f1.length c11 cs11, orow 2 1 A12 t4.1.f2.length c12 cs12]) rfl (hs.call hg) ?_
 clear hs hg
 generalize w'.heap.size = nx4
 clear w w'
 refine RL.freeze (e := 3) (sz := 1) (S := A10) (n := t4.1.f0.length) (cap := c10) 3 (by kernel_rfl) hp10 rfl (fun I13 hi13 hl7 hr9 => ?_)
 skip
 refine RL.freeze (e := 3) (sz := 1) (S := A11) (n := t4.1.f1.length) (cap := c11) 3 (by kernel_rfl) (Reps.ext hi13 hp11) rfl (fun I14 hi14 hl8 hr10 => ?_)
 skip
 refine RL.freeze (e := 2) (sz := 1) (S := A12) (n := t4.1.f2.length) (cap := c12) 3 (by kernel_rfl) (Reps.ext (Imm.le_trans hi13 hi14) hp12) rfl (fun I15 hi15 hl9 hr11 => ?_)
 skip
 refine RL.simP (K' := [(10, i6 t4.2), (8, i6 t3.2), (7, pt nx3 0), (6, .slice A6 t2.2.2.length c6), (5, .slice A5 t2.2.1.length c5), (4, .slice A4 t2.1.length c4), (3, i6 t1.2), (2, pt nx1 0), (1, .slice (some ⟨nx0, 0, none⟩) 3 3)]) (nx' := nx4 + 1) (L' := [⟨nx1, [.slice A1 t1.1.f0.length c1, .slice A2 t1.1.f1.length c2, .slice A3 t1.1.f2.length c3], 29⟩, ⟨nx3, [.slice A7 t3.1.f0.length c7, .slice A8 t3.1.f1.length c8, .slice A9 t3.1.f2.length c9], 29⟩, ⟨nx4, [.slice A10 t4.1.f0.length c10, .slice A11 t4.1.f1.length c11, .slice A12 t4.1.f2.length c12], 29⟩]) [] (RFacts.nil _ _ _) 6 [.no, .no, .no, .no, .l 2, .no] (by kernel_rfl) (by kernel_rfl) ?_
 refine RL.nt ?_
 refine OK.sq ?_
 refine OK.sq ?_
 refine OK.join (fun K' I' _ L' X' => ∃ (x1 : Bool), K' = [(1, .slice (some ⟨nx0, 0, none⟩) 3 3), (2, pt nx1 0), (3, i6 t1.2), (4, .slice A4 t2.1.length c4), (5, .slice A5 t2.2.1.length c5), (6, .slice A6 t2.2.2.length c6), (7, pt nx3 0), (8, i6 t3.2), (10, i6 t4.2), (63, .bool x1)] ∧ L' = [⟨nx1, [.slice A1 t1.1.f0.length c1, .slice A2 t1.1.f1.length c2, .slice A3 t1.1.f2.length c3], 29⟩, ⟨nx3, [.slice A7 t3.1.f0.length c7, .slice A8 t3.1.f1.length c8, .slice A9 t3.1.f2.length c9], 29⟩, ⟨nx4, [.slice A10 t4.1.f0.length c10, .slice A11 t4.1.f1.length c11, .slice A12 t4.1.f2.length c12], 29⟩] ∧ X' = [orow 3 1 A4 t2.1.length c4 cs4, orow 3 1 A5 t2.2.1.length c5 cs5, orow 27 1 A6 t2.2.2.length c6 cs6] ∧ Imm.le I15 I' ∧ armillarylaw23_sanity.k2 k t1 t2 t3 t4 x1 = some r) ?_ ?_
 ·rintro _ I16 nx5 _ _ ⟨x1, rfl, rfl, rfl, hi16, H⟩
  rw [armillarylaw23_sanity.k2] at H
  refine QN.then_ ?_
  refine OK.cd x1 (fun hb => ?_) (fun hb => ?_)
  ·skip
   have hc := hb
   rw [if_pos hc] at H
   clear hb
   refine OK.sr ?_
   refine RL.st 1 [(0, .bool false)] ?_
   refine OK.re ?_
   refine QN.thenR ?_
   obtain rfl := Option.some.inj H
   refine QN.body rfl [] (RFacts.nil _ _ _) (.no) (.bool false) (by kernel_rfl) (by kernel_rfl) (by kernel_rfl) ?_ _ (.inr rfl)
   exact fun w' hs' => ⟨_, rfl, I16, rfl, hs'.got _ (.cons _ (.cons _ (.cons _ .slnil)))⟩
  ·skip
   have hc := (Bool.eq_false_iff.1 hb)
   rw [if_neg hc] at H
   clear hb
   refine OK.skt ?_
   refine OK.sq ?_
   refine OK.join (fun K' I' _ L' X' => ∃ (x2 : Bool), K' = [(0, .bool x2)] ∧ L' = [⟨nx1, [.slice A1 t1.1.f0.length c1, .slice A2 t1.1.f1.length c2, .slice A3 t1.1.f2.length c3], 29⟩, ⟨nx3, [.slice A7 t3.1.f0.length c7, .slice A8 t3.1.f1.length c8, .slice A9 t3.1.f2.length c9], 29⟩, ⟨nx4, [.slice A10 t4.1.f0.length c10, .slice A11 t4.1.f1.length c11, .slice A12 t4.1.f2.length c12], 29⟩] ∧ X' = [] ∧ Imm.le I16 I' ∧ armillarylaw23_sanity.k1 x2 = some r) ?_ ?_
   ·rintro _ I17 nx6 _ _ ⟨x2, rfl, rfl, rfl, hi17, H⟩
    rw [armillarylaw23_sanity.k1] at H
    refine QN.then_ ?_
    refine OK.re ?_
    obtain rfl := Option.some.inj H
    refine QN.body rfl [] (RFacts.nil _ _ _) (.no) (.bool x2) (by kernel_rfl) (by kernel_rfl) (by kernel_rfl) ?_ _ (.inr rfl)
    exact fun w' hs' => ⟨_, rfl, I17, rfl, hs'.got _ .slnil⟩
   ·intro Q_1 hJ2 hQ2
    obtain ⟨y2, H, HK2⟩ := bnd H
    refine OK.rg ?_
    refine RL.s 3 [(66, .bool (t1.2 == 0)), (1, .slice (some ⟨nx0, 0, none⟩) 3 3), (2, pt nx1 0), (4, .slice A4 t2.1.length c4), (5, .slice A5 t2.2.1.length c5), (6, .slice A6 t2.2.2.length c6), (7, pt nx3 0), (8, i6 t3.2), (10, i6 t4.2)] ?_
    refine RL.cases (t1.2 == 0) (fun hb => ?_) (fun hb => ?_)
    ·have hc := (beq_iff_eq.1 hb)
     rw [hb]
     rw [if_pos hc] at H; clear hb
     refine RL.simP (K' := [(71, .agg #[.slice (some ⟨nx5, 0, none⟩) 2 2, .slice (some ⟨nx5 + 1, 0, none⟩) 2 2, .slice (some ⟨nx5 + 2, 0, none⟩) 2 2]), (67, .agg #[.slice A1 t1.1.f0.length c1, .slice A2 t1.1.f1.length c2, .slice A3 t1.1.f2.length c3]), (66, .bool true), (1, .slice (some ⟨nx0, 0, none⟩) 3 3), (2, pt nx1 0), (4, .slice A4 t2.1.length c4), (5, .slice A5 t2.2.1.length c5), (6, .slice A6 t2.2.2.length c6), (7, pt nx3 0), (8, i6 t3.2), (10, i6 t4.2)]) (nx' := nx5 + 3) (L' := [⟨nx1, [.slice A1 t1.1.f0.length c1, .slice A2 t1.1.f1.length c2, .slice A3 t1.1.f2.length c3], 29⟩, ⟨nx3, [.slice A7 t3.1.f0.length c7, .slice A8 t3.1.f1.length c8, .slice A9 t3.1.f2.length c9], 29⟩, ⟨nx4, [.slice A10 t4.1.f0.length c10, .slice A11 t4.1.f1.length c11, .slice A12 t4.1.f2.length c12], 29⟩, ⟨nx5, [i6 1, i6 2], 3⟩, ⟨nx5 + 1, [i6 5, i6 6], 3⟩, ⟨nx5 + 2, [i6 4, i6 0], 2⟩]) [] (RFacts.nil _ _ _) 5 [.l 0, .no, .no, .no, .no] (by kernel_rfl) (by kernel_rfl) ?_
     refine RL.toRow (b := ⟨nx5, [i6 1, i6 2], 3⟩) 3 2 1 (by kernel_rfl) (by kernel_rfl) (by decide) ?_
     have hp13 : Reps (Ty.int .i64) I16 [1, 2] [i6 1, i6 2] := ⟨_, _, rfl, rfl, ⟨_, _, rfl, rfl, rfl⟩⟩
     refine RL.norm (K' := [(71, .agg #[.slice (some ⟨nx5, 0, none⟩) ([1, 2].length) 2, .slice (some ⟨nx5 + 1, 0, none⟩) 2 2, .slice (some ⟨nx5 + 2, 0, none⟩) 2 2]), (67, .agg #[.slice A1 t1.1.f0.length c1, .slice A2 t1.1.f1.length c2, .slice A3 t1.1.f2.length c3]), (66, .bool true), (1, .slice (some ⟨nx0, 0, none⟩) 3 3), (2, pt nx1 0), (4, .slice A4 t2.1.length c4), (5, .slice A5 t2.2.1.length c5), (6, .slice A6 t2.2.2.length c6), (7, pt nx3 0), (8, i6 t3.2), (10, i6 t4.2)]) (L' := [⟨nx1, [.slice A1 t1.1.f0.length c1, .slice A2 t1.1.f1.length c2, .slice A3 t1.1.f2.length c3], 29⟩, ⟨nx3, [.slice A7 t3.1.f0.length c7, .slice A8 t3.1.f1.length c8, .slice A9 t3.1.f2.length c9], 29⟩, ⟨nx4, [.slice A10 t4.1.f0.length c10, .slice A11 t4.1.f1.length c11, .slice A12 t4.1.f2.length c12], 29⟩, ⟨nx5 + 1, [i6 5, i6 6], 3⟩, ⟨nx5 + 2, [i6 4, i6 0], 2⟩]) (X' := [orow 3 1 A4 t2.1.length c4 cs4, orow 3 1 A5 t2.2.1.length c5 cs5, orow 27 1 A6 t2.2.2.length c6 cs6, orow 3 1 (some ⟨nx5, 0, none⟩) ([1, 2].length) 2 [i6 1, i6 2]]) (by kernel_rfl) rfl (by kernel_rfl) (by kernel_rfl) ?_
     refine RL.toRow (b := ⟨nx5 + 1, [i6 5, i6 6], 3⟩) 3 2 1 (by kernel_rfl) (by kernel_rfl) (by decide) ?_
     have hp14 : Reps (Ty.int .i64) I16 [5, 6] [i6 5, i6 6] := ⟨_, _, rfl, rfl, ⟨_, _, rfl, rfl, rfl⟩⟩
     refine RL.norm (K' := [(71, .agg #[.slice (some ⟨nx5, 0, none⟩) ([1, 2].length) 2, .slice (some ⟨nx5 + 1, 0, none⟩) ([5, 6].length) 2, .slice (some ⟨nx5 + 2, 0, none⟩) 2 2]), (67, .agg #[.slice A1 t1.1.f0.length c1, .slice A2 t1.1.f1.length c2, .slice A3 t1.1.f2.length c3]), (66, .bool true), (1, .slice (some ⟨nx0, 0, none⟩) 3 3), (2, pt nx1 0), (4, .slice A4 t2.1.length c4), (5, .slice A5 t2.2.1.length c5), (6, .slice A6 t2.2.2.length c6), (7, pt nx3 0), (8, i6 t3.2), (10, i6 t4.2)]) (L' := [⟨nx1, [.slice A1 t1.1.f0.length c1, .slice A2 t1.1.f1.length c2, .slice A3 t1.1.f2.length c3], 29⟩, ⟨nx3, [.slice A7 t3.1.f0.length c7, .slice A8 t3.1.f1.length c8, .slice A9 t3.1.f2.length c9], 29⟩, ⟨nx4, [.slice A10 t4.1.f0.length c10, .slice A11 t4.1.f1.length c11, .slice A12 t4.1.f2.length c12], 29⟩, ⟨nx5 + 2, [i6 4, i6 0], 2⟩]) (X' := [orow 3 1 A4 t2.1.length c4 cs4, orow 3 1 A5 t2.2.1.length c5 cs5, orow 27 1 A6 t2.2.2.length c6 cs6, orow 3 1 (some ⟨nx5, 0, none⟩) ([1, 2].length) 2 [i6 1, i6 2], orow 3 1 (some ⟨nx5 + 1, 0, none⟩) ([5, 6].length) 2 [i6 5, i6 6]]) (by kernel_rfl) rfl (by kernel_rfl) (by kernel_rfl) ?_
     refine RL.toRow (b := ⟨nx5 + 2, [i6 4, i6 0], 2⟩) 3 2 1 (by kernel_rfl) (by kernel_rfl) (by decide) ?_
     have hp15 : Reps (Ty.int .i64) I16 [4, 0] [i6 4, i6 0] := ⟨_, _, rfl, rfl, ⟨_, _, rfl, rfl, rfl⟩⟩
     refine RL.norm (K' := [(71, .agg #[.slice (some ⟨nx5, 0, none⟩) ([1, 2].length) 2, .slice (some ⟨nx5 + 1, 0, none⟩) ([5, 6].length) 2, .slice (some ⟨nx5 + 2, 0, none⟩) ([4, 0].length) 2]), (67, .agg #[.slice A1 t1.1.f0.length c1, .slice A2 t1.1.f1.length c2, .slice A3 t1.1.f2.length c3]), (66, .bool true), (1, .slice (some ⟨nx0, 0, none⟩) 3 3), (2, pt nx1 0), (4, .slice A4 t2.1.length c4), (5, .slice A5 t2.2.1.length c5), (6, .slice A6 t2.2.2.length c6), (7, pt nx3 0), (8, i6 t3.2), (10, i6 t4.2)]) (L' := [⟨nx1, [.slice A1 t1.1.f0.length c1, .slice A2 t1.1.f1.length c2, .slice A3 t1.1.f2.length c3], 29⟩, ⟨nx3, [.slice A7 t3.1.f0.length c7, .slice A8 t3.1.f1.length c8, .slice A9 t3.1.f2.length c9], 29⟩, ⟨nx4, [.slice A10 t4.1.f0.length c10, .slice A11 t4.1.f1.length c11, .slice A12 t4.1.f2.length c12], 29⟩]) (X' := [orow 3 1 A4 t2.1.length c4 cs4, orow 3 1 A5 t2.2.1.length c5 cs5, orow 27 1 A6 t2.2.2.length c6 cs6, orow 3 1 (some ⟨nx5, 0, none⟩) ([1, 2].length) 2 [i6 1, i6 2], orow 3 1 (some ⟨nx5 + 1, 0, none⟩) ([5, 6].length) 2 [i6 5, i6 6], orow 2 1 (some ⟨nx5 + 2, 0, none⟩) ([4, 0].length) 2 [i6 4, i6 0]]) (by kernel_rfl) rfl (by kernel_rfl) (by kernel_rfl) ?_
     obtain ⟨t5, hA5, H⟩ := bnd H
     refine RL.callP 19 [.agg #[.slice A1 t1.1.f0.length c1, .slice A2 t1.1.f1.length c2, .slice A3 t1.1.f2.length c3], .agg #[.slice (some ⟨nx5, 0, none⟩) ([1, 2].length) 2, .slice (some ⟨nx5 + 1, 0, none⟩) ([5, 6].length) 2, .slice (some ⟨nx5 + 2, 0, none⟩) ([4, 0].length) 2]] (some 72) (fun w v w' => ∃ I', Imm.le I16 I' ∧ armillaryref23_Same.Post I' w t5 v w') (by kernel_rfl) (by kernel_rfl) (fun w hs => ?_) ?_
     ·skip
      obtain ⟨JL1, hj1, hn1, hw1, hs⟩ := Sat.freeze (e := 3) (sz := 1) (S := (some ⟨nx5, 0, none⟩)) (n := [1, 2].length) (cap := 2) (m := 3) hs (by kernel_rfl) hp13 rfl
      obtain ⟨JL2, hj2, hn2, hw2, hs⟩ := Sat.freeze (e := 3) (sz := 1) (S := (some ⟨nx5 + 1, 0, none⟩)) (n := [5, 6].length) (cap := 2) (m := 3) hs (by kernel_rfl) (Reps.ext hj1 hp14) rfl
      obtain ⟨JL3, hj3, hn3, hw3, hs⟩ := Sat.freeze (e := 2) (sz := 1) (S := (some ⟨nx5 + 2, 0, none⟩)) (n := [4, 0].length) (cap := 2) (m := 3) hs (by kernel_rfl) (Reps.ext (Imm.le_trans hj1 hj2) hp15) rfl
      exact (armillaryref23_Same.calls k JL3 t1.1 A1 c1 A2 c2 A3 c3 (⟨[1, 2], [5, 6], [4, 0]⟩ : S29) (some ⟨nx5, 0, none⟩) 2 (some ⟨nx5 + 1, 0, none⟩) 2 (some ⟨nx5 + 2, 0, none⟩) 2 _ hs.im hl1 (Rd.ext (Imm.le_trans (Imm.le_trans hj1 hj2) hj3) (Rd.ext (Imm.le_trans (Imm.le_trans (Imm.le_trans (Imm.le_trans (Imm.le_trans (Imm.le_trans (Imm.le_trans (Imm.le_trans (Imm.le_trans (Imm.le_trans (Imm.le_trans (Imm.le_trans hi4 hi5) hi6) hi7) hi8) hi9) hi10) hi11) hi12) hi13) hi14) hi15) hi16) hr2)) hl2 (Rd.ext (Imm.le_trans (Imm.le_trans hj1 hj2) hj3) (Rd.ext (Imm.le_trans (Imm.le_trans (Imm.le_trans (Imm.le_trans (Imm.le_trans (Imm.le_trans (Imm.le_trans (Imm.le_trans (Imm.le_trans (Imm.le_trans (Imm.le_trans hi5 hi6) hi7) hi8) hi9) hi10) hi11) hi12) hi13) hi14) hi15) hi16) hr3)) hl3 (Rd.ext (Imm.le_trans (Imm.le_trans hj1 hj2) hj3) (Rd.ext (Imm.le_trans (Imm.le_trans (Imm.le_trans (Imm.le_trans (Imm.le_trans (Imm.le_trans (Imm.le_trans (Imm.le_trans (Imm.le_trans (Imm.le_trans hi6 hi7) hi8) hi9) hi10) hi11) hi12) hi13) hi14) hi15) hi16) hr4)) hn1 (Rd.ext hj3 (Rd.ext hj2 hw1)) hn2 (Rd.ext hj3 hw2) hn3 hw3 t5 hA5).mono (fun e w' ⟨v, hv, hp⟩ => ⟨v, hv, JL3, (Imm.le_trans (Imm.le_trans hj1 hj2) hj3), hp⟩)
     rintro w v w' hs ⟨I', hle, J, rfl, hg⟩
     refine RL.resume (X' := [orow 3 1 A4 t2.1.length c4 cs4, orow 3 1 A5 t2.2.1.length c5 cs5, orow 27 1 A6 t2.2.2.length c6 cs6, orow 3 1 (some ⟨nx5, 0, none⟩) ([1, 2].length) 2 [i6 1, i6 2], orow 3 1 (some ⟨nx5 + 1, 0, none⟩) ([5, 6].length) 2 [i6 5, i6 6], orow 2 1 (some ⟨nx5 + 2, 0, none⟩) ([4, 0].length) 2 [i6 4, i6 0]]) rfl (hs.call (hg.back hle)) ?_
     clear hs hg hle I' J
     generalize w'.heap.size = nx7
     clear w w'
     refine RL.s 2 [(74, .bool t5), (1, .slice (some ⟨nx0, 0, none⟩) 3 3), (2, pt nx1 0), (4, .slice A4 t2.1.length c4), (5, .slice A5 t2.2.1.length c5), (6, .slice A6 t2.2.2.length c6), (7, pt nx3 0), (8, i6 t3.2), (10, i6 t4.2)] ?_
     refine RL.cases t5 (fun hb => ?_) (fun hb => ?_)
     ·have hc := hb
      rw [hb]
      rw [if_pos hc] at H; clear hb
      refine RL.s 1 [(75, .slice A4 t2.1.length c4), (74, .bool true), (1, .slice (some ⟨nx0, 0, none⟩) 3 3), (2, pt nx1 0), (5, .slice A5 t2.2.1.length c5), (6, .slice A6 t2.2.2.length c6), (7, pt nx3 0), (8, i6 t3.2), (10, i6 t4.2)] ?_
      have hib0 : (0 : Int) ≤ 0 := by decide
      obtain ⟨hib1, H⟩ := ifs H
      have hx01_ := hib0; have hx11_ := hib1
      refine RL.ownAddr (e := 3) (sz := 1) (S := A4) (n := t2.1.length) (cap := c4) (cs := cs4) 0 (by kernel_rfl) (by omega) (fun g1_ hA1_ => ?_)
      have hc1_ := Ty.int_own (Reps.ext (Imm.le_trans (Imm.le_trans (Imm.le_trans (Imm.le_trans (Imm.le_trans (Imm.le_trans (Imm.le_trans (Imm.le_trans (Imm.le_trans hi7 hi8) hi9) hi10) hi11) hi12) hi13) hi14) hi15) hi16) hp4) 0 hib0 hib1
      refine RL.idx 1 .i64 0 hA1_ t2.1.length c4 (some 76) (by kernel_rfl) (by kernel_rfl) (T := 26) (e := 3) (by kernel_rfl) (by kernel_rfl) hib0 hib1 (K' := [(76, pt g1_ (0 + (0 : Int).toNat * 1)), (75, .slice A4 t2.1.length c4), (74, .bool true), (1, .slice (some ⟨nx0, 0, none⟩) 3 3), (2, pt nx1 0), (5, .slice A5 t2.2.1.length c5), (6, .slice A6 t2.2.2.length c6), (7, pt nx3 0), (8, i6 t3.2), (10, i6 t4.2)]) (by kernel_rfl) ?_
      refine RL.simK (K' := [(80, .bool ((t2.1.getD (0 : Int).toNat 0) == 1)), (1, .slice (some ⟨nx0, 0, none⟩) 3 3), (2, pt nx1 0), (5, .slice A5 t2.2.1.length c5), (6, .slice A6 t2.2.2.length c6), (7, pt nx3 0), (8, i6 t3.2), (10, i6 t4.2)]) [(⟨g1_, 0 + (0 : Int).toNat * 1, none⟩, i6 (t2.1.getD (0 : Int).toNat 0))] (RFacts.ownQ (e := 3) (sz := 1) (S := A4) (n := t2.1.length) (cap := c4) (cs := cs4) 0 (by kernel_rfl) hA1_ (0 + (0 : Int).toNat * 1) ((0 : Int).toNat * 1 + 0) (by omega) (hc1_ 0 _ rfl) (RFacts.nil _ _ _)) 4 [.r 0, .no, .no, .no] (by kernel_rfl) (by kernel_rfl) ?_
      refine RL.cases ((t2.1.getD (0 : Int).toNat 0) == 1) (fun hb => ?_) (fun hb => ?_)
      ·have hc := (beq_iff_eq.1 hb)
       rw [hb]
       rw [if_pos hc] at H; clear hb
       refine RL.s 1 [(81, .slice A5 t2.2.1.length c5), (80, .bool true), (1, .slice (some ⟨nx0, 0, none⟩) 3 3), (2, pt nx1 0), (6, .slice A6 t2.2.2.length c6), (7, pt nx3 0), (8, i6 t3.2), (10, i6 t4.2)] ?_
       have hib0 : (0 : Int) ≤ 1 := by decide
       obtain ⟨hib1, H⟩ := ifs H
       have hx02_ := hib0; have hx12_ := hib1
       refine RL.ownAddr (e := 3) (sz := 1) (S := A5) (n := t2.2.1.length) (cap := c5) (cs := cs5) 1 (by kernel_rfl) (by omega) (fun g2_ hA2_ => ?_)
       have hc2_ := Ty.int_own (Reps.ext (Imm.le_trans (Imm.le_trans (Imm.le_trans (Imm.le_trans (Imm.le_trans (Imm.le_trans (Imm.le_trans (Imm.le_trans (Imm.le_trans hi7 hi8) hi9) hi10) hi11) hi12) hi13) hi14) hi15) hi16) hp5) 1 hib0 hib1
       refine RL.idx 1 .i64 1 hA2_ t2.2.1.length c5 (some 82) (by kernel_rfl) (by kernel_rfl) (T := 26) (e := 3) (by kernel_rfl) (by kernel_rfl) hib0 hib1 (K' := [(82, pt g2_ (0 + (1 : Int).toNat * 1)), (81, .slice A5 t2.2.1.length c5), (80, .bool true), (1, .slice (some ⟨nx0, 0, none⟩) 3 3), (2, pt nx1 0), (6, .slice A6 t2.2.2.length c6), (7, pt nx3 0), (8, i6 t3.2), (10, i6 t4.2)]) (by kernel_rfl) ?_
       refine RL.simK (K' := [(86, .bool ((t2.2.1.getD (1 : Int).toNat 0) == 6)), (1, .slice (some ⟨nx0, 0, none⟩) 3 3), (2, pt nx1 0), (6, .slice A6 t2.2.2.length c6), (7, pt nx3 0), (8, i6 t3.2), (10, i6 t4.2)]) [(⟨g2_, 0 + (1 : Int).toNat * 1, none⟩, i6 (t2.2.1.getD (1 : Int).toNat 0))] (RFacts.ownQ (e := 3) (sz := 1) (S := A5) (n := t2.2.1.length) (cap := c5) (cs := cs5) 1 (by kernel_rfl) hA2_ (0 + (1 : Int).toNat * 1) ((1 : Int).toNat * 1 + 0) (by omega) (hc2_ 0 _ rfl) (RFacts.nil _ _ _)) 4 [.r 0, .no, .no, .no] (by kernel_rfl) (by kernel_rfl) ?_
       refine RL.cases ((t2.2.1.getD (1 : Int).toNat 0) == 6) (fun hb => ?_) (fun hb => ?_)
       ·have hc := (beq_iff_eq.1 hb)
        rw [hb]
        rw [if_pos hc] at H; clear hb
        refine RL.s 1 [(87, .slice A6 t2.2.2.length c6), (86, .bool true), (1, .slice (some ⟨nx0, 0, none⟩) 3 3), (2, pt nx1 0), (6, .slice A6 t2.2.2.length c6), (7, pt nx3 0), (8, i6 t3.2), (10, i6 t4.2)] ?_
        have hib0 : (0 : Int) ≤ 0 := by decide
        obtain ⟨hib1, H⟩ := ifs H
        have hx03_ := hib0; have hx13_ := hib1
        refine RL.ownAddr (e := 27) (sz := 1) (S := A6) (n := t2.2.2.length) (cap := c6) (cs := cs6) 2 (by kernel_rfl) (by omega) (fun g3_ hA3_ => ?_)
        obtain ⟨A3_, c3_, hl3_, hr3_, hc3_⟩ := Ty.slice_own (Reps.ext (Imm.le_trans (Imm.le_trans (Imm.le_trans (Imm.le_trans (Imm.le_trans (Imm.le_trans (Imm.le_trans (Imm.le_trans (Imm.le_trans hi7 hi8) hi9) hi10) hi11) hi12) hi13) hi14) hi15) hi16) hp6) 0 hib0 hib1
        refine RL.idx 1 .i64 0 hA3_ t2.2.2.length c6 (some 88) (by kernel_rfl) (by kernel_rfl) (T := 33) (e := 27) (by kernel_rfl) (by kernel_rfl) hib0 hib1 (K' := [(88, pt g3_ (0 + (0 : Int).toNat * 1)), (87, .slice A6 t2.2.2.length c6), (86, .bool true), (1, .slice (some ⟨nx0, 0, none⟩) 3 3), (2, pt nx1 0), (6, .slice A6 t2.2.2.length c6), (7, pt nx3 0), (8, i6 t3.2), (10, i6 t4.2)]) (by kernel_rfl) ?_
        refine RL.simK (K' := [(89, .slice A3_ ((t2.2.2.getD (0 : Int).toNat []).length) c3_), (86, .bool true), (1, .slice (some ⟨nx0, 0, none⟩) 3 3), (2, pt nx1 0), (6, .slice A6 t2.2.2.length c6), (7, pt nx3 0), (8, i6 t3.2), (10, i6 t4.2)]) [(⟨g3_, 0 + (0 : Int).toNat * 1, none⟩, .slice A3_ ((t2.2.2.getD (0 : Int).toNat []).length) c3_)] (RFacts.ownQ (e := 27) (sz := 1) (S := A6) (n := t2.2.2.length) (cap := c6) (cs := cs6) 2 (by kernel_rfl) hA3_ (0 + (0 : Int).toNat * 1) ((0 : Int).toNat * 1 + 0) (by omega) (hc3_ 0 _ rfl) (RFacts.nil _ _ _)) 1 [.r 0] (by kernel_rfl) (by kernel_rfl) ?_
        have hib0 : (0 : Int) ≤ 0 := by decide
        obtain ⟨hib1, H⟩ := ifs H
        obtain ⟨g4_, o4_, hA4_, hc4_⟩ := Ty.int_at hr3_ 0 hib0 hib1
        refine RL.idx 1 .i64 0 hA4_ ((t2.2.2.getD (0 : Int).toNat []).length) c3_ (some 90) (by kernel_rfl) (by kernel_rfl) (T := 27) (e := 2) (by kernel_rfl) (by kernel_rfl) hib0 hib1 (K' := [(90, pt g4_ (o4_ + (0 : Int).toNat * 1)), (89, .slice A3_ ((t2.2.2.getD (0 : Int).toNat []).length) c3_), (86, .bool true), (1, .slice (some ⟨nx0, 0, none⟩) 3 3), (2, pt nx1 0), (6, .slice A6 t2.2.2.length c6), (7, pt nx3 0), (8, i6 t3.2), (10, i6 t4.2)]) (by kernel_rfl) ?_
        refine RL.simK (K' := [(94, .bool (((t2.2.2.getD (0 : Int).toNat []).getD (0 : Int).toNat 0) == 10)), (1, .slice (some ⟨nx0, 0, none⟩) 3 3), (2, pt nx1 0), (6, .slice A6 t2.2.2.length c6), (7, pt nx3 0), (8, i6 t3.2), (10, i6 t4.2)]) [(⟨g4_, o4_ + (0 : Int).toNat * 1, none⟩, i6 ((t2.2.2.getD (0 : Int).toNat []).getD (0 : Int).toNat 0))] (RFacts.imm (hc4_ 0 _ rfl) (RFacts.nil _ _ _)) 4 [.r 0, .no, .no, .no] (by kernel_rfl) (by kernel_rfl) ?_
        refine RL.cases (((t2.2.2.getD (0 : Int).toNat []).getD (0 : Int).toNat 0) == 10) (fun hb => ?_) (fun hb => ?_)
        ·have hc := (beq_iff_eq.1 hb)
         rw [hb]
         rw [if_pos hc] at H; clear hb
         refine RL.s 1 [(95, .slice A6 t2.2.2.length c6), (94, .bool true), (1, .slice (some ⟨nx0, 0, none⟩) 3 3), (2, pt nx1 0), (6, .slice A6 t2.2.2.length c6), (7, pt nx3 0), (8, i6 t3.2), (10, i6 t4.2)] ?_
         have hib0 : (0 : Int) ≤ 0 := by decide
         obtain ⟨hib1, H⟩ := ifs H
         have hx05_ := hib0; have hx15_ := hib1
         refine RL.ownAddr (e := 27) (sz := 1) (S := A6) (n := t2.2.2.length) (cap := c6) (cs := cs6) 2 (by kernel_rfl) (by omega) (fun g5_ hA5_ => ?_)
         obtain ⟨A5_, c5_, hl5_, hr5_, hc5_⟩ := Ty.slice_own (Reps.ext (Imm.le_trans (Imm.le_trans (Imm.le_trans (Imm.le_trans (Imm.le_trans (Imm.le_trans (Imm.le_trans (Imm.le_trans (Imm.le_trans hi7 hi8) hi9) hi10) hi11) hi12) hi13) hi14) hi15) hi16) hp6) 0 hib0 hib1
         refine RL.idx 1 .i64 0 hA5_ t2.2.2.length c6 (some 96) (by kernel_rfl) (by kernel_rfl) (T := 33) (e := 27) (by kernel_rfl) (by kernel_rfl) hib0 hib1 (K' := [(96, pt g5_ (0 + (0 : Int).toNat * 1)), (95, .slice A6 t2.2.2.length c6), (94, .bool true), (1, .slice (some ⟨nx0, 0, none⟩) 3 3), (2, pt nx1 0), (6, .slice A6 t2.2.2.length c6), (7, pt nx3 0), (8, i6 t3.2), (10, i6 t4.2)]) (by kernel_rfl) ?_
         refine RL.simK (K' := [(97, .slice A5_ ((t2.2.2.getD (0 : Int).toNat []).length) c5_), (94, .bool true), (1, .slice (some ⟨nx0, 0, none⟩) 3 3), (2, pt nx1 0), (6, .slice A6 t2.2.2.length c6), (7, pt nx3 0), (8, i6 t3.2), (10, i6 t4.2)]) [(⟨g5_, 0 + (0 : Int).toNat * 1, none⟩, .slice A5_ ((t2.2.2.getD (0 : Int).toNat []).length) c5_)] (RFacts.ownQ (e := 27) (sz := 1) (S := A6) (n := t2.2.2.length) (cap := c6) (cs := cs6) 2 (by kernel_rfl) hA5_ (0 + (0 : Int).toNat * 1) ((0 : Int).toNat * 1 + 0) (by omega) (hc5_ 0 _ rfl) (RFacts.nil _ _ _)) 1 [.r 0] (by kernel_rfl) (by kernel_rfl) ?_
         have hib0 : (0 : Int) ≤ 1 := by decide
         obtain ⟨hib1, H⟩ := ifs H
         obtain ⟨g6_, o6_, hA6_, hc6_⟩ := Ty.int_at hr5_ 1 hib0 hib1
         refine RL.idx 1 .i64 1 hA6_ ((t2.2.2.getD (0 : Int).toNat []).length) c5_ (some 98) (by kernel_rfl) (by kernel_rfl) (T := 27) (e := 2) (by kernel_rfl) (by kernel_rfl) hib0 hib1 (K' := [(98, pt g6_ (o6_ + (1 : Int).toNat * 1)), (97, .slice A5_ ((t2.2.2.getD (0 : Int).toNat []).length) c5_), (94, .bool true), (1, .slice (some ⟨nx0, 0, none⟩) 3 3), (2, pt nx1 0), (6, .slice A6 t2.2.2.length c6), (7, pt nx3 0), (8, i6 t3.2), (10, i6 t4.2)]) (by kernel_rfl) ?_
         refine RL.simK (K' := [(102, .bool (((t2.2.2.getD (0 : Int).toNat []).getD (1 : Int).toNat 0) == 0)), (1, .slice (some ⟨nx0, 0, none⟩) 3 3), (2, pt nx1 0), (6, .slice A6 t2.2.2.length c6), (7, pt nx3 0), (8, i6 t3.2), (10, i6 t4.2)]) [(⟨g6_, o6_ + (1 : Int).toNat * 1, none⟩, i6 ((t2.2.2.getD (0 : Int).toNat []).getD (1 : Int).toNat 0))] (RFacts.imm (hc6_ 0 _ rfl) (RFacts.nil _ _ _)) 4 [.r 0, .no, .no, .no] (by kernel_rfl) (by kernel_rfl) ?_
         refine RL.cases (((t2.2.2.getD (0 : Int).toNat []).getD (1 : Int).toNat 0) == 0) (fun hb => ?_) (fun hb => ?_)
         ·have hc := (beq_iff_eq.1 hb)
          rw [hb]
          rw [if_pos hc] at H; clear hb
          refine RL.s 1 [(103, .slice A6 t2.2.2.length c6), (102, .bool true), (1, .slice (some ⟨nx0, 0, none⟩) 3 3), (2, pt nx1 0), (6, .slice A6 t2.2.2.length c6), (7, pt nx3 0), (8, i6 t3.2), (10, i6 t4.2)] ?_
          have hib0 : (0 : Int) ≤ 1 := by decide
          obtain ⟨hib1, H⟩ := ifs H
          have hx07_ := hib0; have hx17_ := hib1
          refine RL.ownAddr (e := 27) (sz := 1) (S := A6) (n := t2.2.2.length) (cap := c6) (cs := cs6) 2 (by kernel_rfl) (by omega) (fun g7_ hA7_ => ?_)
          obtain ⟨A7_, c7_, hl7_, hr7_, hc7_⟩ := Ty.slice_own (Reps.ext (Imm.le_trans (Imm.le_trans (Imm.le_trans (Imm.le_trans (Imm.le_trans (Imm.le_trans (Imm.le_trans (Imm.le_trans (Imm.le_trans hi7 hi8) hi9) hi10) hi11) hi12) hi13) hi14) hi15) hi16) hp6) 1 hib0 hib1
          refine RL.idx 1 .i64 1 hA7_ t2.2.2.length c6 (some 104) (by kernel_rfl) (by kernel_rfl) (T := 33) (e := 27) (by kernel_rfl) (by kernel_rfl) hib0 hib1 (K' := [(104, pt g7_ (0 + (1 : Int).toNat * 1)), (103, .slice A6 t2.2.2.length c6), (102, .bool true), (1, .slice (some ⟨nx0, 0, none⟩) 3 3), (2, pt nx1 0), (6, .slice A6 t2.2.2.length c6), (7, pt nx3 0), (8, i6 t3.2), (10, i6 t4.2)]) (by kernel_rfl) ?_
          refine RL.simK (K' := [(105, .slice A7_ ((t2.2.2.getD (1 : Int).toNat []).length) c7_), (102, .bool true), (1, .slice (some ⟨nx0, 0, none⟩) 3 3), (2, pt nx1 0), (6, .slice A6 t2.2.2.length c6), (7, pt nx3 0), (8, i6 t3.2), (10, i6 t4.2)]) [(⟨g7_, 0 + (1 : Int).toNat * 1, none⟩, .slice A7_ ((t2.2.2.getD (1 : Int).toNat []).length) c7_)] (RFacts.ownQ (e := 27) (sz := 1) (S := A6) (n := t2.2.2.length) (cap := c6) (cs := cs6) 2 (by kernel_rfl) hA7_ (0 + (1 : Int).toNat * 1) ((1 : Int).toNat * 1 + 0) (by omega) (hc7_ 0 _ rfl) (RFacts.nil _ _ _)) 1 [.r 0] (by kernel_rfl) (by kernel_rfl) ?_
          have hib0 : (0 : Int) ≤ 0 := by decide
          obtain ⟨hib1, H⟩ := ifs H
          obtain ⟨g8_, o8_, hA8_, hc8_⟩ := Ty.int_at hr7_ 0 hib0 hib1
          refine RL.idx 1 .i64 0 hA8_ ((t2.2.2.getD (1 : Int).toNat []).length) c7_ (some 106) (by kernel_rfl) (by kernel_rfl) (T := 27) (e := 2) (by kernel_rfl) (by kernel_rfl) hib0 hib1 (K' := [(106, pt g8_ (o8_ + (0 : Int).toNat * 1)), (105, .slice A7_ ((t2.2.2.getD (1 : Int).toNat []).length) c7_), (102, .bool true), (1, .slice (some ⟨nx0, 0, none⟩) 3 3), (2, pt nx1 0), (6, .slice A6 t2.2.2.length c6), (7, pt nx3 0), (8, i6 t3.2), (10, i6 t4.2)]) (by kernel_rfl) ?_
          refine RL.simK (K' := [(110, .bool (((t2.2.2.getD (1 : Int).toNat []).getD (0 : Int).toNat 0) == 7)), (1, .slice (some ⟨nx0, 0, none⟩) 3 3), (2, pt nx1 0), (6, .slice A6 t2.2.2.length c6), (7, pt nx3 0), (8, i6 t3.2), (10, i6 t4.2)]) [(⟨g8_, o8_ + (0 : Int).toNat * 1, none⟩, i6 ((t2.2.2.getD (1 : Int).toNat []).getD (0 : Int).toNat 0))] (RFacts.imm (hc8_ 0 _ rfl) (RFacts.nil _ _ _)) 4 [.r 0, .no, .no, .no] (by kernel_rfl) (by kernel_rfl) ?_
          refine RL.cases (((t2.2.2.getD (1 : Int).toNat []).getD (0 : Int).toNat 0) == 7) (fun hb => ?_) (fun hb => ?_)
          ·have hc := (beq_iff_eq.1 hb)
           rw [hb]
           rw [if_pos hc] at H; clear hb
           refine RL.s 1 [(111, .slice A6 t2.2.2.length c6), (110, .bool true), (1, .slice (some ⟨nx0, 0, none⟩) 3 3), (2, pt nx1 0), (7, pt nx3 0), (8, i6 t3.2), (10, i6 t4.2)] ?_
           have hib0 : (0 : Int) ≤ 1 := by decide
           obtain ⟨hib1, H⟩ := ifs H
           have hx09_ := hib0; have hx19_ := hib1
           refine RL.ownAddr (e := 27) (sz := 1) (S := A6) (n := t2.2.2.length) (cap := c6) (cs := cs6) 2 (by kernel_rfl) (by omega) (fun g9_ hA9_ => ?_)
           obtain ⟨A9_, c9_, hl9_, hr9_, hc9_⟩ := Ty.slice_own (Reps.ext (Imm.le_trans (Imm.le_trans (Imm.le_trans (Imm.le_trans (Imm.le_trans (Imm.le_trans (Imm.le_trans (Imm.le_trans (Imm.le_trans hi7 hi8) hi9) hi10) hi11) hi12) hi13) hi14) hi15) hi16) hp6) 1 hib0 hib1
           refine RL.idx 1 .i64 1 hA9_ t2.2.2.length c6 (some 112) (by kernel_rfl) (by kernel_rfl) (T := 33) (e := 27) (by kernel_rfl) (by kernel_rfl) hib0 hib1 (K' := [(112, pt g9_ (0 + (1 : Int).toNat * 1)), (111, .slice A6 t2.2.2.length c6), (110, .bool true), (1, .slice (some ⟨nx0, 0, none⟩) 3 3), (2, pt nx1 0), (7, pt nx3 0), (8, i6 t3.2), (10, i6 t4.2)]) (by kernel_rfl) ?_
           refine RL.simK (K' := [(113, .slice A9_ ((t2.2.2.getD (1 : Int).toNat []).length) c9_), (110, .bool true), (1, .slice (some ⟨nx0, 0, none⟩) 3 3), (2, pt nx1 0), (7, pt nx3 0), (8, i6 t3.2), (10, i6 t4.2)]) [(⟨g9_, 0 + (1 : Int).toNat * 1, none⟩, .slice A9_ ((t2.2.2.getD (1 : Int).toNat []).length) c9_)] (RFacts.ownQ (e := 27) (sz := 1) (S := A6) (n := t2.2.2.length) (cap := c6) (cs := cs6) 2 (by kernel_rfl) hA9_ (0 + (1 : Int).toNat * 1) ((1 : Int).toNat * 1 + 0) (by omega) (hc9_ 0 _ rfl) (RFacts.nil _ _ _)) 1 [.r 0] (by kernel_rfl) (by kernel_rfl) ?_
           have hib0 : (0 : Int) ≤ 1 := by decide
           obtain ⟨hib1, H⟩ := ifs H
           obtain ⟨g10_, o10_, hA10_, hc10_⟩ := Ty.int_at hr9_ 1 hib0 hib1
           refine RL.idx 1 .i64 1 hA10_ ((t2.2.2.getD (1 : Int).toNat []).length) c9_ (some 114) (by kernel_rfl) (by kernel_rfl) (T := 27) (e := 2) (by kernel_rfl) (by kernel_rfl) hib0 hib1 (K' := [(114, pt g10_ (o10_ + (1 : Int).toNat * 1)), (113, .slice A9_ ((t2.2.2.getD (1 : Int).toNat []).length) c9_), (110, .bool true), (1, .slice (some ⟨nx0, 0, none⟩) 3 3), (2, pt nx1 0), (7, pt nx3 0), (8, i6 t3.2), (10, i6 t4.2)]) (by kernel_rfl) ?_
           refine RL.simK (K' := [(118, .bool (((t2.2.2.getD (1 : Int).toNat []).getD (1 : Int).toNat 0) == 3)), (1, .slice (some ⟨nx0, 0, none⟩) 3 3), (2, pt nx1 0), (7, pt nx3 0), (8, i6 t3.2), (10, i6 t4.2)]) [(⟨g10_, o10_ + (1 : Int).toNat * 1, none⟩, i6 ((t2.2.2.getD (1 : Int).toNat []).getD (1 : Int).toNat 0))] (RFacts.imm (hc10_ 0 _ rfl) (RFacts.nil _ _ _)) 4 [.r 0, .no, .no, .no] (by kernel_rfl) (by kernel_rfl) ?_
           refine RL.cases (((t2.2.2.getD (1 : Int).toNat []).getD (1 : Int).toNat 0) == 3) (fun hb => ?_) (fun hb => ?_)
           ·have hc := (beq_iff_eq.1 hb)
            rw [hb]
            rw [if_pos hc] at H; clear hb
            refine RL.s 4 [(122, .bool (t3.2 == 0)), (1, .slice (some ⟨nx0, 0, none⟩) 3 3), (2, pt nx1 0), (7, pt nx3 0), (10, i6 t4.2)] ?_
            refine RL.cases (t3.2 == 0) (fun hb => ?_) (fun hb => ?_)
            ·have hc := (beq_iff_eq.1 hb)
             rw [hb]
             rw [if_pos hc] at H; clear hb
             refine RL.simK (K' := [(128, .bool ((t3.1.f0.length : Int) == 0)), (1, .slice (some ⟨nx0, 0, none⟩) 3 3), (2, pt nx1 0), (10, i6 t4.2)]) [] (RFacts.nil _ _ _) 6 [.no, .l 1, .no, .no, .no, .no] (by kernel_rfl) (by kernel_rfl) ?_
             refine RL.cases ((t3.1.f0.length : Int) == 0) (fun hb => ?_) (fun hb => ?_)
             ·have hc := (beq_iff_eq.1 hb)
              rw [hb]
              rw [if_pos hc] at H; clear hb
              refine RL.s 4 [(132, .bool (t4.2 == 1)), (1, .slice (some ⟨nx0, 0, none⟩) 3 3), (2, pt nx1 0)] ?_
              refine RL.cases (t4.2 == 1) (fun hb => ?_) (fun hb => ?_)
              ·have hc := (beq_iff_eq.1 hb)
               rw [hb]
               rw [if_pos hc] at H; clear hb
               refine RL.simK (K' := [(134, .agg #[.slice A1 t1.1.f0.length c1, .slice A2 t1.1.f1.length c2, .slice A3 t1.1.f2.length c3]), (133, .slice (some ⟨nx0, 0, none⟩) 3 3), (132, .bool true), (1, .slice (some ⟨nx0, 0, none⟩) 3 3), (2, pt nx1 0)]) [] (RFacts.nil _ _ _) 2 [.no, .l 0] (by kernel_rfl) (by kernel_rfl) ?_
               obtain ⟨t6, hA6, H⟩ := bnd H
               refine RL.callP 21 [.slice (some ⟨nx0, 0, none⟩) 3 3, .agg #[.slice A1 t1.1.f0.length c1, .slice A2 t1.1.f1.length c2, .slice A3 t1.1.f2.length c3], i6 1] (some 135) (fun w => auction_Utility.Post I16 w t6) (by kernel_rfl) (by kernel_rfl) (fun w hs => auction_Utility.calls k I16 [(⟨2, 6, 3⟩ : S48), (⟨1, 5, 10⟩ : S48), (⟨2, 5, 7⟩ : S48)] (some ⟨nx0, 0, none⟩) 3 t1.1 A1 c1 A2 c2 A3 c3 1 w hs.im (Nat.le_of_ble_eq_true rfl) (Rd.ext (Imm.le_trans (Imm.le_trans (Imm.le_trans (Imm.le_trans (Imm.le_trans (Imm.le_trans (Imm.le_trans (Imm.le_trans (Imm.le_trans (Imm.le_trans (Imm.le_trans (Imm.le_trans (Imm.le_trans (Imm.le_trans hi2 hi3) hi4) hi5) hi6) hi7) hi8) hi9) hi10) hi11) hi12) hi13) hi14) hi15) hi16) hr1) hl1 (Rd.ext (Imm.le_trans (Imm.le_trans (Imm.le_trans (Imm.le_trans (Imm.le_trans (Imm.le_trans (Imm.le_trans (Imm.le_trans (Imm.le_trans (Imm.le_trans (Imm.le_trans (Imm.le_trans hi4 hi5) hi6) hi7) hi8) hi9) hi10) hi11) hi12) hi13) hi14) hi15) hi16) hr2) hl2 (Rd.ext (Imm.le_trans (Imm.le_trans (Imm.le_trans (Imm.le_trans (Imm.le_trans (Imm.le_trans (Imm.le_trans (Imm.le_trans (Imm.le_trans (Imm.le_trans (Imm.le_trans hi5 hi6) hi7) hi8) hi9) hi10) hi11) hi12) hi13) hi14) hi15) hi16) hr3) hl3 (Rd.ext (Imm.le_trans (Imm.le_trans (Imm.le_trans (Imm.le_trans (Imm.le_trans (Imm.le_trans (Imm.le_trans (Imm.le_trans (Imm.le_trans (Imm.le_trans hi6 hi7) hi8) hi9) hi10) hi11) hi12) hi13) hi14) hi15) hi16) hr4) t6 hA6) ?_
               rintro w v w' hs ⟨I18, rfl, hg⟩
               have hi18 := hg.le
               refine RL.resume (X' := [orow 3 1 A4 t2.1.length c4 cs4, orow 3 1 A5 t2.2.1.length c5 cs5, orow 27 1 A6 t2.2.2.length c6 cs6, orow 3 1 (some ⟨nx5, 0, none⟩) ([1, 2].length) 2 [i6 1, i6 2], orow 3 1 (some ⟨nx5 + 1, 0, none⟩) ([5, 6].length) 2 [i6 5, i6 6], orow 2 1 (some ⟨nx5 + 2, 0, none⟩) ([4, 0].length) 2 [i6 4, i6 0]]) rfl (hs.call hg) ?_
               clear hs hg
               generalize w'.heap.size = nx8
               clear w w'
               refine RL.s 3 [(138, .bool (t6 == 6)), (1, .slice (some ⟨nx0, 0, none⟩) 3 3), (2, pt nx1 0)] ?_
               refine RL.cases (t6 == 6) (fun hb => ?_) (fun hb => ?_)
               ·have hc := (beq_iff_eq.1 hb)
                rw [hb]
                rw [if_pos hc] at H; clear hb
                refine RL.simK (K' := [(140, .agg #[.slice A1 t1.1.f0.length c1, .slice A2 t1.1.f1.length c2, .slice A3 t1.1.f2.length c3]), (139, .slice (some ⟨nx0, 0, none⟩) 3 3), (138, .bool true), (1, .slice (some ⟨nx0, 0, none⟩) 3 3), (2, pt nx1 0)]) [] (RFacts.nil _ _ _) 2 [.no, .l 0] (by kernel_rfl) (by kernel_rfl) ?_
                obtain ⟨t7, hA7, H⟩ := bnd H
                refine RL.callP 21 [.slice (some ⟨nx0, 0, none⟩) 3 3, .agg #[.slice A1 t1.1.f0.length c1, .slice A2 t1.1.f1.length c2, .slice A3 t1.1.f2.length c3], i6 2] (some 141) (fun w => auction_Utility.Post I18 w t7) (by kernel_rfl) (by kernel_rfl) (fun w hs => auction_Utility.calls k I18 [(⟨2, 6, 3⟩ : S48), (⟨1, 5, 10⟩ : S48), (⟨2, 5, 7⟩ : S48)] (some ⟨nx0, 0, none⟩) 3 t1.1 A1 c1 A2 c2 A3 c3 2 w hs.im (Nat.le_of_ble_eq_true rfl) (Rd.ext (Imm.le_trans (Imm.le_trans (Imm.le_trans (Imm.le_trans (Imm.le_trans (Imm.le_trans (Imm.le_trans (Imm.le_trans (Imm.le_trans (Imm.le_trans (Imm.le_trans (Imm.le_trans (Imm.le_trans (Imm.le_trans (Imm.le_trans hi2 hi3) hi4) hi5) hi6) hi7) hi8) hi9) hi10) hi11) hi12) hi13) hi14) hi15) hi16) hi18) hr1) hl1 (Rd.ext (Imm.le_trans (Imm.le_trans (Imm.le_trans (Imm.le_trans (Imm.le_trans (Imm.le_trans (Imm.le_trans (Imm.le_trans (Imm.le_trans (Imm.le_trans (Imm.le_trans (Imm.le_trans (Imm.le_trans hi4 hi5) hi6) hi7) hi8) hi9) hi10) hi11) hi12) hi13) hi14) hi15) hi16) hi18) hr2) hl2 (Rd.ext (Imm.le_trans (Imm.le_trans (Imm.le_trans (Imm.le_trans (Imm.le_trans (Imm.le_trans (Imm.le_trans (Imm.le_trans (Imm.le_trans (Imm.le_trans (Imm.le_trans (Imm.le_trans hi5 hi6) hi7) hi8) hi9) hi10) hi11) hi12) hi13) hi14) hi15) hi16) hi18) hr3) hl3 (Rd.ext (Imm.le_trans (Imm.le_trans (Imm.le_trans (Imm.le_trans (Imm.le_trans (Imm.le_trans (Imm.le_trans (Imm.le_trans (Imm.le_trans (Imm.le_trans (Imm.le_trans hi6 hi7) hi8) hi9) hi10) hi11) hi12) hi13) hi14) hi15) hi16) hi18) hr4) t7 hA7) ?_
                rintro w v w' hs ⟨I19, rfl, hg⟩
                have hi19 := hg.le
                refine RL.resume (X' := [orow 3 1 A4 t2.1.length c4 cs4, orow 3 1 A5 t2.2.1.length c5 cs5, orow 27 1 A6 t2.2.2.length c6 cs6, orow 3 1 (some ⟨nx5, 0, none⟩) ([1, 2].length) 2 [i6 1, i6 2], orow 3 1 (some ⟨nx5 + 1, 0, none⟩) ([5, 6].length) 2 [i6 5, i6 6], orow 2 1 (some ⟨nx5 + 2, 0, none⟩) ([4, 0].length) 2 [i6 4, i6 0]]) rfl (hs.call hg) ?_
                clear hs hg
                generalize w'.heap.size = nx9
                clear w w'
                refine RL.s 3 [(144, .bool (t7 == 3)), (1, .slice (some ⟨nx0, 0, none⟩) 3 3), (2, pt nx1 0)] ?_
                refine RL.cases (t7 == 3) (fun hb => ?_) (fun hb => ?_)
                ·have hc := (beq_iff_eq.1 hb)
                 rw [hb]
                 rw [if_pos hc] at H; clear hb
                 refine RL.simK (K' := [(146, .agg #[.slice A1 t1.1.f0.length c1, .slice A2 t1.1.f1.length c2, .slice A3 t1.1.f2.length c3]), (145, .slice (some ⟨nx0, 0, none⟩) 3 3), (144, .bool true), (1, .slice (some ⟨nx0, 0, none⟩) 3 3), (2, pt nx1 0)]) [] (RFacts.nil _ _ _) 2 [.no, .l 0] (by kernel_rfl) (by kernel_rfl) ?_
                 obtain ⟨t8, hA8, H⟩ := bnd H
                 refine RL.callP 21 [.slice (some ⟨nx0, 0, none⟩) 3 3, .agg #[.slice A1 t1.1.f0.length c1, .slice A2 t1.1.f1.length c2, .slice A3 t1.1.f2.length c3], i6 9] (some 147) (fun w => auction_Utility.Post I19 w t8) (by kernel_rfl) (by kernel_rfl) (fun w hs => auction_Utility.calls k I19 [(⟨2, 6, 3⟩ : S48), (⟨1, 5, 10⟩ : S48), (⟨2, 5, 7⟩ : S48)] (some ⟨nx0, 0, none⟩) 3 t1.1 A1 c1 A2 c2 A3 c3 9 w hs.im (Nat.le_of_ble_eq_true rfl) (Rd.ext (Imm.le_trans (Imm.le_trans (Imm.le_trans (Imm.le_trans (Imm.le_trans (Imm.le_trans (Imm.le_trans (Imm.le_trans (Imm.le_trans (Imm.le_trans (Imm.le_trans (Imm.le_trans (Imm.le_trans (Imm.le_trans (Imm.le_trans (Imm.le_trans hi2 hi3) hi4) hi5) hi6) hi7) hi8) hi9) hi10) hi11) hi12) hi13) hi14) hi15) hi16) hi18) hi19) hr1) hl1 (Rd.ext (Imm.le_trans (Imm.le_trans (Imm.le_trans (Imm.le_trans (Imm.le_trans (Imm.le_trans (Imm.le_trans (Imm.le_trans (Imm.le_trans (Imm.le_trans (Imm.le_trans (Imm.le_trans (Imm.le_trans (Imm.le_trans hi4 hi5) hi6) hi7) hi8) hi9) hi10) hi11) hi12) hi13) hi14) hi15) hi16) hi18) hi19) hr2) hl2 (Rd.ext (Imm.le_trans (Imm.le_trans (Imm.le_trans (Imm.le_trans (Imm.le_trans (Imm.le_trans (Imm.le_trans (Imm.le_trans (Imm.le_trans (Imm.le_trans (Imm.le_trans (Imm.le_trans (Imm.le_trans hi5 hi6) hi7) hi8) hi9) hi10) hi11) hi12) hi13) hi14) hi15) hi16) hi18) hi19) hr3) hl3 (Rd.ext (Imm.le_trans (Imm.le_trans (Imm.le_trans (Imm.le_trans (Imm.le_trans (Imm.le_trans (Imm.le_trans (Imm.le_trans (Imm.le_trans (Imm.le_trans (Imm.le_trans (Imm.le_trans hi6 hi7) hi8) hi9) hi10) hi11) hi12) hi13) hi14) hi15) hi16) hi18) hi19) hr4) t8 hA8) ?_
                 rintro w v w' hs ⟨I20, rfl, hg⟩
                 have hi20 := hg.le
                 refine RL.resume (X' := [orow 3 1 A4 t2.1.length c4 cs4, orow 3 1 A5 t2.2.1.length c5 cs5, orow 27 1 A6 t2.2.2.length c6 cs6, orow 3 1 (some ⟨nx5, 0, none⟩) ([1, 2].length) 2 [i6 1, i6 2], orow 3 1 (some ⟨nx5 + 1, 0, none⟩) ([5, 6].length) 2 [i6 5, i6 6], orow 2 1 (some ⟨nx5 + 2, 0, none⟩) ([4, 0].length) 2 [i6 4, i6 0]]) rfl (hs.call hg) ?_
                 clear hs hg
                 generalize w'.heap.size = nx10
                 clear w w'
                 refine RL.s 3 [(150, .bool (t8 == 0)), (1, .slice (some ⟨nx0, 0, none⟩) 3 3), (2, pt nx1 0)] ?_
                 refine RL.cases (t8 == 0) (fun hb => ?_) (fun hb => ?_)
                 ·have hc := (beq_iff_eq.1 hb)
                  rw [hb]
                  rw [if_pos hc] at H; clear hb
                  refine RL.simK (K' := [(152, .agg #[.slice A1 t1.1.f0.length c1, .slice A2 t1.1.f1.length c2, .slice A3 t1.1.f2.length c3]), (151, .slice (some ⟨nx0, 0, none⟩) 3 3), (150, .bool true), (1, .slice (some ⟨nx0, 0, none⟩) 3 3)]) [] (RFacts.nil _ _ _) 2 [.no, .l 0] (by kernel_rfl) (by kernel_rfl) ?_
                  obtain ⟨t9, hA9, H⟩ := bnd H
                  refine RL.callP 23 [.slice (some ⟨nx0, 0, none⟩) 3 3, .agg #[.slice A1 t1.1.f0.length c1, .slice A2 t1.1.f1.length c2, .slice A3 t1.1.f2.length c3]] (some 153) (fun w => auction_Welfare.Post I20 w t9) (by kernel_rfl) (by kernel_rfl) (fun w hs => auction_Welfare.calls k I20 [(⟨2, 6, 3⟩ : S48), (⟨1, 5, 10⟩ : S48), (⟨2, 5, 7⟩ : S48)] (some ⟨nx0, 0, none⟩) 3 t1.1 A1 c1 A2 c2 A3 c3 w hs.im (Nat.le_of_ble_eq_true rfl) (Rd.ext (Imm.le_trans (Imm.le_trans (Imm.le_trans (Imm.le_trans (Imm.le_trans (Imm.le_trans (Imm.le_trans (Imm.le_trans (Imm.le_trans (Imm.le_trans (Imm.le_trans (Imm.le_trans (Imm.le_trans (Imm.le_trans (Imm.le_trans (Imm.le_trans (Imm.le_trans hi2 hi3) hi4) hi5) hi6) hi7) hi8) hi9) hi10) hi11) hi12) hi13) hi14) hi15) hi16) hi18) hi19) hi20) hr1) hl1 (Rd.ext (Imm.le_trans (Imm.le_trans (Imm.le_trans (Imm.le_trans (Imm.le_trans (Imm.le_trans (Imm.le_trans (Imm.le_trans (Imm.le_trans (Imm.le_trans (Imm.le_trans (Imm.le_trans (Imm.le_trans (Imm.le_trans (Imm.le_trans hi4 hi5) hi6) hi7) hi8) hi9) hi10) hi11) hi12) hi13) hi14) hi15) hi16) hi18) hi19) hi20) hr2) hl2 (Rd.ext (Imm.le_trans (Imm.le_trans (Imm.le_trans (Imm.le_trans (Imm.le_trans (Imm.le_trans (Imm.le_trans (Imm.le_trans (Imm.le_trans (Imm.le_trans (Imm.le_trans (Imm.le_trans (Imm.le_trans (Imm.le_trans hi5 hi6) hi7) hi8) hi9) hi10) hi11) hi12) hi13) hi14) hi15) hi16) hi18) hi19) hi20) hr3) hl3 (Rd.ext (Imm.le_trans (Imm.le_trans (Imm.le_trans (Imm.le_trans (Imm.le_trans (Imm.le_trans (Imm.le_trans (Imm.le_trans (Imm.le_trans (Imm.le_trans (Imm.le_trans (Imm.le_trans (Imm.le_trans hi6 hi7) hi8) hi9) hi10) hi11) hi12) hi13) hi14) hi15) hi16) hi18) hi19) hi20) hr4) t9 hA9) ?_
                  rintro w v w' hs ⟨I21, rfl, hg⟩
                  have hi21 := hg.le
                  refine RL.resume (X' := [orow 3 1 A4 t2.1.length c4 cs4, orow 3 1 A5 t2.2.1.length c5 cs5, orow 27 1 A6 t2.2.2.length c6 cs6, orow 3 1 (some ⟨nx5, 0, none⟩) ([1, 2].length) 2 [i6 1, i6 2], orow 3 1 (some ⟨nx5 + 1, 0, none⟩) ([5, 6].length) 2 [i6 5, i6 6], orow 2 1 (some ⟨nx5 + 2, 0, none⟩) ([4, 0].length) 2 [i6 4, i6 0]]) rfl (hs.call hg) ?_
                  clear hs hg
                  generalize w'.heap.size = nx11
                  clear w w'
                  refine RL.s 3 [(156, .bool (t9 == 13)), (1, .slice (some ⟨nx0, 0, none⟩) 3 3)] ?_
                  refine RL.cases (t9 == 13) (fun hb => ?_) (fun hb => ?_)
                  ·have hc := (beq_iff_eq.1 hb)
                   rw [hb]
                   rw [if_pos hc] at H; clear hb
                   refine RL.s 1 [(157, .slice (some ⟨nx0, 0, none⟩) 3 3), (156, .bool true)] ?_
                   obtain ⟨t10, hA10, H⟩ := bnd H
                   refine RL.callP 12 [.slice (some ⟨nx0, 0, none⟩) 3 3] (some 158) (fun w => auction_Valid.Post I21 w t10) (by kernel_rfl) (by kernel_rfl) (fun w hs => auction_Valid.calls k I21 [(⟨2, 6, 3⟩ : S48), (⟨1, 5, 10⟩ : S48), (⟨2, 5, 7⟩ : S48)] (some ⟨nx0, 0, none⟩) 3 w hs.im (Nat.le_of_ble_eq_true rfl) (Rd.ext (Imm.le_trans (Imm.le_trans (Imm.le_trans (Imm.le_trans (Imm.le_trans (Imm.le_trans (Imm.le_trans (Imm.le_trans (Imm.le_trans (Imm.le_trans (Imm.le_trans (Imm.le_trans (Imm.le_trans (Imm.le_trans (Imm.le_trans (Imm.le_trans (Imm.le_trans (Imm.le_trans hi2 hi3) hi4) hi5) hi6) hi7) hi8) hi9) hi10) hi11) hi12) hi13) hi14) hi15) hi16) hi18) hi19) hi20) hi21) hr1) t10 hA10) ?_
                   rintro w v w' hs ⟨I22, rfl, hg⟩
                   have hi22 := hg.le
                   refine RL.resume (X' := [orow 3 1 A4 t2.1.length c4 cs4, orow 3 1 A5 t2.2.1.length c5 cs5, orow 27 1 A6 t2.2.2.length c6 cs6, orow 3 1 (some ⟨nx5, 0, none⟩) ([1, 2].length) 2 [i6 1, i6 2], orow 3 1 (some ⟨nx5 + 1, 0, none⟩) ([5, 6].length) 2 [i6 5, i6 6], orow 2 1 (some ⟨nx5 + 2, 0, none⟩) ([4, 0].length) 2 [i6 4, i6 0]]) rfl (hs.call hg) ?_
                   clear hs hg
                   generalize w'.heap.size = nx12
                   clear w w'
                   refine RL.s 2 [(160, .bool t10)] ?_
                   refine RL.cases t10 (fun hb => ?_) (fun hb => ?_)
                   ·have hc := hb
                    rw [hb]
                    rw [if_pos hc] at H; clear hb
                    refine RL.sp 2 [(162, .slice (some ⟨nx12, 0, none⟩) 1 1), (160, .bool true)] (nx12 + 1) [⟨nx1, [.slice A1 t1.1.f0.length c1, .slice A2 t1.1.f1.length c2, .slice A3 t1.1.f2.length c3], 29⟩, ⟨nx3, [.slice A7 t3.1.f0.length c7, .slice A8 t3.1.f1.length c8, .slice A9 t3.1.f2.length c9], 29⟩, ⟨nx4, [.slice A10 t4.1.f0.length c10, .slice A11 t4.1.f1.length c11, .slice A12 t4.1.f2.length c12], 29⟩, ⟨nx12, [i6 1, i6 1, i6 0], 48⟩] ?_
                    refine RL.toRow (b := ⟨nx12, [i6 1, i6 1, i6 0], 48⟩) 3 1 3 (by kernel_rfl) (by kernel_rfl) (by decide) ?_
                    have hp16 : Reps t48 I22 [(⟨1, 1, 0⟩ : S48)] [i6 1, i6 1, i6 0] := ⟨_, _, rfl, (t48_mk _ _), rfl⟩
                    refine RL.norm (K' := [(162, .slice (some ⟨nx12, 0, none⟩) ([(⟨1, 1, 0⟩ : S48)].length) 1), (160, .bool true)]) (L' := [⟨nx1, [.slice A1 t1.1.f0.length c1, .slice A2 t1.1.f1.length c2, .slice A3 t1.1.f2.length c3], 29⟩, ⟨nx3, [.slice A7 t3.1.f0.length c7, .slice A8 t3.1.f1.length c8, .slice A9 t3.1.f2.length c9], 29⟩, ⟨nx4, [.slice A10 t4.1.f0.length c10, .slice A11 t4.1.f1.length c11, .slice A12 t4.1.f2.length c12], 29⟩]) (X' := [orow 3 1 A4 t2.1.length c4 cs4, orow 3 1 A5 t2.2.1.length c5 cs5, orow 27 1 A6 t2.2.2.length c6 cs6, orow 3 1 (some ⟨nx5, 0, none⟩) ([1, 2].length) 2 [i6 1, i6 2], orow 3 1 (some ⟨nx5 + 1, 0, none⟩) ([5, 6].length) 2 [i6 5, i6 6], orow 2 1 (some ⟨nx5 + 2, 0, none⟩) ([4, 0].length) 2 [i6 4, i6 0], orow 48 3 (some ⟨nx12, 0, none⟩) ([(⟨1, 1, 0⟩ : S48)].length) 1 [i6 1, i6 1, i6 0]]) (by kernel_rfl) rfl (by kernel_rfl) (by kernel_rfl) ?_
                    obtain ⟨t11, hA11, H⟩ := bnd H
                    refine RL.callP 12 [.slice (some ⟨nx12, 0, none⟩) ([(⟨1, 1, 0⟩ : S48)].length) 1] (some 163) (fun w v w' => ∃ I', Imm.le I22 I' ∧ auction_Valid.Post I' w t11 v w') (by kernel_rfl) (by kernel_rfl) (fun w hs => ?_) ?_
                    ·skip
                     obtain ⟨JL4, hj4, hn4, hw4, hs⟩ := Sat.freeze (e := 48) (sz := 3) (S := (some ⟨nx12, 0, none⟩)) (n := [(⟨1, 1, 0⟩ : S48)].length) (cap := 1) (m := 6) hs (by kernel_rfl) hp16 rfl
                     exact (auction_Valid.calls k JL4 [(⟨1, 1, 0⟩ : S48)] (some ⟨nx12, 0, none⟩) 1 _ hs.im hn4 hw4 t11 hA11).mono (fun e w' ⟨v, hv, hp⟩ => ⟨v, hv, JL4, hj4, hp⟩)
                    rintro w v w' hs ⟨I', hle, J, rfl, hg⟩
                    refine RL.resume (X' := [orow 3 1 A4 t2.1.length c4 cs4, orow 3 1 A5 t2.2.1.length c5 cs5, orow 27 1 A6 t2.2.2.length c6 cs6, orow 3 1 (some ⟨nx5, 0, none⟩) ([1, 2].length) 2 [i6 1, i6 2], orow 3 1 (some ⟨nx5 + 1, 0, none⟩) ([5, 6].length) 2 [i6 5, i6 6], orow 2 1 (some ⟨nx5 + 2, 0, none⟩) ([4, 0].length) 2 [i6 4, i6 0], orow 48 3 (some ⟨nx12, 0, none⟩) ([(⟨1, 1, 0⟩ : S48)].length) 1 [i6 1, i6 1, i6 0]]) rfl (hs.call (hg.back hle)) ?_
                    clear hs hg hle I' J
                    generalize w'.heap.size = nx13
                    clear w w'
                    refine RL.s 3 [(166, .bool (!t11))] ?_
                    refine RL.cases t11 (fun hb => ?_) (fun hb => ?_)
                    ·have hc := hb
                     rw [hb]
                     rw [if_pos hc] at H; clear hb
                     refine RL.s 6 [(0, .bool false)] ?_
                     refine RL.nil (by kernel_rfl) ?_
                     obtain rfl := Option.some.inj H
                     refine QN.sel (K' := [(0, .bool false)]) (L' := [⟨nx1, [.slice A1 t1.1.f0.length c1, .slice A2 t1.1.f1.length c2, .slice A3 t1.1.f2.length c3], 29⟩, ⟨nx3, [.slice A7 t3.1.f0.length c7, .slice A8 t3.1.f1.length c8, .slice A9 t3.1.f2.length c9], 29⟩, ⟨nx4, [.slice A10 t4.1.f0.length c10, .slice A11 t4.1.f1.length c11, .slice A12 t4.1.f2.length c12], 29⟩]) [] (by kernel_rfl) (by kernel_rfl) (.cons_cons _ (.cons_cons _ (.cons_cons _ .slnil))) ?_
                     refine QN.norm (X' := []) rfl rfl rfl (by kernel_rfl) ?_
                     exact hJ2 _ _ _ _ _ ⟨false, rfl, rfl, rfl, (Imm.le_trans (Imm.le_trans (Imm.le_trans (Imm.le_trans hi18 hi19) hi20) hi21) hi22), HK2⟩
                    ·have hc := (Bool.eq_false_iff.1 hb)
                     rw [hb]
                     rw [if_neg hc] at H; clear hb
                     refine RL.sp 2 [(168, .slice (some ⟨nx13, 0, none⟩) 1 1), (166, .bool true)] (nx13 + 1) [⟨nx1, [.slice A1 t1.1.f0.length c1, .slice A2 t1.1.f1.length c2, .slice A3 t1.1.f2.length c3], 29⟩, ⟨nx3, [.slice A7 t3.1.f0.length c7, .slice A8 t3.1.f1.length c8, .slice A9 t3.1.f2.length c9], 29⟩, ⟨nx4, [.slice A10 t4.1.f0.length c10, .slice A11 t4.1.f1.length c11, .slice A12 t4.1.f2.length c12], 29⟩, ⟨nx13, [i6 1001, i6 1, i6 1], 48⟩] ?_
                     refine RL.toRow (b := ⟨nx13, [i6 1001, i6 1, i6 1], 48⟩) 3 1 3 (by kernel_rfl) (by kernel_rfl) (by decide) ?_
                     have hp17 : Reps t48 I22 [(⟨1001, 1, 1⟩ : S48)] [i6 1001, i6 1, i6 1] := ⟨_, _, rfl, (t48_mk _ _), rfl⟩
                     refine RL.norm (K' := [(168, .slice (some ⟨nx13, 0, none⟩) ([(⟨1001, 1, 1⟩ : S48)].length) 1), (166, .bool true)]) (L' := [⟨nx1, [.slice A1 t1.1.f0.length c1, .slice A2 t1.1.f1.length c2, .slice A3 t1.1.f2.length c3], 29⟩, ⟨nx3, [.slice A7 t3.1.f0.length c7, .slice A8 t3.1.f1.length c8, .slice A9 t3.1.f2.length c9], 29⟩, ⟨nx4, [.slice A10 t4.1.f0.length c10, .slice A11 t4.1.f1.length c11, .slice A12 t4.1.f2.length c12], 29⟩]) (X' := [orow 3 1 A4 t2.1.length c4 cs4, orow 3 1 A5 t2.2.1.length c5 cs5, orow 27 1 A6 t2.2.2.length c6 cs6, orow 3 1 (some ⟨nx5, 0, none⟩) ([1, 2].length) 2 [i6 1, i6 2], orow 3 1 (some ⟨nx5 + 1, 0, none⟩) ([5, 6].length) 2 [i6 5, i6 6], orow 2 1 (some ⟨nx5 + 2, 0, none⟩) ([4, 0].length) 2 [i6 4, i6 0], orow 48 3 (some ⟨nx12, 0, none⟩) ([(⟨1, 1, 0⟩ : S48)].length) 1 [i6 1, i6 1, i6 0], orow 48 3 (some ⟨nx13, 0, none⟩) ([(⟨1001, 1, 1⟩ : S48)].length) 1 [i6 1001, i6 1, i6 1]]) (by kernel_rfl) rfl (by kernel_rfl) (by kernel_rfl) ?_
                     obtain ⟨t12, hA12, H⟩ := bnd H
                     refine RL.callP 12 [.slice (some ⟨nx13, 0, none⟩) ([(⟨1001, 1, 1⟩ : S48)].length) 1] (some 169) (fun w v w' => ∃ I', Imm.le I22 I' ∧ auction_Valid.Post I' w t12 v w') (by kernel_rfl) (by kernel_rfl) (fun w hs => ?_) ?_
                     ·skip
                      obtain ⟨JL5, hj5, hn5, hw5, hs⟩ := Sat.freeze (e := 48) (sz := 3) (S := (some ⟨nx13, 0, none⟩)) (n := [(⟨1001, 1, 1⟩ : S48)].length) (cap := 1) (m := 7) hs (by kernel_rfl) hp17 rfl
                      exact (auction_Valid.calls k JL5 [(⟨1001, 1, 1⟩ : S48)] (some ⟨nx13, 0, none⟩) 1 _ hs.im hn5 hw5 t12 hA12).mono (fun e w' ⟨v, hv, hp⟩ => ⟨v, hv, JL5, hj5, hp⟩)
                     rintro w v w' hs ⟨I', hle, J, rfl, hg⟩
                     refine RL.resume (X' := [orow 3 1 A4 t2.1.length c4 cs4, orow 3 1 A5 t2.2.1.length c5 cs5, orow 27 1 A6 t2.2.2.length c6 cs6, orow 3 1 (some ⟨nx5, 0, none⟩) ([1, 2].length) 2 [i6 1, i6 2], orow 3 1 (some ⟨nx5 + 1, 0, none⟩) ([5, 6].length) 2 [i6 5, i6 6], orow 2 1 (some ⟨nx5 + 2, 0, none⟩) ([4, 0].length) 2 [i6 4, i6 0], orow 48 3 (some ⟨nx12, 0, none⟩) ([(⟨1, 1, 0⟩ : S48)].length) 1 [i6 1, i6 1, i6 0], orow 48 3 (some ⟨nx13, 0, none⟩) ([(⟨1001, 1, 1⟩ : S48)].length) 1 [i6 1001, i6 1, i6 1]]) rfl (hs.call (hg.back hle)) ?_
                     clear hs hg hle I' J
                     generalize w'.heap.size = nx14
                     clear w w'
                     refine RL.s 3 [(0, .bool (!t12))] ?_
                     refine RL.nil (by kernel_rfl) ?_
                     obtain rfl := Option.some.inj H
                     refine QN.sel (K' := [(0, .bool (!t12))]) (L' := [⟨nx1, [.slice A1 t1.1.f0.length c1, .slice A2 t1.1.f1.length c2, .slice A3 t1.1.f2.length c3], 29⟩, ⟨nx3, [.slice A7 t3.1.f0.length c7, .slice A8 t3.1.f1.length c8, .slice A9 t3.1.f2.length c9], 29⟩, ⟨nx4, [.slice A10 t4.1.f0.length c10, .slice A11 t4.1.f1.length c11, .slice A12 t4.1.f2.length c12], 29⟩]) [] (by kernel_rfl) (by kernel_rfl) (.cons_cons _ (.cons_cons _ (.cons_cons _ .slnil))) ?_
                     refine QN.norm (X' := []) rfl rfl rfl (by kernel_rfl) ?_
                     exact hJ2 _ _ _ _ _ ⟨(!t12), rfl, rfl, rfl, (Imm.le_trans (Imm.le_trans (Imm.le_trans (Imm.le_trans hi18 hi19) hi20) hi21) hi22), HK2⟩
                   ·have hc := (Bool.eq_false_iff.1 hb)
                    rw [hb]
                    rw [if_neg hc] at H; clear hb
                    refine RL.s 12 [(0, .bool false)] ?_
                    refine RL.nil (by kernel_rfl) ?_
                    obtain rfl := Option.some.inj H
                    refine QN.sel (K' := [(0, .bool false)]) (L' := [⟨nx1, [.slice A1 t1.1.f0.length c1, .slice A2 t1.1.f1.length c2, .slice A3 t1.1.f2.length c3], 29⟩, ⟨nx3, [.slice A7 t3.1.f0.length c7, .slice A8 t3.1.f1.length c8, .slice A9 t3.1.f2.length c9], 29⟩, ⟨nx4, [.slice A10 t4.1.f0.length c10, .slice A11 t4.1.f1.length c11, .slice A12 t4.1.f2.length c12], 29⟩]) [] (by kernel_rfl) (by kernel_rfl) (.cons_cons _ (.cons_cons _ (.cons_cons _ .slnil))) ?_
                    refine QN.norm (X' := []) rfl rfl rfl (by kernel_rfl) ?_
                    exact hJ2 _ _ _ _ _ ⟨false, rfl, rfl, rfl, (Imm.le_trans (Imm.le_trans (Imm.le_trans (Imm.le_trans hi18 hi19) hi20) hi21) hi22), HK2⟩
                  ·have hc := (beq_eq_false_iff_ne.1 hb)
                   rw [hb]
                   rw [if_neg hc] at H; clear hb
                   refine RL.s 16 [(0, .bool false)] ?_
                   refine RL.nil (by kernel_rfl) ?_
                   obtain rfl := Option.some.inj H
                   refine QN.sel (K' := [(0, .bool false)]) (L' := [⟨nx1, [.slice A1 t1.1.f0.length c1, .slice A2 t1.1.f1.length c2, .slice A3 t1.1.f2.length c3], 29⟩, ⟨nx3, [.slice A7 t3.1.f0.length c7, .slice A8 t3.1.f1.length c8, .slice A9 t3.1.f2.length c9], 29⟩, ⟨nx4, [.slice A10 t4.1.f0.length c10, .slice A11 t4.1.f1.length c11, .slice A12 t4.1.f2.length c12], 29⟩]) [] (by kernel_rfl) (by kernel_rfl) (.cons_cons _ (.cons_cons _ (.cons_cons _ .slnil))) ?_
                   refine QN.norm (X' := []) rfl rfl rfl (by kernel_rfl) ?_
                   exact hJ2 _ _ _ _ _ ⟨false, rfl, rfl, rfl, (Imm.le_trans (Imm.le_trans (Imm.le_trans hi18 hi19) hi20) hi21), HK2⟩
                 ·have hc := (beq_eq_false_iff_ne.1 hb)
                  rw [hb]
                  rw [if_neg hc] at H; clear hb
                  refine RL.s 22 [(0, .bool false)] ?_
                  refine RL.nil (by kernel_rfl) ?_
                  obtain rfl := Option.some.inj H
                  refine QN.sel (K' := [(0, .bool false)]) (L' := [⟨nx1, [.slice A1 t1.1.f0.length c1, .slice A2 t1.1.f1.length c2, .slice A3 t1.1.f2.length c3], 29⟩, ⟨nx3, [.slice A7 t3.1.f0.length c7, .slice A8 t3.1.f1.length c8, .slice A9 t3.1.f2.length c9], 29⟩, ⟨nx4, [.slice A10 t4.1.f0.length c10, .slice A11 t4.1.f1.length c11, .slice A12 t4.1.f2.length c12], 29⟩]) [] (by kernel_rfl) (by kernel_rfl) (.cons_cons _ (.cons_cons _ (.cons_cons _ .slnil))) ?_
                  refine QN.norm (X' := []) rfl rfl rfl (by kernel_rfl) ?_
                  exact hJ2 _ _ _ _ _ ⟨false, rfl, rfl, rfl, (Imm.le_trans (Imm.le_trans hi18 hi19) hi20), HK2⟩
                ·have hc := (beq_eq_false_iff_ne.1 hb)
                 rw [hb]
                 rw [if_neg hc] at H; clear hb
                 refine RL.s 28 [(0, .bool false)] ?_
                 refine RL.nil (by kernel_rfl) ?_
                 obtain rfl := Option.some.inj H
                 refine QN.sel (K' := [(0, .bool false)]) (L' := [⟨nx1, [.slice A1 t1.1.f0.length c1, .slice A2 t1.1.f1.length c2, .slice A3 t1.1.f2.length c3], 29⟩, ⟨nx3, [.slice A7 t3.1.f0.length c7, .slice A8 t3.1.f1.length c8, .slice A9 t3.1.f2.length c9], 29⟩, ⟨nx4, [.slice A10 t4.1.f0.length c10, .slice A11 t4.1.f1.length c11, .slice A12 t4.1.f2.length c12], 29⟩]) [] (by kernel_rfl) (by kernel_rfl) (.cons_cons _ (.cons_cons _ (.cons_cons _ .slnil))) ?_
                 refine QN.norm (X' := []) rfl rfl rfl (by kernel_rfl) ?_
                 exact hJ2 _ _ _ _ _ ⟨false, rfl, rfl, rfl, (Imm.le_trans hi18 hi19), HK2⟩
               ·have hc := (beq_eq_false_iff_ne.1 hb)
                rw [hb]
                rw [if_neg hc] at H; clear hb
                refine RL.simK (K' := [(0, .bool false)]) [] (RFacts.nil _ _ _) 34 (.no :: .no :: .no :: .no :: .no :: .no :: .no :: .no :: .no :: .no :: .no :: .no :: .no :: .no :: .no :: .no :: .no :: .no :: .no :: .no :: .no :: .no :: .no :: .no :: .no :: .no :: .no :: .no :: .no :: .no :: .no :: .no :: .no :: .no :: []) (by kernel_rfl) (by kernel_rfl) ?_
                refine RL.nil (by kernel_rfl) ?_
                obtain rfl := Option.some.inj H
                refine QN.sel (K' := [(0, .bool false)]) (L' := [⟨nx1, [.slice A1 t1.1.f0.length c1, .slice A2 t1.1.f1.length c2, .slice A3 t1.1.f2.length c3], 29⟩, ⟨nx3, [.slice A7 t3.1.f0.length c7, .slice A8 t3.1.f1.length c8, .slice A9 t3.1.f2.length c9], 29⟩, ⟨nx4, [.slice A10 t4.1.f0.length c10, .slice A11 t4.1.f1.length c11, .slice A12 t4.1.f2.length c12], 29⟩]) [] (by kernel_rfl) (by kernel_rfl) (.cons_cons _ (.cons_cons _ (.cons_cons _ .slnil))) ?_
                refine QN.norm (X' := []) rfl rfl rfl (by kernel_rfl) ?_
                exact hJ2 _ _ _ _ _ ⟨false, rfl, rfl, rfl, hi18, HK2⟩
              ·have hc := (beq_eq_false_iff_ne.1 hb)
               rw [hb]
               rw [if_neg hc] at H; clear hb
               refine RL.simK (K' := [(0, .bool false)]) [] (RFacts.nil _ _ _) 40 (.no :: .no :: .no :: .no :: .no :: .no :: .no :: .no :: .no :: .no :: .no :: .no :: .no :: .no :: .no :: .no :: .no :: .no :: .no :: .no :: .no :: .no :: .no :: .no :: .no :: .no :: .no :: .no :: .no :: .no :: .no :: .no :: .no :: .no :: .no :: .no :: .no :: .no :: .no :: .no :: []) (by kernel_rfl) (by kernel_rfl) ?_
               refine RL.nil (by kernel_rfl) ?_
               obtain rfl := Option.some.inj H
               refine QN.sel (K' := [(0, .bool false)]) (L' := [⟨nx1, [.slice A1 t1.1.f0.length c1, .slice A2 t1.1.f1.length c2, .slice A3 t1.1.f2.length c3], 29⟩, ⟨nx3, [.slice A7 t3.1.f0.length c7, .slice A8 t3.1.f1.length c8, .slice A9 t3.1.f2.length c9], 29⟩, ⟨nx4, [.slice A10 t4.1.f0.length c10, .slice A11 t4.1.f1.length c11, .slice A12 t4.1.f2.length c12], 29⟩]) [] (by kernel_rfl) (by kernel_rfl) (.cons_cons _ (.cons_cons _ (.cons_cons _ .slnil))) ?_
               refine QN.norm (X' := []) rfl rfl rfl (by kernel_rfl) ?_
               exact hJ2 _ _ _ _ _ ⟨false, rfl, rfl, rfl, (Imm.le_refl _), HK2⟩
             ·have hc := (beq_eq_false_iff_ne.1 hb)
              rw [hb]
              rw [if_neg hc] at H; clear hb
              refine RL.simK (K' := [(0, .bool false)]) [] (RFacts.nil _ _ _) 44 (.no :: .no :: .no :: .no :: .no :: .no :: .no :: .no :: .no :: .no :: .no :: .no :: .no :: .no :: .no :: .no :: .no :: .no :: .no :: .no :: .no :: .no :: .no :: .no :: .no :: .no :: .no :: .no :: .no :: .no :: .no :: .no :: .no :: .no :: .no :: .no :: .no :: .no :: .no :: .no :: .no :: .no :: .no :: .no :: []) (by kernel_rfl) (by kernel_rfl) ?_
              refine RL.nil (by kernel_rfl) ?_
              obtain rfl := Option.some.inj H
              refine QN.sel (K' := [(0, .bool false)]) (L' := [⟨nx1, [.slice A1 t1.1.f0.length c1, .slice A2 t1.1.f1.length c2, .slice A3 t1.1.f2.length c3], 29⟩, ⟨nx3, [.slice A7 t3.1.f0.length c7, .slice A8 t3.1.f1.length c8, .slice A9 t3.1.f2.length c9], 29⟩, ⟨nx4, [.slice A10 t4.1.f0.length c10, .slice A11 t4.1.f1.length c11, .slice A12 t4.1.f2.length c12], 29⟩]) [] (by kernel_rfl) (by kernel_rfl) (.cons_cons _ (.cons_cons _ (.cons_cons _ .slnil))) ?_
              refine QN.norm (X' := []) rfl rfl rfl (by kernel_rfl) ?_
              exact hJ2 _ _ _ _ _ ⟨false, rfl, rfl, rfl, (Imm.le_refl _), HK2⟩
            ·have hc := (beq_eq_false_iff_ne.1 hb)
             rw [hb]
             rw [if_neg hc] at H; clear hb
             refine RL.simK (K' := [(0, .bool false)]) [] (RFacts.nil _ _ _) 50 (.no :: .no :: .no :: .no :: .no :: .no :: .no :: .no :: .no :: .no :: .no :: .no :: .no :: .no :: .no :: .no :: .no :: .no :: .no :: .no :: .no :: .no :: .no :: .no :: .no :: .no :: .no :: .no :: .no :: .no :: .no :: .no :: .no :: .no :: .no :: .no :: .no :: .no :: .no :: .no :: .no :: .no :: .no :: .no :: .no :: .no :: .no :: .no :: .no :: .no :: []) (by kernel_rfl) (by kernel_rfl) ?_
             refine RL.nil (by kernel_rfl) ?_
             obtain rfl := Option.some.inj H
             refine QN.sel (K' := [(0, .bool false)]) (L' := [⟨nx1, [.slice A1 t1.1.f0.length c1, .slice A2 t1.1.f1.length c2, .slice A3 t1.1.f2.length c3], 29⟩, ⟨nx3, [.slice A7 t3.1.f0.length c7, .slice A8 t3.1.f1.length c8, .slice A9 t3.1.f2.length c9], 29⟩, ⟨nx4, [.slice A10 t4.1.f0.length c10, .slice A11 t4.1.f1.length c11, .slice A12 t4.1.f2.length c12], 29⟩]) [] (by kernel_rfl) (by kernel_rfl) (.cons_cons _ (.cons_cons _ (.cons_cons _ .slnil))) ?_
             refine QN.norm (X' := []) rfl rfl rfl (by kernel_rfl) ?_
             exact hJ2 _ _ _ _ _ ⟨false, rfl, rfl, rfl, (Imm.le_refl _), HK2⟩
           ·have hc := (beq_eq_false_iff_ne.1 hb)
            rw [hb]
            rw [if_neg hc] at H; clear hb
            refine RL.simK (K' := [(0, .bool false)]) [] (RFacts.nil _ _ _) 54 (.no :: .no :: .no :: .no :: .no :: .no :: .no :: .no :: .no :: .no :: .no :: .no :: .no :: .no :: .no :: .no :: .no :: .no :: .no :: .no :: .no :: .no :: .no :: .no :: .no :: .no :: .no :: .no :: .no :: .no :: .no :: .no :: .no :: .no :: .no :: .no :: .no :: .no :: .no :: .no :: .no :: .no :: .no :: .no :: .no :: .no :: .no :: .no :: .no :: .no :: .no :: .no :: .no :: .no :: []) (by kernel_rfl) (by kernel_rfl) ?_
            refine RL.nil (by kernel_rfl) ?_
            obtain rfl := Option.some.inj H
            refine QN.sel (K' := [(0, .bool false)]) (L' := [⟨nx1, [.slice A1 t1.1.f0.length c1, .slice A2 t1.1.f1.length c2, .slice A3 t1.1.f2.length c3], 29⟩, ⟨nx3, [.slice A7 t3.1.f0.length c7, .slice A8 t3.1.f1.length c8, .slice A9 t3.1.f2.length c9], 29⟩, ⟨nx4, [.slice A10 t4.1.f0.length c10, .slice A11 t4.1.f1.length c11, .slice A12 t4.1.f2.length c12], 29⟩]) [] (by kernel_rfl) (by kernel_rfl) (.cons_cons _ (.cons_cons _ (.cons_cons _ .slnil))) ?_
            refine QN.norm (X' := []) rfl rfl rfl (by kernel_rfl) ?_
            exact hJ2 _ _ _ _ _ ⟨false, rfl, rfl, rfl, (Imm.le_refl _), HK2⟩
          ·have hc := (beq_eq_false_iff_ne.1 hb)
           rw [hb]
           rw [if_neg hc] at H; clear hb
           refine RL.simK (K' := [(0, .bool false)]) [] (RFacts.nil _ _ _) 62 (.no :: .no :: .no :: .no :: .no :: .no :: .no :: .no :: .no :: .no :: .no :: .no :: .no :: .no :: .no :: .no :: .no :: .no :: .no :: .no :: .no :: .no :: .no :: .no :: .no :: .no :: .no :: .no :: .no :: .no :: .no :: .no :: .no :: .no :: .no :: .no :: .no :: .no :: .no :: .no :: .no :: .no :: .no :: .no :: .no :: .no :: .no :: .no :: .no :: .no :: .no :: .no :: .no :: .no :: .no :: .no :: .no :: .no :: .no :: .no :: .no :: .no :: []) (by kernel_rfl) (by kernel_rfl) ?_
           refine RL.nil (by kernel_rfl) ?_
           obtain rfl := Option.some.inj H
           refine QN.sel (K' := [(0, .bool false)]) (L' := [⟨nx1, [.slice A1 t1.1.f0.length c1, .slice A2 t1.1.f1.length c2, .slice A3 t1.1.f2.length c3], 29⟩, ⟨nx3, [.slice A7 t3.1.f0.length c7, .slice A8 t3.1.f1.length c8, .slice A9 t3.1.f2.length c9], 29⟩, ⟨nx4, [.slice A10 t4.1.f0.length c10, .slice A11 t4.1.f1.length c11, .slice A12 t4.1.f2.length c12], 29⟩]) [] (by kernel_rfl) (by kernel_rfl) (.cons_cons _ (.cons_cons _ (.cons_cons _ .slnil))) ?_
           refine QN.norm (X' := []) rfl rfl rfl (by kernel_rfl) ?_
           exact hJ2 _ _ _ _ _ ⟨false, rfl, rfl, rfl, (Imm.le_refl _), HK2⟩
         ·have hc := (beq_eq_false_iff_ne.1 hb)
          rw [hb]
          rw [if_neg hc] at H; clear hb
          refine RL.simK (K' := [(0, .bool false)]) [] (RFacts.nil _ _ _) 70 (.no :: .no :: .no :: .no :: .no :: .no :: .no :: .no :: .no :: .no :: .no :: .no :: .no :: .no :: .no :: .no :: .no :: .no :: .no :: .no :: .no :: .no :: .no :: .no :: .no :: .no :: .no :: .no :: .no :: .no :: .no :: .no :: .no :: .no :: .no :: .no :: .no :: .no :: .no :: .no :: .no :: .no :: .no :: .no :: .no :: .no :: .no :: .no :: .no :: .no :: .no :: .no :: .no :: .no :: .no :: .no :: .no :: .no :: .no :: .no :: .no :: .no :: .no :: .no :: .no :: .no :: .no :: .no :: .no :: .no :: []) (by kernel_rfl) (by kernel_rfl) ?_
          refine RL.nil (by kernel_rfl) ?_
          obtain rfl := Option.some.inj H
          refine QN.sel (K' := [(0, .bool false)]) (L' := [⟨nx1, [.slice A1 t1.1.f0.length c1, .slice A2 t1.1.f1.length c2, .slice A3 t1.1.f2.length c3], 29⟩, ⟨nx3, [.slice A7 t3.1.f0.length c7, .slice A8 t3.1.f1.length c8, .slice A9 t3.1.f2.length c9], 29⟩, ⟨nx4, [.slice A10 t4.1.f0.length c10, .slice A11 t4.1.f1.length c11, .slice A12 t4.1.f2.length c12], 29⟩]) [] (by kernel_rfl) (by kernel_rfl) (.cons_cons _ (.cons_cons _ (.cons_cons _ .slnil))) ?_
          refine QN.norm (X' := []) rfl rfl rfl (by kernel_rfl) ?_
          exact hJ2 _ _ _ _ _ ⟨false, rfl, rfl, rfl, (Imm.le_refl _), HK2⟩
        ·have hc := (beq_eq_false_iff_ne.1 hb)
         rw [hb]
         rw [if_neg hc] at H; clear hb
         refine RL.simK (K' := [(0, .bool false)]) [] (RFacts.nil _ _ _) 78 (.no :: .no :: .no :: .no :: .no :: .no :: .no :: .no :: .no :: .no :: .no :: .no :: .no :: .no :: .no :: .no :: .no :: .no :: .no :: .no :: .no :: .no :: .no :: .no :: .no :: .no :: .no :: .no :: .no :: .no :: .no :: .no :: .no :: .no :: .no :: .no :: .no :: .no :: .no :: .no :: .no :: .no :: .no :: .no :: .no :: .no :: .no :: .no :: .no :: .no :: .no :: .no :: .no :: .no :: .no :: .no :: .no :: .no :: .no :: .no :: .no :: .no :: .no :: .no :: .no :: .no :: .no :: .no :: .no :: .no :: .no :: .no :: .no :: .no :: .no :: .no :: .no :: .no :: []) (by kernel_rfl) (by kernel_rfl) ?_
         refine RL.nil (by kernel_rfl) ?_
         obtain rfl := Option.some.inj H
         refine QN.sel (K' := [(0, .bool false)]) (L' := [⟨nx1, [.slice A1 t1.1.f0.length c1, .slice A2 t1.1.f1.length c2, .slice A3 t1.1.f2.length c3], 29⟩, ⟨nx3, [.slice A7 t3.1.f0.length c7, .slice A8 t3.1.f1.length c8, .slice A9 t3.1.f2.length c9], 29⟩, ⟨nx4, [.slice A10 t4.1.f0.length c10, .slice A11 t4.1.f1.length c11, .slice A12 t4.1.f2.length c12], 29⟩]) [] (by kernel_rfl) (by kernel_rfl) (.cons_cons _ (.cons_cons _ (.cons_cons _ .slnil))) ?_
         refine QN.norm (X' := []) rfl rfl rfl (by kernel_rfl) ?_
         exact hJ2 _ _ _ _ _ ⟨false, rfl, rfl, rfl, (Imm.le_refl _), HK2⟩
       ·have hc := (beq_eq_false_iff_ne.1 hb)
        rw [hb]
        rw [if_neg hc] at H; clear hb
        refine RL.simK (K' := [(0, .bool false)]) [] (RFacts.nil _ _ _) 86 (.no :: .no :: .no :: .no :: .no :: .no :: .no :: .no :: .no :: .no :: .no :: .no :: .no :: .no :: .no :: .no :: .no :: .no :: .no :: .no :: .no :: .no :: .no :: .no :: .no :: .no :: .no :: .no :: .no :: .no :: .no :: .no :: .no :: .no :: .no :: .no :: .no :: .no :: .no :: .no :: .no :: .no :: .no :: .no :: .no :: .no :: .no :: .no :: .no :: .no :: .no :: .no :: .no :: .no :: .no :: .no :: .no :: .no :: .no :: .no :: .no :: .no :: .no :: .no :: .no :: .no :: .no :: .no :: .no :: .no :: .no :: .no :: .no :: .no :: .no :: .no :: .no :: .no :: .no :: .no :: .no :: .no :: .no :: .no :: .no :: .no :: []) (by kernel_rfl) (by kernel_rfl) ?_
        refine RL.nil (by kernel_rfl) ?_
        obtain rfl := Option.some.inj H
        refine QN.sel (K' := [(0, .bool false)]) (L' := [⟨nx1, [.slice A1 t1.1.f0.length c1, .slice A2 t1.1.f1.length c2, .slice A3 t1.1.f2.length c3], 29⟩, ⟨nx3, [.slice A7 t3.1.f0.length c7, .slice A8 t3.1.f1.length c8, .slice A9 t3.1.f2.length c9], 29⟩, ⟨nx4, [.slice A10 t4.1.f0.length c10, .slice A11 t4.1.f1.length c11, .slice A12 t4.1.f2.length c12], 29⟩]) [] (by kernel_rfl) (by kernel_rfl) (.cons_cons _ (.cons_cons _ (.cons_cons _ .slnil))) ?_
        refine QN.norm (X' := []) rfl rfl rfl (by kernel_rfl) ?_
        exact hJ2 _ _ _ _ _ ⟨false, rfl, rfl, rfl, (Imm.le_refl _), HK2⟩
      ·have hc := (beq_eq_false_iff_ne.1 hb)
       rw [hb]
       rw [if_neg hc] at H; clear hb
       refine RL.simK (K' := [(0, .bool false)]) [] (RFacts.nil _ _ _) 92 (.no :: .no :: .no :: .no :: .no :: .no :: .no :: .no :: .no :: .no :: .no :: .no :: .no :: .no :: .no :: .no :: .no :: .no :: .no :: .no :: .no :: .no :: .no :: .no :: .no :: .no :: .no :: .no :: .no :: .no :: .no :: .no :: .no :: .no :: .no :: .no :: .no :: .no :: .no :: .no :: .no :: .no :: .no :: .no :: .no :: .no :: .no :: .no :: .no :: .no :: .no :: .no :: .no :: .no :: .no :: .no :: .no :: .no :: .no :: .no :: .no :: .no :: .no :: .no :: .no :: .no :: .no :: .no :: .no :: .no :: .no :: .no :: .no :: .no :: .no :: .no :: .no :: .no :: .no :: .no :: .no :: .no :: .no :: .no :: .no :: .no :: .no :: .no :: .no :: .no :: .no :: .no :: []) (by kernel_rfl) (by kernel_rfl) ?_
       refine RL.nil (by kernel_rfl) ?_
       obtain rfl := Option.some.inj H
       refine QN.sel (K' := [(0, .bool false)]) (L' := [⟨nx1, [.slice A1 t1.1.f0.length c1, .slice A2 t1.1.f1.length c2, .slice A3 t1.1.f2.length c3], 29⟩, ⟨nx3, [.slice A7 t3.1.f0.length c7, .slice A8 t3.1.f1.length c8, .slice A9 t3.1.f2.length c9], 29⟩, ⟨nx4, [.slice A10 t4.1.f0.length c10, .slice A11 t4.1.f1.length c11, .slice A12 t4.1.f2.length c12], 29⟩]) [] (by kernel_rfl) (by kernel_rfl) (.cons_cons _ (.cons_cons _ (.cons_cons _ .slnil))) ?_
       refine QN.norm (X' := []) rfl rfl rfl (by kernel_rfl) ?_
       exact hJ2 _ _ _ _ _ ⟨false, rfl, rfl, rfl, (Imm.le_refl _), HK2⟩
     ·have hc := (Bool.eq_false_iff.1 hb)
      rw [hb]
      rw [if_neg hc] at H; clear hb
      refine RL.simK (K' := [(0, .bool false)]) [] (RFacts.nil _ _ _) 98 (.no :: .no :: .no :: .no :: .no :: .no :: .no :: .no :: .no :: .no :: .no :: .no :: .no :: .no :: .no :: .no :: .no :: .no :: .no :: .no :: .no :: .no :: .no :: .no :: .no :: .no :: .no :: .no :: .no :: .no :: .no :: .no :: .no :: .no :: .no :: .no :: .no :: .no :: .no :: .no :: .no :: .no :: .no :: .no :: .no :: .no :: .no :: .no :: .no :: .no :: .no :: .no :: .no :: .no :: .no :: .no :: .no :: .no :: .no :: .no :: .no :: .no :: .no :: .no :: .no :: .no :: .no :: .no :: .no :: .no :: .no :: .no :: .no :: .no :: .no :: .no :: .no :: .no :: .no :: .no :: .no :: .no :: .no :: .no :: .no :: .no :: .no :: .no :: .no :: .no :: .no :: .no :: .no :: .no :: .no :: .no :: .no :: .no :: []) (by kernel_rfl) (by kernel_rfl) ?_
      refine RL.nil (by kernel_rfl) ?_
      obtain rfl := Option.some.inj H
      refine QN.sel (K' := [(0, .bool false)]) (L' := [⟨nx1, [.slice A1 t1.1.f0.length c1, .slice A2 t1.1.f1.length c2, .slice A3 t1.1.f2.length c3], 29⟩, ⟨nx3, [.slice A7 t3.1.f0.length c7, .slice A8 t3.1.f1.length c8, .slice A9 t3.1.f2.length c9], 29⟩, ⟨nx4, [.slice A10 t4.1.f0.length c10, .slice A11 t4.1.f1.length c11, .slice A12 t4.1.f2.length c12], 29⟩]) [] (by kernel_rfl) (by kernel_rfl) (.cons_cons _ (.cons_cons _ (.cons_cons _ .slnil))) ?_
      refine QN.norm (X' := []) rfl rfl rfl (by kernel_rfl) ?_
      exact hJ2 _ _ _ _ _ ⟨false, rfl, rfl, rfl, (Imm.le_refl _), HK2⟩
    ·have hc := (beq_eq_false_iff_ne.1 hb)
     rw [hb]
     rw [if_neg hc] at H; clear hb
     refine RL.simK (K' := [(0, .bool false)]) [] (RFacts.nil _ _ _) 106 (.no :: .no :: .no :: .no :: .no :: .no :: .no :: .no :: .no :: .no :: .no :: .no :: .no :: .no :: .no :: .no :: .no :: .no :: .no :: .no :: .no :: .no :: .no :: .no :: .no :: .no :: .no :: .no :: .no :: .no :: .no :: .no :: .no :: .no :: .no :: .no :: .no :: .no :: .no :: .no :: .no :: .no :: .no :: .no :: .no :: .no :: .no :: .no :: .no :: .no :: .no :: .no :: .no :: .no :: .no :: .no :: .no :: .no :: .no :: .no :: .no :: .no :: .no :: .no :: .no :: .no :: .no :: .no :: .no :: .no :: .no :: .no :: .no :: .no :: .no :: .no :: .no :: .no :: .no :: .no :: .no :: .no :: .no :: .no :: .no :: .no :: .no :: .no :: .no :: .no :: .no :: .no :: .no :: .no :: .no :: .no :: .no :: .no :: .no :: .no :: .no :: .no :: .no :: .no :: .no :: .no :: []) (by kernel_rfl) (by kernel_rfl) ?_
     refine RL.nil (by kernel_rfl) ?_
     obtain rfl := Option.some.inj H
     refine QN.sel (K' := [(0, .bool false)]) (L' := [⟨nx1, [.slice A1 t1.1.f0.length c1, .slice A2 t1.1.f1.length c2, .slice A3 t1.1.f2.length c3], 29⟩, ⟨nx3, [.slice A7 t3.1.f0.length c7, .slice A8 t3.1.f1.length c8, .slice A9 t3.1.f2.length c9], 29⟩, ⟨nx4, [.slice A10 t4.1.f0.length c10, .slice A11 t4.1.f1.length c11, .slice A12 t4.1.f2.length c12], 29⟩]) [] (by kernel_rfl) (by kernel_rfl) (.cons_cons _ (.cons_cons _ (.cons_cons _ .slnil))) ?_
     refine QN.norm (X' := []) rfl rfl rfl (by kernel_rfl) ?_
     exact hJ2 _ _ _ _ _ ⟨false, rfl, rfl, rfl, (Imm.le_refl _), HK2⟩
 ·intro Q_2 hJ1 hQ1
  obtain ⟨y1, H, HK1⟩ := bnd H
  refine OK.rg ?_
  refine RL.s 4 [(40, .bool ((t2.1.length : Int) != 2)), (10, i6 t4.2), (8, i6 t3.2), (7, pt nx3 0), (6, .slice A6 t2.2.2.length c6), (5, .slice A5 t2.2.1.length c5), (4, .slice A4 t2.1.length c4), (3, i6 t1.2), (2, pt nx1 0), (1, .slice (some ⟨nx0, 0, none⟩) 3 3)] ?_
  refine RL.cases ((t2.1.length : Int) != 2) (fun hb => ?_) (fun hb => ?_)
  ·have hc := (bne_iff_ne.1 hb)
   rw [hb]
   rw [if_pos hc] at H; clear hb
   refine RL.s 23 [(63, .bool true), (10, i6 t4.2), (8, i6 t3.2), (7, pt nx3 0), (6, .slice A6 t2.2.2.length c6), (5, .slice A5 t2.2.1.length c5), (4, .slice A4 t2.1.length c4), (3, i6 t1.2), (2, pt nx1 0), (1, .slice (some ⟨nx0, 0, none⟩) 3 3)] ?_
   refine RL.nil (by kernel_rfl) ?_
   obtain rfl := Option.some.inj H
   exact QN.sb (hJ1 _ _ _ _ _ ⟨true, rfl, rfl, rfl, (Imm.le_refl _), HK1⟩) (.cons_cons _ (.cons_cons _ (.cons_cons _ .slnil))) (.refl _)
  ·have hc := (not_not_intro (bne_eq_false_iff_eq.1 hb))
   rw [hb]
   rw [if_neg hc] at H; clear hb
   refine RL.s 5 [(45, .bool ((t2.2.1.length : Int) != 2)), (10, i6 t4.2), (8, i6 t3.2), (7, pt nx3 0), (6, .slice A6 t2.2.2.length c6), (5, .slice A5 t2.2.1.length c5), (4, .slice A4 t2.1.length c4), (3, i6 t1.2), (2, pt nx1 0), (1, .slice (some ⟨nx0, 0, none⟩) 3 3)] ?_
   refine RL.cases ((t2.2.1.length : Int) != 2) (fun hb => ?_) (fun hb => ?_)
   ·have hc := (bne_iff_ne.1 hb)
    rw [hb]
    rw [if_pos hc] at H; clear hb
    refine RL.s 18 [(63, .bool true), (10, i6 t4.2), (8, i6 t3.2), (7, pt nx3 0), (6, .slice A6 t2.2.2.length c6), (5, .slice A5 t2.2.1.length c5), (4, .slice A4 t2.1.length c4), (3, i6 t1.2), (2, pt nx1 0), (1, .slice (some ⟨nx0, 0, none⟩) 3 3)] ?_
    refine RL.nil (by kernel_rfl) ?_
    obtain rfl := Option.some.inj H
    exact QN.sb (hJ1 _ _ _ _ _ ⟨true, rfl, rfl, rfl, (Imm.le_refl _), HK1⟩) (.cons_cons _ (.cons_cons _ (.cons_cons _ .slnil))) (.refl _)
   ·have hc := (not_not_intro (bne_eq_false_iff_eq.1 hb))
    rw [hb]
    rw [if_neg hc] at H; clear hb
    refine RL.s 5 [(50, .bool ((t2.2.2.length : Int) != 2)), (10, i6 t4.2), (8, i6 t3.2), (7, pt nx3 0), (6, .slice A6 t2.2.2.length c6), (5, .slice A5 t2.2.1.length c5), (4, .slice A4 t2.1.length c4), (3, i6 t1.2), (2, pt nx1 0), (1, .slice (some ⟨nx0, 0, none⟩) 3 3)] ?_
    refine RL.cases ((t2.2.2.length : Int) != 2) (fun hb => ?_) (fun hb => ?_)
    ·have hc := (bne_iff_ne.1 hb)
     rw [hb]
     rw [if_pos hc] at H; clear hb
     refine RL.s 13 [(63, .bool true), (10, i6 t4.2), (8, i6 t3.2), (7, pt nx3 0), (6, .slice A6 t2.2.2.length c6), (5, .slice A5 t2.2.1.length c5), (4, .slice A4 t2.1.length c4), (3, i6 t1.2), (2, pt nx1 0), (1, .slice (some ⟨nx0, 0, none⟩) 3 3)] ?_
     refine RL.nil (by kernel_rfl) ?_
     obtain rfl := Option.some.inj H
     exact QN.sb (hJ1 _ _ _ _ _ ⟨true, rfl, rfl, rfl, (Imm.le_refl _), HK1⟩) (.cons_cons _ (.cons_cons _ (.cons_cons _ .slnil))) (.refl _)
    ·have hc := (not_not_intro (bne_eq_false_iff_eq.1 hb))
     rw [hb]
     rw [if_neg hc] at H; clear hb
     refine RL.s 1 [(51, .slice A6 t2.2.2.length c6), (50, .bool false), (10, i6 t4.2), (8, i6 t3.2), (7, pt nx3 0), (6, .slice A6 t2.2.2.length c6), (5, .slice A5 t2.2.1.length c5), (4, .slice A4 t2.1.length c4), (3, i6 t1.2), (2, pt nx1 0), (1, .slice (some ⟨nx0, 0, none⟩) 3 3)] ?_
     have hib0 : (0 : Int) ≤ 0 := by decide
     obtain ⟨hib1, H⟩ := ifs H
     have hx011_ := hib0; have hx111_ := hib1
     refine RL.ownAddr (e := 27) (sz := 1) (S := A6) (n := t2.2.2.length) (cap := c6) (cs := cs6) 2 (by kernel_rfl) (by omega) (fun g11_ hA11_ => ?_)
     obtain ⟨A11_, c11_, hl11_, hr11_, hc11_⟩ := Ty.slice_own (Reps.ext (Imm.le_trans (Imm.le_trans (Imm.le_trans (Imm.le_trans (Imm.le_trans (Imm.le_trans (Imm.le_trans (Imm.le_trans hi7 hi8) hi9) hi10) hi11) hi12) hi13) hi14) hi15) hp6) 0 hib0 hib1
     refine RL.idx 1 .i64 0 hA11_ t2.2.2.length c6 (some 52) (by kernel_rfl) (by kernel_rfl) (T := 33) (e := 27) (by kernel_rfl) (by kernel_rfl) hib0 hib1 (K' := [(52, pt g11_ (0 + (0 : Int).toNat * 1)), (51, .slice A6 t2.2.2.length c6), (50, .bool false), (10, i6 t4.2), (8, i6 t3.2), (7, pt nx3 0), (6, .slice A6 t2.2.2.length c6), (5, .slice A5 t2.2.1.length c5), (4, .slice A4 t2.1.length c4), (3, i6 t1.2), (2, pt nx1 0), (1, .slice (some ⟨nx0, 0, none⟩) 3 3)]) (by kernel_rfl) ?_
     refine RL.simK (K' := [(57, .bool (((t2.2.2.getD (0 : Int).toNat []).length : Int) != 2)), (10, i6 t4.2), (8, i6 t3.2), (7, pt nx3 0), (6, .slice A6 t2.2.2.length c6), (5, .slice A5 t2.2.1.length c5), (4, .slice A4 t2.1.length c4), (3, i6 t1.2), (2, pt nx1 0), (1, .slice (some ⟨nx0, 0, none⟩) 3 3)]) [(⟨g11_, 0 + (0 : Int).toNat * 1, none⟩, .slice A11_ ((t2.2.2.getD (0 : Int).toNat []).length) c11_)] (RFacts.ownQ (e := 27) (sz := 1) (S := A6) (n := t2.2.2.length) (cap := c6) (cs := cs6) 2 (by kernel_rfl) hA11_ (0 + (0 : Int).toNat * 1) ((0 : Int).toNat * 1 + 0) (by omega) (hc11_ 0 _ rfl) (RFacts.nil _ _ _)) 5 [.r 0, .no, .no, .no, .no] (by kernel_rfl) (by kernel_rfl) ?_
     refine RL.cases (((t2.2.2.getD (0 : Int).toNat []).length : Int) != 2) (fun hb => ?_) (fun hb => ?_)
     ·have hc := (bne_iff_ne.1 hb)
      rw [hb]
      rw [if_pos hc] at H; clear hb
      refine RL.s 6 [(63, .bool true), (10, i6 t4.2), (8, i6 t3.2), (7, pt nx3 0), (6, .slice A6 t2.2.2.length c6), (5, .slice A5 t2.2.1.length c5), (4, .slice A4 t2.1.length c4), (3, i6 t1.2), (2, pt nx1 0), (1, .slice (some ⟨nx0, 0, none⟩) 3 3)] ?_
      refine RL.nil (by kernel_rfl) ?_
      obtain rfl := Option.some.inj H
      exact QN.sb (hJ1 _ _ _ _ _ ⟨true, rfl, rfl, rfl, (Imm.le_refl _), HK1⟩) (.cons_cons _ (.cons_cons _ (.cons_cons _ .slnil))) (.refl _)
     ·have hc := (not_not_intro (bne_eq_false_iff_eq.1 hb))
      rw [hb]
      rw [if_neg hc] at H; clear hb
      refine RL.s 1 [(58, .slice A6 t2.2.2.length c6), (57, .bool false), (10, i6 t4.2), (8, i6 t3.2), (7, pt nx3 0), (6, .slice A6 t2.2.2.length c6), (5, .slice A5 t2.2.1.length c5), (4, .slice A4 t2.1.length c4), (3, i6 t1.2), (2, pt nx1 0), (1, .slice (some ⟨nx0, 0, none⟩) 3 3)] ?_
      have hib0 : (0 : Int) ≤ 1 := by decide
      obtain ⟨hib1, H⟩ := ifs H
      have hx012_ := hib0; have hx112_ := hib1
      refine RL.ownAddr (e := 27) (sz := 1) (S := A6) (n := t2.2.2.length) (cap := c6) (cs := cs6) 2 (by kernel_rfl) (by omega) (fun g12_ hA12_ => ?_)
      obtain ⟨A12_, c12_, hl12_, hr12_, hc12_⟩ := Ty.slice_own (Reps.ext (Imm.le_trans (Imm.le_trans (Imm.le_trans (Imm.le_trans (Imm.le_trans (Imm.le_trans (Imm.le_trans (Imm.le_trans hi7 hi8) hi9) hi10) hi11) hi12) hi13) hi14) hi15) hp6) 1 hib0 hib1
      refine RL.idx 1 .i64 1 hA12_ t2.2.2.length c6 (some 59) (by kernel_rfl) (by kernel_rfl) (T := 33) (e := 27) (by kernel_rfl) (by kernel_rfl) hib0 hib1 (K' := [(59, pt g12_ (0 + (1 : Int).toNat * 1)), (58, .slice A6 t2.2.2.length c6), (57, .bool false), (10, i6 t4.2), (8, i6 t3.2), (7, pt nx3 0), (6, .slice A6 t2.2.2.length c6), (5, .slice A5 t2.2.1.length c5), (4, .slice A4 t2.1.length c4), (3, i6 t1.2), (2, pt nx1 0), (1, .slice (some ⟨nx0, 0, none⟩) 3 3)]) (by kernel_rfl) ?_
      refine RL.simK (K' := [(63, .bool (((t2.2.2.getD (1 : Int).toNat []).length : Int) != 2)), (10, i6 t4.2), (8, i6 t3.2), (7, pt nx3 0), (6, .slice A6 t2.2.2.length c6), (5, .slice A5 t2.2.1.length c5), (4, .slice A4 t2.1.length c4), (3, i6 t1.2), (2, pt nx1 0), (1, .slice (some ⟨nx0, 0, none⟩) 3 3)]) [(⟨g12_, 0 + (1 : Int).toNat * 1, none⟩, .slice A12_ ((t2.2.2.getD (1 : Int).toNat []).length) c12_)] (RFacts.ownQ (e := 27) (sz := 1) (S := A6) (n := t2.2.2.length) (cap := c6) (cs := cs6) 2 (by kernel_rfl) hA12_ (0 + (1 : Int).toNat * 1) ((1 : Int).toNat * 1 + 0) (by omega) (hc12_ 0 _ rfl) (RFacts.nil _ _ _)) 4 [.r 0, .no, .no, .no] (by kernel_rfl) (by kernel_rfl) ?_
      refine RL.nil (by kernel_rfl) ?_
      obtain rfl := Option.some.inj H
      exact QN.sb (hJ1 _ _ _ _ _ ⟨(((t2.2.2.getD (1 : Int).toNat []).length : Int) != 2), rfl, rfl, rfl, (Imm.le_refl _), HK1⟩) (.cons_cons _ (.cons_cons _ (.cons_cons _ .slnil))) (.refl _)

end Go.Proofs.Ytihmbmeelheinaa
namespace Go.Proofs.Ytihmbmeelheinaa
open Go Go.Proofs.Ytihmbmeelheinaa.RW
set_option linter.unusedVariables false
set_option maxRecDepth 100000
set_option maxHeartbeats 8000000

/-! ### armillaryref23_Value: function 26, armillary/armillaryref23.Value -/
noncomputable def K26_0 : Code := cBody Try.f26
def armillaryref23_Value.k1  : (Unit) ⊕ (Int) → Option (Int)
 | .inl () => (some 0)
 | .inr r_ => some r_
def armillaryref23_Value.l1 (a0 : List S48) (a1 : Int) (a2 : Int) : Nat → Int → Option ((Unit) ⊕ (Int))
 | 0, _ => none
 | k + 1, x1 => (if x1 < (a0.length : Int) then ((if 0 ≤ x1 then (if x1 < (a0.length : Int) then (if ((a0.getD (x1).toNat z48).f0) = a1 then (if 0 ≤ x1 then (if x1 < (a0.length : Int) then (some (((a0.getD (x1).toNat z48).f1) == a2)) else none) else none) else (some false)) else none) else none).bind (fun x2 => (if x2 = true then (if 0 ≤ x1 then (if x1 < (a0.length : Int) then (some (Sum.inr ((a0.getD (x1).toNat z48).f2))) else none) else none) else (armillaryref23_Value.l1 a0 a1 a2 k (W .i64 (x1 + 1)))))) else (some (Sum.inl ())))
def armillaryref23_Value.f (k : Nat) (a0 : List S48) (a1 : Int) (a2 : Int) : Option (Int) := ((armillaryref23_Value.l1 a0 a1 a2 k 0).bind (armillaryref23_Value.k1))
def armillaryref23_Value.Post (I : Imm) (w : World) (r : Int) (v : Value) (w' : World) : Prop :=
 ∃ (J : Imm), v = .int .i64 r ∧ Got w w' I J []
theorem armillaryref23_Value.calls (k : Nat) (I0 : Imm) (a0 : List S48) (Ap0 : Option Addr) (cp0 : Nat) (a1 : Int) (a2 : Int) (w : World) (hI : I0.at_ w) (hlp0 : a0.length ≤ cp0) (hrp0 : Rd t48 I0 Ap0 a0) (r : Int) (h : armillaryref23_Value.f k a0 a1 a2 = some r) :
  Calls Try.prog 26 [.slice Ap0 a0.length cp0, i6 a1, i6 a2].toArray w fun e w' => ∃ v, e = .returned v ∧ armillaryref23_Value.Post I0 w r v w' := by
 have H : ((armillaryref23_Value.l1 a0 a1 a2 k 0).bind (armillaryref23_Value.k1)) = some r := h
 clear h
 refine calls_body Try.func26 (by kernel_rfl) 35 (by kernel_rfl) (by kernel_rfl) ⟨w, fun _ => False, I0⟩ I0 [] [(0, .slice Ap0 a0.length cp0), (1, i6 a1), (2, i6 a2)] (by kernel_rfl) (Sat.start w _ I0 hI) ?_
 generalize w.heap.size = nx0
 show OK _ K26_0 _ _ _ _ _ _ _ _
 refine OK.sr ?_
 refine RL.st 1 [(0, .slice Ap0 a0.length cp0), (1, i6 a1), (2, i6 a2)] ?_
 refine OK.sq ?_
 refine OK.sr ?_
 refine RL.st 1 [(7, i6 0), (0, .slice Ap0 a0.length cp0), (1, i6 a1), (2, i6 a2)] ?_
 refine OK.join (fun K' I' _ L' X' => K' = [] ∧ L' = [] ∧ X' = [] ∧ Imm.le I0 I' ∧ armillaryref23_Value.k1 (Sum.inl ()) = some r) ?_ ?_
 ·rintro _ I1 nx1 _ _ ⟨rfl, rfl, rfl, hi1, H⟩
  rw [armillaryref23_Value.k1] at H
  refine QN.then_ ?_
  refine OK.sr ?_
  refine RL.st 1 [(6, i6 0)] ?_
  refine OK.re ?_
  obtain rfl := Option.some.inj H
  refine QN.body rfl [] (RFacts.nil _ _ _) (.no) (i6 0) (by kernel_rfl) (by kernel_rfl) (by kernel_rfl) ?_ _ (.inr rfl)
  exact fun w' hs' => ⟨_, rfl, I1, rfl, hs'.got _ .slnil⟩
 ·intro Q_1 hJ1 hQ1
  obtain ⟨y1, H, HK1⟩ := bnd H
  refine OK.bk 0 ?_
  refine OK.sub (K' := [(0, .slice Ap0 a0.length cp0), (1, i6 a1), (2, i6 a2), (7, i6 0)]) (L' := []) (by kernel_rfl) .slnil (.refl _) ?_
  refine OK.lp (fun n_ K' I' _ L' X' => ∃ (x1 : Int), K' = [(0, .slice Ap0 a0.length cp0), (1, i6 a1), (2, i6 a2), (7, i6 x1)] ∧ L' = [] ∧ X' = [] ∧ Imm.le I0 I' ∧ armillaryref23_Value.l1 a0 a1 a2 n_ x1 = some y1) k ⟨0, rfl, rfl, rfl, (Imm.le_refl _), H⟩ ?_ ?_
  ·rintro _ _ _ _ _ ⟨x1, rfl, rfl, rfl, _, H⟩
   cases H
  ·rintro kq1 _ I2 nx2 _ _ ⟨x1, rfl, rfl, rfl, hi2, H⟩ Q_l1 hJ2 hQ2
   rw [armillaryref23_Value.l1] at H
   refine OK.sq ?_
   refine OK.sr ?_
   refine RL.st 4 [(11, .bool (decide (x1 < (a0.length : Int)))), (0, .slice Ap0 a0.length cp0), (1, i6 a1), (2, i6 a2), (7, i6 x1)] ?_
   refine OK.cd (decide (x1 < (a0.length : Int))) (fun hb => ?_) (fun hb => ?_)
   ·skip
    have hc := (of_decide_eq_true hb)
    rw [if_pos hc] at H
    clear hb
    refine OK.skt ?_
    refine OK.sq ?_
    refine OK.bk 1 ?_
    refine OK.sq ?_
    refine OK.join (fun K' I' _ L' X' => ∃ (x2 : Bool), K' = [(0, .slice Ap0 a0.length cp0), (1, i6 a1), (2, i6 a2), (7, i6 x1), (29, .bool x2)] ∧ L' = [] ∧ X' = [] ∧ Imm.le I2 I' ∧ (if x2 = true then (if 0 ≤ x1 then (if x1 < (a0.length : Int) then (some (Sum.inr ((a0.getD (x1).toNat z48).f2))) else none) else none) else (armillaryref23_Value.l1 a0 a1 a2 kq1 (W .i64 (x1 + 1)))) = some y1) ?_ ?_
    ·rintro _ I3 nx3 _ _ ⟨x2, rfl, rfl, rfl, hi3, H⟩
     replace H : (if x2 = true then (if 0 ≤ x1 then (if x1 < (a0.length : Int) then (some (Sum.inr ((a0.getD (x1).toNat z48).f2))) else none) else none) else (armillaryref23_Value.l1 a0 a1 a2 kq1 (W .i64 (x1 + 1)))) = some y1 := H
     refine QN.then_ ?_
     refine OK.cd x2 (fun hb => ?_) (fun hb => ?_)
     ·skip
      have hc := hb
      rw [if_pos hc] at H
      clear hb
      refine OK.sr ?_
      refine RL.s 2 [(31, i6 x1), (30, .slice Ap0 a0.length cp0)] ?_
      obtain ⟨hib0, H⟩ := ifs H
      obtain ⟨hib1, H⟩ := ifs H
      obtain ⟨g1_, o1_, hA1_, hc1_⟩ := t48_at (Rd.ext (Imm.le_trans hi2 hi3) hrp0) x1 hib0 hib1
      refine RL.idx 3 .i64 x1 hA1_ a0.length cp0 (some 32) (by kernel_rfl) (by kernel_rfl) (T := 22) (e := 48) (by kernel_rfl) (by kernel_rfl) hib0 hib1 (K' := [(32, pt g1_ (o1_ + (x1).toNat * 3)), (31, i6 x1), (30, .slice Ap0 a0.length cp0)]) (by kernel_rfl) ?_
      refine RL.simK (K' := [(6, i6 ((a0.getD (x1).toNat z48).f2))]) [(⟨g1_, o1_ + (x1).toNat * 3 + 2, none⟩, i6 ((a0.getD (x1).toNat z48).f2))] (RFacts.imm (hc1_ 2 _ rfl) (RFacts.nil _ _ _)) 3 [.no, .r 0, .no] (by kernel_rfl) (by kernel_rfl) ?_
      refine RL.nt ?_
      refine OK.re ?_
      refine QN.blkR ?_
      refine QN.thenR ?_
      refine QN.outR hQ2 ?_
      refine QN.blkR ?_
      refine QN.outR hQ1 ?_
      refine QN.thenR ?_
      obtain rfl := Option.some.inj H
      replace H : some ((a0.getD (x1).toNat z48).f2) = some r := HK1
      obtain rfl := Option.some.inj H
      refine QN.body rfl [] (RFacts.nil _ _ _) (.no) (i6 ((a0.getD (x1).toNat z48).f2)) (by kernel_rfl) (by kernel_rfl) (by kernel_rfl) ?_ _ (.inr rfl)
      exact fun w' hs' => ⟨_, rfl, I3, rfl, hs'.got _ .slnil⟩
     ·skip
      have hc := (Bool.eq_false_iff.1 hb)
      rw [if_neg hc] at H
      clear hb
      refine OK.sk ?_
      refine QN.blkN ?_
      refine QN.then_ ?_
      refine OK.rg ?_
      refine RL.s 3 [(7, i6 (W .i64 (x1 + 1))), (0, .slice Ap0 a0.length cp0), (1, i6 a1), (2, i6 a2)] ?_
      refine RL.nil (by kernel_rfl) ?_
      exact QN.sb (hJ2 _ _ _ _ _ ⟨W .i64 (x1 + 1), rfl, rfl, rfl, (Imm.le_trans hi2 hi3), H⟩) .slnil (.refl _)
    ·intro Q_2 hJ3 hQ3
     obtain ⟨y2, H, HK2⟩ := bnd H
     refine OK.rg ?_
     refine RL.s 2 [(15, i6 x1), (14, .slice Ap0 a0.length cp0), (0, .slice Ap0 a0.length cp0), (1, i6 a1), (2, i6 a2), (7, i6 x1)] ?_
     obtain ⟨hib0, H⟩ := ifs H
     obtain ⟨hib1, H⟩ := ifs H
     obtain ⟨g2_, o2_, hA2_, hc2_⟩ := t48_at (Rd.ext hi2 hrp0) x1 hib0 hib1
     refine RL.idx 3 .i64 x1 hA2_ a0.length cp0 (some 16) (by kernel_rfl) (by kernel_rfl) (T := 22) (e := 48) (by kernel_rfl) (by kernel_rfl) hib0 hib1 (K' := [(16, pt g2_ (o2_ + (x1).toNat * 3)), (15, i6 x1), (14, .slice Ap0 a0.length cp0), (0, .slice Ap0 a0.length cp0), (1, i6 a1), (2, i6 a2), (7, i6 x1)]) (by kernel_rfl) ?_
     refine RL.simK (K' := [(21, .bool (((a0.getD (x1).toNat z48).f0) == a1)), (0, .slice Ap0 a0.length cp0), (1, i6 a1), (2, i6 a2), (7, i6 x1)]) [(⟨g2_, o2_ + (x1).toNat * 3, none⟩, i6 ((a0.getD (x1).toNat z48).f0))] (RFacts.imm (hc2_ 0 _ rfl) (RFacts.nil _ _ _)) 5 [.no, .r 0, .no, .no, .no] (by kernel_rfl) (by kernel_rfl) ?_
     refine RL.cases (((a0.getD (x1).toNat z48).f0) == a1) (fun hb => ?_) (fun hb => ?_)
     ·have hc := (beq_iff_eq.1 hb)
      rw [hb]
      rw [if_pos hc] at H; clear hb
      refine RL.s 2 [(23, i6 x1), (22, .slice Ap0 a0.length cp0), (21, .bool true), (0, .slice Ap0 a0.length cp0), (1, i6 a1), (2, i6 a2), (7, i6 x1)] ?_
      obtain ⟨hib0, H⟩ := ifs H
      obtain ⟨hib1, H⟩ := ifs H
      obtain ⟨g3_, o3_, hA3_, hc3_⟩ := t48_at (Rd.ext hi2 hrp0) x1 hib0 hib1
      refine RL.idx 3 .i64 x1 hA3_ a0.length cp0 (some 24) (by kernel_rfl) (by kernel_rfl) (T := 22) (e := 48) (by kernel_rfl) (by kernel_rfl) hib0 hib1 (K' := [(24, pt g3_ (o3_ + (x1).toNat * 3)), (23, i6 x1), (22, .slice Ap0 a0.length cp0), (21, .bool true), (0, .slice Ap0 a0.length cp0), (1, i6 a1), (2, i6 a2), (7, i6 x1)]) (by kernel_rfl) ?_
      refine RL.simK (K' := [(29, .bool (((a0.getD (x1).toNat z48).f1) == a2)), (0, .slice Ap0 a0.length cp0), (1, i6 a1), (2, i6 a2), (7, i6 x1)]) [(⟨g3_, o3_ + (x1).toNat * 3 + 1, none⟩, i6 ((a0.getD (x1).toNat z48).f1))] (RFacts.imm (hc3_ 1 _ rfl) (RFacts.nil _ _ _)) 5 [.no, .r 0, .no, .no, .no] (by kernel_rfl) (by kernel_rfl) ?_
      refine RL.nil (by kernel_rfl) ?_
      obtain rfl := Option.some.inj H
      exact QN.sb (hJ3 _ _ _ _ _ ⟨(((a0.getD (x1).toNat z48).f1) == a2), rfl, rfl, rfl, (Imm.le_refl _), HK2⟩) .slnil (.refl _)
     ·have hc := (beq_eq_false_iff_ne.1 hb)
      rw [hb]
      rw [if_neg hc] at H; clear hb
      refine RL.s 8 [(29, .bool false), (0, .slice Ap0 a0.length cp0), (1, i6 a1), (2, i6 a2), (7, i6 x1)] ?_
      refine RL.nil (by kernel_rfl) ?_
      obtain rfl := Option.some.inj H
      exact QN.sb (hJ3 _ _ _ _ _ ⟨false, rfl, rfl, rfl, (Imm.le_refl _), HK2⟩) .slnil (.refl _)
   ·skip
    have hc := (of_decide_eq_false hb)
    rw [if_neg hc] at H
    clear hb
    refine OK.ex 0 ?_
    refine QN.thenE ?_
    refine QN.outE hQ2 ?_
    refine QN.blkE ?_
    obtain rfl := Option.some.inj H
    exact QN.sb (hJ1 _ _ _ _ _ ⟨rfl, rfl, rfl, hi2, HK1⟩) .slnil (.refl _)

end Go.Proofs.Ytihmbmeelheinaa
namespace Go.Proofs.Ytihmbmeelheinaa
open Go Go.Proofs.Ytihmbmeelheinaa.RW
set_option linter.unusedVariables false
set_option maxRecDepth 100000
set_option maxHeartbeats 8000000

/-! ### armillaryref23_Made: function 14, armillary/armillaryref23.Made -/
noncomputable def K14_0 : Code := cBody Try.f14
noncomputable def O14_22 : List Oper := cOps (cL (cL (cL (cR (cL (cL (cR (cL (cR (cR K14_0))))))))))
def armillaryref23_Made.k1  (x1 : List S48) : Option (List S48) := (some x1)
def armillaryref23_Made.l1 (a0 : List S48) : Nat → (List S48) → Int → Option (List S48)
 | 0, _, _ => none
 | k + 1, x2, x3 => ((if x3 < (a0.length : Int) then (some (decide ((x2.length : Int) < 36))) else (some false)).bind (fun x4 => (if x4 = true then (if 0 ≤ x3 then (if x3 < (a0.length : Int) then (if 0 ≤ x3 then (if x3 < (a0.length : Int) then (if 0 ≤ x3 then (if x3 < (a0.length : Int) then ((armillaryref23_Value.f k x2 (W .i64 (((bAnd .i64 ((a0.getD (x3).toNat z48).f0) 255).tmod 6) * 7)) (W .i64 (((bAnd .i64 ((a0.getD (x3).toNat z48).f1) 255).tmod 6) * 3))).bind fun t1 => ((if t1 = 0 then (if (x2.length + [(⟨W .i64 (((bAnd .i64 ((a0.getD (x3).toNat z48).f0) 255).tmod 6) * 7), W .i64 (((bAnd .i64 ((a0.getD (x3).toNat z48).f1) 255).tmod 6) * 3), W .i64 (1 + ((W .i64 ((((a0.getD (x3).toNat z48).f2).tmod 1048576) + 1048576)).tmod 1048576))⟩ : S48)].length) * 24 ≤ 140737488355328 then (some (x2 ++ [(⟨W .i64 (((bAnd .i64 ((a0.getD (x3).toNat z48).f0) 255).tmod 6) * 7), W .i64 (((bAnd .i64 ((a0.getD (x3).toNat z48).f1) 255).tmod 6) * 3), W .i64 (1 + ((W .i64 ((((a0.getD (x3).toNat z48).f2).tmod 1048576) + 1048576)).tmod 1048576))⟩ : S48)])) else none) else (some x2)).bind (fun x5 => (armillaryref23_Made.l1 a0 k x5 (W .i64 (x3 + 1)))))) else none) else none) else none) else none) else none) else none) else (some x2))))
def armillaryref23_Made.f (k : Nat) (a0 : List S48) : Option (List S48) := ((armillaryref23_Made.l1 a0 k ([] : List S48) 0).bind (armillaryref23_Made.k1))
def armillaryref23_Made.Post (I : Imm) (w : World) (r : List S48) (v : Value) (w' : World) : Prop :=
 ∃ (J : Imm) (A0 : Option Addr) (c0 : Nat) (cs0 : List Value), v = .slice A0 r.length c0 ∧ Got w w' I J [orow 48 3 A0 r.length c0 cs0] ∧ Reps t48 J r cs0
noncomputable def a14_22n : List Nat := [0, 0, 3, 7, 15, 31, 63, 127, 0, 0, 768, 1792, 3840, 7936, 16128, 32512, 0, 0, 196608, 458752, 983040, 2031616, 4128768, 8323072, 16711680, 33554431, 0, 134217727]
theorem a14_22 : ancs O14_22 [] = a14_22n := by kernel_rfl
theorem a14_22o : drawOk O14_22 a14_22n 27 = true := by kernel_rfl
noncomputable def u14d1l  : List Ld :=
 [⟨26, fun x => pt ((x 0).2.1) 0, fun x => [RW.kblk (x 0).2.1 48 [i6 0, i6 0, i6 0]], fun x J => True, fun x J J' h f => trivial⟩]
noncomputable def u14d1g (x3 : Int) (g1_ : Nat) (o1_ : Nat) (g2_ : Nat) (o2_ : Nat) (g3_ : Nat) (o3_ : Nat) : List (Nat × ((Nat → Wt) → Value)) := [(2, fun u => pt g1_ (o1_ + (x3).toNat * 3)), (10, fun u => pt g2_ (o2_ + (x3).toNat * 3)), (18, fun u => pt g3_ (o3_ + (x3).toNat * 3))]
noncomputable def u14d1q (a0 : List S48) (Ap0 : Option Addr) (cp0 : Nat) (x2 : List S48) (A2 : Option Addr) (c2 : Nat) (x3 : Int) (x4 : Bool) (g1_ : Nat) (o1_ : Nat) (g2_ : Nat) (o2_ : Nat) (g3_ : Nat) (o3_ : Nat) (u : Nat → Wt) : Option (List Value × List (Nat × Value) × List (Nat × Nat)) := qSim Try.prog [(⟨g1_, o1_ + (x3).toNat * 3, none⟩, i6 ((a0.getD (x3).toNat z48).f0)), (⟨g2_, o2_ + (x3).toNat * 3 + 1, none⟩, i6 ((a0.getD (x3).toNat z48).f1)), (⟨g3_, o3_ + (x3).toNat * 3 + 2, none⟩, i6 ((a0.getD (x3).toNat z48).f2))] [] O14_22 ⟨56, []⟩ (Ld.vl u14d1l) (u14d1g x3 g1_ o1_ g2_ o2_ g3_ o3_) u [.no, .no, .no, .no, .r 0, .no, .no, .no, .no, .no, .no, .no, .r 1, .no, .no, .no, .no, .no, .no, .no, .r 2, .no, .no, .no, .no, .no, .no] 0 (O14_22.take 27) [(0, .slice Ap0 a0.length cp0), (3, .slice A2 x2.length c2), (4, i6 x3), (15, .bool x4)]
noncomputable def u14d1s (a0 : List S48) (Ap0 : Option Addr) (cp0 : Nat) (x3 : Int) (g1_ : Nat) (o1_ : Nat) (g2_ : Nat) (o2_ : Nat) (g3_ : Nat) (o3_ : Nat) (u : Nat → Wt) : List Value := [.slice Ap0 a0.length cp0, i6 x3, pt g1_ (o1_ + (x3).toNat * 3), pt g1_ (o1_ + (x3).toNat * 3), i6 ((a0.getD (x3).toNat z48).f0), i6 (bAnd .i64 ((a0.getD (x3).toNat z48).f0) 255), i6 ((bAnd .i64 ((a0.getD (x3).toNat z48).f0) 255).tmod 6), i6 (W .i64 (((bAnd .i64 ((a0.getD (x3).toNat z48).f0) 255).tmod 6) * 7)), .slice Ap0 a0.length cp0, i6 x3, pt g2_ (o2_ + (x3).toNat * 3), pt g2_ (o2_ + (x3).toNat * 3 + 1), i6 ((a0.getD (x3).toNat z48).f1), i6 (bAnd .i64 ((a0.getD (x3).toNat z48).f1) 255), i6 ((bAnd .i64 ((a0.getD (x3).toNat z48).f1) 255).tmod 6), i6 (W .i64 (((bAnd .i64 ((a0.getD (x3).toNat z48).f1) 255).tmod 6) * 3)), .slice Ap0 a0.length cp0, i6 x3, pt g3_ (o3_ + (x3).toNat * 3), pt g3_ (o3_ + (x3).toNat * 3 + 2), i6 ((a0.getD (x3).toNat z48).f2), i6 (((a0.getD (x3).toNat z48).f2).tmod 1048576), i6 (W .i64 ((((a0.getD (x3).toNat z48).f2).tmod 1048576) + 1048576)), i6 ((W .i64 ((((a0.getD (x3).toNat z48).f2).tmod 1048576) + 1048576)).tmod 1048576), i6 (W .i64 (1 + ((W .i64 ((((a0.getD (x3).toNat z48).f2).tmod 1048576) + 1048576)).tmod 1048576))), .agg #[i6 (W .i64 (((bAnd .i64 ((a0.getD (x3).toNat z48).f0) 255).tmod 6) * 7)), i6 (W .i64 (((bAnd .i64 ((a0.getD (x3).toNat z48).f1) 255).tmod 6) * 3)), i6 (W .i64 (1 + ((W .i64 ((((a0.getD (x3).toNat z48).f2).tmod 1048576) + 1048576)).tmod 1048576)))], pt ((u 26 0).2.1) 0]
noncomputable def u14d1f (a0 : List S48) (Ap0 : Option Addr) (cp0 : Nat) (x2 : List S48) (A2 : Option Addr) (c2 : Nat) (x3 : Int) (x4 : Bool) (g1_ : Nat) (o1_ : Nat) (g2_ : Nat) (o2_ : Nat) (g3_ : Nat) (o3_ : Nat) (i : Nat) (u : Nat → Wt) : List (Nat × Value) := foldPut ⟨56, []⟩ [(0, .slice Ap0 a0.length cp0), (3, .slice A2 x2.length c2), (4, i6 x3), (15, .bool x4)] (O14_22.take i) (((u14d1s a0 Ap0 cp0 x3 g1_ o1_ g2_ o2_ g3_ o3_) u).take i)
theorem u14d1v (a0 : List S48) (Ap0 : Option Addr) (cp0 : Nat) (x2 : List S48) (A2 : Option Addr) (c2 : Nat) (x3 : Int) (x4 : Bool) (g1_ : Nat) (o1_ : Nat) (g2_ : Nat) (o2_ : Nat) (g3_ : Nat) (o3_ : Nat) (u : Nat → Wt) : (u14d1q a0 Ap0 cp0 x2 A2 c2 x3 x4 g1_ o1_ g2_ o2_ g3_ o3_ u).map (fun x => (x.1, x.2.1)) = some ((u14d1s a0 Ap0 cp0 x3 g1_ o1_ g2_ o2_ g3_ o3_) u, (u14d1f a0 Ap0 cp0 x2 A2 c2 x3 x4 g1_ o1_ g2_ o2_ g3_ o3_ 27) u) := by kernel_rfl
theorem u14d1e (a0 : List S48) (Ap0 : Option Addr) (cp0 : Nat) (x2 : List S48) (A2 : Option Addr) (c2 : Nat) (x3 : Int) (x4 : Bool) (g1_ : Nat) (o1_ : Nat) (g2_ : Nat) (o2_ : Nat) (g3_ : Nat) (o3_ : Nat) (u : Nat → Wt) : (u14d1q a0 Ap0 cp0 x2 A2 c2 x3 x4 g1_ o1_ g2_ o2_ g3_ o3_ u).map (fun x => x.2.2.map (·.1)) = (u14d1q a0 Ap0 cp0 x2 A2 c2 x3 x4 g1_ o1_ g2_ o2_ g3_ o3_ u).map (fun x => x.2.2.map (·.2)) := by kernel_rfl
theorem armillaryref23_Made.calls (k : Nat) (I0 : Imm) (a0 : List S48) (Ap0 : Option Addr) (cp0 : Nat) (w : World) (hI : I0.at_ w) (hlp0 : a0.length ≤ cp0) (hrp0 : Rd t48 I0 Ap0 a0) (r : List S48) (h : armillaryref23_Made.f k a0 = some r) :
  Calls Try.prog 14 [.slice Ap0 a0.length cp0].toArray w fun e w' => ∃ v, e = .returned v ∧ armillaryref23_Made.Post I0 w r v w' := by
 have H : ((armillaryref23_Made.l1 a0 k ([] : List S48) 0).bind (armillaryref23_Made.k1)) = some r := h
 clear h
 refine calls_body Try.func14 (by kernel_rfl) 56 (by kernel_rfl) (by kernel_rfl) ⟨w, fun _ => False, I0⟩ I0 [] [(0, .slice Ap0 a0.length cp0)] (by kernel_rfl) (Sat.start w _ I0 hI) ?_
 generalize w.heap.size = nx0
 show OK _ K14_0 _ _ _ _ _ _ _ _
 refine OK.sr ?_
 refine RL.st 1 [(0, .slice Ap0 a0.length cp0)] ?_
 refine OK.sr ?_
 refine RL.spt 2 [(3, .slice (some ⟨nx0, 0, none⟩) 0 0), (0, .slice Ap0 a0.length cp0)] (nx0 + 1) [⟨nx0, [], 48⟩] ?_
 refine OK.sq ?_
 refine OK.sr ?_
 refine RL.st 1 [(4, i6 0), (3, .slice (some ⟨nx0, 0, none⟩) 0 0), (0, .slice Ap0 a0.length cp0)] ?_
 refine OK.join (fun K' I' _ L' X' => ∃ (x1 : List S48) (A1 : Option Addr) (c1 : Nat) (cs1 : List Value), K' = [(3, .slice A1 x1.length c1)] ∧ L' = [] ∧ X' = [orow 48 3 A1 x1.length c1 cs1] ∧ Imm.le I0 I' ∧ Reps t48 I' x1 cs1 ∧ armillaryref23_Made.k1 x1 = some r) ?_ ?_
 ·rintro _ I1 nx1 _ _ ⟨x1, A1, c1, cs1, rfl, rfl, rfl, hi1, hp1, H⟩
  rw [armillaryref23_Made.k1] at H
  refine QN.then_ ?_
  refine OK.sr ?_
  refine RL.st 2 [(2, .slice A1 x1.length c1)] ?_
  refine OK.re ?_
  obtain rfl := Option.some.inj H
  refine QN.body rfl [] (RFacts.nil _ _ _) (.no) (.slice A1 x1.length c1) (by kernel_rfl) (by kernel_rfl) (by kernel_rfl) ?_ _ (.inr rfl)
  exact fun w' hs' => ⟨_, rfl, I1, A1, c1, cs1, rfl, hs'.got _ (.cons_cons _ .slnil), hp1⟩
 ·intro Q_1 hJ1 hQ1
  obtain ⟨y1, H, HK1⟩ := bnd H
  refine OK.bk 0 ?_
  refine OK.toRow (b := ⟨nx0, [], 48⟩) 0 0 3 (by kernel_rfl) (by kernel_rfl) (by decide) ?_
  have hp5 : Reps t48 I0 ([] : List S48) [] := rfl
  refine OK.norm (L' := []) (X' := [orow 48 3 (some ⟨nx0, 0, none⟩) (([] : List S48).length) 0 []]) rfl rfl (by kernel_rfl) (by kernel_rfl) ?_
  refine OK.sub (K' := [(0, .slice Ap0 a0.length cp0), (3, .slice (some ⟨nx0, 0, none⟩) 0 0), (4, i6 0)]) (L' := []) (by kernel_rfl) .slnil (.refl _) ?_
  refine OK.lp (fun n_ K' I' _ L' X' => ∃ (x2 : List S48) (x3 : Int) (A2 : Option Addr) (c2 : Nat) (cs2 : List Value), K' = [(0, .slice Ap0 a0.length cp0), (3, .slice A2 x2.length c2), (4, i6 x3)] ∧ L' = [] ∧ X' = [orow 48 3 A2 x2.length c2 cs2] ∧ Imm.le I0 I' ∧ Reps t48 I' x2 cs2 ∧ armillaryref23_Made.l1 a0 n_ x2 x3 = some y1) k ⟨([] : List S48), 0, (some ⟨nx0, 0, none⟩), 0, [], rfl, rfl, rfl, (Imm.le_refl _), hp5, H⟩ ?_ ?_
  ·rintro _ _ _ _ _ ⟨x2, x3, A2, c2, cs2, rfl, rfl, rfl, _, hp2, H⟩
   cases H
  ·rintro kq1 _ I2 nx2 _ _ ⟨x2, x3, A2, c2, cs2, rfl, rfl, rfl, hi2, hp2, H⟩ Q_l1 hJ2 hQ2
   rw [armillaryref23_Made.l1] at H
   refine OK.sq ?_
   refine OK.sq ?_
   refine OK.join (fun K' I' _ L' X' => ∃ (x4 : Bool), K' = [(0, .slice Ap0 a0.length cp0), (3, .slice A2 x2.length c2), (4, i6 x3), (15, .bool x4)] ∧ L' = [] ∧ X' = [orow 48 3 A2 x2.length c2 cs2] ∧ Imm.le I2 I' ∧ (if x4 = true then (if 0 ≤ x3 then (if x3 < (a0.length : Int) then (if 0 ≤ x3 then (if x3 < (a0.length : Int) then (if 0 ≤ x3 then (if x3 < (a0.length : Int) then ((armillaryref23_Value.f kq1 x2 (W .i64 (((bAnd .i64 ((a0.getD (x3).toNat z48).f0) 255).tmod 6) * 7)) (W .i64 (((bAnd .i64 ((a0.getD (x3).toNat z48).f1) 255).tmod 6) * 3))).bind fun t1 => ((if t1 = 0 then (if (x2.length + [(⟨W .i64 (((bAnd .i64 ((a0.getD (x3).toNat z48).f0) 255).tmod 6) * 7), W .i64 (((bAnd .i64 ((a0.getD (x3).toNat z48).f1) 255).tmod 6) * 3), W .i64 (1 + ((W .i64 ((((a0.getD (x3).toNat z48).f2).tmod 1048576) + 1048576)).tmod 1048576))⟩ : S48)].length) * 24 ≤ 140737488355328 then (some (x2 ++ [(⟨W .i64 (((bAnd .i64 ((a0.getD (x3).toNat z48).f0) 255).tmod 6) * 7), W .i64 (((bAnd .i64 ((a0.getD (x3).toNat z48).f1) 255).tmod 6) * 3), W .i64 (1 + ((W .i64 ((((a0.getD (x3).toNat z48).f2).tmod 1048576) + 1048576)).tmod 1048576))⟩ : S48)])) else none) else (some x2)).bind (fun x5 => (armillaryref23_Made.l1 a0 kq1 x5 (W .i64 (x3 + 1)))))) else none) else none) else none) else none) else none) else none) else (some x2)) = some y1) ?_ ?_
   ·rintro _ I3 nx3 _ _ ⟨x4, rfl, rfl, rfl, hi3, H⟩
    replace H : (if x4 = true then (if 0 ≤ x3 then (if x3 < (a0.length : Int) then (if 0 ≤ x3 then (if x3 < (a0.length : Int) then (if 0 ≤ x3 then (if x3 < (a0.length : Int) then ((armillaryref23_Value.f kq1 x2 (W .i64 (((bAnd .i64 ((a0.getD (x3).toNat z48).f0) 255).tmod 6) * 7)) (W .i64 (((bAnd .i64 ((a0.getD (x3).toNat z48).f1) 255).tmod 6) * 3))).bind fun t1 => ((if t1 = 0 then (if (x2.length + [(⟨W .i64 (((bAnd .i64 ((a0.getD (x3).toNat z48).f0) 255).tmod 6) * 7), W .i64 (((bAnd .i64 ((a0.getD (x3).toNat z48).f1) 255).tmod 6) * 3), W .i64 (1 + ((W .i64 ((((a0.getD (x3).toNat z48).f2).tmod 1048576) + 1048576)).tmod 1048576))⟩ : S48)].length) * 24 ≤ 140737488355328 then (some (x2 ++ [(⟨W .i64 (((bAnd .i64 ((a0.getD (x3).toNat z48).f0) 255).tmod 6) * 7), W .i64 (((bAnd .i64 ((a0.getD (x3).toNat z48).f1) 255).tmod 6) * 3), W .i64 (1 + ((W .i64 ((((a0.getD (x3).toNat z48).f2).tmod 1048576) + 1048576)).tmod 1048576))⟩ : S48)])) else none) else (some x2)).bind (fun x5 => (armillaryref23_Made.l1 a0 kq1 x5 (W .i64 (x3 + 1)))))) else none) else none) else none) else none) else none) else none) else (some x2)) = some y1 := H
    refine QN.then_ ?_
    refine OK.cd x4 (fun hb => ?_) (fun hb => ?_)
    ·skip
     have hc := hb
     rw [if_pos hc] at H
     clear hb
     refine OK.skt ?_
     refine OK.sq ?_
     refine OK.bk 1 ?_
     refine OK.sq ?_
     obtain ⟨hi0_1, H⟩ := ifs H
     obtain ⟨hi1_1, H⟩ := ifs H
     obtain ⟨g1_, o1_, hA1_, hc1_⟩ := t48_at (Rd.ext (Imm.le_trans hi2 hi3) hrp0) x3 hi0_1 hi1_1
     obtain ⟨hi0_2, H⟩ := ifs H
     obtain ⟨hi1_2, H⟩ := ifs H
     obtain ⟨g2_, o2_, hA2_, hc2_⟩ := t48_at (Rd.ext (Imm.le_trans hi2 hi3) hrp0) x3 hi0_2 hi1_2
     obtain ⟨hi0_3, H⟩ := ifs H
     obtain ⟨hi1_3, H⟩ := ifs H
     obtain ⟨g3_, o3_, hA3_, hc3_⟩ := t48_at (Rd.ext (Imm.le_trans hi2 hi3) hrp0) x3 hi0_3 hi1_3
     refine OK.drawnC 5 27 O14_22 a14_22n (by kernel_rfl) (by kernel_rfl) u14d1l (u14d1g x3 g1_ o1_ g2_ o2_ g3_ o3_) [(⟨g1_, o1_ + (x3).toNat * 3, none⟩, i6 ((a0.getD (x3).toNat z48).f0)), (⟨g2_, o2_ + (x3).toNat * 3 + 1, none⟩, i6 ((a0.getD (x3).toNat z48).f1)), (⟨g3_, o3_ + (x3).toNat * 3 + 2, none⟩, i6 ((a0.getD (x3).toNat z48).f2))] (RI.cons (hc1_ 0 _ rfl) (RI.cons (hc2_ 1 _ rfl) (RI.cons (hc3_ 2 _ rfl) (RI.nil _)))) [.no, .no, .no, .no, .r 0, .no, .no, .no, .no, .no, .no, .no, .r 1, .no, .no, .no, .no, .no, .no, .no, .r 2, .no, .no, .no, .no, .no, .no] a14_22 a14_22o (by kernel_rfl) (by kernel_rfl) (u14d1s a0 Ap0 cp0 x3 g1_ o1_ g2_ o2_ g3_ o3_) (u14d1f a0 Ap0 cp0 x2 A2 c2 x3 x4 g1_ o1_ g2_ o2_ g3_ o3_ 27) (u14d1v a0 Ap0 cp0 x2 A2 c2 x3 x4 g1_ o1_ g2_ o2_ g3_ o3_) (u14d1e a0 Ap0 cp0 x2 A2 c2 x3 x4 g1_ o1_ g2_ o2_ g3_ o3_) [u14d1f a0 Ap0 cp0 x2 A2 c2 x3 x4 g1_ o1_ g2_ o2_ g3_ o3_ 26] (framesOk.cons (fun u => rfl) framesOk.nil) ?_ [u14d1f a0 Ap0 cp0 x2 A2 c2 x3 x4 g1_ o1_ g2_ o2_ g3_ o3_ 2, u14d1f a0 Ap0 cp0 x2 A2 c2 x3 x4 g1_ o1_ g2_ o2_ g3_ o3_ 10, u14d1f a0 Ap0 cp0 x2 A2 c2 x3 x4 g1_ o1_ g2_ o2_ g3_ o3_ 18] (framesOk.cons (fun u => rfl) (framesOk.cons (fun u => rfl) (framesOk.cons (fun u => rfl) framesOk.nil))) ?_ ?_
     ·refine LoudsG.cons ?_ (LoudsG.nil)
      ·intro D u J w hp hJ hs hF
       refine (Does.make hs.im (fun n_ => pt n_ 0) (cs := [i6 0, i6 0, i6 0]) (ty := 48) (fun n_ => by kernel_rfl)).mono ?_
       rintro v w' ⟨rfl, hg⟩
       exact ⟨fun _ => (none, w.heap.size, []), J, rfl, hg, trivial⟩
     ·refine Givens.cons (fun u w =>  ?_) (fun _ _ _ => rfl) (Givens.cons (fun u w =>  ?_) (fun _ _ _ => rfl) (Givens.cons (fun u w =>  ?_) (fun _ _ _ => rfl) (Givens.nil)))
      ·exact giv_idx (T := 22) (e := 48) 3 .i64 x3 hA1_ a0.length cp0 (by kernel_rfl) (by kernel_rfl) (by kernel_rfl) hi0_1 hi1_1 w
      ·exact giv_idx (T := 22) (e := 48) 3 .i64 x3 hA2_ a0.length cp0 (by kernel_rfl) (by kernel_rfl) (by kernel_rfl) hi0_2 hi1_2 w
      ·exact giv_idx (T := 22) (e := 48) 3 .i64 x3 hA3_ a0.length cp0 (by kernel_rfl) (by kernel_rfl) (by kernel_rfl) hi0_3 hi1_3 w
     intro u I4 nx4 hi4 hF
     clear hF
     refine RL.norm (K' := ((5, pt ((u 26 0).2.1) 0) :: (43, .agg #[i6 (W .i64 (((bAnd .i64 ((a0.getD (x3).toNat z48).f0) 255).tmod 6) * 7)), i6 (W .i64 (((bAnd .i64 ((a0.getD (x3).toNat z48).f1) 255).tmod 6) * 3)), i6 (W .i64 (1 + ((W .i64 ((((a0.getD (x3).toNat z48).f2).tmod 1048576) + 1048576)).tmod 1048576)))]) :: (42, i6 (W .i64 (1 + ((W .i64 ((((a0.getD (x3).toNat z48).f2).tmod 1048576) + 1048576)).tmod 1048576)))) :: (41, i6 ((W .i64 ((((a0.getD (x3).toNat z48).f2).tmod 1048576) + 1048576)).tmod 1048576)) :: (40, i6 (W .i64 ((((a0.getD (x3).toNat z48).f2).tmod 1048576) + 1048576))) :: (39, i6 (((a0.getD (x3).toNat z48).f2).tmod 1048576)) :: (38, i6 ((a0.getD (x3).toNat z48).f2)) :: (37, pt g3_ (o3_ + (x3).toNat * 3 + 2)) :: (36, pt g3_ (o3_ + (x3).toNat * 3)) :: (35, i6 x3) :: (34, .slice Ap0 a0.length cp0) :: (33, i6 (W .i64 (((bAnd .i64 ((a0.getD (x3).toNat z48).f1) 255).tmod 6) * 3))) :: (32, i6 ((bAnd .i64 ((a0.getD (x3).toNat z48).f1) 255).tmod 6)) :: (31, i6 (bAnd .i64 ((a0.getD (x3).toNat z48).f1) 255)) :: (30, i6 ((a0.getD (x3).toNat z48).f1)) :: (29, pt g2_ (o2_ + (x3).toNat * 3 + 1)) :: (28, pt g2_ (o2_ + (x3).toNat * 3)) :: (27, i6 x3) :: (26, .slice Ap0 a0.length cp0) :: (25, i6 (W .i64 (((bAnd .i64 ((a0.getD (x3).toNat z48).f0) 255).tmod 6) * 7))) :: (24, i6 ((bAnd .i64 ((a0.getD (x3).toNat z48).f0) 255).tmod 6)) :: (23, i6 (bAnd .i64 ((a0.getD (x3).toNat z48).f0) 255)) :: (22, i6 ((a0.getD (x3).toNat z48).f0)) :: (21, pt g1_ (o1_ + (x3).toNat * 3)) :: (20, pt g1_ (o1_ + (x3).toNat * 3)) :: (19, i6 x3) :: (18, .slice Ap0 a0.length cp0) :: (0, .slice Ap0 a0.length cp0) :: (3, .slice A2 x2.length c2) :: (4, i6 x3) :: (15, .bool x4) :: [])) (X' := [orow 48 3 A2 x2.length c2 cs2, RW.kblk (u 26 0).2.1 48 [i6 0, i6 0, i6 0]]) (by kernel_rfl) rfl rfl rfl ?_
     generalize (u 26 0).1 = A3
     generalize (u 26 0).2.1 = c3
     generalize (u 26 0).2.2 = cs3
     clear u
     refine RL.kblk (g := c3) (ty := 48) (cs := [i6 0, i6 0, i6 0]) 1 (by kernel_rfl) ?_
     show RL _ _ _ 27 _ ((5, pt c3 0) :: (43, .agg #[i6 (W .i64 (((bAnd .i64 ((a0.getD (x3).toNat z48).f0) 255).tmod 6) * 7)), i6 (W .i64 (((bAnd .i64 ((a0.getD (x3).toNat z48).f1) 255).tmod 6) * 3)), i6 (W .i64 (1 + ((W .i64 ((((a0.getD (x3).toNat z48).f2).tmod 1048576) + 1048576)).tmod 1048576)))]) :: (42, i6 (W .i64 (1 + ((W .i64 ((((a0.getD (x3).toNat z48).f2).tmod 1048576) + 1048576)).tmod 1048576)))) :: (41, i6 ((W .i64 ((((a0.getD (x3).toNat z48).f2).tmod 1048576) + 1048576)).tmod 1048576)) :: (40, i6 (W .i64 ((((a0.getD (x3).toNat z48).f2).tmod 1048576) + 1048576))) :: (39, i6 (((a0.getD (x3).toNat z48).f2).tmod 1048576)) :: (38, i6 ((a0.getD (x3).toNat z48).f2)) :: (37, pt g3_ (o3_ + (x3).toNat * 3 + 2)) :: (36, pt g3_ (o3_ + (x3).toNat * 3)) :: (35, i6 x3) :: (34, .slice Ap0 a0.length cp0) :: (33, i6 (W .i64 (((bAnd .i64 ((a0.getD (x3).toNat z48).f1) 255).tmod 6) * 3))) :: (32, i6 ((bAnd .i64 ((a0.getD (x3).toNat z48).f1) 255).tmod 6)) :: (31, i6 (bAnd .i64 ((a0.getD (x3).toNat z48).f1) 255)) :: (30, i6 ((a0.getD (x3).toNat z48).f1)) :: (29, pt g2_ (o2_ + (x3).toNat * 3 + 1)) :: (28, pt g2_ (o2_ + (x3).toNat * 3)) :: (27, i6 x3) :: (26, .slice Ap0 a0.length cp0) :: (25, i6 (W .i64 (((bAnd .i64 ((a0.getD (x3).toNat z48).f0) 255).tmod 6) * 7))) :: (24, i6 ((bAnd .i64 ((a0.getD (x3).toNat z48).f0) 255).tmod 6)) :: (23, i6 (bAnd .i64 ((a0.getD (x3).toNat z48).f0) 255)) :: (22, i6 ((a0.getD (x3).toNat z48).f0)) :: (21, pt g1_ (o1_ + (x3).toNat * 3)) :: (20, pt g1_ (o1_ + (x3).toNat * 3)) :: (19, i6 x3) :: (18, .slice Ap0 a0.length cp0) :: (0, .slice Ap0 a0.length cp0) :: (3, .slice A2 x2.length c2) :: (4, i6 x3) :: (15, .bool x4) :: []) _ _ _ [⟨c3, [i6 0, i6 0, i6 0], 48⟩] [orow 48 3 A2 x2.length c2 cs2]
     refine RL.simP (K' := [(5, pt c3 0), (0, .slice Ap0 a0.length cp0), (3, .slice A2 x2.length c2), (4, i6 x3)]) (nx' := nx4) (L' := [⟨c3, [i6 (W .i64 (((bAnd .i64 ((a0.getD (x3).toNat z48).f0) 255).tmod 6) * 7)), i6 (W .i64 (((bAnd .i64 ((a0.getD (x3).toNat z48).f1) 255).tmod 6) * 3)), i6 (W .i64 (1 + ((W .i64 ((((a0.getD (x3).toNat z48).f2).tmod 1048576) + 1048576)).tmod 1048576)))], 48⟩]) [] (RFacts.nil _ _ _) 1 [.l 0] (by kernel_rfl) (by kernel_rfl) ?_
     refine RL.nt ?_
     refine OK.sr ?_
     refine RL.simK (K' := [(48, i6 (W .i64 (((bAnd .i64 ((a0.getD (x3).toNat z48).f1) 255).tmod 6) * 3))), (46, i6 (W .i64 (((bAnd .i64 ((a0.getD (x3).toNat z48).f0) 255).tmod 6) * 7))), (44, .slice A2 x2.length c2), (5, pt c3 0), (0, .slice Ap0 a0.length cp0), (3, .slice A2 x2.length c2), (4, i6 x3)]) [] (RFacts.nil _ _ _) 5 [.no, .no, .l 0, .no, .l 0] (by kernel_rfl) (by kernel_rfl) ?_
     obtain ⟨t1, hA1, H⟩ := bnd H
     refine RL.callP 26 [.slice A2 x2.length c2, i6 (W .i64 (((bAnd .i64 ((a0.getD (x3).toNat z48).f0) 255).tmod 6) * 7)), i6 (W .i64 (((bAnd .i64 ((a0.getD (x3).toNat z48).f1) 255).tmod 6) * 3))] (some 49) (fun w v w' => ∃ I', Imm.le I4 I' ∧ armillaryref23_Value.Post I' w t1 v w') (by kernel_rfl) (by kernel_rfl) (fun w hs => ?_) ?_
     ·skip
      obtain ⟨JL1, hj1, hn1, hw1, hs⟩ := Sat.freeze (e := 48) (sz := 3) (S := A2) (n := x2.length) (cap := c2) (m := 0) hs (by kernel_rfl) (Reps.ext (Imm.le_trans hi3 hi4) hp2) rfl
      exact (armillaryref23_Value.calls kq1 JL1 x2 A2 c2 (W .i64 (((bAnd .i64 ((a0.getD (x3).toNat z48).f0) 255).tmod 6) * 7)) (W .i64 (((bAnd .i64 ((a0.getD (x3).toNat z48).f1) 255).tmod 6) * 3)) _ hs.im hn1 hw1 t1 hA1).mono (fun e w' ⟨v, hv, hp⟩ => ⟨v, hv, JL1, hj1, hp⟩)
     rintro w v w' hs ⟨I', hle, J, rfl, hg⟩
     refine RL.resume (X' := [orow 48 3 A2 x2.length c2 cs2]) rfl (hs.call (hg.back hle)) ?_
     clear hs hg hle I' J
     generalize w'.heap.size = nx5
     clear w w'
     refine RL.st 1 [(50, .bool (t1 == 0)), (5, pt c3 0), (0, .slice Ap0 a0.length cp0), (3, .slice A2 x2.length c2), (4, i6 x3)] ?_
     refine OK.join (fun K' I' _ L' X' => ∃ (x5 : List S48) (A4 : Option Addr) (c4 : Nat) (cs4 : List Value), K' = [(0, .slice Ap0 a0.length cp0), (3, .slice A4 x5.length c4), (4, i6 x3)] ∧ L' = [⟨c3, [i6 (W .i64 (((bAnd .i64 ((a0.getD (x3).toNat z48).f0) 255).tmod 6) * 7)), i6 (W .i64 (((bAnd .i64 ((a0.getD (x3).toNat z48).f1) 255).tmod 6) * 3)), i6 (W .i64 (1 + ((W .i64 ((((a0.getD (x3).toNat z48).f2).tmod 1048576) + 1048576)).tmod 1048576)))], 48⟩] ∧ X' = [orow 48 3 A4 x5.length c4 cs4] ∧ Imm.le I4 I' ∧ Reps t48 I' x5 cs4 ∧ (armillaryref23_Made.l1 a0 kq1 x5 (W .i64 (x3 + 1))) = some y1) ?_ ?_
     ·rintro _ I5 nx6 _ _ ⟨x5, A4, c4, cs4, rfl, rfl, rfl, hi5, hp3, H⟩
      replace H : (armillaryref23_Made.l1 a0 kq1 x5 (W .i64 (x3 + 1))) = some y1 := H
      refine QN.blkN ?_
      refine QN.then_ ?_
      refine OK.rg ?_
      refine RL.s 3 [(4, i6 (W .i64 (x3 + 1))), (0, .slice Ap0 a0.length cp0), (3, .slice A4 x5.length c4)] ?_
      refine RL.nil (by kernel_rfl) ?_
      exact QN.sb (hJ2 _ _ _ _ _ ⟨x5, W .i64 (x3 + 1), A4, c4, cs4, rfl, rfl, rfl, (Imm.le_trans (Imm.le_trans (Imm.le_trans hi2 hi3) hi4) hi5), hp3, H⟩) (.cons _ .slnil) (.refl _)
     ·intro Q_2 hJ4 hQ4
      obtain ⟨y3, H, HK3⟩ := bnd H
      refine OK.cd (t1 == 0) (fun hb => ?_) (fun hb => ?_)
      ·skip
       have hc := (beq_iff_eq.1 hb)
       rw [if_pos hc] at H
       clear hb
       refine OK.rg ?_
       refine RL.simP (K' := [(53, .slice (some ⟨nx5, 0, none⟩) 1 1), (51, .slice A2 x2.length c2), (0, .slice Ap0 a0.length cp0), (3, .slice A2 x2.length c2), (4, i6 x3)]) (nx' := nx5 + 1) (L' := [⟨c3, [i6 (W .i64 (((bAnd .i64 ((a0.getD (x3).toNat z48).f0) 255).tmod 6) * 7)), i6 (W .i64 (((bAnd .i64 ((a0.getD (x3).toNat z48).f1) 255).tmod 6) * 3)), i6 (W .i64 (1 + ((W .i64 ((((a0.getD (x3).toNat z48).f2).tmod 1048576) + 1048576)).tmod 1048576)))], 48⟩, ⟨nx5, [i6 (W .i64 (((bAnd .i64 ((a0.getD (x3).toNat z48).f0) 255).tmod 6) * 7)), i6 (W .i64 (((bAnd .i64 ((a0.getD (x3).toNat z48).f1) 255).tmod 6) * 3)), i6 (W .i64 (1 + ((W .i64 ((((a0.getD (x3).toNat z48).f2).tmod 1048576) + 1048576)).tmod 1048576)))], 48⟩]) [] (RFacts.nil _ _ _) 3 [.no, .l 0, .no] (by kernel_rfl) (by kernel_rfl) ?_
       obtain ⟨hz1, H⟩ := ifs H
       refine RL.appendB (T := 22) (e := 48) (S := A2) 3 24 22 c2 1 1 nx5 48 cs2 [i6 (W .i64 (((bAnd .i64 ((a0.getD (x3).toNat z48).f0) 255).tmod 6) * 7)), i6 (W .i64 (((bAnd .i64 ((a0.getD (x3).toNat z48).f1) 255).tmod 6) * 3)), i6 (W .i64 (1 + ((W .i64 ((((a0.getD (x3).toNat z48).f2).tmod 1048576) + 1048576)).tmod 1048576)))] t48 x2 [(⟨W .i64 (((bAnd .i64 ((a0.getD (x3).toNat z48).f0) 255).tmod 6) * 7), W .i64 (((bAnd .i64 ((a0.getD (x3).toNat z48).f1) 255).tmod 6) * 3), W .i64 (1 + ((W .i64 ((((a0.getD (x3).toNat z48).f2).tmod 1048576) + 1048576)).tmod 1048576))⟩ : S48)] 0 (some 54) (by kernel_rfl) (by kernel_rfl) (by kernel_rfl) (by kernel_rfl) (by kernel_rfl) (by decide) (by kernel_rfl) (Reps.ext (Imm.le_trans hi3 hi4) hp2) (by kernel_rfl) ⟨_, _, rfl, (t48_mk _ _), rfl⟩ hz1 (by omega) (fun A5 c5 nx7 cs5 hp4 => ?_)
       refine RL.sub (K' := [(54, .slice A5 ((x2 ++ [(⟨W .i64 (((bAnd .i64 ((a0.getD (x3).toNat z48).f0) 255).tmod 6) * 7), W .i64 (((bAnd .i64 ((a0.getD (x3).toNat z48).f1) 255).tmod 6) * 3), W .i64 (1 + ((W .i64 ((((a0.getD (x3).toNat z48).f2).tmod 1048576) + 1048576)).tmod 1048576))⟩ : S48)]).length) c5), (53, .slice (some ⟨nx5, 0, none⟩) 1 1), (0, .slice Ap0 a0.length cp0), (4, i6 x3)]) (L' := [⟨c3, [i6 (W .i64 (((bAnd .i64 ((a0.getD (x3).toNat z48).f0) 255).tmod 6) * 7)), i6 (W .i64 (((bAnd .i64 ((a0.getD (x3).toNat z48).f1) 255).tmod 6) * 3)), i6 (W .i64 (1 + ((W .i64 ((((a0.getD (x3).toNat z48).f2).tmod 1048576) + 1048576)).tmod 1048576)))], 48⟩, ⟨nx5, [i6 (W .i64 (((bAnd .i64 ((a0.getD (x3).toNat z48).f0) 255).tmod 6) * 7)), i6 (W .i64 (((bAnd .i64 ((a0.getD (x3).toNat z48).f1) 255).tmod 6) * 3)), i6 (W .i64 (1 + ((W .i64 ((((a0.getD (x3).toNat z48).f2).tmod 1048576) + 1048576)).tmod 1048576)))], 48⟩]) (X' := [orow 48 3 A5 ((x2 ++ [(⟨W .i64 (((bAnd .i64 ((a0.getD (x3).toNat z48).f0) 255).tmod 6) * 7), W .i64 (((bAnd .i64 ((a0.getD (x3).toNat z48).f1) 255).tmod 6) * 3), W .i64 (1 + ((W .i64 ((((a0.getD (x3).toNat z48).f2).tmod 1048576) + 1048576)).tmod 1048576))⟩ : S48)]).length) c5 cs5]) (by kernel_rfl) (.refl _) (.refl _) ?_
       refine RL.s 1 [(3, .slice A5 ((x2 ++ [(⟨W .i64 (((bAnd .i64 ((a0.getD (x3).toNat z48).f0) 255).tmod 6) * 7), W .i64 (((bAnd .i64 ((a0.getD (x3).toNat z48).f1) 255).tmod 6) * 3), W .i64 (1 + ((W .i64 ((((a0.getD (x3).toNat z48).f2).tmod 1048576) + 1048576)).tmod 1048576))⟩ : S48)]).length) c5), (0, .slice Ap0 a0.length cp0), (4, i6 x3)] ?_
       refine RL.nil (by kernel_rfl) ?_
       obtain rfl := Option.some.inj H
       exact QN.sb (hJ4 _ _ _ _ _ ⟨(x2 ++ [(⟨W .i64 (((bAnd .i64 ((a0.getD (x3).toNat z48).f0) 255).tmod 6) * 7), W .i64 (((bAnd .i64 ((a0.getD (x3).toNat z48).f1) 255).tmod 6) * 3), W .i64 (1 + ((W .i64 ((((a0.getD (x3).toNat z48).f2).tmod 1048576) + 1048576)).tmod 1048576))⟩ : S48)]), A5, c5, cs5, rfl, rfl, rfl, (Imm.le_refl _), hp4, HK3⟩) (.cons_cons _ (.cons _ .slnil)) (.refl _)
      ·skip
       have hc := (beq_eq_false_iff_ne.1 hb)
       rw [if_neg hc] at H
       clear hb
       refine OK.sk ?_
       obtain rfl := Option.some.inj H
       exact QN.sb (hJ4 _ _ _ _ _ ⟨x2, A2, c2, cs2, rfl, rfl, rfl, (Imm.le_refl _), (Reps.ext (Imm.le_trans hi3 hi4) hp2), HK3⟩) (.cons_cons _ .slnil) (.refl _)
    ·skip
     have hc := (Bool.eq_false_iff.1 hb)
     rw [if_neg hc] at H
     clear hb
     refine OK.ex 0 ?_
     refine QN.thenE ?_
     refine QN.outE hQ2 ?_
     refine QN.blkE ?_
     obtain rfl := Option.some.inj H
     exact QN.sb (hJ1 _ _ _ _ _ ⟨x2, A2, c2, cs2, rfl, rfl, rfl, (Imm.le_trans hi2 hi3), (Reps.ext hi3 hp2), HK1⟩) .slnil (.refl _)
   ·intro Q_3 hJ3 hQ3
    obtain ⟨y2, H, HK2⟩ := bnd H
    refine OK.rg ?_
    refine RL.s 5 [(11, .bool (decide (x3 < (a0.length : Int)))), (0, .slice Ap0 a0.length cp0), (3, .slice A2 x2.length c2), (4, i6 x3)] ?_
    refine RL.cases (decide (x3 < (a0.length : Int))) (fun hb => ?_) (fun hb => ?_)
    ·have hc := (of_decide_eq_true hb)
     rw [hb]
     rw [if_pos hc] at H; clear hb
     refine RL.s 4 [(15, .bool (decide ((x2.length : Int) < 36))), (0, .slice Ap0 a0.length cp0), (3, .slice A2 x2.length c2), (4, i6 x3)] ?_
     refine RL.nil (by kernel_rfl) ?_
     obtain rfl := Option.some.inj H
     exact QN.sb (hJ3 _ _ _ _ _ ⟨(decide ((x2.length : Int) < 36)), rfl, rfl, rfl, (Imm.le_refl _), HK2⟩) .slnil (.refl _)
    ·have hc := (of_decide_eq_false hb)
     rw [hb]
     rw [if_neg hc] at H; clear hb
     refine RL.s 4 [(15, .bool false), (0, .slice Ap0 a0.length cp0), (3, .slice A2 x2.length c2), (4, i6 x3)] ?_
     refine RL.nil (by kernel_rfl) ?_
     obtain rfl := Option.some.inj H
     exact QN.sb (hJ3 _ _ _ _ _ ⟨false, rfl, rfl, rfl, (Imm.le_refl _), HK2⟩) .slnil (.refl _)

end Go.Proofs.Ytihmbmeelheinaa
namespace Go.Proofs.Ytihmbmeelheinaa
open Go Go.Proofs.Ytihmbmeelheinaa.RW
set_option linter.unusedVariables false
set_option maxRecDepth 100000
set_option maxHeartbeats 8000000

/-! ### armillarylaw23_sameInts: function 20, armillary/armillarylaw23.sameInts -/
noncomputable def K20_0 : Code := cBody Try.f20
noncomputable def O20_29 : List Oper := cOps (cL (cL (cL (cR (cL (cL (cR (cL (cR (cR K20_0))))))))))
def armillarylaw23_sameInts.k1  : (Unit) ⊕ (Bool) → Option (Bool)
 | .inl () => (some true)
 | .inr r_ => some r_
def armillarylaw23_sameInts.l1 (a0 : List Int) (a1 : List Int) : Nat → Int → Option ((Unit) ⊕ (Bool))
 | 0, _ => none
 | k + 1, x1 => (if x1 < (a0.length : Int) then (if 0 ≤ x1 then (if x1 < (a0.length : Int) then (if 0 ≤ x1 then (if x1 < (a1.length : Int) then (if (a0.getD (x1).toNat 0) ≠ (a1.getD (x1).toNat 0) then (some (Sum.inr false)) else (armillarylaw23_sameInts.l1 a0 a1 k (W .i64 (x1 + 1)))) else none) else none) else none) else none) else (some (Sum.inl ())))
def armillarylaw23_sameInts.f (k : Nat) (a0 : List Int) (a1 : List Int) : Option (Bool) := (if (a0.length : Int) ≠ (a1.length : Int) then (some false) else ((armillarylaw23_sameInts.l1 a0 a1 k 0).bind (armillarylaw23_sameInts.k1)))
def armillarylaw23_sameInts.Post (I : Imm) (w : World) (r : Bool) (v : Value) (w' : World) : Prop :=
 ∃ (J : Imm), v = .bool r ∧ Got w w' I J []
noncomputable def a20_29n : List Nat := [0, 0, 3, 7, 0, 0, 48, 112, 255]
theorem a20_29 : ancs O20_29 [] = a20_29n := by kernel_rfl
theorem a20_29o : drawOk O20_29 a20_29n 8 = true := by kernel_rfl
noncomputable def u20d1l  : List Ld :=
 []
noncomputable def u20d1g (x1 : Int) (g1_ : Nat) (o1_ : Nat) (g2_ : Nat) (o2_ : Nat) : List (Nat × ((Nat → Wt) → Value)) := [(2, fun u => pt g1_ (o1_ + (x1).toNat * 1)), (6, fun u => pt g2_ (o2_ + (x1).toNat * 1))]
noncomputable def u20d1q (a0 : List Int) (Ap0 : Option Addr) (cp0 : Nat) (a1 : List Int) (Ap1 : Option Addr) (cp1 : Nat) (x1 : Int) (g1_ : Nat) (o1_ : Nat) (g2_ : Nat) (o2_ : Nat) (u : Nat → Wt) : Option (List Value × List (Nat × Value) × List (Nat × Nat)) := qSim Try.prog [(⟨g1_, o1_ + (x1).toNat * 1, none⟩, i6 (a0.getD (x1).toNat 0)), (⟨g2_, o2_ + (x1).toNat * 1, none⟩, i6 (a1.getD (x1).toNat 0))] [] O20_29 ⟨26, []⟩ (Ld.vl u20d1l) (u20d1g x1 g1_ o1_ g2_ o2_) u [.no, .no, .no, .r 0, .no, .no, .no, .r 1] 0 (O20_29.take 8) [(14, .bool (decide (x1 < (a0.length : Int)))), (0, .slice Ap0 a0.length cp0), (1, .slice Ap1 a1.length cp1), (5, i6 x1)]
noncomputable def u20d1s (a0 : List Int) (Ap0 : Option Addr) (cp0 : Nat) (a1 : List Int) (Ap1 : Option Addr) (cp1 : Nat) (x1 : Int) (g1_ : Nat) (o1_ : Nat) (g2_ : Nat) (o2_ : Nat) (u : Nat → Wt) : List Value := [.slice Ap0 a0.length cp0, i6 x1, pt g1_ (o1_ + (x1).toNat * 1), i6 (a0.getD (x1).toNat 0), .slice Ap1 a1.length cp1, i6 x1, pt g2_ (o2_ + (x1).toNat * 1), i6 (a1.getD (x1).toNat 0)]
noncomputable def u20d1f (a0 : List Int) (Ap0 : Option Addr) (cp0 : Nat) (a1 : List Int) (Ap1 : Option Addr) (cp1 : Nat) (x1 : Int) (g1_ : Nat) (o1_ : Nat) (g2_ : Nat) (o2_ : Nat) (i : Nat) (u : Nat → Wt) : List (Nat × Value) := foldPut ⟨26, []⟩ [(14, .bool (decide (x1 < (a0.length : Int)))), (0, .slice Ap0 a0.length cp0), (1, .slice Ap1 a1.length cp1), (5, i6 x1)] (O20_29.take i) (((u20d1s a0 Ap0 cp0 a1 Ap1 cp1 x1 g1_ o1_ g2_ o2_) u).take i)
theorem u20d1v (a0 : List Int) (Ap0 : Option Addr) (cp0 : Nat) (a1 : List Int) (Ap1 : Option Addr) (cp1 : Nat) (x1 : Int) (g1_ : Nat) (o1_ : Nat) (g2_ : Nat) (o2_ : Nat) (u : Nat → Wt) : (u20d1q a0 Ap0 cp0 a1 Ap1 cp1 x1 g1_ o1_ g2_ o2_ u).map (fun x => (x.1, x.2.1)) = some ((u20d1s a0 Ap0 cp0 a1 Ap1 cp1 x1 g1_ o1_ g2_ o2_) u, (u20d1f a0 Ap0 cp0 a1 Ap1 cp1 x1 g1_ o1_ g2_ o2_ 8) u) := by kernel_rfl
theorem u20d1e (a0 : List Int) (Ap0 : Option Addr) (cp0 : Nat) (a1 : List Int) (Ap1 : Option Addr) (cp1 : Nat) (x1 : Int) (g1_ : Nat) (o1_ : Nat) (g2_ : Nat) (o2_ : Nat) (u : Nat → Wt) : (u20d1q a0 Ap0 cp0 a1 Ap1 cp1 x1 g1_ o1_ g2_ o2_ u).map (fun x => x.2.2.map (·.1)) = (u20d1q a0 Ap0 cp0 a1 Ap1 cp1 x1 g1_ o1_ g2_ o2_ u).map (fun x => x.2.2.map (·.2)) := by kernel_rfl
theorem armillarylaw23_sameInts.calls (k : Nat) (I0 : Imm) (a0 : List Int) (Ap0 : Option Addr) (cp0 : Nat) (a1 : List Int) (Ap1 : Option Addr) (cp1 : Nat) (w : World) (hI : I0.at_ w) (hlp0 : a0.length ≤ cp0) (hrp0 : Rd (Ty.int .i64) I0 Ap0 a0) (hlp1 : a1.length ≤ cp1) (hrp1 : Rd (Ty.int .i64) I0 Ap1 a1) (r : Bool) (h : armillarylaw23_sameInts.f k a0 a1 = some r) :
  Calls Try.prog 20 [.slice Ap0 a0.length cp0, .slice Ap1 a1.length cp1].toArray w fun e w' => ∃ v, e = .returned v ∧ armillarylaw23_sameInts.Post I0 w r v w' := by
 have H : (if (a0.length : Int) ≠ (a1.length : Int) then (some false) else ((armillarylaw23_sameInts.l1 a0 a1 k 0).bind (armillarylaw23_sameInts.k1))) = some r := h
 clear h
 refine calls_body Try.func20 (by kernel_rfl) 26 (by kernel_rfl) (by kernel_rfl) ⟨w, fun _ => False, I0⟩ I0 [] [(0, .slice Ap0 a0.length cp0), (1, .slice Ap1 a1.length cp1)] (by kernel_rfl) (Sat.start w _ I0 hI) ?_
 generalize w.heap.size = nx0
 show OK _ K20_0 _ _ _ _ _ _ _ _
 refine OK.sr ?_
 refine RL.st 1 [(0, .slice Ap0 a0.length cp0), (1, .slice Ap1 a1.length cp1)] ?_
 refine OK.sq ?_
 refine OK.sr ?_
 refine RL.st 5 [(10, .bool ((a0.length : Int) != (a1.length : Int))), (0, .slice Ap0 a0.length cp0), (1, .slice Ap1 a1.length cp1)] ?_
 refine OK.cd ((a0.length : Int) != (a1.length : Int)) (fun hb => ?_) (fun hb => ?_)
 ·skip
  have hc := (bne_iff_ne.1 hb)
  rw [if_pos hc] at H
  clear hb
  refine OK.sr ?_
  refine RL.st 1 [(4, .bool false)] ?_
  refine OK.re ?_
  refine QN.thenR ?_
  obtain rfl := Option.some.inj H
  refine QN.body rfl [] (RFacts.nil _ _ _) (.no) (.bool false) (by kernel_rfl) (by kernel_rfl) (by kernel_rfl) ?_ _ (.inr rfl)
  exact fun w' hs' => ⟨_, rfl, I0, rfl, hs'.got _ .slnil⟩
 ·skip
  have hc := (not_not_intro (bne_eq_false_iff_eq.1 hb))
  rw [if_neg hc] at H
  clear hb
  refine OK.skt ?_
  refine OK.sq ?_
  refine OK.sr ?_
  refine RL.st 1 [(5, i6 0), (0, .slice Ap0 a0.length cp0), (1, .slice Ap1 a1.length cp1)] ?_
  refine OK.join (fun K' I' _ L' X' => K' = [] ∧ L' = [] ∧ X' = [] ∧ Imm.le I0 I' ∧ armillarylaw23_sameInts.k1 (Sum.inl ()) = some r) ?_ ?_
  ·rintro _ I1 nx1 _ _ ⟨rfl, rfl, rfl, hi1, H⟩
   rw [armillarylaw23_sameInts.k1] at H
   refine QN.then_ ?_
   refine OK.sr ?_
   refine RL.st 1 [(4, .bool true)] ?_
   refine OK.re ?_
   obtain rfl := Option.some.inj H
   refine QN.body rfl [] (RFacts.nil _ _ _) (.no) (.bool true) (by kernel_rfl) (by kernel_rfl) (by kernel_rfl) ?_ _ (.inr rfl)
   exact fun w' hs' => ⟨_, rfl, I1, rfl, hs'.got _ .slnil⟩
  ·intro Q_1 hJ1 hQ1
   obtain ⟨y1, H, HK1⟩ := bnd H
   refine OK.bk 0 ?_
   refine OK.sub (K' := [(0, .slice Ap0 a0.length cp0), (1, .slice Ap1 a1.length cp1), (5, i6 0)]) (L' := []) (by kernel_rfl) .slnil (.refl _) ?_
   refine OK.lp (fun n_ K' I' _ L' X' => ∃ (x1 : Int), K' = [(0, .slice Ap0 a0.length cp0), (1, .slice Ap1 a1.length cp1), (5, i6 x1)] ∧ L' = [] ∧ X' = [] ∧ Imm.le I0 I' ∧ armillarylaw23_sameInts.l1 a0 a1 n_ x1 = some y1) k ⟨0, rfl, rfl, rfl, (Imm.le_refl _), H⟩ ?_ ?_
   ·rintro _ _ _ _ _ ⟨x1, rfl, rfl, rfl, _, H⟩
    cases H
   ·rintro kq1 _ I2 nx2 _ _ ⟨x1, rfl, rfl, rfl, hi2, H⟩ Q_l1 hJ2 hQ2
    rw [armillarylaw23_sameInts.l1] at H
    refine OK.sq ?_
    refine OK.sr ?_
    refine RL.st 4 [(14, .bool (decide (x1 < (a0.length : Int)))), (0, .slice Ap0 a0.length cp0), (1, .slice Ap1 a1.length cp1), (5, i6 x1)] ?_
    refine OK.cd (decide (x1 < (a0.length : Int))) (fun hb => ?_) (fun hb => ?_)
    ·skip
     have hc := (of_decide_eq_true hb)
     rw [if_pos hc] at H
     clear hb
     refine OK.skt ?_
     refine OK.sq ?_
     refine OK.bk 1 ?_
     refine OK.sq ?_
     obtain ⟨hi0_1, H⟩ := ifs H
     obtain ⟨hi1_1, H⟩ := ifs H
     obtain ⟨g1_, o1_, hA1_, hc1_⟩ := Ty.int_at (Rd.ext hi2 hrp0) x1 hi0_1 hi1_1
     obtain ⟨hi0_2, H⟩ := ifs H
     obtain ⟨hi1_2, H⟩ := ifs H
     obtain ⟨g2_, o2_, hA2_, hc2_⟩ := Ty.int_at (Rd.ext hi2 hrp1) x1 hi0_2 hi1_2
     refine OK.drawnC 6 8 O20_29 a20_29n (by kernel_rfl) (by kernel_rfl) u20d1l (u20d1g x1 g1_ o1_ g2_ o2_) [(⟨g1_, o1_ + (x1).toNat * 1, none⟩, i6 (a0.getD (x1).toNat 0)), (⟨g2_, o2_ + (x1).toNat * 1, none⟩, i6 (a1.getD (x1).toNat 0))] (RI.cons (hc1_ 0 _ rfl) (RI.cons (hc2_ 0 _ rfl) (RI.nil _))) [.no, .no, .no, .r 0, .no, .no, .no, .r 1] a20_29 a20_29o (by kernel_rfl) (by kernel_rfl) (u20d1s a0 Ap0 cp0 a1 Ap1 cp1 x1 g1_ o1_ g2_ o2_) (u20d1f a0 Ap0 cp0 a1 Ap1 cp1 x1 g1_ o1_ g2_ o2_ 8) (u20d1v a0 Ap0 cp0 a1 Ap1 cp1 x1 g1_ o1_ g2_ o2_) (u20d1e a0 Ap0 cp0 a1 Ap1 cp1 x1 g1_ o1_ g2_ o2_) [] framesOk.nil ?_ [u20d1f a0 Ap0 cp0 a1 Ap1 cp1 x1 g1_ o1_ g2_ o2_ 2, u20d1f a0 Ap0 cp0 a1 Ap1 cp1 x1 g1_ o1_ g2_ o2_ 6] (framesOk.cons (fun u => rfl) (framesOk.cons (fun u => rfl) framesOk.nil)) ?_ ?_
     ·refine LoudsG.nil
     ·refine Givens.cons (fun u w =>  ?_) (fun _ _ _ => rfl) (Givens.cons (fun u w =>  ?_) (fun _ _ _ => rfl) (Givens.nil))
      ·exact giv_idx (T := 26) (e := 3) 1 .i64 x1 hA1_ a0.length cp0 (by kernel_rfl) (by kernel_rfl) (by kernel_rfl) hi0_1 hi1_1 w
      ·exact giv_idx (T := 26) (e := 3) 1 .i64 x1 hA2_ a1.length cp1 (by kernel_rfl) (by kernel_rfl) (by kernel_rfl) hi0_2 hi1_2 w
     intro u I3 nx3 hi3 hF
     clear hF
     refine RL.norm (K' := [(24, i6 (a1.getD (x1).toNat 0)), (23, pt g2_ (o2_ + (x1).toNat * 1)), (22, i6 x1), (21, .slice Ap1 a1.length cp1), (20, i6 (a0.getD (x1).toNat 0)), (19, pt g1_ (o1_ + (x1).toNat * 1)), (18, i6 x1), (17, .slice Ap0 a0.length cp0), (14, .bool (decide (x1 < (a0.length : Int)))), (0, .slice Ap0 a0.length cp0), (1, .slice Ap1 a1.length cp1), (5, i6 x1)]) (X' := []) (by kernel_rfl) rfl rfl rfl ?_
     refine RL.st 1 [(25, .bool ((a0.getD (x1).toNat 0) != (a1.getD (x1).toNat 0))), (0, .slice Ap0 a0.length cp0), (1, .slice Ap1 a1.length cp1), (5, i6 x1)] ?_
     refine OK.cd ((a0.getD (x1).toNat 0) != (a1.getD (x1).toNat 0)) (fun hb => ?_) (fun hb => ?_)
     ·skip
      have hc := (bne_iff_ne.1 hb)
      rw [if_pos hc] at H
      clear hb
      refine OK.sr ?_
      refine RL.st 1 [(4, .bool false)] ?_
      refine OK.re ?_
      refine QN.blkR ?_
      refine QN.thenR ?_
      refine QN.outR hQ2 ?_
      refine QN.blkR ?_
      refine QN.outR hQ1 ?_
      refine QN.thenR ?_
      obtain rfl := Option.some.inj H
      replace H : some false = some r := HK1
      obtain rfl := Option.some.inj H
      refine QN.body rfl [] (RFacts.nil _ _ _) (.no) (.bool false) (by kernel_rfl) (by kernel_rfl) (by kernel_rfl) ?_ _ (.inr rfl)
      exact fun w' hs' => ⟨_, rfl, I3, rfl, hs'.got _ .slnil⟩
     ·skip
      have hc := (not_not_intro (bne_eq_false_iff_eq.1 hb))
      rw [if_neg hc] at H
      clear hb
      refine OK.sk ?_
      refine QN.blkN ?_
      refine QN.then_ ?_
      refine OK.rg ?_
      refine RL.s 3 [(5, i6 (W .i64 (x1 + 1))), (0, .slice Ap0 a0.length cp0), (1, .slice Ap1 a1.length cp1)] ?_
      refine RL.nil (by kernel_rfl) ?_
      exact QN.sb (hJ2 _ _ _ _ _ ⟨W .i64 (x1 + 1), rfl, rfl, rfl, (Imm.le_trans hi2 hi3), H⟩) .slnil (.refl _)
    ·skip
     have hc := (of_decide_eq_false hb)
     rw [if_neg hc] at H
     clear hb
     refine OK.ex 0 ?_
     refine QN.thenE ?_
     refine QN.outE hQ2 ?_
     refine QN.blkE ?_
     obtain rfl := Option.some.inj H
     exact QN.sb (hJ1 _ _ _ _ _ ⟨rfl, rfl, rfl, hi2, HK1⟩) .slnil (.refl _)

end Go.Proofs.Ytihmbmeelheinaa
namespace Go.Proofs.Ytihmbmeelheinaa
open Go Go.Proofs.Ytihmbmeelheinaa.RW
set_option linter.unusedVariables false
set_option maxRecDepth 100000
set_option maxHeartbeats 8000000

/-! ### armillarylaw23_shaped: function 25, armillary/armillarylaw23.shaped -/
noncomputable def K25_0 : Code := cBody Try.f25
def armillarylaw23_shaped.k1  (x1 : Bool) : Option (Bool) := (some x1)
def armillarylaw23_shaped.f (a0 : S29) : Option (Bool) := ((if (a0.f1.length : Int) = (a0.f0.length : Int) then (some ((a0.f2.length : Int) == (a0.f0.length : Int))) else (some false)).bind (armillarylaw23_shaped.k1))
def armillarylaw23_shaped.Post (I : Imm) (w : World) (r : Bool) (v : Value) (w' : World) : Prop :=
 ∃ (J : Imm), v = .bool r ∧ Got w w' I J []
theorem armillarylaw23_shaped.calls (I0 : Imm) (a0 : S29) (Ap0_0 : Option Addr) (cp0_0 : Nat) (Ap0_1 : Option Addr) (cp0_1 : Nat) (Ap0_2 : Option Addr) (cp0_2 : Nat) (w : World) (hI : I0.at_ w) (hlp0_0 : a0.f0.length ≤ cp0_0) (hrp0_0 : Rd (Ty.int .i64) I0 Ap0_0 a0.f0) (hlp0_1 : a0.f1.length ≤ cp0_1) (hrp0_1 : Rd (Ty.int .i64) I0 Ap0_1 a0.f1) (hlp0_2 : a0.f2.length ≤ cp0_2) (hrp0_2 : Rd (Ty.int .i64) I0 Ap0_2 a0.f2) (r : Bool) (h : armillarylaw23_shaped.f a0 = some r) :
  Calls Try.prog 25 [.agg #[.slice Ap0_0 a0.f0.length cp0_0, .slice Ap0_1 a0.f1.length cp0_1, .slice Ap0_2 a0.f2.length cp0_2]].toArray w fun e w' => ∃ v, e = .returned v ∧ armillarylaw23_shaped.Post I0 w r v w' := by
 have H : ((if (a0.f1.length : Int) = (a0.f0.length : Int) then (some ((a0.f2.length : Int) == (a0.f0.length : Int))) else (some false)).bind (armillarylaw23_shaped.k1)) = some r := h
 clear h
 refine calls_body Try.func25 (by kernel_rfl) 19 (by kernel_rfl) (by kernel_rfl) ⟨w, fun _ => False, I0⟩ I0 [] [(0, .agg #[.slice Ap0_0 a0.f0.length cp0_0, .slice Ap0_1 a0.f1.length cp0_1, .slice Ap0_2 a0.f2.length cp0_2])] (by kernel_rfl) (Sat.start w _ I0 hI) ?_
 generalize w.heap.size = nx0
 show OK _ K25_0 _ _ _ _ _ _ _ _
 refine OK.sr ?_
 refine RL.spt 2 [(1, pt nx0 0)] (nx0 + 1) [⟨nx0, [.slice Ap0_0 a0.f0.length cp0_0, .slice Ap0_1 a0.f1.length cp0_1, .slice Ap0_2 a0.f2.length cp0_2], 29⟩] ?_
 refine OK.sq ?_
 refine OK.join (fun K' I' _ L' X' => ∃ (x1 : Bool), K' = [(2, .bool x1)] ∧ L' = [⟨nx0, [.slice Ap0_0 a0.f0.length cp0_0, .slice Ap0_1 a0.f1.length cp0_1, .slice Ap0_2 a0.f2.length cp0_2], 29⟩] ∧ X' = [] ∧ Imm.le I0 I' ∧ armillarylaw23_shaped.k1 x1 = some r) ?_ ?_
 ·rintro _ I1 nx1 _ _ ⟨x1, rfl, rfl, rfl, hi1, H⟩
  rw [armillarylaw23_shaped.k1] at H
  refine QN.then_ ?_
  refine OK.re ?_
  obtain rfl := Option.some.inj H
  refine QN.body rfl [] (RFacts.nil _ _ _) (.no) (.bool x1) (by kernel_rfl) (by kernel_rfl) (by kernel_rfl) ?_ _ (.inr rfl)
  exact fun w' hs' => ⟨_, rfl, I1, rfl, hs'.got _ .slnil⟩
 ·intro Q_1 hJ1 hQ1
  obtain ⟨y1, H, HK1⟩ := bnd H
  refine OK.rg ?_
  refine RL.simK (K' := [(10, .bool ((a0.f1.length : Int) == (a0.f0.length : Int))), (1, pt nx0 0)]) [] (RFacts.nil _ _ _) 8 [.no, .l 0, .no, .no, .l 0, .no, .no, .no] (by kernel_rfl) (by kernel_rfl) ?_
  refine RL.cases ((a0.f1.length : Int) == (a0.f0.length : Int)) (fun hb => ?_) (fun hb => ?_)
  ·have hc := (beq_iff_eq.1 hb)
   rw [hb]
   rw [if_pos hc] at H; clear hb
   refine RL.simK (K' := [(2, .bool ((a0.f2.length : Int) == (a0.f0.length : Int)))]) [] (RFacts.nil _ _ _) 9 [.no, .l 0, .no, .no, .l 0, .no, .no, .no, .no] (by kernel_rfl) (by kernel_rfl) ?_
   refine RL.nil (by kernel_rfl) ?_
   obtain rfl := Option.some.inj H
   exact QN.sb (hJ1 _ _ _ _ _ ⟨((a0.f2.length : Int) == (a0.f0.length : Int)), rfl, rfl, rfl, (Imm.le_refl _), HK1⟩) (.cons_cons _ .slnil) (.refl _)
  ·have hc := (beq_eq_false_iff_ne.1 hb)
   rw [hb]
   rw [if_neg hc] at H; clear hb
   refine RL.s 9 [(2, .bool false)] ?_
   refine RL.nil (by kernel_rfl) ?_
   obtain rfl := Option.some.inj H
   exact QN.sb (hJ1 _ _ _ _ _ ⟨false, rfl, rfl, rfl, (Imm.le_refl _), HK1⟩) (.cons_cons _ .slnil) (.refl _)

end Go.Proofs.Ytihmbmeelheinaa
namespace Go.Proofs.Ytihmbmeelheinaa
open Go Go.Proofs.Ytihmbmeelheinaa.RW
set_option linter.unusedVariables false
set_option maxRecDepth 100000
set_option maxHeartbeats 8000000

/-! ### armillaryref23_Except: function 27, armillary/armillaryref23.Except -/
noncomputable def K27_0 : Code := cBody Try.f27
def armillaryref23_Except.k1  (x1 : List S48) : Option (List S48) := (some x1)
def armillaryref23_Except.l1 (a0 : List S48) (a1 : Int) : Nat → (List S48) → Int → Option (List S48)
 | 0, _, _ => none
 | k + 1, x2, x3 => (if x3 < (a0.length : Int) then (if 0 ≤ x3 then (if x3 < (a0.length : Int) then ((if ((a0.getD (x3).toNat z48).f0) ≠ a1 then (if 0 ≤ x3 then (if x3 < (a0.length : Int) then (if (x2.length + [(a0.getD (x3).toNat z48)].length) * 24 ≤ 140737488355328 then (some (x2 ++ [(a0.getD (x3).toNat z48)])) else none) else none) else none) else (some x2)).bind (fun x4 => (armillaryref23_Except.l1 a0 a1 k x4 (W .i64 (x3 + 1))))) else none) else none) else (some x2))
def armillaryref23_Except.f (k : Nat) (a0 : List S48) (a1 : Int) : Option (List S48) := ((armillaryref23_Except.l1 a0 a1 k ([] : List S48) 0).bind (armillaryref23_Except.k1))
def armillaryref23_Except.Post (I : Imm) (w : World) (r : List S48) (v : Value) (w' : World) : Prop :=
 ∃ (J : Imm) (A0 : Option Addr) (c0 : Nat) (cs0 : List Value), v = .slice A0 r.length c0 ∧ Got w w' I J [orow 48 3 A0 r.length c0 cs0] ∧ Reps t48 J r cs0
end Go.Proofs.Ytihmbmeelheinaa
namespace Go.Proofs.Ytihmbmeelheinaa.auc
open Go Go.Proofs.Ytihmbmeelheinaa Go.Proofs.Ytihmbmeelheinaa.RW
set_option linter.unusedVariables false
set_option maxRecDepth 100000
/-! ### fuel -/
def Ev {α : Type} (f : Nat → Option α) (r : α) : Prop := ∃ N, ∀ k, N ≤ k → f k = some r
theorem Ev.bind {α β : Type} {f : Nat → Option α} {g : Nat → α → Option β} {r : α} {s : β} (h : Ev f r) (h2 : Ev (fun k => g k r) s) : Ev (fun k => (f k).bind (g k)) s := by
 obtain ⟨N, h⟩ := h
 obtain ⟨M, h2⟩ := h2
 exact ⟨max N M, fun k hk => by show (f k).bind (g k) = _; rw [h k (by omega)]; exact h2 k (by omega)⟩
theorem Ev.const {α : Type} {x : Option α} {r : α} (h : x = some r) : Ev (fun _ => x) r := ⟨0, fun _ _ => h⟩
theorem Ev.succ {α : Type} {f g : Nat → Option α} {r : α} (h : ∀ k, f (k + 1) = g k) (hg : Ev g r) : Ev f r := by
 obtain ⟨N, hg⟩ := hg
 refine ⟨N + 1, fun k hk => ?_⟩
 obtain ⟨m, rfl⟩ : ∃ m, k = m + 1 := ⟨k - 1, by omega⟩
 rw [h]
 exact hg m (by omega)
theorem Ev.congr {α : Type} {f g : Nat → Option α} {r : α} (h : ∀ k, f k = g k) (hg : Ev g r) : Ev f r := by
 obtain ⟨N, hg⟩ := hg
 exact ⟨N, fun k hk => (h k).trans (hg k hk)⟩
theorem Ev.get {α : Type} {f : Nat → Option α} {r : α} (h : Ev f r) : ∃ k, f k = some r := ⟨h.choose, h.choose_spec _ (Nat.le_refl _)⟩
theorem Ev.bind1 {α β : Type} {x : Option α} {g : Nat → α → Option β} {r : α} {s : β} (h : x = some r) (h2 : Ev (fun k => g k r) s) : Ev (fun k => x.bind (g k)) s := Ev.bind (Ev.const h) h2
theorem Ev.of {α : Type} {f : Nat → Option α} {r : α} (N : Nat) (h : ∀ k, N ≤ k → f k = some r) : Ev f r := ⟨N, h⟩
theorem W64 {x : Int} (h1 : -9223372036854775808 ≤ x) (h2 : x ≤ 9223372036854775807) : W .i64 x = x := by
 show IntKind.i64.wrap x = x
 rw [IntKind.wrap_i64]
 omega
theorem Wn {n : Nat} (h : n < 1000000000000) : W .i64 ((n : Int) + 1) = ((n + 1 : Nat) : Int) := by
 rw [W64 (by omega) (by omega)]; rfl
theorem tn (n : Nat) : ((n : Int)).toNat = n := Int.toNat_natCast n
theorem gD {α : Type} {l : List α} {n : Nat} (h : n < l.length) (z : α) : l.getD n z = l[n] := by
 rw [List.getD_eq_getElem?_getD, List.getElem?_eq_getElem h]; rfl

/-! ### maps as lists of pairs -/
section
variable {α β : Type} [DecidableEq α]
theorem mput_keys : ∀ (l : List (α × β)) (a : α) (b : β), (mput l a b).map (·.1) = if a ∈ l.map (·.1) then l.map (·.1) else l.map (·.1) ++ [a]
 | [], a, b => by simp [mput]
 | (x, c) :: r, a, b => by
  simp only [mput]
  by_cases h : a = x
  ·subst h; simp
  ·rw [if_neg h, List.map_cons, mput_keys r a b]
   by_cases h2 : a ∈ r.map (·.1)
   ·rw [if_pos h2, List.map_cons, if_pos (List.mem_cons_of_mem _ h2)]
   ·rw [if_neg h2, List.map_cons, if_neg (fun h3 => (List.mem_cons.1 h3).elim h h2)]
    rfl
def puts {γ : Type} (f : γ → α) (v : γ → β) (m : List (α × β)) (l : List γ) : List (α × β) := l.foldl (fun m x => mput m (f x) (v x)) m
theorem puts_nodup {γ : Type} {f : γ → α} {v : γ → β} : ∀ (l : List γ) (m : List (α × β)), (m.map (·.1)).Nodup → ((puts f v m l).map (·.1)).Nodup
 | [], _, h => h
 | x :: r, m, h => by
  refine puts_nodup r _ ?_
  rw [mput_keys]
  split
  ·exact h
  ·rename_i hn
   exact List.nodup_append.2 ⟨h, by simp, fun a ha b hb e => by rw [List.mem_singleton.1 hb] at e; exact hn (e ▸ ha)⟩
theorem puts_mem {γ : Type} {f : γ → α} {v : γ → β} : ∀ (l : List γ) (m : List (α × β)) (a : α), a ∈ (puts f v m l).map (·.1) ↔ a ∈ m.map (·.1) ∨ a ∈ l.map f
 | [], _, a => by simp [puts]
 | x :: r, m, a => by
  show a ∈ (puts f v (mput m (f x) (v x)) r).map (·.1) ↔ _
  rw [puts_mem r _ a, mput_keys]
  split
  ·rename_i h
   simp only [List.map_cons, List.mem_cons]
   constructor
   ·rintro (h1 | h1)
    ·exact .inl h1
    ·exact .inr (.inr h1)
   ·rintro (h1 | h1 | h1)
    ·exact .inl h1
    ·exact .inl (h1 ▸ h)
    ·exact .inr h1
  ·simp only [List.mem_append, List.map_cons, List.mem_cons, List.not_mem_nil, or_false]
   constructor
   ·rintro ((h1 | h1) | h1)
    ·exact .inl h1
    ·exact .inr (.inl h1)
    ·exact .inr (.inr h1)
   ·rintro (h1 | h1 | h1)
    ·exact .inl (.inl h1)
    ·exact .inl (.inr h1)
    ·exact .inr h1
theorem puts_len {γ : Type} {f : γ → α} {v : γ → β} : ∀ (l : List γ) (m : List (α × β)), (puts f v m l).length ≤ m.length + l.length ∧ ((puts f v m l).length = m.length + l.length ↔ (l.map f).Nodup ∧ ∀ x ∈ l.map f, x ∉ m.map (·.1))
 | [], m => by simp [puts]
 | x :: r, m => by
  obtain ⟨h1, h2⟩ := puts_len (f := f) (v := v) r (mput m (f x) (v x))
  have hk := congrArg List.length (mput_keys m (f x) (v x))
  rw [List.length_map] at hk
  show (puts f v (mput m (f x) (v x)) r).length ≤ _ ∧ ((puts f v (mput m (f x) (v x)) r).length = _ ↔ _)
  by_cases hx : f x ∈ m.map (·.1)
  ·rw [if_pos hx, List.length_map] at hk
   refine ⟨by simp only [List.length_cons]; omega, ⟨fun h => ?_, fun h => ?_⟩⟩
   ·simp only [List.length_cons] at h; omega
   ·exact absurd hx (h.2 (f x) (by simp))
  ·rw [if_neg hx, List.length_append, List.length_map, List.length_singleton] at hk
   refine ⟨by simp only [List.length_cons]; omega, ?_⟩
   have e : (puts f v (mput m (f x) (v x)) r).length = m.length + (x :: r).length ↔ (puts f v (mput m (f x) (v x)) r).length = (mput m (f x) (v x)).length + r.length := by
    simp only [List.length_cons]; omega
   rw [e, h2, mput_keys, if_neg hx]
   simp only [List.map_cons, List.nodup_cons, List.mem_append, List.mem_cons, List.not_mem_nil, or_false, not_or, List.mem_singleton]
   constructor
   ·rintro ⟨a, b⟩
    refine ⟨⟨fun h => (b _ h).2 rfl, a⟩, ?_⟩
    rintro y (rfl | hy)
    ·exact hx
    ·exact (b y hy).1
   ·rintro ⟨⟨a, b⟩, c⟩
    exact ⟨b, fun y hy => ⟨c y (.inr hy), fun e => a (e ▸ hy)⟩⟩
theorem puts_get {γ : Type} {f : γ → α} {v : γ → β} : ∀ (l : List γ) (m : List (α × β)) (a : α), (l.map f).Nodup → mget (puts f v m l) a = match l.find? (fun x => decide (f x = a)) with | some x => some (v x) | none => mget m a
 | [], _, _, _ => rfl
 | x :: r, m, a, h => by
  rw [List.map_cons, List.nodup_cons] at h
  show mget (puts f v (mput m (f x) (v x)) r) a = _
  rw [puts_get r _ a h.2, List.find?_cons]
  by_cases hx : f x = a
  ·subst hx
   have hn : r.find? (fun y => decide (f y = f x)) = none := List.find?_eq_none.2 (fun y hy => by
    simp only [decide_eq_true_eq]
    exact fun e => h.1 (e ▸ List.mem_map.2 ⟨y, hy, rfl⟩))
   simp only [hn, decide_true, mput_get]
  ·simp only [hx, decide_false]
   cases r.find? (fun y => decide (f y = a)) with
   | some y => rfl
   | none => exact mput_other m (f x) a (v x) (fun e => hx e.symm)
end
/-! ### the different values, in increasing order -/
def dist (xs : List Int) : List Int := srt (puts id (fun _ => true) [] xs)
theorem srt_perm (l : List (Int × Bool)) : (srt l).Perm (l.map (·.1)) := List.mergeSort_perm _ _
theorem srt_sorted (l : List (Int × Bool)) : (srt l).Pairwise (fun a b => a ≤ b) := by
 have := List.pairwise_mergeSort (le := fun x y : Int => decide (x ≤ y)) (fun a b c h1 h2 => by simp only [decide_eq_true_eq] at *; omega) (fun a b => by simp only [Bool.or_eq_true, decide_eq_true_eq]; omega) (l.map (·.1))
 exact List.Pairwise.imp (fun h => by simpa using h) this
theorem dist_mem {xs : List Int} {a : Int} : a ∈ dist xs ↔ a ∈ xs := by
 unfold dist
 rw [(srt_perm _).mem_iff, puts_mem]
 simp
theorem dist_nodup (xs : List Int) : (dist xs).Nodup := by
 unfold dist
 exact (srt_perm _).nodup_iff.2 (puts_nodup xs [] (by simp))
theorem dist_lt (xs : List Int) : (dist xs).Pairwise (fun a b => a < b) := by
 have h1 := srt_sorted (puts id (fun _ => true) [] xs)
 have h2 := dist_nodup xs
 exact (List.Pairwise.and h1 h2).imp (fun ⟨a, b⟩ => by omega)
theorem dist_len (xs : List Int) : (dist xs).length ≤ xs.length := by
 unfold dist
 rw [(srt_perm _).length_eq, List.length_map]
 have := (puts_len (f := id) (v := fun _ : Int => true) xs []).1
 simpa using this
/-- A list that rises is told by what it holds. -/
theorem lt_uniq : ∀ {a b : List Int}, a.Pairwise (fun x y => x < y) → b.Pairwise (fun x y => x < y) → (∀ x, x ∈ a ↔ x ∈ b) → a = b
 | [], [], _, _, _ => rfl
 | [], y :: b, _, _, h => by have := (h y).2 List.mem_cons_self; cases this
 | x :: a, [], _, _, h => by have := (h x).1 List.mem_cons_self; cases this
 | x :: a, y :: b, ha, hb, h => by
  rw [List.pairwise_cons] at ha hb
  have hxy : x = y := by
   have h1 := (h x).1 List.mem_cons_self
   have h2 := (h y).2 List.mem_cons_self
   rcases List.mem_cons.1 h1 with h1 | h1
   ·exact h1
   ·rcases List.mem_cons.1 h2 with h2 | h2
    ·exact h2.symm
    ·have := ha.1 y h2; have := hb.1 x h1; omega
  subst hxy
  rw [lt_uniq ha.2 hb.2 (fun z => ?_)]
  constructor
  ·intro hz
   rcases List.mem_cons.1 ((h z).1 (List.mem_cons_of_mem _ hz)) with e | hz'
   ·have := ha.1 z hz; omega
   ·exact hz'
  ·intro hz
   rcases List.mem_cons.1 ((h z).2 (List.mem_cons_of_mem _ hz)) with e | hz'
   ·have := hb.1 z hz; omega
   ·exact hz'
/-! ### what the functions compute -/
abbrev key (x : S48) : Int × Int := (x.f0, x.f1)
abbrev vmap (l : List S48) : List ((Int × Int) × Int) := puts key (·.f2) [] l
theorem values_l (l : List S48) (hl : l.length ≤ 100000) : ∀ (d n : Nat) (m : List ((Int × Int) × Int)), d + n = l.length → Ev (fun k => auction_values.l1 l k m (n : Int)) (puts key (·.f2) m (l.drop n))
 | 0, n, m, h => by
  refine Ev.succ (g := fun _ => some m) (fun k => by rw [auction_values.l1, if_neg (by omega)]) (Ev.const ?_)
  rw [List.drop_eq_nil_of_le (by omega)]; rfl
 | d + 1, n, m, h => by
  have hn : n < l.length := by omega
  have h2 := values_l l hl d (n + 1) (mput m (key l[n]) (l[n]).f2) (by omega)
  rw [List.drop_eq_getElem_cons hn]
  exact Ev.succ (fun k => by rw [auction_values.l1, if_pos (by omega), if_pos (by omega), if_pos (by omega), Wn (by omega), tn, gD hn]) h2
theorem values_ev {l : List S48} (hl : l.length ≤ 100000) : Ev (fun k => auction_values.f k l) (vmap l) := Ev.bind (values_l l hl l.length 0 [] rfl) (Ev.const rfl)
def kok (l : List Int) : Prop := (∀ x ∈ l, inI x) ∧ l.length ≤ 100000
theorem kok_keys {l : List Int} (h : kok l) : keysOk (puts id (fun _ => true) [] l) := by
 refine ⟨puts_nodup l [] (by simp), fun x hx => ?_, ?_⟩
 ·have h1 := (puts_mem (f := id) (v := fun _ => true) l [] x.1).1 (List.mem_map.2 ⟨x, hx, rfl⟩)
  simp only [List.map_nil, List.not_mem_nil, false_or, List.map_id] at h1
  exact h.1 _ h1
 ·have h1 := (puts_len (f := id) (v := fun _ : Int => true) l []).1
  have h2 := h.2
  simp only [List.length_nil] at h1
  omega
theorem dist0_l (l : List S48) (hl : l.length ≤ 100000) : ∀ (d n : Nat) (m : List (Int × Bool)), d + n = l.length → Ev (fun k => auction_distincts0.l1 l k m (n : Int)) (puts id (fun _ => true) m ((l.drop n).map (·.f0)))
 | 0, n, m, h => by
  refine Ev.succ (g := fun _ => some m) (fun k => by rw [auction_distincts0.l1, if_neg (by omega)]) (Ev.const ?_)
  rw [List.drop_eq_nil_of_le (by omega)]; rfl
 | d + 1, n, m, h => by
  have hn : n < l.length := by omega
  have h2 := dist0_l l hl d (n + 1) (mput m (l[n]).f0 true) (by omega)
  rw [List.drop_eq_getElem_cons hn]
  exact Ev.succ (fun k => by rw [auction_distincts0.l1, if_pos (by omega), if_pos (by omega), if_pos (by omega), Wn (by omega), tn, gD hn]; rfl) h2
theorem dist1_l (l : List S48) (hl : l.length ≤ 100000) : ∀ (d n : Nat) (m : List (Int × Bool)), d + n = l.length → Ev (fun k => auction_distincts1.l1 l k m (n : Int)) (puts id (fun _ => true) m ((l.drop n).map (·.f1)))
 | 0, n, m, h => by
  refine Ev.succ (g := fun _ => some m) (fun k => by rw [auction_distincts1.l1, if_neg (by omega)]) (Ev.const ?_)
  rw [List.drop_eq_nil_of_le (by omega)]; rfl
 | d + 1, n, m, h => by
  have hn : n < l.length := by omega
  have h2 := dist1_l l hl d (n + 1) (mput m (l[n]).f1 true) (by omega)
  rw [List.drop_eq_getElem_cons hn]
  exact Ev.succ (fun k => by rw [auction_distincts1.l1, if_pos (by omega), if_pos (by omega), if_pos (by omega), Wn (by omega), tn, gD hn]; rfl) h2
abbrev ws (l : List S48) : List Int := dist (l.map (·.f0))
abbrev ss (l : List S48) : List Int := dist (l.map (·.f1))
theorem dist0_ev {l : List S48} (h : kok (l.map (·.f0))) : Ev (fun k => auction_distincts0.f k l) (ws l) := by
 have hl : l.length ≤ 100000 := by have := h.2; rwa [List.length_map] at this
 refine Ev.bind (dist0_l l hl l.length 0 [] rfl) (Ev.const ?_)
 rw [List.drop_zero]
 exact if_pos (kok_keys h)
theorem dist1_ev {l : List S48} (h : kok (l.map (·.f1))) : Ev (fun k => auction_distincts1.f k l) (ss l) := by
 have hl : l.length ≤ 100000 := by have := h.2; rwa [List.length_map] at this
 refine Ev.bind (dist1_l l hl l.length 0 [] rfl) (Ev.const ?_)
 rw [List.drop_zero]
 exact if_pos (kok_keys h)
/-- The value of a slot for a bidder. -/
def Vv (l : List S48) (w s : Int) : Int := match l.find? (fun x => decide (key x = (w, s))) with | some x => x.f2 | none => 0
theorem vmap_get {l : List S48} (h : (l.map key).Nodup) (w s : Int) : (mget (vmap l) (w, s)).getD 0 = Vv l w s := by
 rw [puts_get l [] (w, s) h]
 unfold Vv
 cases l.find? (fun x => decide (key x = (w, s))) <;> rfl
end Go.Proofs.Ytihmbmeelheinaa.auc
namespace Go.Proofs.Ytihmbmeelheinaa.hun
open Go Go.Proofs.Ytihmbmeelheinaa Go.Proofs.Ytihmbmeelheinaa.RW
set_option linter.unusedVariables false
set_option maxRecDepth 100000
/-! ### numbers and lists -/
theorem W64 {x : Int} (h1 : -9223372036854775808 ≤ x) (h2 : x ≤ 9223372036854775807) : W .i64 x = x := by
 show IntKind.i64.wrap x = x
 rw [IntKind.wrap_i64]
 omega
theorem Wn {n : Nat} (h : n < 1000000) : W .i64 ((n : Int) + 1) = ((n + 1 : Nat) : Int) := by
 rw [W64 (by omega) (by omega)]; rfl
abbrev g (l : List Int) (j : Nat) : Int := l.getD j 0
abbrev gb (l : List Bool) (j : Nat) : Bool := l.getD j false
theorem gset {l : List Int} {i : Nat} (h : i < l.length) (x : Int) (j : Nat) : g (l.set i x) j = if j = i then x else g l j := by
 unfold g
 rw [List.getD_eq_getElem?_getD, List.getD_eq_getElem?_getD, List.getElem?_set]
 by_cases e : i = j
 ·subst e; simp [h]
 ·rw [if_neg e, if_neg (fun h => e h.symm)]
theorem gbset {l : List Bool} {i : Nat} (h : i < l.length) (x : Bool) (j : Nat) : gb (l.set i x) j = if j = i then x else gb l j := by
 unfold gb
 rw [List.getD_eq_getElem?_getD, List.getD_eq_getElem?_getD, List.getElem?_set]
 by_cases e : i = j
 ·subst e; simp [h]
 ·rw [if_neg e, if_neg (fun h => e h.symm)]
theorem tn (n : Nat) : ((n : Int)).toNat = n := Int.toNat_natCast n

/-! ### the potentials' shift -/
/-- The rows of the tree are lowered. -/
theorem shift_rows (a0 : Int) (tree : List Int) : ∀ (d k n : Nat) (u : List Int), d + n = tree.length → d < k → tree.length ≤ 100 → u.length = 12 → (∀ m, m < tree.length → 0 ≤ g tree m ∧ g tree m < 12) →
  (∀ (r : Nat), r < 12 → g u r ≤ 4000000000000000000) → 0 ≤ a0 → (∀ m m', m < tree.length → m' < tree.length → g tree m = g tree m' → m = m') →
  (∀ m, n ≤ m → m < tree.length → -4000000000000000000 ≤ g u (g tree m).toNat - a0) →
  ∃ u', assign_solution_augment_1s0.l2 a0 tree k u (n : Int) = some u' ∧ u'.length = 12 ∧ ∀ (r : Nat), r < 12 → ((∃ m, n ≤ m ∧ m < tree.length ∧ g tree m = (r : Int)) → g u' r = g u r - a0) ∧ ((¬ ∃ m, n ≤ m ∧ m < tree.length ∧ g tree m = (r : Int)) → g u' r = g u r) := by
 intro d
 induction d with
 | zero =>
  intro k n u hd hk htl hu ht hb ha0 hinj hlow
  obtain ⟨k, rfl⟩ : ∃ m, k = m + 1 := ⟨k - 1, by omega⟩
  refine ⟨u, ?_, hu, fun r hr => ⟨?_, fun _ => rfl⟩⟩
  ·simp only [assign_solution_augment_1s0.l2]
   rw [if_neg (by omega)]
  ·rintro ⟨m, h1, h2, _⟩
   omega
 | succ d ih =>
  intro k n u hd hk htl hu ht hb ha0 hinj hlow
  obtain ⟨k, rfl⟩ : ∃ m, k = m + 1 := ⟨k - 1, by omega⟩
  have hn' : n < tree.length := by omega
  have h1 := ht n hn'
  obtain ⟨q, hq⟩ : ∃ q : Nat, g tree n = (q : Int) := ⟨(g tree n).toNat, by omega⟩
  have hq12 : q < 12 := by omega
  have hlow' := hlow n (Nat.le_refl _) hn'
  have hq' : tree.getD n 0 = (q : Int) := hq
  rw [hq, tn] at hlow'
  have hbq := hb q hq12
  simp only [assign_solution_augment_1s0.l2]
  simp only [tn, hq']
  rw [if_pos (by omega), if_pos (by omega), if_pos (by omega), if_pos (by omega), if_pos (by omega), if_pos (by omega), if_pos (by omega), Wn (by omega)]
  rw [show W .i64 (u.getD q 0 - a0) = g u q - a0 from W64 (by show _ ≤ g u q - a0; omega) (by show g u q - a0 ≤ _; omega)]
  have key : ∀ (r : Nat), g (u.set q (g u q - a0)) r = if r = q then g u q - a0 else g u r := fun (r : Nat) => gset (by omega) _ r
  obtain ⟨u', e, hl, hr⟩ := ih k (n + 1) (u.set q (g u q - a0)) (by omega) (by omega) htl (by simp [hu]) ht (fun r hr => by
   rw [key r]
   have := hb r hr
   split <;> omega) ha0 hinj (fun m h2 h3 => by
   have h4 := ht m h3
   rw [key]
   split
   ·rename_i e1
    have := hinj m n h3 hn' (by rw [hq]; omega)
    omega
   ·exact hlow m (by omega) h3)
  refine ⟨u', e, hl, fun r hr' => ?_⟩
  have h5 := hr r hr'
  rw [key r] at h5
  by_cases e1 : r = q
  ·subst e1
   rw [if_pos rfl] at h5
   have h6 : ¬ ∃ m, n + 1 ≤ m ∧ m < tree.length ∧ g tree m = (r : Int) := by
    rintro ⟨m, h2, h3, h4⟩
    have := hinj m n h3 hn' (by rw [h4, hq])
    omega
   exact ⟨fun _ => h5.2 h6, fun h => absurd ⟨n, Nat.le_refl _, hn', hq⟩ h⟩
  ·rw [if_neg e1] at h5
   refine ⟨fun ⟨m, h2, h3, h4⟩ => h5.1 ⟨m, ?_, h3, h4⟩, fun h => h5.2 (fun ⟨m, h2, h3, h4⟩ => h ⟨m, by omega, h3, h4⟩)⟩
   rcases Nat.lt_or_ge n m with h7 | h7
   ·exact h7
   ·have : m = n := by omega
    subst this
    rw [hq] at h4
    omega
/-- The done columns are raised, the others' slacks lowered. -/
theorem shift_cols (a0 : Int) (done : List Bool) (h0 : 0 ≤ a0) (h1 : a0 ≤ 2000000000000000000) : ∀ (d k n : Nat) (v sl : List Int), d + n = 12 → d < k → v.length = 12 → sl.length = 12 →
  (∀ (j : Nat), n ≤ j → j < 12 → -2000000000000000000 ≤ g v j ∧ g v j ≤ 2000000000000000000) → (∀ (j : Nat), n ≤ j → j < 12 → -2000000000000000000 ≤ g sl j ∧ g sl j ≤ 2000000000000000000) →
  ∃ v' sl', assign_solution_augment_1s0.l1 a0 done k v sl (n : Int) = some (v', sl') ∧ v'.length = 12 ∧ sl'.length = 12 ∧
   ∀ (j : Nat), j < 12 → (n ≤ j → gb done j = true → g v' j = g v j + a0 ∧ g sl' j = g sl j) ∧ (n ≤ j → gb done j = false → g v' j = g v j ∧ g sl' j = g sl j - a0) ∧ (j < n → g v' j = g v j ∧ g sl' j = g sl j) := by
 intro d
 induction d with
 | zero =>
  intro k n v sl hd hk hv hs hb hb2
  obtain ⟨k, rfl⟩ : ∃ m, k = m + 1 := ⟨k - 1, by omega⟩
  refine ⟨v, sl, ?_, hv, hs, fun j hj => ⟨fun h => ?_, fun h => ?_, fun _ => ⟨rfl, rfl⟩⟩⟩
  ·simp only [assign_solution_augment_1s0.l1]
   rw [if_neg (by omega)]
  ·omega
  ·omega
 | succ d ih =>
  intro k n v sl hd hk hv hs hb hb2
  obtain ⟨k, rfl⟩ : ∃ m, k = m + 1 := ⟨k - 1, by omega⟩
  have hn : n < 12 := by omega
  have hbn := hb n (Nat.le_refl _) hn
  have hbn2 := hb2 n (Nat.le_refl _) hn
  simp only [assign_solution_augment_1s0.l1, tn]
  rw [if_pos (by omega), if_pos (by omega), if_pos (by omega), Wn (by omega)]
  cases hd' : gb done n with
  | true =>
   rw [if_pos hd', if_pos (by omega), if_pos (by omega), if_pos (by omega), if_pos (by omega), Option.bind_some]
   rw [show W .i64 (v.getD n 0 + a0) = g v n + a0 from W64 (by show _ ≤ g v n + a0; omega) (by show g v n + a0 ≤ _; omega)]
   have key : ∀ (r : Nat), g (v.set n (g v n + a0)) r = if r = n then g v n + a0 else g v r := fun (r : Nat) => gset (by omega) _ r
   obtain ⟨v', sl', e, hl1, hl2, hr⟩ := ih k (n + 1) (v.set n (g v n + a0)) sl (by omega) (by omega) (by simp [hv]) hs (fun j h2 h3 => by
    rw [key, if_neg (by omega)]
    exact hb j (by omega) h3) (fun j h2 h3 => hb2 j (by omega) h3)
   refine ⟨v', sl', e, hl1, hl2, fun j hj => ?_⟩
   have h5 := hr j hj
   rw [key j] at h5
   by_cases e1 : j = n
   ·subst e1
    rw [if_pos rfl] at h5
    refine ⟨fun _ _ => h5.2.2 (by omega), fun _ h => ?_, fun h => by omega⟩
    rw [hd'] at h; cases h
   ·rw [if_neg e1] at h5
    exact ⟨fun h => h5.1 (by omega), fun h => h5.2.1 (by omega), fun h => h5.2.2 (by omega)⟩
  | false =>
   rw [if_neg (by show ¬ gb done n = true; rw [hd']; decide), if_pos (by omega), if_pos (by omega), if_pos (by omega), if_pos (by omega), Option.bind_some]
   rw [show W .i64 (sl.getD n 0 - a0) = g sl n - a0 from W64 (by show _ ≤ g sl n - a0; omega) (by show g sl n - a0 ≤ _; omega)]
   have key : ∀ (r : Nat), g (sl.set n (g sl n - a0)) r = if r = n then g sl n - a0 else g sl r := fun (r : Nat) => gset (by omega) _ r
   obtain ⟨v', sl', e, hl1, hl2, hr⟩ := ih k (n + 1) v (sl.set n (g sl n - a0)) (by omega) (by omega) hv (by simp [hs]) (fun j h2 h3 => hb j (by omega) h3) (fun j h2 h3 => by
    rw [key, if_neg (by omega)]
    exact hb2 j (by omega) h3)
   refine ⟨v', sl', e, hl1, hl2, fun j hj => ?_⟩
   have h5 := hr j hj
   rw [key j] at h5
   by_cases e1 : j = n
   ·subst e1
    rw [if_pos rfl] at h5
    refine ⟨fun _ h => ?_, fun _ _ => h5.2.2 (by omega), fun h => by omega⟩
    rw [hd'] at h; cases h
   ·rw [if_neg e1] at h5
    exact ⟨fun h => h5.1 (by omega), fun h => h5.2.1 (by omega), fun h => h5.2.2 (by omega)⟩
/-- The shift, whole. -/
theorem shift (k : Nat) (hk : 200 ≤ k) (a0 : Int) (tree : List Int) (s : S89) (done : List Bool) (sl : List Int) (h0 : 0 ≤ a0) (h1 : a0 ≤ 1000000000000000000) (htl : tree.length ≤ 100) (hu : s.f1.length = 12) (hv : s.f2.length = 12) (hs : sl.length = 12)
  (ht : ∀ m, m < tree.length → 0 ≤ g tree m ∧ g tree m < 12) (hinj : ∀ m m', m < tree.length → m' < tree.length → g tree m = g tree m' → m = m')
  (hbu : ∀ (r : Nat), r < 12 → -1000000000000000000 ≤ g s.f1 r ∧ g s.f1 r ≤ 1000000000000000000) (hbv : ∀ (j : Nat), j < 12 → -1000000000000000000 ≤ g s.f2 j ∧ g s.f2 j ≤ 1000000000000000000) (hbs : ∀ (j : Nat), j < 12 → -1000000000000000000 ≤ g sl j ∧ g sl j ≤ 2000000000000000000) :
  ∃ u' v' sl', assign_solution_augment_1s0.f k a0 tree s done sl = some (⟨s.f0, u', v'⟩, sl') ∧ u'.length = 12 ∧ v'.length = 12 ∧ sl'.length = 12 ∧
   (∀ (r : Nat), r < 12 → ((∃ m, m < tree.length ∧ g tree m = (r : Int)) → g u' r = g s.f1 r - a0) ∧ ((¬ ∃ m, m < tree.length ∧ g tree m = (r : Int)) → g u' r = g s.f1 r)) ∧
   ∀ (j : Nat), j < 12 → (gb done j = true → g v' j = g s.f2 j + a0 ∧ g sl' j = g sl j) ∧ (gb done j = false → g v' j = g s.f2 j ∧ g sl' j = g sl j - a0) := by
 obtain ⟨u', e1, hl1, hr1⟩ := shift_rows a0 tree tree.length k 0 s.f1 (by omega) (by omega) htl hu ht (fun r hr => by have := hbu r hr; omega) h0 hinj (fun m _ hm => by
  have h2 := ht m hm
  have := hbu (g tree m).toNat (by omega)
  omega)
 obtain ⟨v', sl', e2, hl2, hl3, hr2⟩ := shift_cols a0 done h0 (by omega) 12 k 0 s.f2 sl rfl (by omega) hv hs (fun j _ hj => by have := hbv j hj; omega) (fun j _ hj => by have := hbs j hj; omega)
 refine ⟨u', v', sl', ?_, hl1, hl2, hl3, fun r hr => ⟨fun ⟨m, h2, h3⟩ => (hr1 r hr).1 ⟨m, Nat.zero_le _, h2, h3⟩, fun h => (hr1 r hr).2 (fun ⟨m, _, h2, h3⟩ => h ⟨m, h2, h3⟩)⟩, fun j hj => ⟨fun h => (hr2 j hj).1 (Nat.zero_le _) h, fun h => (hr2 j hj).2.1 (Nat.zero_le _) h⟩⟩
 unfold assign_solution_augment_1s0.f
 rw [show assign_solution_augment_1s0.l2 a0 tree k s.f1 0 = some u' from e1, Option.bind_some]
 unfold assign_solution_augment_1s0.k3
 rw [show assign_solution_augment_1s0.l1 a0 done k s.f2 sl 0 = some (v', sl') from e2, Option.bind_some]
 rfl
/-! ### the next column -/
/-- The slacks by one more row, and the least of them. -/
theorem scan (b1 u v : List Int) (done : List Bool) (last : Int) (c : Nat) (hc : c < 12) : ∀ (d k n : Nat) (sl fr : List Int) (best : Int), d + n = 12 → d < k → sl.length = 12 → fr.length = 12 →
  (∀ (j : Nat), j < 12 → -1000000000000000000 ≤ g u c + g v j ∧ g u c + g v j ≤ 1000000000000000000) → (∀ (j : Nat), j < 12 → 0 ≤ g b1 (c * 12 + j) ∧ g b1 (c * 12 + j) ≤ 1000000000000000000) →
  (best = -1 ∧ (∀ (j : Nat), j < n → gb done j = true) ∨ ∃ q : Nat, best = (q : Int) ∧ q < n ∧ gb done q = false ∧ ∀ (j : Nat), j < n → gb done j = false → g sl q ≤ g sl j) →
  ∃ sl' fr' best', assign_solution_augments0.l3 b1 u v done last (c : Int) k sl fr best (n : Int) = some (sl', fr', best') ∧ sl'.length = 12 ∧ fr'.length = 12 ∧
   (∀ (j : Nat), j < 12 → (j < n → g sl' j = g sl j ∧ g fr' j = g fr j) ∧ (n ≤ j → gb done j = true → g sl' j = g sl j ∧ g fr' j = g fr j) ∧
    (n ≤ j → gb done j = false → (g u c + g v j - g b1 (c * 12 + j) < g sl j ∧ g sl' j = g u c + g v j - g b1 (c * 12 + j) ∧ g fr' j = last) ∨ (g sl j ≤ g u c + g v j - g b1 (c * 12 + j) ∧ g sl' j = g sl j ∧ g fr' j = g fr j))) ∧
   (best' = -1 ∧ (∀ (j : Nat), j < 12 → gb done j = true) ∨ ∃ q : Nat, best' = (q : Int) ∧ q < 12 ∧ gb done q = false ∧ ∀ (j : Nat), j < 12 → gb done j = false → g sl' q ≤ g sl' j) := by
 intro d
 induction d with
 | zero =>
  intro k n sl fr best hd hk hs hf hb hw hbest
  obtain ⟨k, rfl⟩ : ∃ m, k = m + 1 := ⟨k - 1, by omega⟩
  obtain rfl : n = 12 := by omega
  refine ⟨sl, fr, best, ?_, hs, hf, fun j hj => ⟨fun _ => ⟨rfl, rfl⟩, fun h => ?_, fun h => ?_⟩, hbest⟩
  ·simp only [assign_solution_augments0.l3]
   rw [if_neg (by omega)]
  ·omega
  ·omega
 | succ d ih =>
  intro k n sl fr best hd hk hs hf hb hw hbest
  obtain ⟨k, rfl⟩ : ∃ m, k = m + 1 := ⟨k - 1, by omega⟩
  have hn : n < 12 := by omega
  have hbn := hb n hn
  have hwn := hw n hn
  simp only [assign_solution_augments0.l3, tn]
  rw [if_pos (by omega), if_pos (by omega), if_pos (by omega), Wn (by omega)]
  cases hd' : gb done n with
  | true =>
   rw [if_pos hd', Option.bind_some]
   obtain ⟨sl', fr', best', e, h1, h2, h3, h4⟩ := ih k (n + 1) sl fr best (by omega) (by omega) hs hf hb hw (by
    rcases hbest with ⟨h5, h6⟩ | ⟨q, h5, h6, h7, h8⟩
    ·refine .inl ⟨h5, fun j hj => ?_⟩
     by_cases e : j = n
     ·rw [e, hd']
     ·exact h6 j (by omega)
    ·refine .inr ⟨q, h5, by omega, h7, fun j hj hj2 => h8 j ?_ hj2⟩
     rcases Nat.lt_or_ge j n with h9 | h9
     ·exact h9
     ·have : j = n := by omega
      rw [this, hd'] at hj2
      cases hj2)
   refine ⟨sl', fr', best', e, h1, h2, fun j hj => ?_, h4⟩
   have h5 := h3 j hj
   refine ⟨fun h => h5.1 (by omega), fun h h' => ?_, fun h h' => ?_⟩
   ·by_cases e1 : j = n
    ·exact h5.1 (by omega)
    ·exact h5.2.1 (by omega) h'
   ·by_cases e1 : j = n
    ·rw [e1, hd'] at h'; cases h'
    ·exact h5.2.2 (by omega) h'
  | false =>
   rw [if_neg (by show ¬ gb done n = true; rw [hd']; decide)]
   rw [if_pos (by omega), if_pos (by omega), if_pos (by omega), if_pos (by omega), if_pos (by omega), if_pos (by omega), if_pos (by omega), if_pos (by omega), if_pos (by omega), if_pos (by omega)]
   rw [show W .i64 (u.getD c 0 + v.getD n 0) = g u c + g v n from W64 (by show _ ≤ g u c + g v n; omega) (by show g u c + g v n ≤ _; omega)]
   rw [show W .i64 (g u c + g v n - b1.getD (c * 12 + n) 0) = g u c + g v n - g b1 (c * 12 + n) from W64 (by show _ ≤ g u c + g v n - g b1 (c * 12 + n); omega) (by show g u c + g v n - g b1 (c * 12 + n) ≤ _; omega)]
   generalize hx : g u c + g v n - g b1 (c * 12 + n) = x
   -- the row's slack is held against the least so far
   have step : ∀ sl2 fr2 : List Int, sl2.length = 12 → fr2.length = 12 → (∀ (j : Nat), j ≠ n → g sl2 j = g sl j ∧ g fr2 j = g fr j) → g sl2 n ≤ g sl n →
     ((x < g sl n ∧ g sl2 n = x ∧ g fr2 n = last) ∨ (g sl n ≤ x ∧ g sl2 n = g sl n ∧ g fr2 n = g fr n)) →
     ∃ sl' fr' best', ((assign_solution_augments0.k8 best (n : Int) (sl2, fr2)).bind fun z => assign_solution_augments0.l3 b1 u v done last (c : Int) k z.1 z.2.1 z.2.2 ((n + 1 : Nat) : Int)) = some (sl', fr', best') ∧ sl'.length = 12 ∧ fr'.length = 12 ∧
      (∀ (j : Nat), j < 12 → (j < n → g sl' j = g sl j ∧ g fr' j = g fr j) ∧ (n ≤ j → gb done j = true → g sl' j = g sl j ∧ g fr' j = g fr j) ∧
       (n ≤ j → gb done j = false → (g u c + g v j - g b1 (c * 12 + j) < g sl j ∧ g sl' j = g u c + g v j - g b1 (c * 12 + j) ∧ g fr' j = last) ∨ (g sl j ≤ g u c + g v j - g b1 (c * 12 + j) ∧ g sl' j = g sl j ∧ g fr' j = g fr j))) ∧
      (best' = -1 ∧ (∀ (j : Nat), j < 12 → gb done j = true) ∨ ∃ q : Nat, best' = (q : Int) ∧ q < 12 ∧ gb done q = false ∧ ∀ (j : Nat), j < 12 → gb done j = false → g sl' q ≤ g sl' j) := by
    intro sl2 fr2 hl hfl hoth hle hcase
    -- the least column
    have hnext : ∃ b2 : Int, (assign_solution_augments0.k8 best (n : Int) (sl2, fr2)) = some (sl2, fr2, b2) ∧ ∃ q : Nat, b2 = (q : Int) ∧ q < n + 1 ∧ gb done q = false ∧ ∀ (j : Nat), j < n + 1 → gb done j = false → g sl2 q ≤ g sl2 j := by
     rcases hbest with ⟨h5, h6⟩ | ⟨q, h5, h6, h7, h8⟩
     ·refine ⟨(n : Int), ?_, n, rfl, by omega, hd', fun j hj hj2 => ?_⟩
      ·simp only [assign_solution_augments0.k8, h5, if_pos, Option.bind_some, assign_solution_augments0.k7, assign_solution_augments0.k6]
      ·rcases Nat.lt_or_ge j n with h9 | h9
       ·rw [h6 j h9] at hj2; cases hj2
       ·have : j = n := by omega
        rw [this]; exact Int.le_refl _
     ·subst h5
      have e0 : ¬ (q : Int) = -1 := by omega
      by_cases hlt : g sl2 n < g sl2 q
      ·refine ⟨(n : Int), ?_, n, rfl, by omega, hd', fun j hj hj2 => ?_⟩
       ·simp only [assign_solution_augments0.k8, if_neg e0, tn]
        rw [if_pos (by omega), if_pos (by omega), if_pos (by omega), if_pos (by omega), Option.bind_some]
        simp only [assign_solution_augments0.k7]
        rw [if_pos (by simpa using hlt)]
        simp only [Option.bind_some, assign_solution_augments0.k6]
       ·rcases Nat.lt_or_ge j n with h9 | h9
        ·have := h8 j h9 hj2
         rw [(hoth q (by omega)).1] at hlt
         rw [(hoth j (by omega)).1]
         omega
        ·have : j = n := by omega
         rw [this]; exact Int.le_refl _
      ·refine ⟨(q : Int), ?_, q, rfl, by omega, h7, fun j hj hj2 => ?_⟩
       ·simp only [assign_solution_augments0.k8, if_neg e0, tn]
        rw [if_pos (by omega), if_pos (by omega), if_pos (by omega), if_pos (by omega), Option.bind_some]
        simp only [assign_solution_augments0.k7]
        rw [if_neg (by simpa using hlt)]
        simp only [Option.bind_some, assign_solution_augments0.k6]
       ·rcases Nat.lt_or_ge j n with h9 | h9
        ·have := h8 j h9 hj2
         rw [(hoth q (by omega)).1, (hoth j (by omega)).1]
         exact this
        ·have : j = n := by omega
         rw [this]; omega
    obtain ⟨b2, eb, hb2⟩ := hnext
    rw [eb, Option.bind_some]
    obtain ⟨sl', fr', best', e, h1, h2, h3, h4⟩ := ih k (n + 1) sl2 fr2 b2 (by omega) (by omega) hl hfl hb hw (.inr hb2)
    refine ⟨sl', fr', best', e, h1, h2, fun j hj => ?_, h4⟩
    have h5 := h3 j hj
    by_cases e1 : j = n
    ·have h6 := h5.1 (by omega)
     refine ⟨fun h => by omega, fun _ h => ?_, fun _ _ => ?_⟩
     ·rw [e1, hd'] at h; cases h
     ·rw [h6.1, h6.2, e1, hx]
      exact hcase
    ·rw [(hoth j e1).1, (hoth j e1).2] at h5
     exact ⟨fun h => h5.1 (by omega), fun h => h5.2.1 (by omega), fun h => h5.2.2 (by omega)⟩
   by_cases hlt : x < g sl n
   ·rw [if_pos hlt, if_pos (by omega), if_pos (by omega), if_pos (by omega), if_pos (by omega), Option.bind_some]
    exact step _ _ (by simp [hs]) (by simp [hf]) (fun j hj => ⟨by rw [gset (by omega), if_neg hj], by rw [gset (by omega), if_neg hj]⟩) (by rw [gset (by omega), if_pos rfl]; omega) (.inl ⟨hlt, by rw [gset (by omega), if_pos rfl], by rw [gset (by omega), if_pos rfl]⟩)
   ·rw [if_neg hlt, Option.bind_some]
    exact step _ _ hs hf (fun _ _ => ⟨rfl, rfl⟩) (Int.le_refl _) (.inr ⟨by omega, rfl, rfl⟩)
end Go.Proofs.Ytihmbmeelheinaa.hun
namespace Go.Proofs.Ytihmbmeelheinaa.hun
open Go Go.Proofs.Ytihmbmeelheinaa Go.Proofs.Ytihmbmeelheinaa.RW
set_option linter.unusedVariables false
set_option maxRecDepth 100000
/-! ### more pigeons than holes -/
theorem pigeon : ∀ (n : Nat) (f : Nat → Nat), (∀ j, j < n + 1 → f j < n) → ∃ a b, a < b ∧ b < n + 1 ∧ f a = f b := by
 intro n
 induction n with
 | zero => intro f h; have := h 0 (by omega); omega
 | succ n ih =>
  intro f h
  by_cases hv : ∃ a, a < n + 1 ∧ f a = f (n + 1)
  ·obtain ⟨a, h1, h2⟩ := hv
   exact ⟨a, n + 1, h1, by omega, h2⟩
  ·obtain ⟨a, b, h1, h2, h3⟩ := ih (fun j => if f j = n then f (n + 1) else f j) (fun j hj => by
    have h4 := h j (by omega)
    have h5 := h (n + 1) (by omega)
    show (if f j = n then f (n + 1) else f j) < n
    split
    ·rename_i e
     have : f (n + 1) ≠ n := fun e2 => hv ⟨j, hj, by rw [e, e2]⟩
     omega
    ·omega)
   refine ⟨a, b, h1, by omega, ?_⟩
   split at h3 <;> split at h3
   ·rename_i e1 e2; rw [e1, e2]
   ·exact absurd ⟨b, by omega, h3.symm⟩ hv
   ·exact absurd ⟨a, by omega, h3⟩ hv
   ·exact h3

abbrev wt (b : List Int) (r j : Nat) : Int := g b (r * 12 + j)
abbrev red (b u v : List Int) (r j : Nat) : Int := g u r + g v j - wt b r j
/-- The rows below i are matched, each with a column. -/
structure Mt (i : Nat) (R : List Int) : Prop where
 len : R.length = 12
 rng : ∀ j, j < 12 → g R j = -1 ∨ (0 ≤ g R j ∧ g R j < (i : Int))
 inj : ∀ j j', j < 12 → j' < 12 → 0 ≤ g R j → g R j = g R j' → j = j'
 onto : ∀ r, r < i → ∃ j, j < 12 ∧ g R j = (r : Int)
/-- Potentials of the rows below i, with equality on the matching. -/
structure Pt (M : Int) (i : Nat) (b R u v : List Int) : Prop where
 ul : u.length = 12
 vl : v.length = 12
 feas : ∀ r j, r < i → j < 12 → 0 ≤ red b u v r j
 tight : ∀ j (r : Nat), j < 12 → g R j = (r : Int) → red b u v r j = 0
 vpos : ∀ j, j < 12 → 0 ≤ g v j
 vzero : ∀ j, j < 12 → g R j = -1 → g v j = 0
 uzero : ∀ r, i ≤ r → r < 12 → g u r = 0
 vb : ∀ j, j < 12 → g v j ≤ i * M
 ub : ∀ r, r < 12 → -(i * M) ≤ g u r ∧ g u r ≤ M
theorem Mt.free {i : Nat} {R : List Int} (h : Mt i R) (hi : i < 12) : ∃ j, j < 12 ∧ g R j = -1 := by
 by_cases hx : ∃ j, j < 12 ∧ g R j = -1
 ·exact hx
 ·have hall : ∀ j, j < 12 → 0 ≤ g R j ∧ g R j < (i : Int) := fun j hj => (h.rng j hj).resolve_left (fun e => hx ⟨j, hj, e⟩)
  obtain ⟨a, c, h1, h2, h3⟩ := pigeon i (fun j => (g R j).toNat) (fun j hj => by have := hall j (by omega); show (g R j).toNat < i; omega)
  have h4 := hall a (by omega)
  have h5 := hall c (by omega)
  have := h.inj a c (by omega) (by omega) h4.1 (by have h6 : (g R a).toNat = (g R c).toNat := h3; omega)
  omega
/-- The path's edges: each done column comes by a tight edge from the new row, or from the row of an earlier column. -/
def PathOK (i : Nat) (b R u v fr : List Int) : List Nat → Prop
 | [] => True
 | c :: ds => c < 12 ∧ (g fr c = -1 ∧ red b u v i c = 0 ∨ ∃ p, p ∈ ds ∧ g fr c = (p : Int) ∧ red b u v (g R p).toNat c = 0) ∧ c ∉ ds ∧ PathOK i b R u v fr ds
/-- What stands at the head of a round. -/
structure Av (M : Int) (i : Nat) (b R u v sl fr : List Int) (done : List Bool) (tree : List Int) (last cur : Int) (ds : List Nat) (U : Int) : Prop where
 ul : u.length = 12
 vl : v.length = 12
 sll : sl.length = 12
 frl : fr.length = 12
 dl : done.length = 12
 feas : ∀ r j, r ≤ i → j < 12 → 0 ≤ red b u v r j
 tight : ∀ j (r : Nat), j < 12 → g R j = (r : Int) → red b u v r j = 0
 vpos : ∀ j, j < 12 → 0 ≤ g v j
 vzero : ∀ j, j < 12 → g R j = -1 → g v j = 0
 uzero : ∀ r, i < r → r < 12 → g u r = 0
 ui : 0 ≤ g u i ∧ g u i ≤ U ∧ U ≤ M
 vb : ∀ j, j < 12 → g v j ≤ i * M + (U - g u i)
 ub : ∀ r, r < 12 → -(i * M + (U - g u i)) ≤ g u r ∧ g u r ≤ M
 dn : ∀ j, j < 12 → (gb done j = true ↔ j ∈ ds)
 dm : ∀ c, c ∈ ds → c < 12 ∧ 0 ≤ g R c
 tl : tree.length = ds.length + 1
 tr : ∀ m, m < tree.length → 0 ≤ g tree m ∧ g tree m < 12
 tm : ∀ r : Nat, (∃ m, m < tree.length ∧ g tree m = (r : Int)) ↔ r = i ∨ ∃ c, c ∈ ds ∧ g R c = (r : Int)
 ti : ∀ m m', m < tree.length → m' < tree.length → g tree m = g tree m' → m = m'
 hl : (ds = [] ∧ last = -1 ∧ cur = (i : Int)) ∨ ∃ c ds', ds = c :: ds' ∧ last = (c : Int) ∧ cur = g R c
 path : PathOK i b R u v fr ds
 slb : ∀ j, j < 12 → -1 ≤ g sl j ∧ g sl j ≤ 1152921504606846976
 sT : ∀ j r, j < 12 → gb done j = false → (r = i ∨ ∃ c, c ∈ ds ∧ g R c = (r : Int)) → (r : Int) ≠ cur → g sl j ≤ red b u v r j
 sE : ∀ j, j < 12 → gb done j = false → ds ≠ [] → (g fr j = -1 ∧ g sl j = red b u v i j) ∨ ∃ p, p ∈ ds ∧ g fr j = (p : Int) ∧ g sl j = red b u v (g R p).toNat j
 far : ds = [] → ∀ j, j < 12 → g sl j = 1152921504606846976
def und (done : List Bool) : Nat := cntF (fun j => !gb done j) 12
/-- What stands behind the last round: the new row's path. -/
structure Fin (M : Int) (i : Nat) (b R u v fr : List Int) (ds : List Nat) (U : Int) : Prop where
 ul : u.length = 12
 vl : v.length = 12
 feas : ∀ r j, r ≤ i → j < 12 → 0 ≤ red b u v r j
 tight : ∀ j (r : Nat), j < 12 → g R j = (r : Int) → red b u v r j = 0
 vpos : ∀ j, j < 12 → 0 ≤ g v j
 vzero : ∀ j, j < 12 → g R j = -1 → g v j = 0
 uzero : ∀ r, i < r → r < 12 → g u r = 0
 ui : 0 ≤ g u i ∧ g u i ≤ U ∧ U ≤ M
 vb : ∀ j, j < 12 → g v j ≤ i * M + (U - g u i)
 ub : ∀ r, r < 12 → -(i * M + (U - g u i)) ≤ g u r ∧ g u r ≤ M
 path : PathOK i b R u v fr ds
 pm : ∀ p, p ∈ ds.tail → p < 12 ∧ 0 ≤ g R p
/-- The path's edges stay tight where rows of the tree and done columns are shifted against each other. -/
theorem path_shift {i : Nat} {b R u v u' v' fr fr' : List Int} {x : Int} : ∀ {ds : List Nat} (all : List Nat), (∀ c, c ∈ ds → c ∈ all) → PathOK i b R u v fr ds → (g u' i = g u i - x) → (∀ p, p ∈ all → g u' (g R p).toNat = g u (g R p).toNat - x) → (∀ c, c ∈ all → g v' c = g v c + x) → (∀ c, c ∈ all → g fr' c = g fr c) → PathOK i b R u' v' fr' ds
 | [], _, _, _, _, _, _, _ => trivial
 | d :: ds, all, hs, h, hi, hp, hc, hf => by
  obtain ⟨h1, h2, h3, h4⟩ := h
  have hd := hs d List.mem_cons_self
  refine ⟨h1, ?_, h3, path_shift all (fun c hc => hs c (List.mem_cons_of_mem _ hc)) h4 hi hp hc hf⟩
  rw [hf d hd]
  rcases h2 with ⟨h5, h6⟩ | ⟨p, h5, h6, h7⟩
  ·refine .inl ⟨h5, ?_⟩
   have h8 := hc d hd
   show g u' i + g v' d - _ = 0
   have h9 : g u i + g v d - wt b i d = 0 := h6
   omega
  ·refine .inr ⟨p, h5, h6, ?_⟩
   have h8 := hc d hd
   have h10 := hp p (hs p (List.mem_cons_of_mem _ h5))
   show g u' (g R p).toNat + g v' d - _ = 0
   have h9 : g u (g R p).toNat + g v d - wt b (g R p).toNat d = 0 := h7
   omega
end Go.Proofs.Ytihmbmeelheinaa.hun
namespace Go.Proofs.Ytihmbmeelheinaa.hun
open Go Go.Proofs.Ytihmbmeelheinaa Go.Proofs.Ytihmbmeelheinaa.RW
set_option linter.unusedVariables false
set_option maxRecDepth 100000
set_option maxHeartbeats 2000000
section
variable {M : Int} {i : Nat} {b R u v sl fr : List Int} {done : List Bool} {tree : List Int} {last cur : Int} {ds : List Nat} {U : Int}
theorem Av.cur_mem (av : Av M i b R u v sl fr done tree last cur ds U) (mt : Mt i R) : ∃ c : Nat, cur = (c : Int) ∧ c ≤ i ∧ (c = i ∨ ∃ d, d ∈ ds ∧ g R d = (c : Int)) := by
 rcases av.hl with ⟨h1, h2, h3⟩ | ⟨c, ds', h1, h2, h3⟩
 ·exact ⟨i, h3, Nat.le_refl _, .inl rfl⟩
 ·have hc := av.dm c (by rw [h1]; exact List.mem_cons_self)
  have h4 := mt.rng c hc.1
  refine ⟨(g R c).toNat, by omega, by omega, .inr ⟨c, by rw [h1]; exact List.mem_cons_self, by omega⟩⟩
/-- The numbers' bounds. -/
theorem Av.bounds (av : Av M i b R u v sl fr done tree last cur ds U) (hi : i < 12) (hM0 : 0 ≤ M) (hM : M ≤ 1073741824) : (∀ r, r < 12 → -14000000000 ≤ g u r ∧ g u r ≤ 1073741824) ∧ ∀ j, j < 12 → 0 ≤ g v j ∧ g v j ≤ 14000000000 := by
 have hiM : 0 ≤ (i : Int) * M ∧ (i : Int) * M ≤ 11811160064 := by
  have h1 : (i : Int) * M ≤ 11 * M := Int.mul_le_mul_of_nonneg_right (by omega) hM0
  have h2 : 0 ≤ (i : Int) * M := Int.mul_nonneg (by omega) hM0
  omega
 have h3 := av.ui
 refine ⟨fun r hr => ?_, fun j hj => ?_⟩
 ·have := av.ub r hr
  omega
 ·have := av.vb j hj
  have := av.vpos j hj
  omega
/-- What the scan leaves: the next column, by how much is shifted. -/
structure Sc (i : Nat) (b R u v sl fr : List Int) (done : List Bool) (ds : List Nat) (q : Nat) : Prop where
 sll : sl.length = 12
 frl : fr.length = 12
 q12 : q < 12
 qu : gb done q = false
 qm : ∀ j, j < 12 → gb done j = false → g sl q ≤ g sl j
 sT : ∀ j r, j < 12 → gb done j = false → (r = i ∨ ∃ c, c ∈ ds ∧ g R c = (r : Int)) → g sl j ≤ red b u v r j
 sE : ∀ j, j < 12 → gb done j = false → (g fr j = -1 ∧ g sl j = red b u v i j) ∨ ∃ p, p ∈ ds ∧ g fr j = (p : Int) ∧ g sl j = red b u v (g R p).toNat j
theorem Av.scan (av : Av M i b R u v sl fr done tree last cur ds U) (mt : Mt i R) (hi : i < 12) (hM0 : 0 ≤ M) (hM : M ≤ 1073741824) (hw : ∀ r j, r < 12 → j < 12 → 0 ≤ wt b r j ∧ wt b r j ≤ M) {k : Nat} (hk : 200 ≤ k) :
  ∃ (sl' fr' : List Int) (q : Nat), assign_solution_augments0.l3 b u v done last cur k sl fr (-1) 0 = some (sl', fr', (q : Int)) ∧ Sc i b R u v sl' fr' done ds q ∧ ∀ j, j < 12 → gb done j = true → g sl' j = g sl j ∧ g fr' j = g fr j := by
 obtain ⟨c, hc, hci, hcm⟩ := av.cur_mem mt
 obtain ⟨hbu, hbv⟩ := av.bounds hi hM0 hM
 have hb : ∀ (j : Nat), j < 12 → -1000000000000000000 ≤ g u c + g v j ∧ g u c + g v j ≤ 1000000000000000000 := fun j hj => by
  have h1 := hbu c (by omega)
  have h2 := hbv j hj
  omega
 obtain ⟨sl', fr', best', e, h1, h2, h3, h4⟩ := hun.scan b u v done last c (by omega) 12 k 0 sl fr (-1) rfl (by omega) av.sll av.frl hb (fun j hj => by have := hw c j (by omega) hj; show 0 ≤ wt b c j ∧ wt b c j ≤ _; omega) (.inl ⟨rfl, fun j hj => by omega⟩)
 -- a column that isn't matched isn't done
 obtain ⟨j0, hj0, hf0⟩ := mt.free hi
 have hu0 : gb done j0 = false := by
  cases hd : gb done j0 with
  | false => rfl
  | true =>
   have := av.dm j0 ((av.dn j0 hj0).1 hd)
   omega
 obtain ⟨q, hq, hq12, hqu, hqm⟩ := h4.resolve_left (fun h => by rw [h.2 j0 hj0] at hu0; cases hu0)
 subst hq; subst hc
 have hpos : ∀ j, j < 12 → -2000000000 ≤ red b u v c j := fun j hj => by have := av.feas c j hci hj; omega
 have hcur : ∀ r : Nat, (r : Int) ≠ (c : Int) ↔ r ≠ c := fun r => by omega
 refine ⟨sl', fr', q, e, ⟨h1, h2, hq12, hqu, hqm, fun j r hj hd hr => ?_, fun j hj hd => ?_⟩, fun j hj hd => (h3 j hj).2.1 (Nat.zero_le _) hd⟩
 ·have h5 := (h3 j hj).2.2 (Nat.zero_le _) hd
  by_cases hrc : r = c
  ·subst hrc
   rcases h5 with ⟨_, h6, _⟩ | ⟨h6, h7, _⟩
   ·show g sl' j ≤ g u r + g v j - g b (r * 12 + j); omega
   ·show g sl' j ≤ g u r + g v j - g b (r * 12 + j); omega
  ·have h6 := av.sT j r hj hd hr (by omega)
   rcases h5 with ⟨h7, h8, _⟩ | ⟨h7, h8, _⟩ <;> omega
 ·have h5 := (h3 j hj).2.2 (Nat.zero_le _) hd
  rcases h5 with ⟨_, h6, h7⟩ | ⟨h6, h7, h8⟩
  ·-- by the current row
   rcases av.hl with ⟨h9, h10, h11⟩ | ⟨d, ds', h9, h10, h11⟩
   ·refine .inl ⟨by rw [h7, h10], ?_⟩
    have : c = i := by omega
    rw [h6, this]
   ·refine .inr ⟨d, by rw [h9]; exact List.mem_cons_self, by rw [h7, h10], ?_⟩
    have : (g R d).toNat = c := by omega
    rw [h6, this]
  ·-- by an earlier one
   by_cases hds : ds = []
   ·have h9 := av.far hds j hj
    have h10 := hbu c (by omega)
    have h11 := hbv j hj
    have h12 := hw c j (by omega) hj
    exfalso
    have h13 : wt b c j = g b (c * 12 + j) := rfl
    omega
   ·rcases av.sE j hj hd hds with ⟨h9, h10⟩ | ⟨p, h9, h10, h11⟩
    ·exact .inl ⟨by rw [h8, h9], by rw [h7, h10]⟩
    ·exact .inr ⟨p, h9, by rw [h8, h10], by rw [h7, h11]⟩
end
end Go.Proofs.Ytihmbmeelheinaa.hun
namespace Go.Proofs.Ytihmbmeelheinaa.hun
open Go Go.Proofs.Ytihmbmeelheinaa Go.Proofs.Ytihmbmeelheinaa.RW
set_option linter.unusedVariables false
set_option maxRecDepth 100000
set_option maxHeartbeats 4000000
section
variable {M : Int} {i : Nat} {b R u v sl fr : List Int} {done : List Bool} {tree : List Int} {last cur : Int} {ds : List Nat} {U : Int}
theorem gapp {l : List Int} {x : Int} {m : Nat} : g (l ++ [x]) m = if m < l.length then g l m else if m = l.length then x else 0 := by
 unfold g
 rw [List.getD_eq_getElem?_getD, List.getD_eq_getElem?_getD, List.getElem?_append]
 split
 ·rfl
 ·rename_i h
  by_cases e : m = l.length
  ·subst e; simp
  ·rw [if_neg e]
   have : m - l.length ≠ 0 := by omega
   obtain ⟨q, hq⟩ : ∃ q, m - l.length = q + 1 := ⟨m - l.length - 1, by omega⟩
   rw [hq]; rfl
/-- Who is in the tree. -/
def inT (i : Nat) (R : List Int) (ds : List Nat) (r : Nat) : Prop := r = i ∨ ∃ c, c ∈ ds ∧ g R c = (r : Int)
theorem Av.step (av : Av M i b R u v sl fr done tree last cur ds U) (mt : Mt i R) (hi : i < 12) (hM0 : 0 ≤ M) (hM : M ≤ 1073741824) (hw : ∀ r j, r < 12 → j < 12 → 0 ≤ wt b r j ∧ wt b r j ≤ M)
  {sl1 fr1 : List Int} {q : Nat} (sc : Sc i b R u v sl1 fr1 done ds q) (hkeep : ∀ j, j < 12 → gb done j = true → g sl1 j = g sl j ∧ g fr1 j = g fr j) {u1 v1 sl2 : List Int} (hul : u1.length = 12) (hvl : v1.length = 12) (hsl : sl2.length = 12)
  (hu1 : ∀ r, r < 12 → inT i R ds r → g u1 r = g u r - g sl1 q) (hu2 : ∀ r, r < 12 → ¬ inT i R ds r → g u1 r = g u r)
  (hv1 : ∀ j, j < 12 → gb done j = true → g v1 j = g v j + g sl1 q ∧ g sl2 j = g sl1 j) (hv2 : ∀ j, j < 12 → gb done j = false → g v1 j = g v j ∧ g sl2 j = g sl1 j - g sl1 q) :
  Fin M i b R u1 v1 fr1 (q :: ds) U ∧ (g R q ≠ -1 → Av M i b R u1 v1 sl2 fr1 (done.set q true) (tree ++ [g R q]) (q : Int) (g R q) (q :: ds) U) := by
 obtain ⟨hbu, hbv⟩ := av.bounds hi hM0 hM
 -- by how much is shifted
 obtain ⟨j0, hj0, hf0⟩ := mt.free hi
 have hu0 : gb done j0 = false := by
  cases hd : gb done j0 with
  | false => rfl
  | true => have := av.dm j0 ((av.dn j0 hj0).1 hd); omega
 have hx0 : 0 ≤ g sl1 q := by
  rcases sc.sE q sc.q12 sc.qu with ⟨_, h2⟩ | ⟨p, h1, _, h3⟩
  ·rw [h2]; exact av.feas i q (Nat.le_refl _) sc.q12
  ·have h4 := av.dm p h1
   have h5 := mt.rng p h4.1
   rw [h3]; exact av.feas _ q (by omega) sc.q12
 have hxu : g sl1 q ≤ g u i := by
  have h1 := sc.qm j0 hj0 hu0
  have h2 := sc.sT j0 i hj0 hu0 (.inl rfl)
  have h3 := av.vzero j0 hj0 hf0
  have h4 := hw i j0 hi hj0
  have h5 : red b u v i j0 = g u i + g v j0 - wt b i j0 := rfl
  omega
 have hui := av.ui
 generalize hx : g sl1 q = x at *
 have hu1i := hu1 i hi (.inl rfl)
 have tree12 : ∀ r, inT i R ds r → r < 12 := fun r hr => by
  rcases hr with rfl | ⟨c, hc, hrc⟩
  ·exact hi
  ·have := mt.rng c (av.dm c hc).1; omega
 have hnd : ∀ j, j < 12 → gb done j = true ∨ gb done j = false := fun j _ => by cases gb done j <;> simp
 have feas1 : ∀ r j, r ≤ i → j < 12 → 0 ≤ red b u1 v1 r j := by
  intro r j hr hj
  have hf := av.feas r j hr hj
  have e1 : red b u v r j = g u r + g v j - wt b r j := rfl
  show 0 ≤ g u1 r + g v1 j - wt b r j
  by_cases hT : inT i R ds r
  ·have h1 := hu1 r (by omega) hT
   rcases hnd j hj with hd | hd
   ·have h2 := hv1 j hj hd; omega
   ·have h2 := hv2 j hj hd
    have h3 := sc.qm j hj hd
    have h4 := sc.sT j r hj hd hT
    omega
  ·have h1 := hu2 r (by omega) hT
   rcases hnd j hj with hd | hd
   ·have h2 := hv1 j hj hd; omega
   ·have h2 := hv2 j hj hd; omega
 have tight1 : ∀ j (r : Nat), j < 12 → g R j = (r : Int) → red b u1 v1 r j = 0 := by
  intro j r hj hr
  have hf := av.tight j r hj hr
  have e1 : red b u v r j = g u r + g v j - wt b r j := rfl
  have hri := mt.rng j hj
  show g u1 r + g v1 j - wt b r j = 0
  rcases hnd j hj with hd | hd
  ·have h1 := hu1 r (by omega) (.inr ⟨j, (av.dn j hj).1 hd, hr⟩)
   have h2 := hv1 j hj hd
   omega
  ·have h1 := hu2 r (by omega) (by
    rintro (h3 | ⟨c, hc, hrc⟩)
    ·omega
    ·have h4 := mt.inj c j (av.dm c hc).1 hj (by omega) (by omega)
     subst h4
     rw [(av.dn c hj).2 hc] at hd
     cases hd)
   have h2 := hv2 j hj hd
   omega
 have hpath : PathOK i b R u1 v1 fr1 ds := by
  refine path_shift (x := x) ds (fun c hc => hc) av.path hu1i (fun p hp => ?_) (fun c hc => (hv1 c (av.dm c hc).1 ((av.dn c (av.dm c hc).1).2 hc)).1) (fun c hc => (hkeep c (av.dm c hc).1 ((av.dn c (av.dm c hc).1).2 hc)).2)
  have h1 := av.dm p hp
  have h2 := mt.rng p h1.1
  exact hu1 _ (by omega) (.inr ⟨p, hp, by omega⟩)
 have hqds : q ∉ ds := fun h => by
  have := (av.dn q sc.q12).2 h
  rw [sc.qu] at this
  cases this
 have hvq := hv2 q sc.q12 sc.qu
 have hpath1 : PathOK i b R u1 v1 fr1 (q :: ds) := by
  refine ⟨sc.q12, ?_, hqds, hpath⟩
  rcases sc.sE q sc.q12 sc.qu with ⟨h1, h2⟩ | ⟨p, h1, h2, h3⟩
  ·refine .inl ⟨h1, ?_⟩
   have e1 : red b u v i q = g u i + g v q - wt b i q := rfl
   show g u1 i + g v1 q - wt b i q = 0
   omega
  ·refine .inr ⟨p, h1, h2, ?_⟩
   have h4 := av.dm p h1
   have h5 := mt.rng p h4.1
   have h6 := hu1 (g R p).toNat (by omega) (.inr ⟨p, h1, by omega⟩)
   have e1 : red b u v (g R p).toNat q = g u (g R p).toNat + g v q - wt b (g R p).toNat q := rfl
   show g u1 (g R p).toNat + g v1 q - wt b (g R p).toNat q = 0
   omega
 have vpos1 : ∀ j, j < 12 → 0 ≤ g v1 j := fun j hj => by
  have := av.vpos j hj
  rcases hnd j hj with hd | hd
  ·have := hv1 j hj hd; omega
  ·have := hv2 j hj hd; omega
 have vzero1 : ∀ j, j < 12 → g R j = -1 → g v1 j = 0 := fun j hj hr => by
  have h1 := av.vzero j hj hr
  rcases hnd j hj with hd | hd
  ·have := av.dm j ((av.dn j hj).1 hd); omega
  ·have := hv2 j hj hd; omega
 have uzero1 : ∀ r, i < r → r < 12 → g u1 r = 0 := fun r hr hr2 => by
  rw [hu2 r hr2 (by
   rintro (h3 | ⟨c, hc, hrc⟩)
   ·omega
   ·have := mt.rng c (av.dm c hc).1; omega)]
  exact av.uzero r hr hr2
 have ui1 : 0 ≤ g u1 i ∧ g u1 i ≤ U ∧ U ≤ M := by omega
 have vb1 : ∀ j, j < 12 → g v1 j ≤ i * M + (U - g u1 i) := fun j hj => by
  have h1 := av.vb j hj
  rcases hnd j hj with hd | hd
  ·have := hv1 j hj hd; omega
  ·have := hv2 j hj hd; omega
 have ub1 : ∀ r, r < 12 → -(i * M + (U - g u1 i)) ≤ g u1 r ∧ g u1 r ≤ M := fun r hr => by
  have h1 := av.ub r hr
  by_cases hT : inT i R ds r
  ·have := hu1 r hr hT; omega
  ·have := hu2 r hr hT; omega
 refine ⟨⟨hul, hvl, feas1, tight1, vpos1, vzero1, uzero1, ui1, vb1, ub1, hpath1, av.dm⟩, fun hq => ?_⟩
 have hq0 : 0 ≤ g R q ∧ g R q < (i : Int) := (mt.rng q sc.q12).resolve_left hq
 have hdone : ∀ j, gb (done.set q true) j = if j = q then true else gb done j := fun j => gbset (by rw [av.dl]; exact sc.q12) true j
 have hdf : ∀ j, gb (done.set q true) j = false → j ≠ q ∧ gb done j = false := fun j h => by
  rw [hdone j] at h
  split at h
  ·cases h
  ·rename_i e; exact ⟨e, h⟩
 have hTq : ∀ r : Nat, (r = i ∨ ∃ c, c ∈ q :: ds ∧ g R c = (r : Int)) → (r : Int) ≠ g R q → inT i R ds r := fun r hr hne => by
  rcases hr with hr | ⟨c, hc, hrc⟩
  ·exact .inl hr
  ·rcases List.mem_cons.1 hc with rfl | hc
   ·omega
   ·exact .inr ⟨c, hc, hrc⟩
 refine ⟨hul, hvl, hsl, sc.frl, by rw [List.length_set]; exact av.dl, feas1, tight1, vpos1, vzero1, uzero1, ui1, vb1, ub1, ?_, ?_, ?_, ?_, ?_, ?_, .inr ⟨q, ds, rfl, rfl, rfl⟩, hpath1, ?_, ?_, ?_, fun h => by cases h⟩
 ·intro j hj
  rw [hdone j]
  by_cases e : j = q
  ·subst e; simp
  ·rw [if_neg e, av.dn j hj]
   simp [e]
 ·intro c hc
  rcases List.mem_cons.1 hc with rfl | hc
  ·exact ⟨sc.q12, hq0.1⟩
  ·exact av.dm c hc
 ·rw [List.length_append, av.tl]; rfl
 ·intro m hm
  rw [List.length_append] at hm
  simp only [List.length_cons, List.length_nil] at hm
  rw [gapp]
  split
  ·rename_i h; exact av.tr m h
  ·rw [if_pos (by omega)]; omega
 ·intro r
  have htm := av.tm r
  constructor
  ·rintro ⟨m, hm, hr⟩
   rw [List.length_append] at hm
   simp only [List.length_cons, List.length_nil] at hm
   rw [gapp] at hr
   split at hr
   ·rename_i h
    rcases htm.1 ⟨m, h, hr⟩ with h2 | ⟨c, hc, hrc⟩
    ·exact .inl h2
    ·exact .inr ⟨c, List.mem_cons_of_mem _ hc, hrc⟩
   ·rw [if_pos (by omega)] at hr
    exact .inr ⟨q, List.mem_cons_self, hr⟩
  ·intro h
   have hold : (r = i ∨ ∃ c, c ∈ ds ∧ g R c = (r : Int)) → ∃ m, m < (tree ++ [g R q]).length ∧ g (tree ++ [g R q]) m = (r : Int) := fun h => by
    obtain ⟨m, hm, hr⟩ := htm.2 h
    refine ⟨m, by rw [List.length_append]; omega, ?_⟩
    rw [gapp, if_pos hm]
    exact hr
   rcases h with h | ⟨c, hc, hrc⟩
   ·exact hold (.inl h)
   ·rcases List.mem_cons.1 hc with rfl | hc
    ·refine ⟨tree.length, by rw [List.length_append]; simp, ?_⟩
     rw [gapp, if_neg (by omega), if_pos rfl]
     exact hrc
    ·exact hold (.inr ⟨c, hc, hrc⟩)
 ·-- no row comes twice
  have hnew : ∀ m, m < tree.length → g tree m ≠ g R q := fun m hm e => by
   have h1 := av.tr m hm
   rcases (av.tm (g tree m).toNat).1 ⟨m, hm, by omega⟩ with h2 | ⟨c, hc, hrc⟩
   ·omega
   ·have h3 := mt.inj c q (av.dm c hc).1 sc.q12 (by omega) (by omega)
    exact hqds (h3 ▸ hc)
  intro m m' hm hm' e
  rw [List.length_append] at hm hm'
  simp only [List.length_cons, List.length_nil] at hm hm'
  rw [gapp, gapp] at e
  by_cases h1 : m < tree.length
  ·rw [if_pos h1] at e
   by_cases h2 : m' < tree.length
   ·rw [if_pos h2] at e
    exact av.ti m m' h1 h2 e
   ·rw [if_neg h2, if_pos (by omega)] at e
    exact absurd e (hnew m h1)
  ·rw [if_neg h1, if_pos (by omega)] at e
   by_cases h2 : m' < tree.length
   ·rw [if_pos h2] at e
    exact absurd e.symm (hnew m' h2)
   ·omega
 ·intro j hj
  rcases hnd j hj with hd | hd
  ·have h3 := hv1 j hj hd
   have h4 := hkeep j hj hd
   have h5 := av.slb j hj
   omega
  ·have h3 := hv2 j hj hd
   have h4 := sc.qm j hj hd
   have h5 := sc.sT j i hj hd (.inl rfl)
   have h6 : red b u v i j = g u i + g v j - wt b i j := rfl
   have h7 := hw i j hi hj
   have h8 := hbv j hj
   omega
 ·intro j r hj hd hr hne
  obtain ⟨h1, h2⟩ := hdf j hd
  have hT := hTq r hr hne
  have h3 := hv2 j hj h2
  have h4 := sc.sT j r hj h2 hT
  have h5 := hu1 r (tree12 r hT) hT
  have h6 : red b u v r j = g u r + g v j - wt b r j := rfl
  show g sl2 j ≤ g u1 r + g v1 j - wt b r j
  omega
 ·intro j hj hd _
  obtain ⟨h1, h2⟩ := hdf j hd
  have h3 := hv2 j hj h2
  rcases sc.sE j hj h2 with ⟨h4, h5⟩ | ⟨p, h4, h5, h6⟩
  ·refine .inl ⟨h4, ?_⟩
   have e1 : red b u v i j = g u i + g v j - wt b i j := rfl
   show g sl2 j = g u1 i + g v1 j - wt b i j
   omega
  ·refine .inr ⟨p, List.mem_cons_of_mem _ h4, h5, ?_⟩
   have h7 := av.dm p h4
   have h8 := mt.rng p h7.1
   have h9 := hu1 (g R p).toNat (by omega) (.inr ⟨p, h4, by omega⟩)
   have e1 : red b u v (g R p).toNat j = g u (g R p).toNat + g v j - wt b (g R p).toNat j := rfl
   show g sl2 j = g u1 (g R p).toNat + g v1 j - wt b (g R p).toNat j
   omega
/-- The search, from any round on. -/
theorem search (mt : Mt i R) (hi : i < 12) (hM0 : 0 ≤ M) (hM : M ≤ 1073741824) (hw : ∀ r j, r < 12 → j < 12 → 0 ≤ wt b r j ∧ wt b r j ≤ M) : ∀ (n k : Nat) (u v sl fr : List Int) (done : List Bool) (tree : List Int) (last cur : Int) (ds : List Nat),
  Av M i b R u v sl fr done tree last cur ds U → und done ≤ n → ds.length + und done ≤ 12 → n + 300 ≤ k →
  ∃ (u' v' sl' fr' : List Int) (done' : List Bool) (tree' : List Int) (q : Nat) (ds' : List Nat), assign_solution_augments0.l2 b k R u v sl fr done tree last cur = some (R, u', v', sl', fr', done', tree', (q : Int)) ∧ Fin M i b R u' v' fr' (q :: ds') U ∧ g R q = -1 := by
 intro n
 induction n with
 | zero =>
  intro k u v sl fr done tree last cur ds av hn hdn hk
  exfalso
  obtain ⟨j0, hj0, hf0⟩ := mt.free hi
  have hu0 : gb done j0 = false := by
   cases hd : gb done j0 with
   | false => rfl
   | true => have := av.dm j0 ((av.dn j0 hj0).1 hd); omega
  have := cntF_lt (f := fun j => !gb done j) (g := fun j => if j = j0 then false else !gb done j) (i := j0) (by show (!gb done j0) = true; rw [hu0]; rfl) (by simp) (fun j hj => if_neg hj) 12 hj0
  unfold und at hn
  omega
 | succ n ih =>
  intro k u v sl fr done tree last cur ds av hn hdn hk
  obtain ⟨k, rfl⟩ : ∃ m, k = m + 1 := ⟨k - 1, by omega⟩
  obtain ⟨sl1, fr1, q, e, sc, hkeep⟩ := av.scan mt hi hM0 hM hw (k := k) (by omega)
  obtain ⟨hbu, hbv⟩ := av.bounds hi hM0 hM
  obtain ⟨j0, hj0, hf0⟩ := mt.free hi
  have hu0 : gb done j0 = false := by
   cases hd : gb done j0 with
   | false => rfl
   | true => have := av.dm j0 ((av.dn j0 hj0).1 hd); omega
  have hx0 : 0 ≤ g sl1 q ∧ g sl1 q ≤ 16000000000 := by
   have h1 := sc.sT q i sc.q12 sc.qu (.inl rfl)
   have h2 := hbu i hi
   have h3 := hbv q sc.q12
   have h4 := hw i q hi sc.q12
   have h5 : red b u v i q = g u i + g v q - wt b i q := rfl
   refine ⟨?_, by omega⟩
   rcases sc.sE q sc.q12 sc.qu with ⟨_, h6⟩ | ⟨p, h6, _, h7⟩
   ·rw [h6]; exact av.feas i q (Nat.le_refl _) sc.q12
   ·have h8 := av.dm p h6
    have h9 := mt.rng p h8.1
    rw [h7]; exact av.feas _ q (by omega) sc.q12
  have hsb : ∀ (j : Nat), j < 12 → gb done j = false → 0 ≤ g sl1 j ∧ g sl1 j ≤ 16000000000 := fun j hj hd => by
   have h1 := sc.sT j i hj hd (.inl rfl)
   have h2 := hbu i hi
   have h3 := hbv j hj
   have h4 := hw i j hi hj
   have h5 : red b u v i j = g u i + g v j - wt b i j := rfl
   have h6 := sc.qm j hj hd
   omega
  obtain ⟨u1, v1, sl2, e2, hul, hvl, hsl, hru, hrv⟩ := shift k (by omega) (g sl1 q) tree ⟨R, u, v⟩ done sl1 hx0.1 (by omega) (by rw [av.tl]; omega) av.ul av.vl sc.sll av.tr av.ti
   (fun r hr => by have := hbu r hr; show _ ≤ g u r ∧ g u r ≤ _; omega) (fun j hj => by have := hbv j hj; show _ ≤ g v j ∧ g v j ≤ _; omega) (fun j hj => by
    cases hd : gb done j with
    | true => have h1 := hkeep j hj hd; have h2 := av.slb j hj; omega
    | false => have := hsb j hj hd; omega)
  obtain ⟨hfin, hav⟩ := av.step mt hi hM0 hM hw sc hkeep hul hvl hsl (fun r hr hT => (hru r hr).1 ((av.tm r).2 hT)) (fun r hr hT => (hru r hr).2 (fun h => hT ((av.tm r).1 h))) (fun j hj hd => (hrv j hj).1 hd) (fun j hj hd => (hrv j hj).2 hd)
  have hq := sc.q12
  simp only [assign_solution_augments0.l2]
  rw [e, Option.bind_some]
  simp only [tn]
  rw [if_pos (by omega), if_pos (by omega), show assign_solution_augment_1s0.f k (sl1.getD q 0) tree ⟨R, u, v⟩ done sl1 = _ from e2, Option.bind_some]
  rw [if_pos (by omega), if_pos (by omega), if_pos (by omega), if_pos (by omega)]
  by_cases hf : g R q = -1
  ·rw [if_pos hf]
   exact ⟨_, _, _, _, _, _, q, ds, rfl, hfin, hf⟩
  ·have hr := (mt.rng q hq).resolve_left hf
   have hdl := av.tl
   rw [if_neg hf, if_pos (by omega), if_pos (by omega), if_pos (by simp only [List.length_cons, List.length_nil]; omega)]
   have hund : und (done.set q true) < und done := cntF_lt (i := q) (by show (!gb done q) = true; rw [sc.qu]; rfl) (by show (!gb (done.set q true) q) = false; rw [gbset (by rw [av.dl]; exact hq), if_pos rfl]; rfl) (fun j hj => by show (!gb (done.set q true) j) = !gb done j; rw [gbset (by rw [av.dl]; exact hq), if_neg hj]) 12 hq
   exact ih k u1 v1 sl2 fr1 (done.set q true) (tree ++ [g R q]) (q : Int) (g R q) (q :: ds) (hav hf) (by omega) (by simp only [List.length_cons]; omega) (by omega)
end
end Go.Proofs.Ytihmbmeelheinaa.hun
namespace Go.Proofs.Ytihmbmeelheinaa.hun
open Go Go.Proofs.Ytihmbmeelheinaa Go.Proofs.Ytihmbmeelheinaa.RW
set_option linter.unusedVariables false
set_option maxRecDepth 100000
set_option maxHeartbeats 4000000
section
variable {M : Int} {i : Nat} {b R u v fr : List Int}
/-- The rows below i are matched without column c. -/
structure Vac (i : Nat) (b u v x : List Int) (c : Nat) : Prop where
 len : x.length = 12
 c12 : c < 12
 rng : ∀ j, j < 12 → j ≠ c → g x j = -1 ∨ (0 ≤ g x j ∧ g x j < (i : Int))
 inj : ∀ j j', j < 12 → j' < 12 → j ≠ c → j' ≠ c → 0 ≤ g x j → g x j = g x j' → j = j'
 onto : ∀ r, r < i → ∃ j, j < 12 ∧ j ≠ c ∧ g x j = (r : Int)
 tight : ∀ j (r : Nat), j < 12 → j ≠ c → g x j = (r : Int) → red b u v r j = 0
 zero : ∀ j, j < 12 → j ≠ c → g x j = -1 → g v j = 0
theorem path_from : ∀ {ds : List Nat}, PathOK i b R u v fr ds → ∀ p, p ∈ ds → ∃ ds2, PathOK i b R u v fr (p :: ds2) ∧ (∀ q, q ∈ ds2 → q ∈ ds) ∧ ds2.length < ds.length
 | d :: ds, h, p, hp => by
  rcases List.mem_cons.1 hp with rfl | hp
  ·exact ⟨ds, h, fun q hq => List.mem_cons_of_mem _ hq, by simp⟩
  ·obtain ⟨ds2, h1, h2, h3⟩ := path_from h.2.2.2 p hp
   exact ⟨ds2, h1, fun q hq => List.mem_cons_of_mem _ (h2 q hq), by simp only [List.length_cons]; omega⟩
theorem flip (hi : i < 12) : ∀ (n k : Nat) (x : List Int) (c : Nat) (ds : List Nat), ds.length ≤ n → n + 2 < k → PathOK i b R u v fr (c :: ds) → Vac i b u v x c → (∀ p, p ∈ ds → g x p = g R p ∧ p < 12 ∧ 0 ≤ g R p) →
  ∃ x', assign_solution_augments0.l1 (i : Int) fr k x (c : Int) = some x' ∧ Mt (i + 1) x' ∧ (∀ j (r : Nat), j < 12 → g x' j = (r : Int) → red b u v r j = 0) ∧ ∀ j, j < 12 → g x' j = -1 → g v j = 0 := by
 intro n
 induction n with
 | zero =>
  intro k x c ds hn hk hp hv hR
  obtain rfl : ds = [] := List.eq_nil_of_length_eq_zero (by omega)
  obtain ⟨k, rfl⟩ : ∃ m, k = m + 2 := ⟨k - 2, by omega⟩
  obtain ⟨h1, h2, h3, h4⟩ := hp
  rcases h2 with ⟨h5, h6⟩ | ⟨p, h5, _⟩
  ·have hkey : ∀ j, g (x.set c (i : Int)) j = if j = c then (i : Int) else g x j := fun j => gset (by rw [hv.len]; exact h1) _ j
   refine ⟨x.set c (i : Int), ?_, ⟨by rw [List.length_set]; exact hv.len, fun j hj => ?_, fun j j' hj hj' h0 he => ?_, fun r hr => ?_⟩, fun j r hj hr => ?_, fun j hj hr => ?_⟩
   ·have h5' : fr.getD c 0 = -1 := h5
    simp only [assign_solution_augments0.l1, tn]
    rw [if_pos (by omega), if_pos (by omega), if_pos (by omega), h5', if_pos rfl, if_pos (by omega), if_pos (by omega), Option.bind_some]
    simp
   ·rw [hkey]
    split
    ·exact .inr ⟨by omega, by omega⟩
    ·rename_i e
     exact (hv.rng j hj e).imp id (fun h => by omega)
   ·rw [hkey, hkey] at he
    rw [hkey] at h0
    by_cases e1 : j = c <;> by_cases e2 : j' = c
    ·omega
    ·rw [if_pos e1, if_neg e2] at he
     have := hv.rng j' hj' e2
     omega
    ·rw [if_neg e1, if_pos e2] at he
     have := hv.rng j hj e1
     omega
    ·rw [if_neg e1, if_neg e2] at he
     rw [if_neg e1] at h0
     exact hv.inj j j' hj hj' e1 e2 h0 he
   ·by_cases e : r = i
    ·exact ⟨c, h1, by rw [hkey, if_pos rfl, e]⟩
    ·obtain ⟨j, hj, hjc, hjr⟩ := hv.onto r (by omega)
     exact ⟨j, hj, by rw [hkey, if_neg hjc, hjr]⟩
   ·rw [hkey] at hr
    split at hr
    ·rename_i e
     have : r = i := by omega
     rw [e, this]; exact h6
    ·rename_i e; exact hv.tight j r hj e hr
   ·rw [hkey] at hr
    split at hr
    ·omega
    ·rename_i e; exact hv.zero j hj e hr
  ·cases h5
 | succ n ih =>
  intro k x c ds hn hk hp hv hR
  obtain ⟨h1, h2, h3, h4⟩ := hp
  rcases h2 with ⟨h5, h6⟩ | ⟨p, h5, h6, h7⟩
  ·exact ih k x c [] (by simp) (by omega) ⟨h1, .inl ⟨h5, h6⟩, by simp, trivial⟩ hv (fun p hp => by cases hp) |>.elim fun x' h => ⟨x', h⟩
  ·obtain ⟨k, rfl⟩ : ∃ m, k = m + 1 := ⟨k - 1, by omega⟩
   obtain ⟨hxp, hp12, hp0⟩ := hR p h5
   have hpc : p ≠ c := fun e => h3 (e ▸ h5)
   obtain ⟨ds2, h8, h9, h10⟩ := path_from h4 p h5
   have hkey : ∀ j, g (x.set c (g x p)) j = if j = c then g x p else g x j := fun j => gset (by rw [hv.len]; exact h1) _ j
   have hpi := (hv.rng p hp12 hpc).resolve_left (by omega)
   have hv2 : Vac i b u v (x.set c (g x p)) p := by
    refine ⟨by rw [List.length_set]; exact hv.len, hp12, fun j hj hjp => ?_, fun j j' hj hj' hjp hjp' h0 he => ?_, fun r hr => ?_, fun j r hj hjp hr => ?_, fun j hj hjp hr => ?_⟩
    ·rw [hkey]
     split
     ·exact .inr hpi
     ·rename_i e; exact hv.rng j hj e
    ·rw [hkey, hkey] at he
     rw [hkey] at h0
     by_cases e1 : j = c <;> by_cases e2 : j' = c
     ·omega
     ·rw [if_pos e1, if_neg e2] at he
      exact absurd (hv.inj p j' hp12 hj' hpc e2 hpi.1 he) (fun e => hjp' e.symm)
     ·rw [if_neg e1, if_pos e2] at he
      rw [if_neg e1] at h0
      exact absurd (hv.inj j p hj hp12 e1 hpc h0 he) hjp
     ·rw [if_neg e1, if_neg e2] at he
      rw [if_neg e1] at h0
      exact hv.inj j j' hj hj' e1 e2 h0 he
    ·obtain ⟨j, hj, hjc, hjr⟩ := hv.onto r hr
     by_cases e : j = p
     ·exact ⟨c, h1, fun e2 => hpc e2.symm, by rw [hkey, if_pos rfl, ← e, hjr]⟩
     ·exact ⟨j, hj, e, by rw [hkey, if_neg hjc, hjr]⟩
    ·rw [hkey] at hr
     split at hr
     ·rename_i e
      rw [e]
      have : r = (g R p).toNat := by omega
      rw [this]; exact h7
     ·rename_i e; exact hv.tight j r hj e hr
    ·rw [hkey] at hr
     split at hr
     ·omega
     ·rename_i e; exact hv.zero j hj e hr
   obtain ⟨x', e, hx⟩ := ih k (x.set c (g x p)) p ds2 (by omega) (by omega) h8 hv2 (fun q hq => by
    have hq1 := h9 q hq
    have hqc : q ≠ c := fun e => h3 (e ▸ hq1)
    rw [hkey, if_neg hqc]
    exact hR q hq1)
   refine ⟨x', ?_, hx⟩
   have h6' : fr.getD c 0 = (p : Int) := h6
   simp only [assign_solution_augments0.l1, tn]
   rw [if_pos (by omega), if_pos (by omega), if_pos (by omega), h6', if_neg (by omega), if_pos (by omega), if_pos (by omega), if_pos (by omega), if_pos (by omega), Option.bind_some]
   exact e
/-! ### the new row's potential -/
theorem raise (i : Nat) (hi : i < 12) (R u v b : List Int) (M : Int) (hM0 : 0 ≤ M) (hM : M ≤ 1073741824) (hv : ∀ j, j < 12 → 0 ≤ g v j ∧ g v j ≤ 14000000000) (hw : ∀ r j, r < 12 → j < 12 → 0 ≤ wt b r j ∧ wt b r j ≤ M) : ∀ (d k n : Nat) (x : List Int), d + n = 12 → d < k → x.length = 12 → 0 ≤ g x i ∧ g x i ≤ M →
  ∃ x', assign_solution_augments0.l4 (i : Int) ⟨R, u, v⟩ b k x (n : Int) = some x' ∧ x'.length = 12 ∧ (∀ r, r ≠ i → g x' r = g x r) ∧ g x i ≤ g x' i ∧ g x' i ≤ M ∧ ∀ j, n ≤ j → j < 12 → wt b i j - g v j ≤ g x' i := by
 intro d
 induction d with
 | zero =>
  intro k n x hd hk hx hb
  obtain ⟨k, rfl⟩ : ∃ m, k = m + 1 := ⟨k - 1, by omega⟩
  refine ⟨x, ?_, hx, fun _ _ => rfl, Int.le_refl _, hb.2, fun j h1 h2 => by omega⟩
  simp only [assign_solution_augments0.l4]
  rw [if_neg (by omega)]
 | succ d ih =>
  intro k n x hd hk hx hb
  obtain ⟨k, rfl⟩ : ∃ m, k = m + 1 := ⟨k - 1, by omega⟩
  have hn : n < 12 := by omega
  have h1 := hv n hn
  have h2 := hw i n hi hn
  have e1 : W .i64 (b.getD (i * 12 + n) 0 - v.getD n 0) = wt b i n - g v n := W64 (by show _ ≤ wt b i n - g v n; omega) (by show wt b i n - g v n ≤ _; omega)
  have hmax : ∀ a c : Int, iMax a c = if c > a then c else a := fun _ _ => rfl
  have hkey : ∀ j, g (x.set i (iMax (g x i) (wt b i n - g v n))) j = if j = i then iMax (g x i) (wt b i n - g v n) else g x j := fun j => gset (by omega) _ j
  have hm : g x i ≤ iMax (g x i) (wt b i n - g v n) ∧ wt b i n - g v n ≤ iMax (g x i) (wt b i n - g v n) ∧ iMax (g x i) (wt b i n - g v n) ≤ M := by rw [hmax]; split <;> omega
  obtain ⟨x', e, h3, h4, h5, h6, h7⟩ := ih k (n + 1) (x.set i (iMax (g x i) (wt b i n - g v n))) (by omega) (by omega) (by rw [List.length_set]; exact hx) (by rw [hkey, if_pos rfl]; omega)
  refine ⟨x', ?_, h3, fun r hr => ?_, ?_, h6, fun j hj hj2 => ?_⟩
  ·simp only [assign_solution_augments0.l4, tn]
   rw [if_pos (by omega), if_pos (by omega), if_pos (by omega), if_pos (by omega), if_pos (by omega), if_pos (by omega), if_pos (by omega), if_pos (by omega), if_pos (by omega), if_pos (by omega), if_pos (by omega), Wn (by omega), e1]
   exact e
  ·rw [h4 r hr, hkey, if_neg hr]
  ·rw [hkey, if_pos rfl] at h5; omega
  ·rw [hkey, if_pos rfl] at h5
   by_cases e2 : j = n
   ·rw [e2]; omega
   ·exact h7 j (by omega) hj2
end
end Go.Proofs.Ytihmbmeelheinaa.hun
