/- Words of the walk, the functions' walks and plain laws, joined; no conditions beyond those that the theorems name. -/
import Derived.Test.YtdmhbcgmimfjcaaX82
import Derived.Test.YtdmhbcgmimfjcaaX85
import Derived.Test.YtdmhbcgmimfjcaaX84
import Derived.ChangeArms
import Derived.DataReads
import Derived.OpenShut
namespace Go.Proofs.Ytdmhbcgmimfjcaa
open Go Go.Proofs.Ytdmhbcgmimfjcaa.RW
set_option linter.unusedVariables false
set_option maxRecDepth 100000
set_option maxHeartbeats 8000000

/-! ### armillarylaw22_sanity: function 10, armillary/armillarylaw22.sanity -/
noncomputable def K10_0 : Code := cBody Try.f10
def armillarylaw22_sanity.k1  (x1 : Bool) : Option (Bool) := (some x1)
def armillarylaw22_sanity.f (k : Nat)  : Option (Bool) := ((assign_Solve.f k [[3, 5], [4, 7]]).bind fun t1 => ((assign_Solve.f k [[5], [7]]).bind fun t2 => ((assign_Solve.f k [[0, 0], [0, 0]]).bind fun t3 => ((assign_Solve.f k []).bind fun t4 => ((assign_Value.f k [[3, 5], [4, 7]] [1, 0]).bind fun t5 => ((assign_Value.f k [[3, 5], [4, 7]] [(-1), 1]).bind fun t6 => ((assign_Value.f k [[3, 5], [4, 7]] [1, 1]).bind fun t7 => ((assign_Value.f k [[3, 5], [4, 7]] [1]).bind fun t8 => (((armillaryref22_Same.f k t1.1 [0, 1]).bind fun t9 => (if t9 = true then ((assign_VerifyDuals.f k [[3, 5], [4, 7]] t1.1 t1.2).bind fun t10 => (if t10 = true then ((armillaryref22_Same.f k t2.1 [(-1), 0]).bind fun t11 => (if t11 = true then ((armillaryref22_Same.f k t3.1 [0, 1]).bind fun t12 => (if t12 = true then (if (W .i64 ((W .i64 ((t4.1.length : Int) + (t4.2.f0.length : Int))) + (t4.2.f1.length : Int))) = 0 then (if t5.1 = 9 then (if t5.2 = true then (if t6.1 = 7 then (if t6.2 = true then (if t7.2 = true then (some false) else (if t8.2 = true then (some false) else ((assign_VerifyDuals.f k [[3, 5], [4, 7]] t1.1 (⟨[3, 5], [0, 2]⟩ : S26)).bind fun t13 => (if t13 = true then ((assign_VerifyDuals.f k [[3, 5], [4, 7]] t1.1 (⟨[3, 5], [0, 1]⟩ : S26)).bind fun t14 => (if t14 = true then (some false) else ((assign_VerifyDuals.f k [[3, 5], [4, 7]] t1.1 (⟨[4, 5], [0, 2]⟩ : S26)).bind fun t15 => (if t15 = true then (some false) else ((assign_VerifyDuals.f k [[3, 5], [4, 7]] [1, 0] (⟨[3, 5], [0, 2]⟩ : S26)).bind fun t16 => (if t16 = true then (some false) else ((assign_Valid.f k [[3, 5], [4, 7]]).bind fun t17 => (if t17 = true then ((assign_Valid.f k []).bind fun t18 => (if t18 = true then ((assign_Valid.f k [[1], []]).bind fun t19 => (if t19 = true then (some false) else ((assign_Valid.f k [[(-1)]]).bind fun t20 => (some (!t20))))) else (some false))) else (some false))))))))) else (some false))))) else (some false)) else (some false)) else (some false)) else (some false)) else (some false)) else (some false))) else (some false))) else (some false))) else (some false))).bind (armillarylaw22_sanity.k1))))))))))
def armillarylaw22_sanity.Post (I : Imm) (w : World) (r : Bool) (v : Value) (w' : World) : Prop :=
 ∃ (J : Imm), v = .bool r ∧ Got w w' I J []
theorem armillarylaw22_sanity.calls (k : Nat) (I0 : Imm)  (w : World) (hI : I0.at_ w)  (r : Bool) (h : armillarylaw22_sanity.f k  = some r) :
  Calls Try.prog 10 [].toArray w fun e w' => ∃ v, e = .returned v ∧ armillarylaw22_sanity.Post I0 w r v w' := by
 have H : ((assign_Solve.f k [[3, 5], [4, 7]]).bind fun t1 => ((assign_Solve.f k [[5], [7]]).bind fun t2 => ((assign_Solve.f k [[0, 0], [0, 0]]).bind fun t3 => ((assign_Solve.f k []).bind fun t4 => ((assign_Value.f k [[3, 5], [4, 7]] [1, 0]).bind fun t5 => ((assign_Value.f k [[3, 5], [4, 7]] [(-1), 1]).bind fun t6 => ((assign_Value.f k [[3, 5], [4, 7]] [1, 1]).bind fun t7 => ((assign_Value.f k [[3, 5], [4, 7]] [1]).bind fun t8 => (((armillaryref22_Same.f k t1.1 [0, 1]).bind fun t9 => (if t9 = true then ((assign_VerifyDuals.f k [[3, 5], [4, 7]] t1.1 t1.2).bind fun t10 => (if t10 = true then ((armillaryref22_Same.f k t2.1 [(-1), 0]).bind fun t11 => (if t11 = true then ((armillaryref22_Same.f k t3.1 [0, 1]).bind fun t12 => (if t12 = true then (if (W .i64 ((W .i64 ((t4.1.length : Int) + (t4.2.f0.length : Int))) + (t4.2.f1.length : Int))) = 0 then (if t5.1 = 9 then (if t5.2 = true then (if t6.1 = 7 then (if t6.2 = true then (if t7.2 = true then (some false) else (if t8.2 = true then (some false) else ((assign_VerifyDuals.f k [[3, 5], [4, 7]] t1.1 (⟨[3, 5], [0, 2]⟩ : S26)).bind fun t13 => (if t13 = true then ((assign_VerifyDuals.f k [[3, 5], [4, 7]] t1.1 (⟨[3, 5], [0, 1]⟩ : S26)).bind fun t14 => (if t14 = true then (some false) else ((assign_VerifyDuals.f k [[3, 5], [4, 7]] t1.1 (⟨[4, 5], [0, 2]⟩ : S26)).bind fun t15 => (if t15 = true then (some false) else ((assign_VerifyDuals.f k [[3, 5], [4, 7]] [1, 0] (⟨[3, 5], [0, 2]⟩ : S26)).bind fun t16 => (if t16 = true then (some false) else ((assign_Valid.f k [[3, 5], [4, 7]]).bind fun t17 => (if t17 = true then ((assign_Valid.f k []).bind fun t18 => (if t18 = true then ((assign_Valid.f k [[1], []]).bind fun t19 => (if t19 = true then (some false) else ((assign_Valid.f k [[(-1)]]).bind fun t20 => (some (!t20))))) else (some false))) else (some false))))))))) else (some false))))) else (some false)) else (some false)) else (some false)) else (some false)) else (some false)) else (some false))) else (some false))) else (some false))) else (some false))).bind (armillarylaw22_sanity.k1)))))))))) = some r := h
 clear h
 refine calls_body Try.func10 (by kernel_rfl) 179 (by kernel_rfl) (by kernel_rfl) ⟨w, fun _ => False, I0⟩ I0 [] [] (by kernel_rfl) (Sat.start w _ I0 hI) ?_
 generalize w.heap.size = nx0
 show OK _ K10_0 _ _ _ _ _ _ _ _
 refine OK.sr ?_
 refine RL.st 1 [] ?_
 refine OK.sr ?_
 refine RL.spt 4 [(1, .slice (some ⟨nx0 + 2, 0, none⟩) 2 2)] (nx0 + 3) [⟨nx0, [i6 3, i6 5], 2⟩, ⟨nx0 + 1, [i6 4, i6 7], 2⟩, ⟨nx0 + 2, [.slice (some ⟨nx0, 0, none⟩) 2 2, .slice (some ⟨nx0 + 1, 0, none⟩) 2 2], 24⟩] ?_
 refine OK.sr ?_
 refine RL.s 1 [(23, .slice (some ⟨nx0 + 2, 0, none⟩) 2 2), (1, .slice (some ⟨nx0 + 2, 0, none⟩) 2 2)] ?_
 refine RL.freezeL (d := (Ty.int .i64)) (xs := [3, 5]) (b := ⟨nx0, [i6 3, i6 5], 2⟩) 0 (by kernel_rfl) ⟨_, _, rfl, rfl, ⟨_, _, rfl, rfl, rfl⟩⟩ (Nat.le_of_ble_eq_true rfl) (fun I1 hi1 hr1 => ?_)
 refine RL.freezeL (d := (Ty.int .i64)) (xs := [4, 7]) (b := ⟨nx0 + 1, [i6 4, i6 7], 2⟩) 0 (by kernel_rfl) ⟨_, _, rfl, rfl, ⟨_, _, rfl, rfl, rfl⟩⟩ (Nat.le_of_ble_eq_true rfl) (fun I2 hi2 hr2 => ?_)
 refine RL.freezeL (d := (Ty.slice (Ty.int .i64))) (xs := [[3, 5], [4, 7]]) (b := ⟨nx0 + 2, [.slice (some ⟨nx0, 0, none⟩) 2 2, .slice (some ⟨nx0 + 1, 0, none⟩) 2 2], 24⟩) 0 (by kernel_rfl) ⟨_, _, rfl, ⟨_, _, rfl, (Nat.le_of_ble_eq_true rfl), (Rd.ext hi2 hr1)⟩, ⟨_, _, rfl, ⟨_, _, rfl, (Nat.le_of_ble_eq_true rfl), hr2⟩, rfl⟩⟩ (Nat.le_of_ble_eq_true rfl) (fun I3 hi3 hr3 => ?_)
 obtain ⟨t1, hA1, H⟩ := bnd H
 refine RL.callP 14 [.slice (some ⟨nx0 + 2, 0, none⟩) 2 2] (some 24) (fun w => assign_Solve.Post I3 w t1) (by kernel_rfl) (by kernel_rfl) (fun w hs => assign_Solve.calls k I3 [[3, 5], [4, 7]] (some ⟨nx0 + 2, 0, none⟩) 2 w hs.im (Nat.le_of_ble_eq_true rfl) hr3 t1 hA1) ?_
 rintro w v w' hs ⟨I4, A1, c1, cs1, A2, c2, cs2, A3, c3, cs3, rfl, hg, hp1, hp2, hp3⟩
 have hi4 := hg.le
 refine RL.resume (X' := [orow 3 1 A1 t1.1.length c1 cs1, orow 2 1 A2 t1.2.f0.length c2 cs2, orow 2 1 A3 t1.2.f1.length c3 cs3]) rfl (hs.call hg) ?_
 clear hs hg
 generalize w'.heap.size = nx1
 clear w w'
 refine RL.freeze (e := 2) (sz := 1) (S := A2) (n := t1.2.f0.length) (cap := c2) 1 (by kernel_rfl) hp2 rfl (fun I5 hi5 hl1 hr4 => ?_)
 skip
 refine RL.freeze (e := 2) (sz := 1) (S := A3) (n := t1.2.f1.length) (cap := c3) 1 (by kernel_rfl) (Reps.ext hi5 hp3) rfl (fun I6 hi6 hl2 hr5 => ?_)
 skip
 refine RL.simP (K' := [(2, .slice A1 t1.1.length c1), (3, pt nx1 0), (1, .slice (some ⟨nx0 + 2, 0, none⟩) 2 2)]) (nx' := nx1 + 1) (L' := [⟨nx1, [.slice A2 t1.2.f0.length c2, .slice A3 t1.2.f1.length c3], 26⟩]) [] (RFacts.nil _ _ _) 6 [.no, .no, .no, .no, .no, .l 0] (by kernel_rfl) (by kernel_rfl) ?_
 refine RL.nt ?_
 refine OK.sr ?_
 refine RL.spt 4 [(4, .slice (some ⟨nx1 + 3, 0, none⟩) 2 2), (2, .slice A1 t1.1.length c1), (3, pt nx1 0), (1, .slice (some ⟨nx0 + 2, 0, none⟩) 2 2)] (nx1 + 4) [⟨nx1, [.slice A2 t1.2.f0.length c2, .slice A3 t1.2.f1.length c3], 26⟩, ⟨nx1 + 1, [i6 5], 2⟩, ⟨nx1 + 2, [i6 7], 2⟩, ⟨nx1 + 3, [.slice (some ⟨nx1 + 1, 0, none⟩) 1 1, .slice (some ⟨nx1 + 2, 0, none⟩) 1 1], 24⟩] ?_
 refine OK.sr ?_
 refine RL.s 1 [(31, .slice (some ⟨nx1 + 3, 0, none⟩) 2 2), (2, .slice A1 t1.1.length c1), (3, pt nx1 0), (1, .slice (some ⟨nx0 + 2, 0, none⟩) 2 2)] ?_
 refine RL.freezeL (d := (Ty.int .i64)) (xs := [5]) (b := ⟨nx1 + 1, [i6 5], 2⟩) 1 (by kernel_rfl) ⟨_, _, rfl, rfl, rfl⟩ (Nat.le_of_ble_eq_true rfl) (fun I7 hi7 hr6 => ?_)
 refine RL.freezeL (d := (Ty.int .i64)) (xs := [7]) (b := ⟨nx1 + 2, [i6 7], 2⟩) 1 (by kernel_rfl) ⟨_, _, rfl, rfl, rfl⟩ (Nat.le_of_ble_eq_true rfl) (fun I8 hi8 hr7 => ?_)
 refine RL.freezeL (d := (Ty.slice (Ty.int .i64))) (xs := [[5], [7]]) (b := ⟨nx1 + 3, [.slice (some ⟨nx1 + 1, 0, none⟩) 1 1, .slice (some ⟨nx1 + 2, 0, none⟩) 1 1], 24⟩) 1 (by kernel_rfl) ⟨_, _, rfl, ⟨_, _, rfl, (Nat.le_of_ble_eq_true rfl), (Rd.ext hi8 hr6)⟩, ⟨_, _, rfl, ⟨_, _, rfl, (Nat.le_of_ble_eq_true rfl), hr7⟩, rfl⟩⟩ (Nat.le_of_ble_eq_true rfl) (fun I9 hi9 hr8 => ?_)
 obtain ⟨t2, hA2, H⟩ := bnd H
 refine RL.callP 14 [.slice (some ⟨nx1 + 3, 0, none⟩) 2 2] (some 32) (fun w => assign_Solve.Post I9 w t2) (by kernel_rfl) (by kernel_rfl) (fun w hs => assign_Solve.calls k I9 [[5], [7]] (some ⟨nx1 + 3, 0, none⟩) 2 w hs.im (Nat.le_of_ble_eq_true rfl) hr8 t2 hA2) ?_
 rintro w v w' hs ⟨I10, A4, c4, cs4, A5, c5, cs5, A6, c6, cs6, rfl, hg, hp4, hp5, hp6⟩
 have hi10 := hg.le
 refine RL.resume (X' := [orow 3 1 A1 t1.1.length c1 cs1, orow 3 1 A4 t2.1.length c4 cs4, orow 2 1 A5 t2.2.f0.length c5 cs5, orow 2 1 A6 t2.2.f1.length c6 cs6]) rfl (hs.call hg) ?_
 clear hs hg
 generalize w'.heap.size = nx2
 clear w w'
 refine RL.freeze (e := 2) (sz := 1) (S := A5) (n := t2.2.f0.length) (cap := c5) 2 (by kernel_rfl) hp5 rfl (fun I11 hi11 hl3 hr9 => ?_)
 skip
 refine RL.freeze (e := 2) (sz := 1) (S := A6) (n := t2.2.f1.length) (cap := c6) 2 (by kernel_rfl) (Reps.ext hi11 hp6) rfl (fun I12 hi12 hl4 hr10 => ?_)
 skip
 refine RL.simP (K' := [(5, .slice A4 t2.1.length c4), (2, .slice A1 t1.1.length c1), (3, pt nx1 0), (1, .slice (some ⟨nx0 + 2, 0, none⟩) 2 2)]) (nx' := nx2 + 1) (L' := [⟨nx1, [.slice A2 t1.2.f0.length c2, .slice A3 t1.2.f1.length c3], 26⟩, ⟨nx2, [.slice A5 t2.2.f0.length c5, .slice A6 t2.2.f1.length c6], 26⟩]) [] (RFacts.nil _ _ _) 6 [.no, .no, .no, .no, .no, .l 1] (by kernel_rfl) (by kernel_rfl) ?_
 refine RL.nt ?_
 refine OK.sr ?_
 refine RL.sp 3 [(38, .slice (some ⟨nx2 + 3, 0, none⟩) 2 2), (5, .slice A4 t2.1.length c4), (2, .slice A1 t1.1.length c1), (3, pt nx1 0), (1, .slice (some ⟨nx0 + 2, 0, none⟩) 2 2)] (nx2 + 4) [⟨nx1, [.slice A2 t1.2.f0.length c2, .slice A3 t1.2.f1.length c3], 26⟩, ⟨nx2, [.slice A5 t2.2.f0.length c5, .slice A6 t2.2.f1.length c6], 26⟩, ⟨nx2 + 1, [i6 0, i6 0], 2⟩, ⟨nx2 + 2, [i6 0, i6 0], 2⟩, ⟨nx2 + 3, [.slice (some ⟨nx2 + 1, 0, none⟩) 2 2, .slice (some ⟨nx2 + 2, 0, none⟩) 2 2], 24⟩] ?_
 refine RL.freezeL (d := (Ty.int .i64)) (xs := [0, 0]) (b := ⟨nx2 + 1, [i6 0, i6 0], 2⟩) 2 (by kernel_rfl) ⟨_, _, rfl, rfl, ⟨_, _, rfl, rfl, rfl⟩⟩ (Nat.le_of_ble_eq_true rfl) (fun I13 hi13 hr11 => ?_)
 refine RL.freezeL (d := (Ty.int .i64)) (xs := [0, 0]) (b := ⟨nx2 + 2, [i6 0, i6 0], 2⟩) 2 (by kernel_rfl) ⟨_, _, rfl, rfl, ⟨_, _, rfl, rfl, rfl⟩⟩ (Nat.le_of_ble_eq_true rfl) (fun I14 hi14 hr12 => ?_)
 refine RL.freezeL (d := (Ty.slice (Ty.int .i64))) (xs := [[0, 0], [0, 0]]) (b := ⟨nx2 + 3, [.slice (some ⟨nx2 + 1, 0, none⟩) 2 2, .slice (some ⟨nx2 + 2, 0, none⟩) 2 2], 24⟩) 2 (by kernel_rfl) ⟨_, _, rfl, ⟨_, _, rfl, (Nat.le_of_ble_eq_true rfl), (Rd.ext hi14 hr11)⟩, ⟨_, _, rfl, ⟨_, _, rfl, (Nat.le_of_ble_eq_true rfl), hr12⟩, rfl⟩⟩ (Nat.le_of_ble_eq_true rfl) (fun I15 hi15 hr13 => ?_)
 obtain ⟨t3, hA3, H⟩ := bnd H
 refine RL.callP 14 [.slice (some ⟨nx2 + 3, 0, none⟩) 2 2] (some 39) (fun w => assign_Solve.Post I15 w t3) (by kernel_rfl) (by kernel_rfl) (fun w hs => assign_Solve.calls k I15 [[0, 0], [0, 0]] (some ⟨nx2 + 3, 0, none⟩) 2 w hs.im (Nat.le_of_ble_eq_true rfl) hr13 t3 hA3) ?_
 rintro w v w' hs ⟨I16, A7, c7, cs7, A8, c8, cs8, A9, c9, cs9, rfl, hg, hp7, hp8, hp9⟩
 have hi16 := hg.le
 refine RL.resume (X' := [orow 3 1 A1 t1.1.length c1 cs1, orow 3 1 A4 t2.1.length c4 cs4, orow 3 1 A7 t3.1.length c7 cs7, orow 2 1 A8 t3.2.f0.length c8 cs8, orow 2 1 A9 t3.2.f1.length c9 cs9]) rfl (hs.call hg) ?_
 clear hs hg
 generalize w'.heap.size = nx3
 clear w w'
 refine RL.freeze (e := 2) (sz := 1) (S := A8) (n := t3.2.f0.length) (cap := c8) 3 (by kernel_rfl) hp8 rfl (fun I17 hi17 hl5 hr14 => ?_)
 skip
 refine RL.freeze (e := 2) (sz := 1) (S := A9) (n := t3.2.f1.length) (cap := c9) 3 (by kernel_rfl) (Reps.ext hi17 hp9) rfl (fun I18 hi18 hl6 hr15 => ?_)
 skip
 refine RL.simP (K' := [(7, .slice A7 t3.1.length c7), (5, .slice A4 t2.1.length c4), (2, .slice A1 t1.1.length c1), (3, pt nx1 0), (1, .slice (some ⟨nx0 + 2, 0, none⟩) 2 2)]) (nx' := nx3 + 1) (L' := [⟨nx1, [.slice A2 t1.2.f0.length c2, .slice A3 t1.2.f1.length c3], 26⟩, ⟨nx2, [.slice A5 t2.2.f0.length c5, .slice A6 t2.2.f1.length c6], 26⟩, ⟨nx3, [.slice A8 t3.2.f0.length c8, .slice A9 t3.2.f1.length c9], 26⟩]) [] (RFacts.nil _ _ _) 6 [.no, .no, .no, .no, .no, .l 2] (by kernel_rfl) (by kernel_rfl) ?_
 refine RL.nt ?_
 refine OK.sr ?_
 obtain ⟨t4, hA4, H⟩ := bnd H
 refine RL.callP 14 [.slice none 0 0] (some 43) (fun w => assign_Solve.Post I18 w t4) (by kernel_rfl) (by kernel_rfl) (fun w hs => assign_Solve.calls k I18 [] none 0 w hs.im (Nat.le_refl _) (Rd.nil _ _ _) t4 hA4) ?_
 rintro w v w' hs ⟨I19, A10, c10, cs10, A11, c11, cs11, A12, c12, cs12, rfl, hg, hp10, hp11, hp12⟩
 have hi19 := hg.le
 refine RL.resume (X' := [orow 3 1 A1 t1.1.length c1 cs1, orow 3 1 A4 t2.1.length c4 cs4, orow 3 1 A7 t3.1.length c7 cs7, orow 3 1 A10 t4.1.length c10 cs10, orow 2 1 A11 t4.2.f0.length c11 cs11, orow 2 1 A12 t4.2.f1.length c12 cs12]) rfl (hs.call hg) ?_
 clear hs hg
 generalize w'.heap.size = nx4
 clear w w'
 refine RL.freeze (e := 2) (sz := 1) (S := A11) (n := t4.2.f0.length) (cap := c11) 4 (by kernel_rfl) hp11 rfl (fun I20 hi20 hl7 hr16 => ?_)
 skip
 refine RL.freeze (e := 2) (sz := 1) (S := A12) (n := t4.2.f1.length) (cap := c12) 4 (by kernel_rfl) (Reps.ext hi20 hp12) rfl (fun I21 hi21 hl8 hr17 => ?_)
 skip
 refine RL.simP (K' := [(9, .slice A10 t4.1.length c10), (10, pt nx4 0), (7, .slice A7 t3.1.length c7), (5, .slice A4 t2.1.length c4), (2, .slice A1 t1.1.length c1), (3, pt nx1 0), (1, .slice (some ⟨nx0 + 2, 0, none⟩) 2 2)]) (nx' := nx4 + 1) (L' := [⟨nx1, [.slice A2 t1.2.f0.length c2, .slice A3 t1.2.f1.length c3], 26⟩, ⟨nx2, [.slice A5 t2.2.f0.length c5, .slice A6 t2.2.f1.length c6], 26⟩, ⟨nx3, [.slice A8 t3.2.f0.length c8, .slice A9 t3.2.f1.length c9], 26⟩, ⟨nx4, [.slice A11 t4.2.f0.length c11, .slice A12 t4.2.f1.length c12], 26⟩]) [] (RFacts.nil _ _ _) 6 [.no, .no, .no, .no, .no, .l 3] (by kernel_rfl) (by kernel_rfl) ?_
 refine RL.nt ?_
 refine OK.sr ?_
 refine RL.sp 2 [(48, .slice (some ⟨nx4 + 1, 0, none⟩) 2 2), (47, .slice (some ⟨nx0 + 2, 0, none⟩) 2 2), (9, .slice A10 t4.1.length c10), (10, pt nx4 0), (7, .slice A7 t3.1.length c7), (5, .slice A4 t2.1.length c4), (2, .slice A1 t1.1.length c1), (3, pt nx1 0), (1, .slice (some ⟨nx0 + 2, 0, none⟩) 2 2)] (nx4 + 2) [⟨nx1, [.slice A2 t1.2.f0.length c2, .slice A3 t1.2.f1.length c3], 26⟩, ⟨nx2, [.slice A5 t2.2.f0.length c5, .slice A6 t2.2.f1.length c6], 26⟩, ⟨nx3, [.slice A8 t3.2.f0.length c8, .slice A9 t3.2.f1.length c9], 26⟩, ⟨nx4, [.slice A11 t4.2.f0.length c11, .slice A12 t4.2.f1.length c12], 26⟩, ⟨nx4 + 1, [i6 1, i6 0], 3⟩] ?_
 refine RL.freezeL (d := (Ty.int .i64)) (xs := [1, 0]) (b := ⟨nx4 + 1, [i6 1, i6 0], 3⟩) 4 (by kernel_rfl) ⟨_, _, rfl, rfl, ⟨_, _, rfl, rfl, rfl⟩⟩ (Nat.le_of_ble_eq_true rfl) (fun I22 hi22 hr18 => ?_)
 obtain ⟨t5, hA5, H⟩ := bnd H
 refine RL.callP 15 [.slice (some ⟨nx0 + 2, 0, none⟩) 2 2, .slice (some ⟨nx4 + 1, 0, none⟩) 2 2] (some 49) (fun w => assign_Value.Post I22 w t5) (by kernel_rfl) (by kernel_rfl) (fun w hs => assign_Value.calls k I22 [[3, 5], [4, 7]] (some ⟨nx0 + 2, 0, none⟩) 2 [1, 0] (some ⟨nx4 + 1, 0, none⟩) 2 w hs.im (Nat.le_of_ble_eq_true rfl) (Rd.ext (Imm.le_trans (Imm.le_trans (Imm.le_trans (Imm.le_trans (Imm.le_trans (Imm.le_trans (Imm.le_trans (Imm.le_trans (Imm.le_trans (Imm.le_trans (Imm.le_trans (Imm.le_trans (Imm.le_trans (Imm.le_trans (Imm.le_trans (Imm.le_trans (Imm.le_trans (Imm.le_trans hi4 hi5) hi6) hi7) hi8) hi9) hi10) hi11) hi12) hi13) hi14) hi15) hi16) hi17) hi18) hi19) hi20) hi21) hi22) hr3) (Nat.le_of_ble_eq_true rfl) hr18 t5 hA5) ?_
 rintro w v w' hs ⟨I23, rfl, hg⟩
 have hi23 := hg.le
 refine RL.resume (X' := [orow 3 1 A1 t1.1.length c1 cs1, orow 3 1 A4 t2.1.length c4 cs4, orow 3 1 A7 t3.1.length c7 cs7, orow 3 1 A10 t4.1.length c10 cs10]) rfl (hs.call hg) ?_
 clear hs hg
 generalize w'.heap.size = nx5
 clear w w'
 refine RL.st 5 [(12, .bool t5.2), (11, i6 t5.1), (9, .slice A10 t4.1.length c10), (10, pt nx4 0), (7, .slice A7 t3.1.length c7), (5, .slice A4 t2.1.length c4), (2, .slice A1 t1.1.length c1), (3, pt nx1 0), (1, .slice (some ⟨nx0 + 2, 0, none⟩) 2 2)] ?_
 refine OK.sr ?_
 refine RL.sp 2 [(54, .slice (some ⟨nx5, 0, none⟩) 2 2), (53, .slice (some ⟨nx0 + 2, 0, none⟩) 2 2), (12, .bool t5.2), (11, i6 t5.1), (9, .slice A10 t4.1.length c10), (10, pt nx4 0), (7, .slice A7 t3.1.length c7), (5, .slice A4 t2.1.length c4), (2, .slice A1 t1.1.length c1), (3, pt nx1 0), (1, .slice (some ⟨nx0 + 2, 0, none⟩) 2 2)] (nx5 + 1) [⟨nx1, [.slice A2 t1.2.f0.length c2, .slice A3 t1.2.f1.length c3], 26⟩, ⟨nx2, [.slice A5 t2.2.f0.length c5, .slice A6 t2.2.f1.length c6], 26⟩, ⟨nx3, [.slice A8 t3.2.f0.length c8, .slice A9 t3.2.f1.length c9], 26⟩, ⟨nx4, [.slice A11 t4.2.f0.length c11, .slice A12 t4.2.f1.length c12], 26⟩, ⟨nx5, [i6 (-1), i6 1], 3⟩] ?_
 refine RL.freezeL (d := (Ty.int .i64)) (xs := [(-1), 1]) (b := ⟨nx5, [i6 (-1), i6 1], 3⟩) 4 (by kernel_rfl) ⟨_, _, rfl, rfl, ⟨_, _, rfl, rfl, rfl⟩⟩ (Nat.le_of_ble_eq_true rfl) (fun I24 hi24 hr19 => ?_)
 obtain ⟨t6, hA6, H⟩ := bnd H
 refine RL.callP 15 [.slice (some ⟨nx0 + 2, 0, none⟩) 2 2, .slice (some ⟨nx5, 0, none⟩) 2 2] (some 55) (fun w => assign_Value.Post I24 w t6) (by kernel_rfl) (by kernel_rfl) (fun w hs => assign_Value.calls k I24 [[3, 5], [4, 7]] (some ⟨nx0 + 2, 0, none⟩) 2 [(-1), 1] (some ⟨nx5, 0, none⟩) 2 w hs.im (Nat.le_of_ble_eq_true rfl) (Rd.ext (Imm.le_trans (Imm.le_trans (Imm.le_trans (Imm.le_trans (Imm.le_trans (Imm.le_trans (Imm.le_trans (Imm.le_trans (Imm.le_trans (Imm.le_trans (Imm.le_trans (Imm.le_trans (Imm.le_trans (Imm.le_trans (Imm.le_trans (Imm.le_trans (Imm.le_trans (Imm.le_trans (Imm.le_trans (Imm.le_trans hi4 hi5) hi6) hi7) hi8) hi9) hi10) hi11) hi12) hi13) hi14) hi15) hi16) hi17) hi18) hi19) hi20) hi21) hi22) hi23) hi24) hr3) (Nat.le_of_ble_eq_true rfl) hr19 t6 hA6) ?_
 rintro w v w' hs ⟨I25, rfl, hg⟩
 have hi25 := hg.le
 refine RL.resume (X' := [orow 3 1 A1 t1.1.length c1 cs1, orow 3 1 A4 t2.1.length c4 cs4, orow 3 1 A7 t3.1.length c7 cs7, orow 3 1 A10 t4.1.length c10 cs10]) rfl (hs.call hg) ?_
 clear hs hg
 generalize w'.heap.size = nx6
 clear w w'
 refine RL.st 5 [(14, .bool t6.2), (13, i6 t6.1), (12, .bool t5.2), (11, i6 t5.1), (9, .slice A10 t4.1.length c10), (10, pt nx4 0), (7, .slice A7 t3.1.length c7), (5, .slice A4 t2.1.length c4), (2, .slice A1 t1.1.length c1), (3, pt nx1 0), (1, .slice (some ⟨nx0 + 2, 0, none⟩) 2 2)] ?_
 refine OK.sr ?_
 refine RL.sp 2 [(60, .slice (some ⟨nx6, 0, none⟩) 2 2), (59, .slice (some ⟨nx0 + 2, 0, none⟩) 2 2), (14, .bool t6.2), (13, i6 t6.1), (12, .bool t5.2), (11, i6 t5.1), (9, .slice A10 t4.1.length c10), (10, pt nx4 0), (7, .slice A7 t3.1.length c7), (5, .slice A4 t2.1.length c4), (2, .slice A1 t1.1.length c1), (3, pt nx1 0), (1, .slice (some ⟨nx0 + 2, 0, none⟩) 2 2)] (nx6 + 1) [⟨nx1, [.slice A2 t1.2.f0.length c2, .slice A3 t1.2.f1.length c3], 26⟩, ⟨nx2, [.slice A5 t2.2.f0.length c5, .slice A6 t2.2.f1.length c6], 26⟩, ⟨nx3, [.slice A8 t3.2.f0.length c8, .slice A9 t3.2.f1.length c9], 26⟩, ⟨nx4, [.slice A11 t4.2.f0.length c11, .slice A12 t4.2.f1.length c12], 26⟩, ⟨nx6, [i6 1, i6 1], 3⟩] ?_
 refine RL.freezeL (d := (Ty.int .i64)) (xs := [1, 1]) (b := ⟨nx6, [i6 1, i6 1], 3⟩) 4 (by kernel_rfl) ⟨_, _, rfl, rfl, ⟨_, _, rfl, rfl, rfl⟩⟩ (Nat.le_of_ble_eq_true rfl) (fun I26 hi26 hr20 => ?_)
 obtain ⟨t7, hA7, H⟩ := bnd H
 refine RL.callP 15 [.slice (some ⟨nx0 + 2, 0, none⟩) 2 2, .slice (some ⟨nx6, 0, none⟩) 2 2] (some 61) (fun w => assign_Value.Post I26 w t7) (by kernel_rfl) (by kernel_rfl) (fun w hs => assign_Value.calls k I26 [[3, 5], [4, 7]] (some ⟨nx0 + 2, 0, none⟩) 2 [1, 1] (some ⟨nx6, 0, none⟩) 2 w hs.im (Nat.le_of_ble_eq_true rfl) (Rd.ext (Imm.le_trans (Imm.le_trans (Imm.le_trans (Imm.le_trans (Imm.le_trans (Imm.le_trans (Imm.le_trans (Imm.le_trans (Imm.le_trans (Imm.le_trans (Imm.le_trans (Imm.le_trans (Imm.le_trans (Imm.le_trans (Imm.le_trans (Imm.le_trans (Imm.le_trans (Imm.le_trans (Imm.le_trans (Imm.le_trans (Imm.le_trans (Imm.le_trans hi4 hi5) hi6) hi7) hi8) hi9) hi10) hi11) hi12) hi13) hi14) hi15) hi16) hi17) hi18) hi19) hi20) hi21) hi22) hi23) hi24) hi25) hi26) hr3) (Nat.le_of_ble_eq_true rfl) hr20 t7 hA7) ?_
 rintro w v w' hs ⟨I27, rfl, hg⟩
 have hi27 := hg.le
 refine RL.resume (X' := [orow 3 1 A1 t1.1.length c1 cs1, orow 3 1 A4 t2.1.length c4 cs4, orow 3 1 A7 t3.1.length c7 cs7, orow 3 1 A10 t4.1.length c10 cs10]) rfl (hs.call hg) ?_
 clear hs hg
 generalize w'.heap.size = nx7
 clear w w'
 refine RL.st 5 [(16, .bool t7.2), (14, .bool t6.2), (13, i6 t6.1), (12, .bool t5.2), (11, i6 t5.1), (9, .slice A10 t4.1.length c10), (10, pt nx4 0), (7, .slice A7 t3.1.length c7), (5, .slice A4 t2.1.length c4), (2, .slice A1 t1.1.length c1), (3, pt nx1 0), (1, .slice (some ⟨nx0 + 2, 0, none⟩) 2 2)] ?_
 refine OK.sr ?_
 refine RL.sp 2 [(66, .slice (some ⟨nx7, 0, none⟩) 1 1), (65, .slice (some ⟨nx0 + 2, 0, none⟩) 2 2), (16, .bool t7.2), (14, .bool t6.2), (13, i6 t6.1), (12, .bool t5.2), (11, i6 t5.1), (9, .slice A10 t4.1.length c10), (10, pt nx4 0), (7, .slice A7 t3.1.length c7), (5, .slice A4 t2.1.length c4), (2, .slice A1 t1.1.length c1), (3, pt nx1 0), (1, .slice (some ⟨nx0 + 2, 0, none⟩) 2 2)] (nx7 + 1) [⟨nx1, [.slice A2 t1.2.f0.length c2, .slice A3 t1.2.f1.length c3], 26⟩, ⟨nx2, [.slice A5 t2.2.f0.length c5, .slice A6 t2.2.f1.length c6], 26⟩, ⟨nx3, [.slice A8 t3.2.f0.length c8, .slice A9 t3.2.f1.length c9], 26⟩, ⟨nx4, [.slice A11 t4.2.f0.length c11, .slice A12 t4.2.f1.length c12], 26⟩, ⟨nx7, [i6 1], 3⟩] ?_
 refine RL.freezeL (d := (Ty.int .i64)) (xs := [1]) (b := ⟨nx7, [i6 1], 3⟩) 4 (by kernel_rfl) ⟨_, _, rfl, rfl, rfl⟩ (Nat.le_of_ble_eq_true rfl) (fun I28 hi28 hr21 => ?_)
 obtain ⟨t8, hA8, H⟩ := bnd H
 refine RL.callP 15 [.slice (some ⟨nx0 + 2, 0, none⟩) 2 2, .slice (some ⟨nx7, 0, none⟩) 1 1] (some 67) (fun w => assign_Value.Post I28 w t8) (by kernel_rfl) (by kernel_rfl) (fun w hs => assign_Value.calls k I28 [[3, 5], [4, 7]] (some ⟨nx0 + 2, 0, none⟩) 2 [1] (some ⟨nx7, 0, none⟩) 1 w hs.im (Nat.le_of_ble_eq_true rfl) (Rd.ext (Imm.le_trans (Imm.le_trans (Imm.le_trans (Imm.le_trans (Imm.le_trans (Imm.le_trans (Imm.le_trans (Imm.le_trans (Imm.le_trans (Imm.le_trans (Imm.le_trans (Imm.le_trans (Imm.le_trans (Imm.le_trans (Imm.le_trans (Imm.le_trans (Imm.le_trans (Imm.le_trans (Imm.le_trans (Imm.le_trans (Imm.le_trans (Imm.le_trans (Imm.le_trans (Imm.le_trans hi4 hi5) hi6) hi7) hi8) hi9) hi10) hi11) hi12) hi13) hi14) hi15) hi16) hi17) hi18) hi19) hi20) hi21) hi22) hi23) hi24) hi25) hi26) hi27) hi28) hr3) (Nat.le_of_ble_eq_true rfl) hr21 t8 hA8) ?_
 rintro w v w' hs ⟨I29, rfl, hg⟩
 have hi29 := hg.le
 refine RL.resume (X' := [orow 3 1 A1 t1.1.length c1 cs1, orow 3 1 A4 t2.1.length c4 cs4, orow 3 1 A7 t3.1.length c7 cs7, orow 3 1 A10 t4.1.length c10 cs10]) rfl (hs.call hg) ?_
 clear hs hg
 generalize w'.heap.size = nx8
 clear w w'
 refine RL.st 5 [(18, .bool t8.2), (16, .bool t7.2), (14, .bool t6.2), (13, i6 t6.1), (12, .bool t5.2), (11, i6 t5.1), (9, .slice A10 t4.1.length c10), (10, pt nx4 0), (7, .slice A7 t3.1.length c7), (5, .slice A4 t2.1.length c4), (2, .slice A1 t1.1.length c1), (3, pt nx1 0), (1, .slice (some ⟨nx0 + 2, 0, none⟩) 2 2)] ?_
 refine OK.sq ?_
 refine OK.join (fun K' I' _ L' X' => ∃ (x1 : Bool), K' = [(0, .bool x1)] ∧ L' = [⟨nx1, [.slice A2 t1.2.f0.length c2, .slice A3 t1.2.f1.length c3], 26⟩, ⟨nx2, [.slice A5 t2.2.f0.length c5, .slice A6 t2.2.f1.length c6], 26⟩, ⟨nx3, [.slice A8 t3.2.f0.length c8, .slice A9 t3.2.f1.length c9], 26⟩, ⟨nx4, [.slice A11 t4.2.f0.length c11, .slice A12 t4.2.f1.length c12], 26⟩] ∧ X' = [] ∧ Imm.le I29 I' ∧ armillarylaw22_sanity.k1 x1 = some r) ?_ ?_
 ·rintro _ I30 nx9 _ _ ⟨x1, rfl, rfl, rfl, hi30, H⟩
  rw [armillarylaw22_sanity.k1] at H
  refine QN.then_ ?_
  refine OK.re ?_
  obtain rfl := Option.some.inj H
  refine QN.body rfl [] (RFacts.nil _ _ _) (.no) (.bool x1) (by kernel_rfl) (by kernel_rfl) (by kernel_rfl) ?_ _ (.inr rfl)
  exact fun w' hs' => ⟨_, rfl, I30, rfl, hs'.got _ .slnil⟩
 ·intro Q_1 hJ1 hQ1
  obtain ⟨y1, H, HK1⟩ := bnd H
  refine OK.rg ?_
  refine RL.sp 2 [(71, .slice (some ⟨nx8, 0, none⟩) 2 2), (70, .slice A1 t1.1.length c1), (18, .bool t8.2), (16, .bool t7.2), (14, .bool t6.2), (13, i6 t6.1), (12, .bool t5.2), (11, i6 t5.1), (9, .slice A10 t4.1.length c10), (10, pt nx4 0), (7, .slice A7 t3.1.length c7), (5, .slice A4 t2.1.length c4), (2, .slice A1 t1.1.length c1), (3, pt nx1 0), (1, .slice (some ⟨nx0 + 2, 0, none⟩) 2 2)] (nx8 + 1) [⟨nx1, [.slice A2 t1.2.f0.length c2, .slice A3 t1.2.f1.length c3], 26⟩, ⟨nx2, [.slice A5 t2.2.f0.length c5, .slice A6 t2.2.f1.length c6], 26⟩, ⟨nx3, [.slice A8 t3.2.f0.length c8, .slice A9 t3.2.f1.length c9], 26⟩, ⟨nx4, [.slice A11 t4.2.f0.length c11, .slice A12 t4.2.f1.length c12], 26⟩, ⟨nx8, [i6 0, i6 1], 3⟩] ?_
  refine RL.freezeL (d := (Ty.int .i64)) (xs := [0, 1]) (b := ⟨nx8, [i6 0, i6 1], 3⟩) 4 (by kernel_rfl) ⟨_, _, rfl, rfl, ⟨_, _, rfl, rfl, rfl⟩⟩ (Nat.le_of_ble_eq_true rfl) (fun I31 hi31 hr22 => ?_)
  obtain ⟨t9, hA9, H⟩ := bnd H
  refine RL.callP 17 [.slice A1 t1.1.length c1, .slice (some ⟨nx8, 0, none⟩) 2 2] (some 72) (fun w v w' => ∃ I', Imm.le I31 I' ∧ armillaryref22_Same.Post I' w t9 v w') (by kernel_rfl) (by kernel_rfl) (fun w hs => ?_) ?_
  ·skip
   obtain ⟨JL1, hj1, hn1, hw1, hs⟩ := Sat.freeze (e := 3) (sz := 1) (S := A1) (n := t1.1.length) (cap := c1) (m := 0) hs (by kernel_rfl) (Reps.ext (Imm.le_trans (Imm.le_trans (Imm.le_trans (Imm.le_trans (Imm.le_trans (Imm.le_trans (Imm.le_trans (Imm.le_trans (Imm.le_trans (Imm.le_trans (Imm.le_trans (Imm.le_trans (Imm.le_trans (Imm.le_trans (Imm.le_trans (Imm.le_trans (Imm.le_trans (Imm.le_trans (Imm.le_trans (Imm.le_trans (Imm.le_trans (Imm.le_trans (Imm.le_trans (Imm.le_trans (Imm.le_trans hi5 hi6) hi7) hi8) hi9) hi10) hi11) hi12) hi13) hi14) hi15) hi16) hi17) hi18) hi19) hi20) hi21) hi22) hi23) hi24) hi25) hi26) hi27) hi28) hi29) hi31) hp1) rfl
   exact (armillaryref22_Same.calls k JL1 t1.1 A1 c1 [0, 1] (some ⟨nx8, 0, none⟩) 2 _ hs.im hn1 hw1 (Nat.le_of_ble_eq_true rfl) (Rd.ext hj1 hr22) t9 hA9).mono (fun e w' ⟨v, hv, hp⟩ => ⟨v, hv, JL1, hj1, hp⟩)
  rintro w v w' hs ⟨I', hle, J, rfl, hg⟩
  refine RL.resume (X' := [orow 3 1 A1 t1.1.length c1 cs1, orow 3 1 A4 t2.1.length c4 cs4, orow 3 1 A7 t3.1.length c7 cs7, orow 3 1 A10 t4.1.length c10 cs10]) rfl (hs.call (hg.back hle)) ?_
  clear hs hg hle I' J
  generalize w'.heap.size = nx10
  clear w w'
  refine RL.s 1 [(73, .bool t9), (18, .bool t8.2), (16, .bool t7.2), (14, .bool t6.2), (13, i6 t6.1), (12, .bool t5.2), (11, i6 t5.1), (9, .slice A10 t4.1.length c10), (10, pt nx4 0), (7, .slice A7 t3.1.length c7), (5, .slice A4 t2.1.length c4), (2, .slice A1 t1.1.length c1), (3, pt nx1 0), (1, .slice (some ⟨nx0 + 2, 0, none⟩) 2 2)] ?_
  refine RL.cases t9 (fun hb => ?_) (fun hb => ?_)
  ·have hc := hb
   rw [hb]
   rw [if_pos hc] at H; clear hb
   refine RL.simK (K' := [(76, .agg #[.slice A2 t1.2.f0.length c2, .slice A3 t1.2.f1.length c3]), (75, .slice A1 t1.1.length c1), (74, .slice (some ⟨nx0 + 2, 0, none⟩) 2 2), (73, .bool true), (18, .bool t8.2), (16, .bool t7.2), (14, .bool t6.2), (13, i6 t6.1), (12, .bool t5.2), (11, i6 t5.1), (9, .slice A10 t4.1.length c10), (10, pt nx4 0), (7, .slice A7 t3.1.length c7), (5, .slice A4 t2.1.length c4), (2, .slice A1 t1.1.length c1), (1, .slice (some ⟨nx0 + 2, 0, none⟩) 2 2)]) [] (RFacts.nil _ _ _) 3 [.no, .no, .l 0] (by kernel_rfl) (by kernel_rfl) ?_
   obtain ⟨t10, hA10, H⟩ := bnd H
   refine RL.callP 20 [.slice (some ⟨nx0 + 2, 0, none⟩) 2 2, .slice A1 t1.1.length c1, .agg #[.slice A2 t1.2.f0.length c2, .slice A3 t1.2.f1.length c3]] (some 77) (fun w v w' => ∃ I', Imm.le I31 I' ∧ assign_VerifyDuals.Post I' w t10 v w') (by kernel_rfl) (by kernel_rfl) (fun w hs => ?_) ?_
   ·skip
    obtain ⟨JL2, hj2, hn2, hw2, hs⟩ := Sat.freeze (e := 3) (sz := 1) (S := A1) (n := t1.1.length) (cap := c1) (m := 0) hs (by kernel_rfl) (Reps.ext (Imm.le_trans (Imm.le_trans (Imm.le_trans (Imm.le_trans (Imm.le_trans (Imm.le_trans (Imm.le_trans (Imm.le_trans (Imm.le_trans (Imm.le_trans (Imm.le_trans (Imm.le_trans (Imm.le_trans (Imm.le_trans (Imm.le_trans (Imm.le_trans (Imm.le_trans (Imm.le_trans (Imm.le_trans (Imm.le_trans (Imm.le_trans (Imm.le_trans (Imm.le_trans (Imm.le_trans (Imm.le_trans hi5 hi6) hi7) hi8) hi9) hi10) hi11) hi12) hi13) hi14) hi15) hi16) hi17) hi18) hi19) hi20) hi21) hi22) hi23) hi24) hi25) hi26) hi27) hi28) hi29) hi31) hp1) rfl
    exact (assign_VerifyDuals.calls k JL2 [[3, 5], [4, 7]] (some ⟨nx0 + 2, 0, none⟩) 2 t1.1 A1 c1 t1.2 A2 c2 A3 c3 _ hs.im (Nat.le_of_ble_eq_true rfl) (Rd.ext hj2 (Rd.ext (Imm.le_trans (Imm.le_trans (Imm.le_trans (Imm.le_trans (Imm.le_trans (Imm.le_trans (Imm.le_trans (Imm.le_trans (Imm.le_trans (Imm.le_trans (Imm.le_trans (Imm.le_trans (Imm.le_trans (Imm.le_trans (Imm.le_trans (Imm.le_trans (Imm.le_trans (Imm.le_trans (Imm.le_trans (Imm.le_trans (Imm.le_trans (Imm.le_trans (Imm.le_trans (Imm.le_trans (Imm.le_trans (Imm.le_trans hi4 hi5) hi6) hi7) hi8) hi9) hi10) hi11) hi12) hi13) hi14) hi15) hi16) hi17) hi18) hi19) hi20) hi21) hi22) hi23) hi24) hi25) hi26) hi27) hi28) hi29) hi31) hr3)) hn2 hw2 hl1 (Rd.ext hj2 (Rd.ext (Imm.le_trans (Imm.le_trans (Imm.le_trans (Imm.le_trans (Imm.le_trans (Imm.le_trans (Imm.le_trans (Imm.le_trans (Imm.le_trans (Imm.le_trans (Imm.le_trans (Imm.le_trans (Imm.le_trans (Imm.le_trans (Imm.le_trans (Imm.le_trans (Imm.le_trans (Imm.le_trans (Imm.le_trans (Imm.le_trans (Imm.le_trans (Imm.le_trans (Imm.le_trans (Imm.le_trans hi6 hi7) hi8) hi9) hi10) hi11) hi12) hi13) hi14) hi15) hi16) hi17) hi18) hi19) hi20) hi21) hi22) hi23) hi24) hi25) hi26) hi27) hi28) hi29) hi31) hr4)) hl2 (Rd.ext hj2 (Rd.ext (Imm.le_trans (Imm.le_trans (Imm.le_trans (Imm.le_trans (Imm.le_trans (Imm.le_trans (Imm.le_trans (Imm.le_trans (Imm.le_trans (Imm.le_trans (Imm.le_trans (Imm.le_trans (Imm.le_trans (Imm.le_trans (Imm.le_trans (Imm.le_trans (Imm.le_trans (Imm.le_trans (Imm.le_trans (Imm.le_trans (Imm.le_trans (Imm.le_trans (Imm.le_trans hi7 hi8) hi9) hi10) hi11) hi12) hi13) hi14) hi15) hi16) hi17) hi18) hi19) hi20) hi21) hi22) hi23) hi24) hi25) hi26) hi27) hi28) hi29) hi31) hr5)) t10 hA10).mono (fun e w' ⟨v, hv, hp⟩ => ⟨v, hv, JL2, hj2, hp⟩)
   rintro w v w' hs ⟨I', hle, J, rfl, hg⟩
   refine RL.resume (X' := [orow 3 1 A1 t1.1.length c1 cs1, orow 3 1 A4 t2.1.length c4 cs4, orow 3 1 A7 t3.1.length c7 cs7, orow 3 1 A10 t4.1.length c10 cs10]) rfl (hs.call (hg.back hle)) ?_
   clear hs hg hle I' J
   generalize w'.heap.size = nx11
   clear w w'
   refine RL.s 2 [(79, .bool t10), (18, .bool t8.2), (16, .bool t7.2), (14, .bool t6.2), (13, i6 t6.1), (12, .bool t5.2), (11, i6 t5.1), (9, .slice A10 t4.1.length c10), (10, pt nx4 0), (7, .slice A7 t3.1.length c7), (5, .slice A4 t2.1.length c4), (2, .slice A1 t1.1.length c1), (1, .slice (some ⟨nx0 + 2, 0, none⟩) 2 2)] ?_
   refine RL.cases t10 (fun hb => ?_) (fun hb => ?_)
   ·have hc := hb
    rw [hb]
    rw [if_pos hc] at H; clear hb
    refine RL.sp 2 [(81, .slice (some ⟨nx11, 0, none⟩) 2 2), (80, .slice A4 t2.1.length c4), (79, .bool true), (18, .bool t8.2), (16, .bool t7.2), (14, .bool t6.2), (13, i6 t6.1), (12, .bool t5.2), (11, i6 t5.1), (9, .slice A10 t4.1.length c10), (10, pt nx4 0), (7, .slice A7 t3.1.length c7), (2, .slice A1 t1.1.length c1), (1, .slice (some ⟨nx0 + 2, 0, none⟩) 2 2)] (nx11 + 1) [⟨nx1, [.slice A2 t1.2.f0.length c2, .slice A3 t1.2.f1.length c3], 26⟩, ⟨nx2, [.slice A5 t2.2.f0.length c5, .slice A6 t2.2.f1.length c6], 26⟩, ⟨nx3, [.slice A8 t3.2.f0.length c8, .slice A9 t3.2.f1.length c9], 26⟩, ⟨nx4, [.slice A11 t4.2.f0.length c11, .slice A12 t4.2.f1.length c12], 26⟩, ⟨nx11, [i6 (-1), i6 0], 3⟩] ?_
    refine RL.freezeL (d := (Ty.int .i64)) (xs := [(-1), 0]) (b := ⟨nx11, [i6 (-1), i6 0], 3⟩) 4 (by kernel_rfl) ⟨_, _, rfl, rfl, ⟨_, _, rfl, rfl, rfl⟩⟩ (Nat.le_of_ble_eq_true rfl) (fun I32 hi32 hr23 => ?_)
    obtain ⟨t11, hA11, H⟩ := bnd H
    refine RL.callP 17 [.slice A4 t2.1.length c4, .slice (some ⟨nx11, 0, none⟩) 2 2] (some 82) (fun w v w' => ∃ I', Imm.le I32 I' ∧ armillaryref22_Same.Post I' w t11 v w') (by kernel_rfl) (by kernel_rfl) (fun w hs => ?_) ?_
    ·skip
     obtain ⟨JL3, hj3, hn3, hw3, hs⟩ := Sat.freeze (e := 3) (sz := 1) (S := A4) (n := t2.1.length) (cap := c4) (m := 1) hs (by kernel_rfl) (Reps.ext (Imm.le_trans (Imm.le_trans (Imm.le_trans (Imm.le_trans (Imm.le_trans (Imm.le_trans (Imm.le_trans (Imm.le_trans (Imm.le_trans (Imm.le_trans (Imm.le_trans (Imm.le_trans (Imm.le_trans (Imm.le_trans (Imm.le_trans (Imm.le_trans (Imm.le_trans (Imm.le_trans (Imm.le_trans (Imm.le_trans hi11 hi12) hi13) hi14) hi15) hi16) hi17) hi18) hi19) hi20) hi21) hi22) hi23) hi24) hi25) hi26) hi27) hi28) hi29) hi31) hi32) hp4) rfl
     exact (armillaryref22_Same.calls k JL3 t2.1 A4 c4 [(-1), 0] (some ⟨nx11, 0, none⟩) 2 _ hs.im hn3 hw3 (Nat.le_of_ble_eq_true rfl) (Rd.ext hj3 hr23) t11 hA11).mono (fun e w' ⟨v, hv, hp⟩ => ⟨v, hv, JL3, hj3, hp⟩)
    rintro w v w' hs ⟨I', hle, J, rfl, hg⟩
    refine RL.resume (X' := [orow 3 1 A1 t1.1.length c1 cs1, orow 3 1 A4 t2.1.length c4 cs4, orow 3 1 A7 t3.1.length c7 cs7, orow 3 1 A10 t4.1.length c10 cs10]) rfl (hs.call (hg.back hle)) ?_
    clear hs hg hle I' J
    generalize w'.heap.size = nx12
    clear w w'
    refine RL.s 2 [(84, .bool t11), (18, .bool t8.2), (16, .bool t7.2), (14, .bool t6.2), (13, i6 t6.1), (12, .bool t5.2), (11, i6 t5.1), (9, .slice A10 t4.1.length c10), (10, pt nx4 0), (7, .slice A7 t3.1.length c7), (2, .slice A1 t1.1.length c1), (1, .slice (some ⟨nx0 + 2, 0, none⟩) 2 2)] ?_
    refine RL.cases t11 (fun hb => ?_) (fun hb => ?_)
    ·have hc := hb
     rw [hb]
     rw [if_pos hc] at H; clear hb
     refine RL.sp 2 [(86, .slice (some ⟨nx12, 0, none⟩) 2 2), (85, .slice A7 t3.1.length c7), (84, .bool true), (18, .bool t8.2), (16, .bool t7.2), (14, .bool t6.2), (13, i6 t6.1), (12, .bool t5.2), (11, i6 t5.1), (9, .slice A10 t4.1.length c10), (10, pt nx4 0), (2, .slice A1 t1.1.length c1), (1, .slice (some ⟨nx0 + 2, 0, none⟩) 2 2)] (nx12 + 1) [⟨nx1, [.slice A2 t1.2.f0.length c2, .slice A3 t1.2.f1.length c3], 26⟩, ⟨nx2, [.slice A5 t2.2.f0.length c5, .slice A6 t2.2.f1.length c6], 26⟩, ⟨nx3, [.slice A8 t3.2.f0.length c8, .slice A9 t3.2.f1.length c9], 26⟩, ⟨nx4, [.slice A11 t4.2.f0.length c11, .slice A12 t4.2.f1.length c12], 26⟩, ⟨nx12, [i6 0, i6 1], 3⟩] ?_
     refine RL.freezeL (d := (Ty.int .i64)) (xs := [0, 1]) (b := ⟨nx12, [i6 0, i6 1], 3⟩) 4 (by kernel_rfl) ⟨_, _, rfl, rfl, ⟨_, _, rfl, rfl, rfl⟩⟩ (Nat.le_of_ble_eq_true rfl) (fun I33 hi33 hr24 => ?_)
     obtain ⟨t12, hA12, H⟩ := bnd H
     refine RL.callP 17 [.slice A7 t3.1.length c7, .slice (some ⟨nx12, 0, none⟩) 2 2] (some 87) (fun w v w' => ∃ I', Imm.le I33 I' ∧ armillaryref22_Same.Post I' w t12 v w') (by kernel_rfl) (by kernel_rfl) (fun w hs => ?_) ?_
     ·skip
      obtain ⟨JL4, hj4, hn4, hw4, hs⟩ := Sat.freeze (e := 3) (sz := 1) (S := A7) (n := t3.1.length) (cap := c7) (m := 2) hs (by kernel_rfl) (Reps.ext (Imm.le_trans (Imm.le_trans (Imm.le_trans (Imm.le_trans (Imm.le_trans (Imm.le_trans (Imm.le_trans (Imm.le_trans (Imm.le_trans (Imm.le_trans (Imm.le_trans (Imm.le_trans (Imm.le_trans (Imm.le_trans (Imm.le_trans hi17 hi18) hi19) hi20) hi21) hi22) hi23) hi24) hi25) hi26) hi27) hi28) hi29) hi31) hi32) hi33) hp7) rfl
      exact (armillaryref22_Same.calls k JL4 t3.1 A7 c7 [0, 1] (some ⟨nx12, 0, none⟩) 2 _ hs.im hn4 hw4 (Nat.le_of_ble_eq_true rfl) (Rd.ext hj4 hr24) t12 hA12).mono (fun e w' ⟨v, hv, hp⟩ => ⟨v, hv, JL4, hj4, hp⟩)
     rintro w v w' hs ⟨I', hle, J, rfl, hg⟩
     refine RL.resume (X' := [orow 3 1 A1 t1.1.length c1 cs1, orow 3 1 A4 t2.1.length c4 cs4, orow 3 1 A7 t3.1.length c7 cs7, orow 3 1 A10 t4.1.length c10 cs10]) rfl (hs.call (hg.back hle)) ?_
     clear hs hg hle I' J
     generalize w'.heap.size = nx13
     clear w w'
     refine RL.s 2 [(89, .bool t12), (18, .bool t8.2), (16, .bool t7.2), (14, .bool t6.2), (13, i6 t6.1), (12, .bool t5.2), (11, i6 t5.1), (9, .slice A10 t4.1.length c10), (10, pt nx4 0), (2, .slice A1 t1.1.length c1), (1, .slice (some ⟨nx0 + 2, 0, none⟩) 2 2)] ?_
     refine RL.cases t12 (fun hb => ?_) (fun hb => ?_)
     ·have hc := hb
      rw [hb]
      rw [if_pos hc] at H; clear hb
      refine RL.simK (K' := [(102, .bool ((W .i64 ((W .i64 ((t4.1.length : Int) + (t4.2.f0.length : Int))) + (t4.2.f1.length : Int))) == 0)), (18, .bool t8.2), (16, .bool t7.2), (14, .bool t6.2), (13, i6 t6.1), (12, .bool t5.2), (11, i6 t5.1), (2, .slice A1 t1.1.length c1), (1, .slice (some ⟨nx0 + 2, 0, none⟩) 2 2)]) [] (RFacts.nil _ _ _) 13 [.no, .no, .no, .l 3, .no, .no, .no, .l 3, .no, .no, .no, .no, .no] (by kernel_rfl) (by kernel_rfl) ?_
      refine RL.cases ((W .i64 ((W .i64 ((t4.1.length : Int) + (t4.2.f0.length : Int))) + (t4.2.f1.length : Int))) == 0) (fun hb => ?_) (fun hb => ?_)
      ·have hc := (beq_iff_eq.1 hb)
       rw [hb]
       rw [if_pos hc] at H; clear hb
       refine RL.s 4 [(106, .bool (t5.1 == 9)), (18, .bool t8.2), (16, .bool t7.2), (14, .bool t6.2), (13, i6 t6.1), (12, .bool t5.2), (2, .slice A1 t1.1.length c1), (1, .slice (some ⟨nx0 + 2, 0, none⟩) 2 2)] ?_
       refine RL.cases (t5.1 == 9) (fun hb => ?_) (fun hb => ?_)
       ·have hc := (beq_iff_eq.1 hb)
        rw [hb]
        rw [if_pos hc] at H; clear hb
        refine RL.s 3 [(109, .bool t5.2), (18, .bool t8.2), (16, .bool t7.2), (14, .bool t6.2), (13, i6 t6.1), (2, .slice A1 t1.1.length c1), (1, .slice (some ⟨nx0 + 2, 0, none⟩) 2 2)] ?_
        refine RL.cases t5.2 (fun hb => ?_) (fun hb => ?_)
        ·have hc := hb
         rw [hb]
         rw [if_pos hc] at H; clear hb
         refine RL.s 4 [(113, .bool (t6.1 == 7)), (18, .bool t8.2), (16, .bool t7.2), (14, .bool t6.2), (2, .slice A1 t1.1.length c1), (1, .slice (some ⟨nx0 + 2, 0, none⟩) 2 2)] ?_
         refine RL.cases (t6.1 == 7) (fun hb => ?_) (fun hb => ?_)
         ·have hc := (beq_iff_eq.1 hb)
          rw [hb]
          rw [if_pos hc] at H; clear hb
          refine RL.s 3 [(116, .bool t6.2), (18, .bool t8.2), (16, .bool t7.2), (2, .slice A1 t1.1.length c1), (1, .slice (some ⟨nx0 + 2, 0, none⟩) 2 2)] ?_
          refine RL.cases t6.2 (fun hb => ?_) (fun hb => ?_)
          ·have hc := hb
           rw [hb]
           rw [if_pos hc] at H; clear hb
           refine RL.s 4 [(120, .bool (!t7.2)), (18, .bool t8.2), (2, .slice A1 t1.1.length c1), (1, .slice (some ⟨nx0 + 2, 0, none⟩) 2 2)] ?_
           refine RL.cases t7.2 (fun hb => ?_) (fun hb => ?_)
           ·have hc := hb
            rw [hb]
            rw [if_pos hc] at H; clear hb
            refine RL.simK (K' := [(0, .bool false)]) [] (RFacts.nil _ _ _) 59 (.no :: .no :: .no :: .no :: .no :: .no :: .no :: .no :: .no :: .no :: .no :: .no :: .no :: .no :: .no :: .no :: .no :: .no :: .no :: .no :: .no :: .no :: .no :: .no :: .no :: .no :: .no :: .no :: .no :: .no :: .no :: .no :: .no :: .no :: .no :: .no :: .no :: .no :: .no :: .no :: .no :: .no :: .no :: .no :: .no :: .no :: .no :: .no :: .no :: .no :: .no :: .no :: .no :: .no :: .no :: .no :: .no :: .no :: .no :: []) (by kernel_rfl) (by kernel_rfl) ?_
            refine RL.nil (by kernel_rfl) ?_
            obtain rfl := Option.some.inj H
            refine QN.sel (K' := [(0, .bool false)]) (L' := [⟨nx1, [.slice A2 t1.2.f0.length c2, .slice A3 t1.2.f1.length c3], 26⟩, ⟨nx2, [.slice A5 t2.2.f0.length c5, .slice A6 t2.2.f1.length c6], 26⟩, ⟨nx3, [.slice A8 t3.2.f0.length c8, .slice A9 t3.2.f1.length c9], 26⟩, ⟨nx4, [.slice A11 t4.2.f0.length c11, .slice A12 t4.2.f1.length c12], 26⟩]) [] (by kernel_rfl) (by kernel_rfl) (.cons_cons _ (.cons_cons _ (.cons_cons _ (.cons_cons _ .slnil)))) ?_
            refine QN.norm (X' := []) rfl rfl rfl (by kernel_rfl) ?_
            exact hJ1 _ _ _ _ _ ⟨false, rfl, rfl, rfl, (Imm.le_trans (Imm.le_trans hi31 hi32) hi33), HK1⟩
           ·have hc := (Bool.eq_false_iff.1 hb)
            rw [hb]
            rw [if_neg hc] at H; clear hb
            refine RL.s 4 [(124, .bool (!t8.2)), (2, .slice A1 t1.1.length c1), (1, .slice (some ⟨nx0 + 2, 0, none⟩) 2 2)] ?_
            refine RL.cases t8.2 (fun hb => ?_) (fun hb => ?_)
            ·have hc := hb
             rw [hb]
             rw [if_pos hc] at H; clear hb
             refine RL.simK (K' := [(0, .bool false)]) [] (RFacts.nil _ _ _) 55 (.no :: .no :: .no :: .no :: .no :: .no :: .no :: .no :: .no :: .no :: .no :: .no :: .no :: .no :: .no :: .no :: .no :: .no :: .no :: .no :: .no :: .no :: .no :: .no :: .no :: .no :: .no :: .no :: .no :: .no :: .no :: .no :: .no :: .no :: .no :: .no :: .no :: .no :: .no :: .no :: .no :: .no :: .no :: .no :: .no :: .no :: .no :: .no :: .no :: .no :: .no :: .no :: .no :: .no :: .no :: []) (by kernel_rfl) (by kernel_rfl) ?_
             refine RL.nil (by kernel_rfl) ?_
             obtain rfl := Option.some.inj H
             refine QN.sel (K' := [(0, .bool false)]) (L' := [⟨nx1, [.slice A2 t1.2.f0.length c2, .slice A3 t1.2.f1.length c3], 26⟩, ⟨nx2, [.slice A5 t2.2.f0.length c5, .slice A6 t2.2.f1.length c6], 26⟩, ⟨nx3, [.slice A8 t3.2.f0.length c8, .slice A9 t3.2.f1.length c9], 26⟩, ⟨nx4, [.slice A11 t4.2.f0.length c11, .slice A12 t4.2.f1.length c12], 26⟩]) [] (by kernel_rfl) (by kernel_rfl) (.cons_cons _ (.cons_cons _ (.cons_cons _ (.cons_cons _ .slnil)))) ?_
             refine QN.norm (X' := []) rfl rfl rfl (by kernel_rfl) ?_
             exact hJ1 _ _ _ _ _ ⟨false, rfl, rfl, rfl, (Imm.le_trans (Imm.le_trans hi31 hi32) hi33), HK1⟩
            ·have hc := (Bool.eq_false_iff.1 hb)
             rw [hb]
             rw [if_neg hc] at H; clear hb
             refine RL.sp 5 [(129, .agg #[.slice (some ⟨nx13, 0, none⟩) 2 2, .slice (some ⟨nx13 + 1, 0, none⟩) 2 2]), (126, .slice A1 t1.1.length c1), (125, .slice (some ⟨nx0 + 2, 0, none⟩) 2 2), (124, .bool true), (2, .slice A1 t1.1.length c1), (1, .slice (some ⟨nx0 + 2, 0, none⟩) 2 2)] (nx13 + 2) [⟨nx1, [.slice A2 t1.2.f0.length c2, .slice A3 t1.2.f1.length c3], 26⟩, ⟨nx2, [.slice A5 t2.2.f0.length c5, .slice A6 t2.2.f1.length c6], 26⟩, ⟨nx3, [.slice A8 t3.2.f0.length c8, .slice A9 t3.2.f1.length c9], 26⟩, ⟨nx4, [.slice A11 t4.2.f0.length c11, .slice A12 t4.2.f1.length c12], 26⟩, ⟨nx13, [i6 3, i6 5], 2⟩, ⟨nx13 + 1, [i6 0, i6 2], 2⟩] ?_
             refine RL.freezeL (d := (Ty.int .i64)) (xs := [3, 5]) (b := ⟨nx13, [i6 3, i6 5], 2⟩) 4 (by kernel_rfl) ⟨_, _, rfl, rfl, ⟨_, _, rfl, rfl, rfl⟩⟩ (Nat.le_of_ble_eq_true rfl) (fun I34 hi34 hr25 => ?_)
             refine RL.freezeL (d := (Ty.int .i64)) (xs := [0, 2]) (b := ⟨nx13 + 1, [i6 0, i6 2], 2⟩) 4 (by kernel_rfl) ⟨_, _, rfl, rfl, ⟨_, _, rfl, rfl, rfl⟩⟩ (Nat.le_of_ble_eq_true rfl) (fun I35 hi35 hr26 => ?_)
             obtain ⟨t13, hA13, H⟩ := bnd H
             refine RL.callP 20 [.slice (some ⟨nx0 + 2, 0, none⟩) 2 2, .slice A1 t1.1.length c1, .agg #[.slice (some ⟨nx13, 0, none⟩) 2 2, .slice (some ⟨nx13 + 1, 0, none⟩) 2 2]] (some 130) (fun w v w' => ∃ I', Imm.le I35 I' ∧ assign_VerifyDuals.Post I' w t13 v w') (by kernel_rfl) (by kernel_rfl) (fun w hs => ?_) ?_
             ·skip
              obtain ⟨JL5, hj5, hn5, hw5, hs⟩ := Sat.freeze (e := 3) (sz := 1) (S := A1) (n := t1.1.length) (cap := c1) (m := 0) hs (by kernel_rfl) (Reps.ext (Imm.le_trans (Imm.le_trans (Imm.le_trans (Imm.le_trans (Imm.le_trans (Imm.le_trans (Imm.le_trans (Imm.le_trans (Imm.le_trans (Imm.le_trans (Imm.le_trans (Imm.le_trans (Imm.le_trans (Imm.le_trans (Imm.le_trans (Imm.le_trans (Imm.le_trans (Imm.le_trans (Imm.le_trans (Imm.le_trans (Imm.le_trans (Imm.le_trans (Imm.le_trans (Imm.le_trans (Imm.le_trans (Imm.le_trans (Imm.le_trans (Imm.le_trans (Imm.le_trans hi5 hi6) hi7) hi8) hi9) hi10) hi11) hi12) hi13) hi14) hi15) hi16) hi17) hi18) hi19) hi20) hi21) hi22) hi23) hi24) hi25) hi26) hi27) hi28) hi29) hi31) hi32) hi33) hi34) hi35) hp1) rfl
              exact (assign_VerifyDuals.calls k JL5 [[3, 5], [4, 7]] (some ⟨nx0 + 2, 0, none⟩) 2 t1.1 A1 c1 (⟨[3, 5], [0, 2]⟩ : S26) (some ⟨nx13, 0, none⟩) 2 (some ⟨nx13 + 1, 0, none⟩) 2 _ hs.im (Nat.le_of_ble_eq_true rfl) (Rd.ext hj5 (Rd.ext (Imm.le_trans (Imm.le_trans (Imm.le_trans (Imm.le_trans (Imm.le_trans (Imm.le_trans (Imm.le_trans (Imm.le_trans (Imm.le_trans (Imm.le_trans (Imm.le_trans (Imm.le_trans (Imm.le_trans (Imm.le_trans (Imm.le_trans (Imm.le_trans (Imm.le_trans (Imm.le_trans (Imm.le_trans (Imm.le_trans (Imm.le_trans (Imm.le_trans (Imm.le_trans (Imm.le_trans (Imm.le_trans (Imm.le_trans (Imm.le_trans (Imm.le_trans (Imm.le_trans (Imm.le_trans hi4 hi5) hi6) hi7) hi8) hi9) hi10) hi11) hi12) hi13) hi14) hi15) hi16) hi17) hi18) hi19) hi20) hi21) hi22) hi23) hi24) hi25) hi26) hi27) hi28) hi29) hi31) hi32) hi33) hi34) hi35) hr3)) hn5 hw5 (Nat.le_of_ble_eq_true rfl) (Rd.ext hj5 (Rd.ext hi35 hr25)) (Nat.le_of_ble_eq_true rfl) (Rd.ext hj5 hr26) t13 hA13).mono (fun e w' ⟨v, hv, hp⟩ => ⟨v, hv, JL5, hj5, hp⟩)
             rintro w v w' hs ⟨I', hle, J, rfl, hg⟩
             refine RL.resume (X' := [orow 3 1 A1 t1.1.length c1 cs1, orow 3 1 A4 t2.1.length c4 cs4, orow 3 1 A7 t3.1.length c7 cs7, orow 3 1 A10 t4.1.length c10 cs10]) rfl (hs.call (hg.back hle)) ?_
             clear hs hg hle I' J
             generalize w'.heap.size = nx14
             clear w w'
             refine RL.s 2 [(132, .bool t13), (2, .slice A1 t1.1.length c1), (1, .slice (some ⟨nx0 + 2, 0, none⟩) 2 2)] ?_
             refine RL.cases t13 (fun hb => ?_) (fun hb => ?_)
             ·have hc := hb
              rw [hb]
              rw [if_pos hc] at H; clear hb
              refine RL.sp 5 [(137, .agg #[.slice (some ⟨nx14, 0, none⟩) 2 2, .slice (some ⟨nx14 + 1, 0, none⟩) 2 2]), (134, .slice A1 t1.1.length c1), (133, .slice (some ⟨nx0 + 2, 0, none⟩) 2 2), (132, .bool true), (2, .slice A1 t1.1.length c1), (1, .slice (some ⟨nx0 + 2, 0, none⟩) 2 2)] (nx14 + 2) [⟨nx1, [.slice A2 t1.2.f0.length c2, .slice A3 t1.2.f1.length c3], 26⟩, ⟨nx2, [.slice A5 t2.2.f0.length c5, .slice A6 t2.2.f1.length c6], 26⟩, ⟨nx3, [.slice A8 t3.2.f0.length c8, .slice A9 t3.2.f1.length c9], 26⟩, ⟨nx4, [.slice A11 t4.2.f0.length c11, .slice A12 t4.2.f1.length c12], 26⟩, ⟨nx14, [i6 3, i6 5], 2⟩, ⟨nx14 + 1, [i6 0, i6 1], 2⟩] ?_
              refine RL.freezeL (d := (Ty.int .i64)) (xs := [3, 5]) (b := ⟨nx14, [i6 3, i6 5], 2⟩) 4 (by kernel_rfl) ⟨_, _, rfl, rfl, ⟨_, _, rfl, rfl, rfl⟩⟩ (Nat.le_of_ble_eq_true rfl) (fun I36 hi36 hr27 => ?_)
              refine RL.freezeL (d := (Ty.int .i64)) (xs := [0, 1]) (b := ⟨nx14 + 1, [i6 0, i6 1], 2⟩) 4 (by kernel_rfl) ⟨_, _, rfl, rfl, ⟨_, _, rfl, rfl, rfl⟩⟩ (Nat.le_of_ble_eq_true rfl) (fun I37 hi37 hr28 => ?_)
              obtain ⟨t14, hA14, H⟩ := bnd H
              refine RL.callP 20 [.slice (some ⟨nx0 + 2, 0, none⟩) 2 2, .slice A1 t1.1.length c1, .agg #[.slice (some ⟨nx14, 0, none⟩) 2 2, .slice (some ⟨nx14 + 1, 0, none⟩) 2 2]] (some 138) (fun w v w' => ∃ I', Imm.le I37 I' ∧ assign_VerifyDuals.Post I' w t14 v w') (by kernel_rfl) (by kernel_rfl) (fun w hs => ?_) ?_
              ·skip
               obtain ⟨JL6, hj6, hn6, hw6, hs⟩ := Sat.freeze (e := 3) (sz := 1) (S := A1) (n := t1.1.length) (cap := c1) (m := 0) hs (by kernel_rfl) (Reps.ext (Imm.le_trans (Imm.le_trans (Imm.le_trans (Imm.le_trans (Imm.le_trans (Imm.le_trans (Imm.le_trans (Imm.le_trans (Imm.le_trans (Imm.le_trans (Imm.le_trans (Imm.le_trans (Imm.le_trans (Imm.le_trans (Imm.le_trans (Imm.le_trans (Imm.le_trans (Imm.le_trans (Imm.le_trans (Imm.le_trans (Imm.le_trans (Imm.le_trans (Imm.le_trans (Imm.le_trans (Imm.le_trans (Imm.le_trans (Imm.le_trans (Imm.le_trans (Imm.le_trans (Imm.le_trans (Imm.le_trans hi5 hi6) hi7) hi8) hi9) hi10) hi11) hi12) hi13) hi14) hi15) hi16) hi17) hi18) hi19) hi20) hi21) hi22) hi23) hi24) hi25) hi26) hi27) hi28) hi29) hi31) hi32) hi33) hi34) hi35) hi36) hi37) hp1) rfl
               exact (assign_VerifyDuals.calls k JL6 [[3, 5], [4, 7]] (some ⟨nx0 + 2, 0, none⟩) 2 t1.1 A1 c1 (⟨[3, 5], [0, 1]⟩ : S26) (some ⟨nx14, 0, none⟩) 2 (some ⟨nx14 + 1, 0, none⟩) 2 _ hs.im (Nat.le_of_ble_eq_true rfl) (Rd.ext hj6 (Rd.ext (Imm.le_trans (Imm.le_trans (Imm.le_trans (Imm.le_trans (Imm.le_trans (Imm.le_trans (Imm.le_trans (Imm.le_trans (Imm.le_trans (Imm.le_trans (Imm.le_trans (Imm.le_trans (Imm.le_trans (Imm.le_trans (Imm.le_trans (Imm.le_trans (Imm.le_trans (Imm.le_trans (Imm.le_trans (Imm.le_trans (Imm.le_trans (Imm.le_trans (Imm.le_trans (Imm.le_trans (Imm.le_trans (Imm.le_trans (Imm.le_trans (Imm.le_trans (Imm.le_trans (Imm.le_trans (Imm.le_trans (Imm.le_trans hi4 hi5) hi6) hi7) hi8) hi9) hi10) hi11) hi12) hi13) hi14) hi15) hi16) hi17) hi18) hi19) hi20) hi21) hi22) hi23) hi24) hi25) hi26) hi27) hi28) hi29) hi31) hi32) hi33) hi34) hi35) hi36) hi37) hr3)) hn6 hw6 (Nat.le_of_ble_eq_true rfl) (Rd.ext hj6 (Rd.ext hi37 hr27)) (Nat.le_of_ble_eq_true rfl) (Rd.ext hj6 hr28) t14 hA14).mono (fun e w' ⟨v, hv, hp⟩ => ⟨v, hv, JL6, hj6, hp⟩)
              rintro w v w' hs ⟨I', hle, J, rfl, hg⟩
              refine RL.resume (X' := [orow 3 1 A1 t1.1.length c1 cs1, orow 3 1 A4 t2.1.length c4 cs4, orow 3 1 A7 t3.1.length c7 cs7, orow 3 1 A10 t4.1.length c10 cs10]) rfl (hs.call (hg.back hle)) ?_
              clear hs hg hle I' J
              generalize w'.heap.size = nx15
              clear w w'
              refine RL.s 3 [(141, .bool (!t14)), (2, .slice A1 t1.1.length c1), (1, .slice (some ⟨nx0 + 2, 0, none⟩) 2 2)] ?_
              refine RL.cases t14 (fun hb => ?_) (fun hb => ?_)
              ·have hc := hb
               rw [hb]
               rw [if_pos hc] at H; clear hb
               refine RL.simK (K' := [(0, .bool false)]) [] (RFacts.nil _ _ _) 38 (.no :: .no :: .no :: .no :: .no :: .no :: .no :: .no :: .no :: .no :: .no :: .no :: .no :: .no :: .no :: .no :: .no :: .no :: .no :: .no :: .no :: .no :: .no :: .no :: .no :: .no :: .no :: .no :: .no :: .no :: .no :: .no :: .no :: .no :: .no :: .no :: .no :: .no :: []) (by kernel_rfl) (by kernel_rfl) ?_
               refine RL.nil (by kernel_rfl) ?_
               obtain rfl := Option.some.inj H
               refine QN.sel (K' := [(0, .bool false)]) (L' := [⟨nx1, [.slice A2 t1.2.f0.length c2, .slice A3 t1.2.f1.length c3], 26⟩, ⟨nx2, [.slice A5 t2.2.f0.length c5, .slice A6 t2.2.f1.length c6], 26⟩, ⟨nx3, [.slice A8 t3.2.f0.length c8, .slice A9 t3.2.f1.length c9], 26⟩, ⟨nx4, [.slice A11 t4.2.f0.length c11, .slice A12 t4.2.f1.length c12], 26⟩]) [] (by kernel_rfl) (by kernel_rfl) (.cons_cons _ (.cons_cons _ (.cons_cons _ (.cons_cons _ .slnil)))) ?_
               refine QN.norm (X' := []) rfl rfl rfl (by kernel_rfl) ?_
               exact hJ1 _ _ _ _ _ ⟨false, rfl, rfl, rfl, (Imm.le_trans (Imm.le_trans (Imm.le_trans (Imm.le_trans (Imm.le_trans (Imm.le_trans hi31 hi32) hi33) hi34) hi35) hi36) hi37), HK1⟩
              ·have hc := (Bool.eq_false_iff.1 hb)
               rw [hb]
               rw [if_neg hc] at H; clear hb
               refine RL.sp 5 [(146, .agg #[.slice (some ⟨nx15, 0, none⟩) 2 2, .slice (some ⟨nx15 + 1, 0, none⟩) 2 2]), (143, .slice A1 t1.1.length c1), (142, .slice (some ⟨nx0 + 2, 0, none⟩) 2 2), (141, .bool true), (1, .slice (some ⟨nx0 + 2, 0, none⟩) 2 2)] (nx15 + 2) [⟨nx1, [.slice A2 t1.2.f0.length c2, .slice A3 t1.2.f1.length c3], 26⟩, ⟨nx2, [.slice A5 t2.2.f0.length c5, .slice A6 t2.2.f1.length c6], 26⟩, ⟨nx3, [.slice A8 t3.2.f0.length c8, .slice A9 t3.2.f1.length c9], 26⟩, ⟨nx4, [.slice A11 t4.2.f0.length c11, .slice A12 t4.2.f1.length c12], 26⟩, ⟨nx15, [i6 4, i6 5], 2⟩, ⟨nx15 + 1, [i6 0, i6 2], 2⟩] ?_
               refine RL.freezeL (d := (Ty.int .i64)) (xs := [4, 5]) (b := ⟨nx15, [i6 4, i6 5], 2⟩) 4 (by kernel_rfl) ⟨_, _, rfl, rfl, ⟨_, _, rfl, rfl, rfl⟩⟩ (Nat.le_of_ble_eq_true rfl) (fun I38 hi38 hr29 => ?_)
               refine RL.freezeL (d := (Ty.int .i64)) (xs := [0, 2]) (b := ⟨nx15 + 1, [i6 0, i6 2], 2⟩) 4 (by kernel_rfl) ⟨_, _, rfl, rfl, ⟨_, _, rfl, rfl, rfl⟩⟩ (Nat.le_of_ble_eq_true rfl) (fun I39 hi39 hr30 => ?_)
               obtain ⟨t15, hA15, H⟩ := bnd H
               refine RL.callP 20 [.slice (some ⟨nx0 + 2, 0, none⟩) 2 2, .slice A1 t1.1.length c1, .agg #[.slice (some ⟨nx15, 0, none⟩) 2 2, .slice (some ⟨nx15 + 1, 0, none⟩) 2 2]] (some 147) (fun w v w' => ∃ I', Imm.le I39 I' ∧ assign_VerifyDuals.Post I' w t15 v w') (by kernel_rfl) (by kernel_rfl) (fun w hs => ?_) ?_
               ·skip
                obtain ⟨JL7, hj7, hn7, hw7, hs⟩ := Sat.freeze (e := 3) (sz := 1) (S := A1) (n := t1.1.length) (cap := c1) (m := 0) hs (by kernel_rfl) (Reps.ext (Imm.le_trans (Imm.le_trans (Imm.le_trans (Imm.le_trans (Imm.le_trans (Imm.le_trans (Imm.le_trans (Imm.le_trans (Imm.le_trans (Imm.le_trans (Imm.le_trans (Imm.le_trans (Imm.le_trans (Imm.le_trans (Imm.le_trans (Imm.le_trans (Imm.le_trans (Imm.le_trans (Imm.le_trans (Imm.le_trans (Imm.le_trans (Imm.le_trans (Imm.le_trans (Imm.le_trans (Imm.le_trans (Imm.le_trans (Imm.le_trans (Imm.le_trans (Imm.le_trans (Imm.le_trans (Imm.le_trans (Imm.le_trans (Imm.le_trans hi5 hi6) hi7) hi8) hi9) hi10) hi11) hi12) hi13) hi14) hi15) hi16) hi17) hi18) hi19) hi20) hi21) hi22) hi23) hi24) hi25) hi26) hi27) hi28) hi29) hi31) hi32) hi33) hi34) hi35) hi36) hi37) hi38) hi39) hp1) rfl
                exact (assign_VerifyDuals.calls k JL7 [[3, 5], [4, 7]] (some ⟨nx0 + 2, 0, none⟩) 2 t1.1 A1 c1 (⟨[4, 5], [0, 2]⟩ : S26) (some ⟨nx15, 0, none⟩) 2 (some ⟨nx15 + 1, 0, none⟩) 2 _ hs.im (Nat.le_of_ble_eq_true rfl) (Rd.ext hj7 (Rd.ext (Imm.le_trans (Imm.le_trans (Imm.le_trans (Imm.le_trans (Imm.le_trans (Imm.le_trans (Imm.le_trans (Imm.le_trans (Imm.le_trans (Imm.le_trans (Imm.le_trans (Imm.le_trans (Imm.le_trans (Imm.le_trans (Imm.le_trans (Imm.le_trans (Imm.le_trans (Imm.le_trans (Imm.le_trans (Imm.le_trans (Imm.le_trans (Imm.le_trans (Imm.le_trans (Imm.le_trans (Imm.le_trans (Imm.le_trans (Imm.le_trans (Imm.le_trans (Imm.le_trans (Imm.le_trans (Imm.le_trans (Imm.le_trans (Imm.le_trans (Imm.le_trans hi4 hi5) hi6) hi7) hi8) hi9) hi10) hi11) hi12) hi13) hi14) hi15) hi16) hi17) hi18) hi19) hi20) hi21) hi22) hi23) hi24) hi25) hi26) hi27) hi28) hi29) hi31) hi32) hi33) hi34) hi35) hi36) hi37) hi38) hi39) hr3)) hn7 hw7 (Nat.le_of_ble_eq_true rfl) (Rd.ext hj7 (Rd.ext hi39 hr29)) (Nat.le_of_ble_eq_true rfl) (Rd.ext hj7 hr30) t15 hA15).mono (fun e w' ⟨v, hv, hp⟩ => ⟨v, hv, JL7, hj7, hp⟩)
               rintro w v w' hs ⟨I', hle, J, rfl, hg⟩
               refine RL.resume (X' := [orow 3 1 A1 t1.1.length c1 cs1, orow 3 1 A4 t2.1.length c4 cs4, orow 3 1 A7 t3.1.length c7 cs7, orow 3 1 A10 t4.1.length c10 cs10]) rfl (hs.call (hg.back hle)) ?_
               clear hs hg hle I' J
               generalize w'.heap.size = nx16
               clear w w'
               refine RL.s 3 [(150, .bool (!t15)), (1, .slice (some ⟨nx0 + 2, 0, none⟩) 2 2)] ?_
               refine RL.cases t15 (fun hb => ?_) (fun hb => ?_)
               ·have hc := hb
                rw [hb]
                rw [if_pos hc] at H; clear hb
                refine RL.simK (K' := [(0, .bool false)]) [] (RFacts.nil _ _ _) 29 (.no :: .no :: .no :: .no :: .no :: .no :: .no :: .no :: .no :: .no :: .no :: .no :: .no :: .no :: .no :: .no :: .no :: .no :: .no :: .no :: .no :: .no :: .no :: .no :: .no :: .no :: .no :: .no :: .no :: []) (by kernel_rfl) (by kernel_rfl) ?_
                refine RL.nil (by kernel_rfl) ?_
                obtain rfl := Option.some.inj H
                refine QN.sel (K' := [(0, .bool false)]) (L' := [⟨nx1, [.slice A2 t1.2.f0.length c2, .slice A3 t1.2.f1.length c3], 26⟩, ⟨nx2, [.slice A5 t2.2.f0.length c5, .slice A6 t2.2.f1.length c6], 26⟩, ⟨nx3, [.slice A8 t3.2.f0.length c8, .slice A9 t3.2.f1.length c9], 26⟩, ⟨nx4, [.slice A11 t4.2.f0.length c11, .slice A12 t4.2.f1.length c12], 26⟩]) [] (by kernel_rfl) (by kernel_rfl) (.cons_cons _ (.cons_cons _ (.cons_cons _ (.cons_cons _ .slnil)))) ?_
                refine QN.norm (X' := []) rfl rfl rfl (by kernel_rfl) ?_
                exact hJ1 _ _ _ _ _ ⟨false, rfl, rfl, rfl, (Imm.le_trans (Imm.le_trans (Imm.le_trans (Imm.le_trans (Imm.le_trans (Imm.le_trans (Imm.le_trans (Imm.le_trans hi31 hi32) hi33) hi34) hi35) hi36) hi37) hi38) hi39), HK1⟩
               ·have hc := (Bool.eq_false_iff.1 hb)
                rw [hb]
                rw [if_neg hc] at H; clear hb
                refine RL.sp 5 [(155, .agg #[.slice (some ⟨nx16 + 1, 0, none⟩) 2 2, .slice (some ⟨nx16 + 2, 0, none⟩) 2 2]), (152, .slice (some ⟨nx16, 0, none⟩) 2 2), (151, .slice (some ⟨nx0 + 2, 0, none⟩) 2 2), (150, .bool true), (1, .slice (some ⟨nx0 + 2, 0, none⟩) 2 2)] (nx16 + 3) [⟨nx1, [.slice A2 t1.2.f0.length c2, .slice A3 t1.2.f1.length c3], 26⟩, ⟨nx2, [.slice A5 t2.2.f0.length c5, .slice A6 t2.2.f1.length c6], 26⟩, ⟨nx3, [.slice A8 t3.2.f0.length c8, .slice A9 t3.2.f1.length c9], 26⟩, ⟨nx4, [.slice A11 t4.2.f0.length c11, .slice A12 t4.2.f1.length c12], 26⟩, ⟨nx16, [i6 1, i6 0], 3⟩, ⟨nx16 + 1, [i6 3, i6 5], 2⟩, ⟨nx16 + 2, [i6 0, i6 2], 2⟩] ?_
                refine RL.freezeL (d := (Ty.int .i64)) (xs := [1, 0]) (b := ⟨nx16, [i6 1, i6 0], 3⟩) 4 (by kernel_rfl) ⟨_, _, rfl, rfl, ⟨_, _, rfl, rfl, rfl⟩⟩ (Nat.le_of_ble_eq_true rfl) (fun I40 hi40 hr31 => ?_)
                refine RL.freezeL (d := (Ty.int .i64)) (xs := [3, 5]) (b := ⟨nx16 + 1, [i6 3, i6 5], 2⟩) 4 (by kernel_rfl) ⟨_, _, rfl, rfl, ⟨_, _, rfl, rfl, rfl⟩⟩ (Nat.le_of_ble_eq_true rfl) (fun I41 hi41 hr32 => ?_)
                refine RL.freezeL (d := (Ty.int .i64)) (xs := [0, 2]) (b := ⟨nx16 + 2, [i6 0, i6 2], 2⟩) 4 (by kernel_rfl) ⟨_, _, rfl, rfl, ⟨_, _, rfl, rfl, rfl⟩⟩ (Nat.le_of_ble_eq_true rfl) (fun I42 hi42 hr33 => ?_)
                obtain ⟨t16, hA16, H⟩ := bnd H
                refine RL.callP 20 [.slice (some ⟨nx0 + 2, 0, none⟩) 2 2, .slice (some ⟨nx16, 0, none⟩) 2 2, .agg #[.slice (some ⟨nx16 + 1, 0, none⟩) 2 2, .slice (some ⟨nx16 + 2, 0, none⟩) 2 2]] (some 156) (fun w => assign_VerifyDuals.Post I42 w t16) (by kernel_rfl) (by kernel_rfl) (fun w hs => assign_VerifyDuals.calls k I42 [[3, 5], [4, 7]] (some ⟨nx0 + 2, 0, none⟩) 2 [1, 0] (some ⟨nx16, 0, none⟩) 2 (⟨[3, 5], [0, 2]⟩ : S26) (some ⟨nx16 + 1, 0, none⟩) 2 (some ⟨nx16 + 2, 0, none⟩) 2 w hs.im (Nat.le_of_ble_eq_true rfl) (Rd.ext (Imm.le_trans (Imm.le_trans (Imm.le_trans (Imm.le_trans (Imm.le_trans (Imm.le_trans (Imm.le_trans (Imm.le_trans (Imm.le_trans (Imm.le_trans (Imm.le_trans (Imm.le_trans (Imm.le_trans (Imm.le_trans (Imm.le_trans (Imm.le_trans (Imm.le_trans (Imm.le_trans (Imm.le_trans (Imm.le_trans (Imm.le_trans (Imm.le_trans (Imm.le_trans (Imm.le_trans (Imm.le_trans (Imm.le_trans (Imm.le_trans (Imm.le_trans (Imm.le_trans (Imm.le_trans (Imm.le_trans (Imm.le_trans (Imm.le_trans (Imm.le_trans (Imm.le_trans (Imm.le_trans (Imm.le_trans hi4 hi5) hi6) hi7) hi8) hi9) hi10) hi11) hi12) hi13) hi14) hi15) hi16) hi17) hi18) hi19) hi20) hi21) hi22) hi23) hi24) hi25) hi26) hi27) hi28) hi29) hi31) hi32) hi33) hi34) hi35) hi36) hi37) hi38) hi39) hi40) hi41) hi42) hr3) (Nat.le_of_ble_eq_true rfl) (Rd.ext (Imm.le_trans hi41 hi42) hr31) (Nat.le_of_ble_eq_true rfl) (Rd.ext hi42 hr32) (Nat.le_of_ble_eq_true rfl) hr33 t16 hA16) ?_
                rintro w v w' hs ⟨I43, rfl, hg⟩
                have hi43 := hg.le
                refine RL.resume (X' := [orow 3 1 A1 t1.1.length c1 cs1, orow 3 1 A4 t2.1.length c4 cs4, orow 3 1 A7 t3.1.length c7 cs7, orow 3 1 A10 t4.1.length c10 cs10]) rfl (hs.call hg) ?_
                clear hs hg
                generalize w'.heap.size = nx17
                clear w w'
                refine RL.s 3 [(159, .bool (!t16)), (1, .slice (some ⟨nx0 + 2, 0, none⟩) 2 2)] ?_
                refine RL.cases t16 (fun hb => ?_) (fun hb => ?_)
                ·have hc := hb
                 rw [hb]
                 rw [if_pos hc] at H; clear hb
                 refine RL.s 20 [(0, .bool false)] ?_
                 refine RL.nil (by kernel_rfl) ?_
                 obtain rfl := Option.some.inj H
                 refine QN.sel (K' := [(0, .bool false)]) (L' := [⟨nx1, [.slice A2 t1.2.f0.length c2, .slice A3 t1.2.f1.length c3], 26⟩, ⟨nx2, [.slice A5 t2.2.f0.length c5, .slice A6 t2.2.f1.length c6], 26⟩, ⟨nx3, [.slice A8 t3.2.f0.length c8, .slice A9 t3.2.f1.length c9], 26⟩, ⟨nx4, [.slice A11 t4.2.f0.length c11, .slice A12 t4.2.f1.length c12], 26⟩]) [] (by kernel_rfl) (by kernel_rfl) (.cons_cons _ (.cons_cons _ (.cons_cons _ (.cons_cons _ .slnil)))) ?_
                 refine QN.norm (X' := []) rfl rfl rfl (by kernel_rfl) ?_
                 exact hJ1 _ _ _ _ _ ⟨false, rfl, rfl, rfl, (Imm.le_trans (Imm.le_trans (Imm.le_trans (Imm.le_trans (Imm.le_trans (Imm.le_trans (Imm.le_trans (Imm.le_trans (Imm.le_trans (Imm.le_trans (Imm.le_trans (Imm.le_trans hi31 hi32) hi33) hi34) hi35) hi36) hi37) hi38) hi39) hi40) hi41) hi42) hi43), HK1⟩
                ·have hc := (Bool.eq_false_iff.1 hb)
                 rw [hb]
                 rw [if_neg hc] at H; clear hb
                 refine RL.s 1 [(160, .slice (some ⟨nx0 + 2, 0, none⟩) 2 2), (159, .bool true)] ?_
                 obtain ⟨t17, hA17, H⟩ := bnd H
                 refine RL.callP 11 [.slice (some ⟨nx0 + 2, 0, none⟩) 2 2] (some 161) (fun w => assign_Valid.Post I43 w t17) (by kernel_rfl) (by kernel_rfl) (fun w hs => assign_Valid.calls k I43 [[3, 5], [4, 7]] (some ⟨nx0 + 2, 0, none⟩) 2 w hs.im (Nat.le_of_ble_eq_true rfl) (Rd.ext (Imm.le_trans (Imm.le_trans (Imm.le_trans (Imm.le_trans (Imm.le_trans (Imm.le_trans (Imm.le_trans (Imm.le_trans (Imm.le_trans (Imm.le_trans (Imm.le_trans (Imm.le_trans (Imm.le_trans (Imm.le_trans (Imm.le_trans (Imm.le_trans (Imm.le_trans (Imm.le_trans (Imm.le_trans (Imm.le_trans (Imm.le_trans (Imm.le_trans (Imm.le_trans (Imm.le_trans (Imm.le_trans (Imm.le_trans (Imm.le_trans (Imm.le_trans (Imm.le_trans (Imm.le_trans (Imm.le_trans (Imm.le_trans (Imm.le_trans (Imm.le_trans (Imm.le_trans (Imm.le_trans (Imm.le_trans (Imm.le_trans hi4 hi5) hi6) hi7) hi8) hi9) hi10) hi11) hi12) hi13) hi14) hi15) hi16) hi17) hi18) hi19) hi20) hi21) hi22) hi23) hi24) hi25) hi26) hi27) hi28) hi29) hi31) hi32) hi33) hi34) hi35) hi36) hi37) hi38) hi39) hi40) hi41) hi42) hi43) hr3) t17 hA17) ?_
                 rintro w v w' hs ⟨I44, rfl, hg⟩
                 have hi44 := hg.le
                 refine RL.resume (X' := [orow 3 1 A1 t1.1.length c1 cs1, orow 3 1 A4 t2.1.length c4 cs4, orow 3 1 A7 t3.1.length c7 cs7, orow 3 1 A10 t4.1.length c10 cs10]) rfl (hs.call hg) ?_
                 clear hs hg
                 generalize w'.heap.size = nx18
                 clear w w'
                 refine RL.s 2 [(163, .bool t17)] ?_
                 refine RL.cases t17 (fun hb => ?_) (fun hb => ?_)
                 ·have hc := hb
                  rw [hb]
                  rw [if_pos hc] at H; clear hb
                  obtain ⟨t18, hA18, H⟩ := bnd H
                  refine RL.callP 11 [.slice none 0 0] (some 164) (fun w => assign_Valid.Post I44 w t18) (by kernel_rfl) (by kernel_rfl) (fun w hs => assign_Valid.calls k I44 [] none 0 w hs.im (Nat.le_refl _) (Rd.nil _ _ _) t18 hA18) ?_
                  rintro w v w' hs ⟨I45, rfl, hg⟩
                  have hi45 := hg.le
                  refine RL.resume (X' := [orow 3 1 A1 t1.1.length c1 cs1, orow 3 1 A4 t2.1.length c4 cs4, orow 3 1 A7 t3.1.length c7 cs7, orow 3 1 A10 t4.1.length c10 cs10]) rfl (hs.call hg) ?_
                  clear hs hg
                  generalize w'.heap.size = nx19
                  clear w w'
                  refine RL.s 2 [(166, .bool t18)] ?_
                  refine RL.cases t18 (fun hb => ?_) (fun hb => ?_)
                  ·have hc := hb
                   rw [hb]
                   rw [if_pos hc] at H; clear hb
                   refine RL.sp 3 [(169, .slice (some ⟨nx19 + 2, 0, none⟩) 2 2), (166, .bool true)] (nx19 + 3) [⟨nx1, [.slice A2 t1.2.f0.length c2, .slice A3 t1.2.f1.length c3], 26⟩, ⟨nx2, [.slice A5 t2.2.f0.length c5, .slice A6 t2.2.f1.length c6], 26⟩, ⟨nx3, [.slice A8 t3.2.f0.length c8, .slice A9 t3.2.f1.length c9], 26⟩, ⟨nx4, [.slice A11 t4.2.f0.length c11, .slice A12 t4.2.f1.length c12], 26⟩, ⟨nx19, [i6 1], 2⟩, ⟨nx19 + 1, [], 2⟩, ⟨nx19 + 2, [.slice (some ⟨nx19, 0, none⟩) 1 1, .slice (some ⟨nx19 + 1, 0, none⟩) 0 0], 24⟩] ?_
                   refine RL.freezeL (d := (Ty.int .i64)) (xs := [1]) (b := ⟨nx19, [i6 1], 2⟩) 4 (by kernel_rfl) ⟨_, _, rfl, rfl, rfl⟩ (Nat.le_of_ble_eq_true rfl) (fun I46 hi46 hr34 => ?_)
                   refine RL.freezeL (d := (Ty.int .i64)) (xs := []) (b := ⟨nx19 + 1, [], 2⟩) 4 (by kernel_rfl) rfl (Nat.le_of_ble_eq_true rfl) (fun I47 hi47 hr35 => ?_)
                   refine RL.freezeL (d := (Ty.slice (Ty.int .i64))) (xs := [[1], []]) (b := ⟨nx19 + 2, [.slice (some ⟨nx19, 0, none⟩) 1 1, .slice (some ⟨nx19 + 1, 0, none⟩) 0 0], 24⟩) 4 (by kernel_rfl) ⟨_, _, rfl, ⟨_, _, rfl, (Nat.le_of_ble_eq_true rfl), (Rd.ext hi47 hr34)⟩, ⟨_, _, rfl, ⟨_, _, rfl, (Nat.le_of_ble_eq_true rfl), hr35⟩, rfl⟩⟩ (Nat.le_of_ble_eq_true rfl) (fun I48 hi48 hr36 => ?_)
                   obtain ⟨t19, hA19, H⟩ := bnd H
                   refine RL.callP 11 [.slice (some ⟨nx19 + 2, 0, none⟩) 2 2] (some 170) (fun w => assign_Valid.Post I48 w t19) (by kernel_rfl) (by kernel_rfl) (fun w hs => assign_Valid.calls k I48 [[1], []] (some ⟨nx19 + 2, 0, none⟩) 2 w hs.im (Nat.le_of_ble_eq_true rfl) hr36 t19 hA19) ?_
                   rintro w v w' hs ⟨I49, rfl, hg⟩
                   have hi49 := hg.le
                   refine RL.resume (X' := [orow 3 1 A1 t1.1.length c1 cs1, orow 3 1 A4 t2.1.length c4 cs4, orow 3 1 A7 t3.1.length c7 cs7, orow 3 1 A10 t4.1.length c10 cs10]) rfl (hs.call hg) ?_
                   clear hs hg
                   generalize w'.heap.size = nx20
                   clear w w'
                   refine RL.s 3 [(173, .bool (!t19))] ?_
                   refine RL.cases t19 (fun hb => ?_) (fun hb => ?_)
                   ·have hc := hb
                    rw [hb]
                    rw [if_pos hc] at H; clear hb
                    refine RL.s 6 [(0, .bool false)] ?_
                    refine RL.nil (by kernel_rfl) ?_
                    obtain rfl := Option.some.inj H
                    refine QN.sel (K' := [(0, .bool false)]) (L' := [⟨nx1, [.slice A2 t1.2.f0.length c2, .slice A3 t1.2.f1.length c3], 26⟩, ⟨nx2, [.slice A5 t2.2.f0.length c5, .slice A6 t2.2.f1.length c6], 26⟩, ⟨nx3, [.slice A8 t3.2.f0.length c8, .slice A9 t3.2.f1.length c9], 26⟩, ⟨nx4, [.slice A11 t4.2.f0.length c11, .slice A12 t4.2.f1.length c12], 26⟩]) [] (by kernel_rfl) (by kernel_rfl) (.cons_cons _ (.cons_cons _ (.cons_cons _ (.cons_cons _ .slnil)))) ?_
                    refine QN.norm (X' := []) rfl rfl rfl (by kernel_rfl) ?_
                    exact hJ1 _ _ _ _ _ ⟨false, rfl, rfl, rfl, (Imm.le_trans (Imm.le_trans (Imm.le_trans (Imm.le_trans (Imm.le_trans (Imm.le_trans (Imm.le_trans (Imm.le_trans (Imm.le_trans (Imm.le_trans (Imm.le_trans (Imm.le_trans (Imm.le_trans (Imm.le_trans (Imm.le_trans (Imm.le_trans (Imm.le_trans (Imm.le_trans hi31 hi32) hi33) hi34) hi35) hi36) hi37) hi38) hi39) hi40) hi41) hi42) hi43) hi44) hi45) hi46) hi47) hi48) hi49), HK1⟩
                   ·have hc := (Bool.eq_false_iff.1 hb)
                    rw [hb]
                    rw [if_neg hc] at H; clear hb
                    refine RL.sp 2 [(175, .slice (some ⟨nx20 + 1, 0, none⟩) 1 1), (173, .bool true)] (nx20 + 2) [⟨nx1, [.slice A2 t1.2.f0.length c2, .slice A3 t1.2.f1.length c3], 26⟩, ⟨nx2, [.slice A5 t2.2.f0.length c5, .slice A6 t2.2.f1.length c6], 26⟩, ⟨nx3, [.slice A8 t3.2.f0.length c8, .slice A9 t3.2.f1.length c9], 26⟩, ⟨nx4, [.slice A11 t4.2.f0.length c11, .slice A12 t4.2.f1.length c12], 26⟩, ⟨nx20, [i6 (-1)], 2⟩, ⟨nx20 + 1, [.slice (some ⟨nx20, 0, none⟩) 1 1], 24⟩] ?_
                    refine RL.freezeL (d := (Ty.int .i64)) (xs := [(-1)]) (b := ⟨nx20, [i6 (-1)], 2⟩) 4 (by kernel_rfl) ⟨_, _, rfl, rfl, rfl⟩ (Nat.le_of_ble_eq_true rfl) (fun I50 hi50 hr37 => ?_)
                    refine RL.freezeL (d := (Ty.slice (Ty.int .i64))) (xs := [[(-1)]]) (b := ⟨nx20 + 1, [.slice (some ⟨nx20, 0, none⟩) 1 1], 24⟩) 4 (by kernel_rfl) ⟨_, _, rfl, ⟨_, _, rfl, (Nat.le_of_ble_eq_true rfl), hr37⟩, rfl⟩ (Nat.le_of_ble_eq_true rfl) (fun I51 hi51 hr38 => ?_)
                    obtain ⟨t20, hA20, H⟩ := bnd H
                    refine RL.callP 11 [.slice (some ⟨nx20 + 1, 0, none⟩) 1 1] (some 176) (fun w => assign_Valid.Post I51 w t20) (by kernel_rfl) (by kernel_rfl) (fun w hs => assign_Valid.calls k I51 [[(-1)]] (some ⟨nx20 + 1, 0, none⟩) 1 w hs.im (Nat.le_of_ble_eq_true rfl) hr38 t20 hA20) ?_
                    rintro w v w' hs ⟨I52, rfl, hg⟩
                    have hi52 := hg.le
                    refine RL.resume (X' := [orow 3 1 A1 t1.1.length c1 cs1, orow 3 1 A4 t2.1.length c4 cs4, orow 3 1 A7 t3.1.length c7 cs7, orow 3 1 A10 t4.1.length c10 cs10]) rfl (hs.call hg) ?_
                    clear hs hg
                    generalize w'.heap.size = nx21
                    clear w w'
                    refine RL.s 3 [(0, .bool (!t20))] ?_
                    refine RL.nil (by kernel_rfl) ?_
                    obtain rfl := Option.some.inj H
                    refine QN.sel (K' := [(0, .bool (!t20))]) (L' := [⟨nx1, [.slice A2 t1.2.f0.length c2, .slice A3 t1.2.f1.length c3], 26⟩, ⟨nx2, [.slice A5 t2.2.f0.length c5, .slice A6 t2.2.f1.length c6], 26⟩, ⟨nx3, [.slice A8 t3.2.f0.length c8, .slice A9 t3.2.f1.length c9], 26⟩, ⟨nx4, [.slice A11 t4.2.f0.length c11, .slice A12 t4.2.f1.length c12], 26⟩]) [] (by kernel_rfl) (by kernel_rfl) (.cons_cons _ (.cons_cons _ (.cons_cons _ (.cons_cons _ .slnil)))) ?_
                    refine QN.norm (X' := []) rfl rfl rfl (by kernel_rfl) ?_
                    exact hJ1 _ _ _ _ _ ⟨(!t20), rfl, rfl, rfl, (Imm.le_trans (Imm.le_trans (Imm.le_trans (Imm.le_trans (Imm.le_trans (Imm.le_trans (Imm.le_trans (Imm.le_trans (Imm.le_trans (Imm.le_trans (Imm.le_trans (Imm.le_trans (Imm.le_trans (Imm.le_trans (Imm.le_trans (Imm.le_trans (Imm.le_trans (Imm.le_trans (Imm.le_trans (Imm.le_trans (Imm.le_trans hi31 hi32) hi33) hi34) hi35) hi36) hi37) hi38) hi39) hi40) hi41) hi42) hi43) hi44) hi45) hi46) hi47) hi48) hi49) hi50) hi51) hi52), HK1⟩
                  ·have hc := (Bool.eq_false_iff.1 hb)
                   rw [hb]
                   rw [if_neg hc] at H; clear hb
                   refine RL.s 13 [(0, .bool false)] ?_
                   refine RL.nil (by kernel_rfl) ?_
                   obtain rfl := Option.some.inj H
                   refine QN.sel (K' := [(0, .bool false)]) (L' := [⟨nx1, [.slice A2 t1.2.f0.length c2, .slice A3 t1.2.f1.length c3], 26⟩, ⟨nx2, [.slice A5 t2.2.f0.length c5, .slice A6 t2.2.f1.length c6], 26⟩, ⟨nx3, [.slice A8 t3.2.f0.length c8, .slice A9 t3.2.f1.length c9], 26⟩, ⟨nx4, [.slice A11 t4.2.f0.length c11, .slice A12 t4.2.f1.length c12], 26⟩]) [] (by kernel_rfl) (by kernel_rfl) (.cons_cons _ (.cons_cons _ (.cons_cons _ (.cons_cons _ .slnil)))) ?_
                   refine QN.norm (X' := []) rfl rfl rfl (by kernel_rfl) ?_
                   exact hJ1 _ _ _ _ _ ⟨false, rfl, rfl, rfl, (Imm.le_trans (Imm.le_trans (Imm.le_trans (Imm.le_trans (Imm.le_trans (Imm.le_trans (Imm.le_trans (Imm.le_trans (Imm.le_trans (Imm.le_trans (Imm.le_trans (Imm.le_trans (Imm.le_trans (Imm.le_trans hi31 hi32) hi33) hi34) hi35) hi36) hi37) hi38) hi39) hi40) hi41) hi42) hi43) hi44) hi45), HK1⟩
                 ·have hc := (Bool.eq_false_iff.1 hb)
                  rw [hb]
                  rw [if_neg hc] at H; clear hb
                  refine RL.s 16 [(0, .bool false)] ?_
                  refine RL.nil (by kernel_rfl) ?_
                  obtain rfl := Option.some.inj H
                  refine QN.sel (K' := [(0, .bool false)]) (L' := [⟨nx1, [.slice A2 t1.2.f0.length c2, .slice A3 t1.2.f1.length c3], 26⟩, ⟨nx2, [.slice A5 t2.2.f0.length c5, .slice A6 t2.2.f1.length c6], 26⟩, ⟨nx3, [.slice A8 t3.2.f0.length c8, .slice A9 t3.2.f1.length c9], 26⟩, ⟨nx4, [.slice A11 t4.2.f0.length c11, .slice A12 t4.2.f1.length c12], 26⟩]) [] (by kernel_rfl) (by kernel_rfl) (.cons_cons _ (.cons_cons _ (.cons_cons _ (.cons_cons _ .slnil)))) ?_
                  refine QN.norm (X' := []) rfl rfl rfl (by kernel_rfl) ?_
                  exact hJ1 _ _ _ _ _ ⟨false, rfl, rfl, rfl, (Imm.le_trans (Imm.le_trans (Imm.le_trans (Imm.le_trans (Imm.le_trans (Imm.le_trans (Imm.le_trans (Imm.le_trans (Imm.le_trans (Imm.le_trans (Imm.le_trans (Imm.le_trans (Imm.le_trans hi31 hi32) hi33) hi34) hi35) hi36) hi37) hi38) hi39) hi40) hi41) hi42) hi43) hi44), HK1⟩
             ·have hc := (Bool.eq_false_iff.1 hb)
              rw [hb]
              rw [if_neg hc] at H; clear hb
              refine RL.simK (K' := [(0, .bool false)]) [] (RFacts.nil _ _ _) 47 (.no :: .no :: .no :: .no :: .no :: .no :: .no :: .no :: .no :: .no :: .no :: .no :: .no :: .no :: .no :: .no :: .no :: .no :: .no :: .no :: .no :: .no :: .no :: .no :: .no :: .no :: .no :: .no :: .no :: .no :: .no :: .no :: .no :: .no :: .no :: .no :: .no :: .no :: .no :: .no :: .no :: .no :: .no :: .no :: .no :: .no :: .no :: []) (by kernel_rfl) (by kernel_rfl) ?_
              refine RL.nil (by kernel_rfl) ?_
              obtain rfl := Option.some.inj H
              refine QN.sel (K' := [(0, .bool false)]) (L' := [⟨nx1, [.slice A2 t1.2.f0.length c2, .slice A3 t1.2.f1.length c3], 26⟩, ⟨nx2, [.slice A5 t2.2.f0.length c5, .slice A6 t2.2.f1.length c6], 26⟩, ⟨nx3, [.slice A8 t3.2.f0.length c8, .slice A9 t3.2.f1.length c9], 26⟩, ⟨nx4, [.slice A11 t4.2.f0.length c11, .slice A12 t4.2.f1.length c12], 26⟩]) [] (by kernel_rfl) (by kernel_rfl) (.cons_cons _ (.cons_cons _ (.cons_cons _ (.cons_cons _ .slnil)))) ?_
              refine QN.norm (X' := []) rfl rfl rfl (by kernel_rfl) ?_
              exact hJ1 _ _ _ _ _ ⟨false, rfl, rfl, rfl, (Imm.le_trans (Imm.le_trans (Imm.le_trans (Imm.le_trans hi31 hi32) hi33) hi34) hi35), HK1⟩
          ·have hc := (Bool.eq_false_iff.1 hb)
           rw [hb]
           rw [if_neg hc] at H; clear hb
           refine RL.simK (K' := [(0, .bool false)]) [] (RFacts.nil _ _ _) 63 (.no :: .no :: .no :: .no :: .no :: .no :: .no :: .no :: .no :: .no :: .no :: .no :: .no :: .no :: .no :: .no :: .no :: .no :: .no :: .no :: .no :: .no :: .no :: .no :: .no :: .no :: .no :: .no :: .no :: .no :: .no :: .no :: .no :: .no :: .no :: .no :: .no :: .no :: .no :: .no :: .no :: .no :: .no :: .no :: .no :: .no :: .no :: .no :: .no :: .no :: .no :: .no :: .no :: .no :: .no :: .no :: .no :: .no :: .no :: .no :: .no :: .no :: .no :: []) (by kernel_rfl) (by kernel_rfl) ?_
           refine RL.nil (by kernel_rfl) ?_
           obtain rfl := Option.some.inj H
           refine QN.sel (K' := [(0, .bool false)]) (L' := [⟨nx1, [.slice A2 t1.2.f0.length c2, .slice A3 t1.2.f1.length c3], 26⟩, ⟨nx2, [.slice A5 t2.2.f0.length c5, .slice A6 t2.2.f1.length c6], 26⟩, ⟨nx3, [.slice A8 t3.2.f0.length c8, .slice A9 t3.2.f1.length c9], 26⟩, ⟨nx4, [.slice A11 t4.2.f0.length c11, .slice A12 t4.2.f1.length c12], 26⟩]) [] (by kernel_rfl) (by kernel_rfl) (.cons_cons _ (.cons_cons _ (.cons_cons _ (.cons_cons _ .slnil)))) ?_
           refine QN.norm (X' := []) rfl rfl rfl (by kernel_rfl) ?_
           exact hJ1 _ _ _ _ _ ⟨false, rfl, rfl, rfl, (Imm.le_trans (Imm.le_trans hi31 hi32) hi33), HK1⟩
         ·have hc := (beq_eq_false_iff_ne.1 hb)
          rw [hb]
          rw [if_neg hc] at H; clear hb
          refine RL.simK (K' := [(0, .bool false)]) [] (RFacts.nil _ _ _) 66 (.no :: .no :: .no :: .no :: .no :: .no :: .no :: .no :: .no :: .no :: .no :: .no :: .no :: .no :: .no :: .no :: .no :: .no :: .no :: .no :: .no :: .no :: .no :: .no :: .no :: .no :: .no :: .no :: .no :: .no :: .no :: .no :: .no :: .no :: .no :: .no :: .no :: .no :: .no :: .no :: .no :: .no :: .no :: .no :: .no :: .no :: .no :: .no :: .no :: .no :: .no :: .no :: .no :: .no :: .no :: .no :: .no :: .no :: .no :: .no :: .no :: .no :: .no :: .no :: .no :: .no :: []) (by kernel_rfl) (by kernel_rfl) ?_
          refine RL.nil (by kernel_rfl) ?_
          obtain rfl := Option.some.inj H
          refine QN.sel (K' := [(0, .bool false)]) (L' := [⟨nx1, [.slice A2 t1.2.f0.length c2, .slice A3 t1.2.f1.length c3], 26⟩, ⟨nx2, [.slice A5 t2.2.f0.length c5, .slice A6 t2.2.f1.length c6], 26⟩, ⟨nx3, [.slice A8 t3.2.f0.length c8, .slice A9 t3.2.f1.length c9], 26⟩, ⟨nx4, [.slice A11 t4.2.f0.length c11, .slice A12 t4.2.f1.length c12], 26⟩]) [] (by kernel_rfl) (by kernel_rfl) (.cons_cons _ (.cons_cons _ (.cons_cons _ (.cons_cons _ .slnil)))) ?_
          refine QN.norm (X' := []) rfl rfl rfl (by kernel_rfl) ?_
          exact hJ1 _ _ _ _ _ ⟨false, rfl, rfl, rfl, (Imm.le_trans (Imm.le_trans hi31 hi32) hi33), HK1⟩
        ·have hc := (Bool.eq_false_iff.1 hb)
         rw [hb]
         rw [if_neg hc] at H; clear hb
         refine RL.simK (K' := [(0, .bool false)]) [] (RFacts.nil _ _ _) 70 (.no :: .no :: .no :: .no :: .no :: .no :: .no :: .no :: .no :: .no :: .no :: .no :: .no :: .no :: .no :: .no :: .no :: .no :: .no :: .no :: .no :: .no :: .no :: .no :: .no :: .no :: .no :: .no :: .no :: .no :: .no :: .no :: .no :: .no :: .no :: .no :: .no :: .no :: .no :: .no :: .no :: .no :: .no :: .no :: .no :: .no :: .no :: .no :: .no :: .no :: .no :: .no :: .no :: .no :: .no :: .no :: .no :: .no :: .no :: .no :: .no :: .no :: .no :: .no :: .no :: .no :: .no :: .no :: .no :: .no :: []) (by kernel_rfl) (by kernel_rfl) ?_
         refine RL.nil (by kernel_rfl) ?_
         obtain rfl := Option.some.inj H
         refine QN.sel (K' := [(0, .bool false)]) (L' := [⟨nx1, [.slice A2 t1.2.f0.length c2, .slice A3 t1.2.f1.length c3], 26⟩, ⟨nx2, [.slice A5 t2.2.f0.length c5, .slice A6 t2.2.f1.length c6], 26⟩, ⟨nx3, [.slice A8 t3.2.f0.length c8, .slice A9 t3.2.f1.length c9], 26⟩, ⟨nx4, [.slice A11 t4.2.f0.length c11, .slice A12 t4.2.f1.length c12], 26⟩]) [] (by kernel_rfl) (by kernel_rfl) (.cons_cons _ (.cons_cons _ (.cons_cons _ (.cons_cons _ .slnil)))) ?_
         refine QN.norm (X' := []) rfl rfl rfl (by kernel_rfl) ?_
         exact hJ1 _ _ _ _ _ ⟨false, rfl, rfl, rfl, (Imm.le_trans (Imm.le_trans hi31 hi32) hi33), HK1⟩
       ·have hc := (beq_eq_false_iff_ne.1 hb)
        rw [hb]
        rw [if_neg hc] at H; clear hb
        refine RL.simK (K' := [(0, .bool false)]) [] (RFacts.nil _ _ _) 73 (.no :: .no :: .no :: .no :: .no :: .no :: .no :: .no :: .no :: .no :: .no :: .no :: .no :: .no :: .no :: .no :: .no :: .no :: .no :: .no :: .no :: .no :: .no :: .no :: .no :: .no :: .no :: .no :: .no :: .no :: .no :: .no :: .no :: .no :: .no :: .no :: .no :: .no :: .no :: .no :: .no :: .no :: .no :: .no :: .no :: .no :: .no :: .no :: .no :: .no :: .no :: .no :: .no :: .no :: .no :: .no :: .no :: .no :: .no :: .no :: .no :: .no :: .no :: .no :: .no :: .no :: .no :: .no :: .no :: .no :: .no :: .no :: .no :: []) (by kernel_rfl) (by kernel_rfl) ?_
        refine RL.nil (by kernel_rfl) ?_
        obtain rfl := Option.some.inj H
        refine QN.sel (K' := [(0, .bool false)]) (L' := [⟨nx1, [.slice A2 t1.2.f0.length c2, .slice A3 t1.2.f1.length c3], 26⟩, ⟨nx2, [.slice A5 t2.2.f0.length c5, .slice A6 t2.2.f1.length c6], 26⟩, ⟨nx3, [.slice A8 t3.2.f0.length c8, .slice A9 t3.2.f1.length c9], 26⟩, ⟨nx4, [.slice A11 t4.2.f0.length c11, .slice A12 t4.2.f1.length c12], 26⟩]) [] (by kernel_rfl) (by kernel_rfl) (.cons_cons _ (.cons_cons _ (.cons_cons _ (.cons_cons _ .slnil)))) ?_
        refine QN.norm (X' := []) rfl rfl rfl (by kernel_rfl) ?_
        exact hJ1 _ _ _ _ _ ⟨false, rfl, rfl, rfl, (Imm.le_trans (Imm.le_trans hi31 hi32) hi33), HK1⟩
      ·have hc := (beq_eq_false_iff_ne.1 hb)
       rw [hb]
       rw [if_neg hc] at H; clear hb
       refine RL.simK (K' := [(0, .bool false)]) [] (RFacts.nil _ _ _) 77 (.no :: .no :: .no :: .no :: .no :: .no :: .no :: .no :: .no :: .no :: .no :: .no :: .no :: .no :: .no :: .no :: .no :: .no :: .no :: .no :: .no :: .no :: .no :: .no :: .no :: .no :: .no :: .no :: .no :: .no :: .no :: .no :: .no :: .no :: .no :: .no :: .no :: .no :: .no :: .no :: .no :: .no :: .no :: .no :: .no :: .no :: .no :: .no :: .no :: .no :: .no :: .no :: .no :: .no :: .no :: .no :: .no :: .no :: .no :: .no :: .no :: .no :: .no :: .no :: .no :: .no :: .no :: .no :: .no :: .no :: .no :: .no :: .no :: .no :: .no :: .no :: .no :: []) (by kernel_rfl) (by kernel_rfl) ?_
       refine RL.nil (by kernel_rfl) ?_
       obtain rfl := Option.some.inj H
       refine QN.sel (K' := [(0, .bool false)]) (L' := [⟨nx1, [.slice A2 t1.2.f0.length c2, .slice A3 t1.2.f1.length c3], 26⟩, ⟨nx2, [.slice A5 t2.2.f0.length c5, .slice A6 t2.2.f1.length c6], 26⟩, ⟨nx3, [.slice A8 t3.2.f0.length c8, .slice A9 t3.2.f1.length c9], 26⟩, ⟨nx4, [.slice A11 t4.2.f0.length c11, .slice A12 t4.2.f1.length c12], 26⟩]) [] (by kernel_rfl) (by kernel_rfl) (.cons_cons _ (.cons_cons _ (.cons_cons _ (.cons_cons _ .slnil)))) ?_
       refine QN.norm (X' := []) rfl rfl rfl (by kernel_rfl) ?_
       exact hJ1 _ _ _ _ _ ⟨false, rfl, rfl, rfl, (Imm.le_trans (Imm.le_trans hi31 hi32) hi33), HK1⟩
     ·have hc := (Bool.eq_false_iff.1 hb)
      rw [hb]
      rw [if_neg hc] at H; clear hb
      refine RL.simK (K' := [(0, .bool false)]) [] (RFacts.nil _ _ _) 90 (.no :: .no :: .no :: .no :: .no :: .no :: .no :: .no :: .no :: .no :: .no :: .no :: .no :: .no :: .no :: .no :: .no :: .no :: .no :: .no :: .no :: .no :: .no :: .no :: .no :: .no :: .no :: .no :: .no :: .no :: .no :: .no :: .no :: .no :: .no :: .no :: .no :: .no :: .no :: .no :: .no :: .no :: .no :: .no :: .no :: .no :: .no :: .no :: .no :: .no :: .no :: .no :: .no :: .no :: .no :: .no :: .no :: .no :: .no :: .no :: .no :: .no :: .no :: .no :: .no :: .no :: .no :: .no :: .no :: .no :: .no :: .no :: .no :: .no :: .no :: .no :: .no :: .no :: .no :: .no :: .no :: .no :: .no :: .no :: .no :: .no :: .no :: .no :: .no :: .no :: []) (by kernel_rfl) (by kernel_rfl) ?_
      refine RL.nil (by kernel_rfl) ?_
      obtain rfl := Option.some.inj H
      refine QN.sel (K' := [(0, .bool false)]) (L' := [⟨nx1, [.slice A2 t1.2.f0.length c2, .slice A3 t1.2.f1.length c3], 26⟩, ⟨nx2, [.slice A5 t2.2.f0.length c5, .slice A6 t2.2.f1.length c6], 26⟩, ⟨nx3, [.slice A8 t3.2.f0.length c8, .slice A9 t3.2.f1.length c9], 26⟩, ⟨nx4, [.slice A11 t4.2.f0.length c11, .slice A12 t4.2.f1.length c12], 26⟩]) [] (by kernel_rfl) (by kernel_rfl) (.cons_cons _ (.cons_cons _ (.cons_cons _ (.cons_cons _ .slnil)))) ?_
      refine QN.norm (X' := []) rfl rfl rfl (by kernel_rfl) ?_
      exact hJ1 _ _ _ _ _ ⟨false, rfl, rfl, rfl, (Imm.le_trans (Imm.le_trans hi31 hi32) hi33), HK1⟩
    ·have hc := (Bool.eq_false_iff.1 hb)
     rw [hb]
     rw [if_neg hc] at H; clear hb
     refine RL.simK (K' := [(0, .bool false)]) [] (RFacts.nil _ _ _) 95 (.no :: .no :: .no :: .no :: .no :: .no :: .no :: .no :: .no :: .no :: .no :: .no :: .no :: .no :: .no :: .no :: .no :: .no :: .no :: .no :: .no :: .no :: .no :: .no :: .no :: .no :: .no :: .no :: .no :: .no :: .no :: .no :: .no :: .no :: .no :: .no :: .no :: .no :: .no :: .no :: .no :: .no :: .no :: .no :: .no :: .no :: .no :: .no :: .no :: .no :: .no :: .no :: .no :: .no :: .no :: .no :: .no :: .no :: .no :: .no :: .no :: .no :: .no :: .no :: .no :: .no :: .no :: .no :: .no :: .no :: .no :: .no :: .no :: .no :: .no :: .no :: .no :: .no :: .no :: .no :: .no :: .no :: .no :: .no :: .no :: .no :: .no :: .no :: .no :: .no :: .no :: .no :: .no :: .no :: .no :: []) (by kernel_rfl) (by kernel_rfl) ?_
     refine RL.nil (by kernel_rfl) ?_
     obtain rfl := Option.some.inj H
     refine QN.sel (K' := [(0, .bool false)]) (L' := [⟨nx1, [.slice A2 t1.2.f0.length c2, .slice A3 t1.2.f1.length c3], 26⟩, ⟨nx2, [.slice A5 t2.2.f0.length c5, .slice A6 t2.2.f1.length c6], 26⟩, ⟨nx3, [.slice A8 t3.2.f0.length c8, .slice A9 t3.2.f1.length c9], 26⟩, ⟨nx4, [.slice A11 t4.2.f0.length c11, .slice A12 t4.2.f1.length c12], 26⟩]) [] (by kernel_rfl) (by kernel_rfl) (.cons_cons _ (.cons_cons _ (.cons_cons _ (.cons_cons _ .slnil)))) ?_
     refine QN.norm (X' := []) rfl rfl rfl (by kernel_rfl) ?_
     exact hJ1 _ _ _ _ _ ⟨false, rfl, rfl, rfl, (Imm.le_trans hi31 hi32), HK1⟩
   ·have hc := (Bool.eq_false_iff.1 hb)
    rw [hb]
    rw [if_neg hc] at H; clear hb
    refine RL.simK (K' := [(0, .bool false)]) [] (RFacts.nil _ _ _) 100 (.no :: .no :: .no :: .no :: .no :: .no :: .no :: .no :: .no :: .no :: .no :: .no :: .no :: .no :: .no :: .no :: .no :: .no :: .no :: .no :: .no :: .no :: .no :: .no :: .no :: .no :: .no :: .no :: .no :: .no :: .no :: .no :: .no :: .no :: .no :: .no :: .no :: .no :: .no :: .no :: .no :: .no :: .no :: .no :: .no :: .no :: .no :: .no :: .no :: .no :: .no :: .no :: .no :: .no :: .no :: .no :: .no :: .no :: .no :: .no :: .no :: .no :: .no :: .no :: .no :: .no :: .no :: .no :: .no :: .no :: .no :: .no :: .no :: .no :: .no :: .no :: .no :: .no :: .no :: .no :: .no :: .no :: .no :: .no :: .no :: .no :: .no :: .no :: .no :: .no :: .no :: .no :: .no :: .no :: .no :: .no :: .no :: .no :: .no :: .no :: []) (by kernel_rfl) (by kernel_rfl) ?_
    refine RL.nil (by kernel_rfl) ?_
    obtain rfl := Option.some.inj H
    refine QN.sel (K' := [(0, .bool false)]) (L' := [⟨nx1, [.slice A2 t1.2.f0.length c2, .slice A3 t1.2.f1.length c3], 26⟩, ⟨nx2, [.slice A5 t2.2.f0.length c5, .slice A6 t2.2.f1.length c6], 26⟩, ⟨nx3, [.slice A8 t3.2.f0.length c8, .slice A9 t3.2.f1.length c9], 26⟩, ⟨nx4, [.slice A11 t4.2.f0.length c11, .slice A12 t4.2.f1.length c12], 26⟩]) [] (by kernel_rfl) (by kernel_rfl) (.cons_cons _ (.cons_cons _ (.cons_cons _ (.cons_cons _ .slnil)))) ?_
    refine QN.norm (X' := []) rfl rfl rfl (by kernel_rfl) ?_
    exact hJ1 _ _ _ _ _ ⟨false, rfl, rfl, rfl, hi31, HK1⟩
  ·have hc := (Bool.eq_false_iff.1 hb)
   rw [hb]
   rw [if_neg hc] at H; clear hb
   refine RL.simK (K' := [(0, .bool false)]) [] (RFacts.nil _ _ _) 106 (.no :: .no :: .no :: .no :: .no :: .no :: .no :: .no :: .no :: .no :: .no :: .no :: .no :: .no :: .no :: .no :: .no :: .no :: .no :: .no :: .no :: .no :: .no :: .no :: .no :: .no :: .no :: .no :: .no :: .no :: .no :: .no :: .no :: .no :: .no :: .no :: .no :: .no :: .no :: .no :: .no :: .no :: .no :: .no :: .no :: .no :: .no :: .no :: .no :: .no :: .no :: .no :: .no :: .no :: .no :: .no :: .no :: .no :: .no :: .no :: .no :: .no :: .no :: .no :: .no :: .no :: .no :: .no :: .no :: .no :: .no :: .no :: .no :: .no :: .no :: .no :: .no :: .no :: .no :: .no :: .no :: .no :: .no :: .no :: .no :: .no :: .no :: .no :: .no :: .no :: .no :: .no :: .no :: .no :: .no :: .no :: .no :: .no :: .no :: .no :: .no :: .no :: .no :: .no :: .no :: .no :: []) (by kernel_rfl) (by kernel_rfl) ?_
   refine RL.nil (by kernel_rfl) ?_
   obtain rfl := Option.some.inj H
   refine QN.sel (K' := [(0, .bool false)]) (L' := [⟨nx1, [.slice A2 t1.2.f0.length c2, .slice A3 t1.2.f1.length c3], 26⟩, ⟨nx2, [.slice A5 t2.2.f0.length c5, .slice A6 t2.2.f1.length c6], 26⟩, ⟨nx3, [.slice A8 t3.2.f0.length c8, .slice A9 t3.2.f1.length c9], 26⟩, ⟨nx4, [.slice A11 t4.2.f0.length c11, .slice A12 t4.2.f1.length c12], 26⟩]) [] (by kernel_rfl) (by kernel_rfl) (.cons_cons _ (.cons_cons _ (.cons_cons _ (.cons_cons _ .slnil)))) ?_
   refine QN.norm (X' := []) rfl rfl rfl (by kernel_rfl) ?_
   exact hJ1 _ _ _ _ _ ⟨false, rfl, rfl, rfl, hi31, HK1⟩

end Go.Proofs.Ytdmhbcgmimfjcaa
namespace Go.Proofs.Ytdmhbcgmimfjcaa.hun
open Go Go.Proofs.Ytdmhbcgmimfjcaa Go.Proofs.Ytdmhbcgmimfjcaa.RW
set_option maxRecDepth 1000000
theorem sane (k : Nat) : armillarylaw22_sanity.f (k + 60) = some true := by kernel_rfl
end Go.Proofs.Ytdmhbcgmimfjcaa.hun
namespace Go.Proofs.Ytdmhbcgmimfjcaa
open Go Go.Proofs.Ytdmhbcgmimfjcaa.RW
set_option linter.unusedVariables false
set_option maxRecDepth 100000
set_option maxHeartbeats 8000000

/-! ### armillarylaw22_AssignMonotonicity: function 8, armillary/armillarylaw22.AssignMonotonicity -/
noncomputable def K8_0 : Code := cBody Try.f8
noncomputable def O8_112 : List Oper := cOps (cL (cR (cR (cR (cR (cR (cR (cR (cR (cR (cR (cR (cR K8_0)))))))))))))
noncomputable def O8_121 : List Oper := cOps (cL (cR (cR (cR (cR (cR (cR (cR (cR (cR (cR (cR (cR (cR (cR (cR K8_0))))))))))))))))
noncomputable def O8_127 : List Oper := cOps (cL (cR (cR (cR (cR (cR (cR (cR (cR (cR (cR (cR (cR (cR (cR (cR (cR (cR K8_0))))))))))))))))))
def armillarylaw22_AssignMonotonicity.k1  (x4 : Bool) : Option (Bool) := (some x4)
def armillarylaw22_AssignMonotonicity.k2  (x7 : Bool) : Option (Bool) := (some x7)
def armillarylaw22_AssignMonotonicity.k3 (k : Nat) (a1 : Int) (a2 : Int) (a3 : Int) (t1 : Bool) (t2 : List (List Int)) (t3 : Int) (x6 : Bool) : Option (Bool) := (if x6 = true then (some false) else (if (t2.length : Int) = 0 then none else ((armillaryref22_Columns.f t2).bind fun t5 => (if t5 = 0 then none else (if (([] : List (List Int)).length + t2.length) * 24 ≤ 140737488355328 then (if 0 ≤ ((W .i64 (a1)).tmod (t2.length : Int)) then (if ((W .i64 (a1)).tmod (t2.length : Int)) < (t2.length : Int) then (if (([] : List Int).length + (t2.getD ((W .i64 (a1)).tmod (t2.length : Int)).toNat []).length) * 8 ≤ 140737488355328 then (if 0 ≤ ((W .i64 (a1)).tmod (t2.length : Int)) then (if ((W .i64 (a1)).tmod (t2.length : Int)) < ((([] : List (List Int)) ++ t2).length : Int) then (if 0 ≤ ((W .i64 (a1)).tmod (t2.length : Int)) then (if ((W .i64 (a1)).tmod (t2.length : Int)) < ((([] : List (List Int)) ++ t2).length : Int) then (if 0 ≤ ((W .i64 (a1)).tmod (t2.length : Int)) then (if ((W .i64 (a1)).tmod (t2.length : Int)) < (t2.length : Int) then (if 0 ≤ ((W .i64 (a2)).tmod t5) then (if ((W .i64 (a2)).tmod t5) < ((t2.getD ((W .i64 (a1)).tmod (t2.length : Int)).toNat []).length : Int) then (if 0 ≤ ((W .i64 (a2)).tmod t5) then (if ((W .i64 (a2)).tmod t5) < ((([] : List Int) ++ (t2.getD ((W .i64 (a1)).tmod (t2.length : Int)).toNat [])).length : Int) then ((armillarylaw22_optimum.f k ((([] : List (List Int)) ++ t2).set ((W .i64 (a1)).tmod (t2.length : Int)).toNat ((([] : List Int) ++ (t2.getD ((W .i64 (a1)).tmod (t2.length : Int)).toNat [])).set ((W .i64 (a2)).tmod t5).toNat (iMin (W .i64 (((t2.getD ((W .i64 (a1)).tmod (t2.length : Int)).toNat []).getD ((W .i64 (a2)).tmod t5).toNat 0) + (iMax (W .i64 (a3)) (W .i64 (0 - (W .i64 (a3))))))) 1073741824)))).bind fun t6 => ((if t6 ≥ t3 then (if 0 ≤ ((W .i64 (a1)).tmod (t2.length : Int)) then (if ((W .i64 (a1)).tmod (t2.length : Int)) < (((([] : List (List Int)) ++ t2).set ((W .i64 (a1)).tmod (t2.length : Int)).toNat ((([] : List Int) ++ (t2.getD ((W .i64 (a1)).tmod (t2.length : Int)).toNat [])).set ((W .i64 (a2)).tmod t5).toNat (iMin (W .i64 (((t2.getD ((W .i64 (a1)).tmod (t2.length : Int)).toNat []).getD ((W .i64 (a2)).tmod t5).toNat 0) + (iMax (W .i64 (a3)) (W .i64 (0 - (W .i64 (a3))))))) 1073741824))).length : Int) then (if 0 ≤ ((W .i64 (a2)).tmod t5) then (if ((W .i64 (a2)).tmod t5) < ((((([] : List (List Int)) ++ t2).set ((W .i64 (a1)).tmod (t2.length : Int)).toNat ((([] : List Int) ++ (t2.getD ((W .i64 (a1)).tmod (t2.length : Int)).toNat [])).set ((W .i64 (a2)).tmod t5).toNat (iMin (W .i64 (((t2.getD ((W .i64 (a1)).tmod (t2.length : Int)).toNat []).getD ((W .i64 (a2)).tmod t5).toNat 0) + (iMax (W .i64 (a3)) (W .i64 (0 - (W .i64 (a3))))))) 1073741824))).getD ((W .i64 (a1)).tmod (t2.length : Int)).toNat []).length : Int) then (if 0 ≤ ((W .i64 (a1)).tmod (t2.length : Int)) then (if ((W .i64 (a1)).tmod (t2.length : Int)) < (t2.length : Int) then (if 0 ≤ ((W .i64 (a2)).tmod t5) then (if ((W .i64 (a2)).tmod t5) < ((t2.getD ((W .i64 (a1)).tmod (t2.length : Int)).toNat []).length : Int) then (if t6 ≤ (W .i64 ((W .i64 (t3 + ((((([] : List (List Int)) ++ t2).set ((W .i64 (a1)).tmod (t2.length : Int)).toNat ((([] : List Int) ++ (t2.getD ((W .i64 (a1)).tmod (t2.length : Int)).toNat [])).set ((W .i64 (a2)).tmod t5).toNat (iMin (W .i64 (((t2.getD ((W .i64 (a1)).tmod (t2.length : Int)).toNat []).getD ((W .i64 (a2)).tmod t5).toNat 0) + (iMax (W .i64 (a3)) (W .i64 (0 - (W .i64 (a3))))))) 1073741824))).getD ((W .i64 (a1)).tmod (t2.length : Int)).toNat []).getD ((W .i64 (a2)).tmod t5).toNat 0))) - ((t2.getD ((W .i64 (a1)).tmod (t2.length : Int)).toNat []).getD ((W .i64 (a2)).tmod t5).toNat 0))) then (some t1) else (some false)) else none) else none) else none) else none) else none) else none) else none) else none) else (some false)).bind (armillarylaw22_AssignMonotonicity.k2))) else none) else none) else none) else none) else none) else none) else none) else none) else none) else none) else none) else none) else none) else none)))))
def armillarylaw22_AssignMonotonicity.k4 (k : Nat) (a1 : Int) (a2 : Int) (a3 : Int) (t1 : Bool) (t2 : List (List Int)) (t3 : Int) (x5 : Int) : Option (Bool) := (if (0 : Int) ≤ (W .i64 ((t2.length : Int) - 1)) then (if (W .i64 ((t2.length : Int) - 1)) ≤ (t2.length : Int) then ((armillarylaw22_optimum.f k (rpart t2 0 (W .i64 ((t2.length : Int) - 1)))).bind fun t4 => ((if t4 < 0 then (some true) else (if t4 > t3 then (some true) else (some (decide (t4 < (W .i64 (t3 - x5))))))).bind (armillarylaw22_AssignMonotonicity.k3 k a1 a2 a3 t1 t2 t3))) else none) else none)
def armillarylaw22_AssignMonotonicity.l1 (t2 : List (List Int)) : Nat → Int → Int → Option (Int)
 | 0, _, _ => none
 | k + 1, x8, x9 => (if x9 < ((t2.getD (W .i64 ((t2.length : Int) - 1)).toNat []).length : Int) then (if 0 ≤ x9 then (if x9 < ((t2.getD (W .i64 ((t2.length : Int) - 1)).toNat []).length : Int) then (armillarylaw22_AssignMonotonicity.l1 t2 k (iMax x8 ((t2.getD (W .i64 ((t2.length : Int) - 1)).toNat []).getD (x9).toNat 0)) (W .i64 (x9 + 1))) else none) else none) else (some x8))
def armillarylaw22_AssignMonotonicity.k5 (k : Nat) (a1 : Int) (a2 : Int) (a3 : Int) (t1 : Bool) (t2 : List (List Int)) (t3 : Int) (x3 : Bool) : Option (Bool) := (if x3 = true then ((if t3 = 0 then (some t1) else (some false)).bind (armillarylaw22_AssignMonotonicity.k1)) else (if 0 ≤ (W .i64 ((t2.length : Int) - 1)) then (if (W .i64 ((t2.length : Int) - 1)) < (t2.length : Int) then ((armillarylaw22_AssignMonotonicity.l1 t2 k 0 0).bind (armillarylaw22_AssignMonotonicity.k4 k a1 a2 a3 t1 t2 t3)) else none) else none))
def armillarylaw22_AssignMonotonicity.k6 (k : Nat) (a1 : Int) (a2 : Int) (a3 : Int) (t1 : Bool) (t2 : List (List Int)) (t3 : Int) (x2 : Bool) : Option (Bool) := (if x2 = true then (some false) else ((if (t2.length : Int) = 0 then (some true) else ((armillaryref22_Columns.f t2).bind fun t7 => (some (t7 == 0)))).bind (armillarylaw22_AssignMonotonicity.k5 k a1 a2 a3 t1 t2 t3)))
def armillarylaw22_AssignMonotonicity.k7 (k : Nat) (a1 : Int) (a2 : Int) (a3 : Int) (t1 : Bool) (t2 : List (List Int)) (t3 : Int) (x1 : Int) : Option (Bool) := ((if t3 < 0 then (some true) else (some (decide (t3 > x1)))).bind (armillarylaw22_AssignMonotonicity.k6 k a1 a2 a3 t1 t2 t3))
def armillarylaw22_AssignMonotonicity.k9 (x10 : Int) (x13 : Int) : Option (Int) := (some (W .i64 (x10 + x13)))
def armillarylaw22_AssignMonotonicity.l3 (t2 : List (List Int)) (x11 : Int) : Nat → Int → Int → Option (Int)
 | 0, _, _ => none
 | k + 1, x14, x15 => (if 0 ≤ x11 then (if x11 < (t2.length : Int) then (if x15 < ((t2.getD (x11).toNat []).length : Int) then (if 0 ≤ x11 then (if x11 < (t2.length : Int) then (if 0 ≤ x15 then (if x15 < ((t2.getD (x11).toNat []).length : Int) then (armillarylaw22_AssignMonotonicity.l3 t2 x11 k (iMax x14 ((t2.getD (x11).toNat []).getD (x15).toNat 0)) (W .i64 (x15 + 1))) else none) else none) else none) else none) else (some x14)) else none) else none)
def armillarylaw22_AssignMonotonicity.l2 (t2 : List (List Int)) : Nat → Int → Int → Option (Int)
 | 0, _, _ => none
 | k + 1, x10, x11 => (if x11 < (t2.length : Int) then (((armillarylaw22_AssignMonotonicity.l3 t2 x11 k 0 0).bind (armillarylaw22_AssignMonotonicity.k9 x10)).bind (fun x12 => (armillarylaw22_AssignMonotonicity.l2 t2 k x12 (W .i64 (x11 + 1))))) else (some x10))
def armillarylaw22_AssignMonotonicity.f (k : Nat) (a0 : List (List Int)) (a1 : Int) (a2 : Int) (a3 : Int) : Option (Bool) := ((armillarylaw22_sanity.f k ).bind fun t1 => ((armillaryref22_Made.f k a0 12 12).bind fun t2 => ((armillarylaw22_optimum.f k t2).bind fun t3 => ((armillarylaw22_AssignMonotonicity.l2 t2 k 0 0).bind (armillarylaw22_AssignMonotonicity.k7 k a1 a2 a3 t1 t2 t3)))))
def armillarylaw22_AssignMonotonicity.Post (I : Imm) (w : World) (r : Bool) (v : Value) (w' : World) : Prop :=
 ∃ (J : Imm), v = .bool r ∧ Got w w' I J []
noncomputable def a8_112n : List Nat := [0, 1, 0, 4, 15, 0, 32, 0, 128, 480, 415, 2047]
theorem a8_112 : ancs O8_112 [] = a8_112n := by kernel_rfl
theorem a8_112o : drawOk O8_112 a8_112n 11 = true := by kernel_rfl
noncomputable def u8d1l (t5 : Int) : List Ld :=
 [⟨8, fun x => i6 t5, fun x => [], fun x J => True, fun x J J' h f => trivial⟩]
noncomputable def u8d1g (a1 : Int) (a2 : Int) (t2 : List (List Int)) (t5 : Int) : List (Nat × ((Nat → Wt) → Value)) := [(4, fun u => i6 ((W .i64 (a1)).tmod (t2.length : Int))), (9, fun u => i6 ((W .i64 (a2)).tmod t5))]
noncomputable def u8d1q (a1 : Int) (a2 : Int) (a3 : Int) (t1 : Bool) (t2 : List (List Int)) (A1 : Option Addr) (c1 : Nat) (t3 : Int) (x6 : Bool) (t5 : Int) (u : Nat → Wt) : Option (List Value × List (Nat × Value) × List (Nat × Nat)) := qSim Try.prog [] [] O8_112 ⟨186, []⟩ (Ld.vl (u8d1l t5)) (u8d1g a1 a2 t2 t5) u [.no, .no, .no, .no, .no, .no, .no, .no, .no, .no, .no] 0 (O8_112.take 11) [(1, .int .u8 a1), (2, .int .u8 a2), (3, .int .i32 a3), (9, .bool t1), (10, .slice A1 t2.length c1), (11, i6 t3), (113, .bool x6)]
noncomputable def u8d1s (a1 : Int) (a2 : Int) (t2 : List (List Int)) (A1 : Option Addr) (c1 : Nat) (t5 : Int) (u : Nat → Wt) : List Value := [.int .u8 a1, i6 (W .i64 (a1)), .slice A1 t2.length c1, i6 (t2.length : Int), i6 ((W .i64 (a1)).tmod (t2.length : Int)), .int .u8 a2, i6 (W .i64 (a2)), .slice A1 t2.length c1, i6 t5, i6 ((W .i64 (a2)).tmod t5), i6 ((W .i64 (a1)).tmod (t2.length : Int))]
noncomputable def u8d1f (a1 : Int) (a2 : Int) (a3 : Int) (t1 : Bool) (t2 : List (List Int)) (A1 : Option Addr) (c1 : Nat) (t3 : Int) (x6 : Bool) (t5 : Int) (i : Nat) (u : Nat → Wt) : List (Nat × Value) := foldPut ⟨186, []⟩ [(1, .int .u8 a1), (2, .int .u8 a2), (3, .int .i32 a3), (9, .bool t1), (10, .slice A1 t2.length c1), (11, i6 t3), (113, .bool x6)] (O8_112.take i) (((u8d1s a1 a2 t2 A1 c1 t5) u).take i)
theorem u8d1v (a1 : Int) (a2 : Int) (a3 : Int) (t1 : Bool) (t2 : List (List Int)) (A1 : Option Addr) (c1 : Nat) (t3 : Int) (x6 : Bool) (t5 : Int) (u : Nat → Wt) : (u8d1q a1 a2 a3 t1 t2 A1 c1 t3 x6 t5 u).map (fun x => (x.1, x.2.1)) = some ((u8d1s a1 a2 t2 A1 c1 t5) u, (u8d1f a1 a2 a3 t1 t2 A1 c1 t3 x6 t5 11) u) := by kernel_rfl
theorem u8d1e (a1 : Int) (a2 : Int) (a3 : Int) (t1 : Bool) (t2 : List (List Int)) (A1 : Option Addr) (c1 : Nat) (t3 : Int) (x6 : Bool) (t5 : Int) (u : Nat → Wt) : (u8d1q a1 a2 a3 t1 t2 A1 c1 t3 x6 t5 u).map (fun x => x.2.2.map (·.1)) = (u8d1q a1 a2 a3 t1 t2 A1 c1 t3 x6 t5 u).map (fun x => x.2.2.map (·.2)) := by kernel_rfl
noncomputable def a8_121n : List Nat := [0, 0, 3, 7, 0, 0, 0, 96, 224, 0, 992, 2016, 0, 4096, 0, 16384, 49152, 126976, 262112, 524256, 1048575, 2097151]
theorem a8_121 : ancs O8_121 [] = a8_121n := by kernel_rfl
theorem a8_121o : drawOk O8_121 a8_121n 20 = true := by kernel_rfl
noncomputable def u8d2l  : List Ld :=
 []
noncomputable def u8d2g (a1 : Int) (a2 : Int) (t2 : List (List Int)) (t5 : Int) (g4_ : Nat) (g5_ : Nat) (o5_ : Nat) (g6_ : Nat) (o6_ : Nat) : List (Nat × ((Nat → Wt) → Value)) := [(2, fun u => pt g4_ (0 + ((W .i64 (a1)).tmod (t2.length : Int)).toNat * 1)), (7, fun u => pt g5_ (o5_ + ((W .i64 (a1)).tmod (t2.length : Int)).toNat * 1)), (10, fun u => pt g6_ (o6_ + ((W .i64 (a2)).tmod t5).toNat * 1))]
noncomputable def u8d2q (a1 : Int) (a2 : Int) (a3 : Int) (t1 : Bool) (t2 : List (List Int)) (A1 : Option Addr) (c1 : Nat) (t3 : Int) (t5 : Int) (A2 : Option Addr) (c2 : Nat) (A3 : Option Addr) (c3 : Nat) (g4_ : Nat) (A5_ : Option Addr) (c5_ : Nat) (g5_ : Nat) (o5_ : Nat) (g6_ : Nat) (o6_ : Nat) (u : Nat → Wt) : Option (List Value × List (Nat × Value) × List (Nat × Nat)) := qSim Try.prog [(⟨g4_, 0 + ((W .i64 (a1)).tmod (t2.length : Int)).toNat * 1, none⟩, .slice A3 ((([] : List Int) ++ (t2.getD ((W .i64 (a1)).tmod (t2.length : Int)).toNat [])).length) c3), (⟨g5_, o5_ + ((W .i64 (a1)).tmod (t2.length : Int)).toNat * 1, none⟩, .slice A5_ ((t2.getD ((W .i64 (a1)).tmod (t2.length : Int)).toNat []).length) c5_), (⟨g6_, o6_ + ((W .i64 (a2)).tmod t5).toNat * 1, none⟩, i6 ((t2.getD ((W .i64 (a1)).tmod (t2.length : Int)).toNat []).getD ((W .i64 (a2)).tmod t5).toNat 0))] [] O8_121 ⟨186, []⟩ (Ld.vl u8d2l) (u8d2g a1 a2 t2 t5 g4_ g5_ o5_ g6_ o6_) u [.no, .no, .no, .r 0, .no, .no, .no, .no, .r 1, .no, .no, .r 2, .no, .no, .no, .no, .no, .no, .no, .no] 0 (O8_121.take 20) [(22, .slice A2 ((([] : List (List Int)) ++ t2).length) c2), (21, i6 ((W .i64 (a2)).tmod t5)), (20, i6 ((W .i64 (a1)).tmod (t2.length : Int))), (3, .int .i32 a3), (9, .bool t1), (10, .slice A1 t2.length c1), (11, i6 t3)]
noncomputable def u8d2s (a1 : Int) (a2 : Int) (a3 : Int) (t2 : List (List Int)) (A1 : Option Addr) (c1 : Nat) (t5 : Int) (A2 : Option Addr) (c2 : Nat) (A3 : Option Addr) (c3 : Nat) (g4_ : Nat) (A5_ : Option Addr) (c5_ : Nat) (g5_ : Nat) (o5_ : Nat) (g6_ : Nat) (o6_ : Nat) (u : Nat → Wt) : List Value := [.slice A2 ((([] : List (List Int)) ++ t2).length) c2, i6 ((W .i64 (a1)).tmod (t2.length : Int)), pt g4_ (0 + ((W .i64 (a1)).tmod (t2.length : Int)).toNat * 1), .slice A3 ((([] : List Int) ++ (t2.getD ((W .i64 (a1)).tmod (t2.length : Int)).toNat [])).length) c3, i6 ((W .i64 (a2)).tmod t5), .slice A1 t2.length c1, i6 ((W .i64 (a1)).tmod (t2.length : Int)), pt g5_ (o5_ + ((W .i64 (a1)).tmod (t2.length : Int)).toNat * 1), .slice A5_ ((t2.getD ((W .i64 (a1)).tmod (t2.length : Int)).toNat []).length) c5_, i6 ((W .i64 (a2)).tmod t5), pt g6_ (o6_ + ((W .i64 (a2)).tmod t5).toNat * 1), i6 ((t2.getD ((W .i64 (a1)).tmod (t2.length : Int)).toNat []).getD ((W .i64 (a2)).tmod t5).toNat 0), .int .i32 a3, i6 (W .i64 (a3)), .int .i32 a3, i6 (W .i64 (a3)), i6 (W .i64 (0 - (W .i64 (a3)))), i6 (iMax (W .i64 (a3)) (W .i64 (0 - (W .i64 (a3))))), i6 (W .i64 (((t2.getD ((W .i64 (a1)).tmod (t2.length : Int)).toNat []).getD ((W .i64 (a2)).tmod t5).toNat 0) + (iMax (W .i64 (a3)) (W .i64 (0 - (W .i64 (a3))))))), i6 (iMin (W .i64 (((t2.getD ((W .i64 (a1)).tmod (t2.length : Int)).toNat []).getD ((W .i64 (a2)).tmod t5).toNat 0) + (iMax (W .i64 (a3)) (W .i64 (0 - (W .i64 (a3))))))) 1073741824)]
noncomputable def u8d2f (a1 : Int) (a2 : Int) (a3 : Int) (t1 : Bool) (t2 : List (List Int)) (A1 : Option Addr) (c1 : Nat) (t3 : Int) (t5 : Int) (A2 : Option Addr) (c2 : Nat) (A3 : Option Addr) (c3 : Nat) (g4_ : Nat) (A5_ : Option Addr) (c5_ : Nat) (g5_ : Nat) (o5_ : Nat) (g6_ : Nat) (o6_ : Nat) (i : Nat) (u : Nat → Wt) : List (Nat × Value) := foldPut ⟨186, []⟩ [(22, .slice A2 ((([] : List (List Int)) ++ t2).length) c2), (21, i6 ((W .i64 (a2)).tmod t5)), (20, i6 ((W .i64 (a1)).tmod (t2.length : Int))), (3, .int .i32 a3), (9, .bool t1), (10, .slice A1 t2.length c1), (11, i6 t3)] (O8_121.take i) (((u8d2s a1 a2 a3 t2 A1 c1 t5 A2 c2 A3 c3 g4_ A5_ c5_ g5_ o5_ g6_ o6_) u).take i)
theorem u8d2v (a1 : Int) (a2 : Int) (a3 : Int) (t1 : Bool) (t2 : List (List Int)) (A1 : Option Addr) (c1 : Nat) (t3 : Int) (t5 : Int) (A2 : Option Addr) (c2 : Nat) (A3 : Option Addr) (c3 : Nat) (g4_ : Nat) (A5_ : Option Addr) (c5_ : Nat) (g5_ : Nat) (o5_ : Nat) (g6_ : Nat) (o6_ : Nat) (u : Nat → Wt) : (u8d2q a1 a2 a3 t1 t2 A1 c1 t3 t5 A2 c2 A3 c3 g4_ A5_ c5_ g5_ o5_ g6_ o6_ u).map (fun x => (x.1, x.2.1)) = some ((u8d2s a1 a2 a3 t2 A1 c1 t5 A2 c2 A3 c3 g4_ A5_ c5_ g5_ o5_ g6_ o6_) u, (u8d2f a1 a2 a3 t1 t2 A1 c1 t3 t5 A2 c2 A3 c3 g4_ A5_ c5_ g5_ o5_ g6_ o6_ 20) u) := by kernel_rfl
theorem u8d2e (a1 : Int) (a2 : Int) (a3 : Int) (t1 : Bool) (t2 : List (List Int)) (A1 : Option Addr) (c1 : Nat) (t3 : Int) (t5 : Int) (A2 : Option Addr) (c2 : Nat) (A3 : Option Addr) (c3 : Nat) (g4_ : Nat) (A5_ : Option Addr) (c5_ : Nat) (g5_ : Nat) (o5_ : Nat) (g6_ : Nat) (o6_ : Nat) (u : Nat → Wt) : (u8d2q a1 a2 a3 t1 t2 A1 c1 t3 t5 A2 c2 A3 c3 g4_ A5_ c5_ g5_ o5_ g6_ o6_ u).map (fun x => x.2.2.map (·.1)) = (u8d2q a1 a2 a3 t1 t2 A1 c1 t3 t5 A2 c2 A3 c3 g4_ A5_ c5_ g5_ o5_ g6_ o6_ u).map (fun x => x.2.2.map (·.2)) := by kernel_rfl
noncomputable def a8_127n : List Nat := [0, 0, 3, 7, 15, 15, 15, 15, 207, 463, 15, 1999, 4047, 8175, 15, 15, 49167, 114703, 15, 507919, 1032207, 2097135, 4194303, 8388607, 16777215, 33554431, 67108863, 134217727]
theorem a8_127 : ancs O8_127 [] = a8_127n := by kernel_rfl
theorem a8_127o : drawOk O8_127 a8_127n 22 = true := by kernel_rfl
noncomputable def u8d3l  : List Ld :=
 []
noncomputable def u8d3g (a1 : Int) (a2 : Int) (t2 : List (List Int)) (t5 : Int) (g8_ : Nat) (g9_ : Nat) (o9_ : Nat) (g10_ : Nat) (o10_ : Nat) (g11_ : Nat) (o11_ : Nat) : List (Nat × ((Nat → Wt) → Value)) := [(3, fun u => .bool true), (8, fun u => pt g8_ (0 + ((W .i64 (a1)).tmod (t2.length : Int)).toNat * 1)), (11, fun u => pt g9_ (o9_ + ((W .i64 (a2)).tmod t5).toNat * 1)), (16, fun u => pt g10_ (o10_ + ((W .i64 (a1)).tmod (t2.length : Int)).toNat * 1)), (19, fun u => pt g11_ (o11_ + ((W .i64 (a2)).tmod t5).toNat * 1))]
noncomputable def u8d3q (a1 : Int) (a2 : Int) (a3 : Int) (t1 : Bool) (t2 : List (List Int)) (A1 : Option Addr) (c1 : Nat) (t3 : Int) (t5 : Int) (A2 : Option Addr) (c2 : Nat) (t6 : Int) (g8_ : Nat) (A8_ : Option Addr) (c8_ : Nat) (g9_ : Nat) (o9_ : Nat) (A10_ : Option Addr) (c10_ : Nat) (g10_ : Nat) (o10_ : Nat) (g11_ : Nat) (o11_ : Nat) (u : Nat → Wt) : Option (List Value × List (Nat × Value) × List (Nat × Nat)) := qSim Try.prog [(⟨g8_, 0 + ((W .i64 (a1)).tmod (t2.length : Int)).toNat * 1, none⟩, .slice A8_ ((((([] : List (List Int)) ++ t2).set ((W .i64 (a1)).tmod (t2.length : Int)).toNat ((([] : List Int) ++ (t2.getD ((W .i64 (a1)).tmod (t2.length : Int)).toNat [])).set ((W .i64 (a2)).tmod t5).toNat (iMin (W .i64 (((t2.getD ((W .i64 (a1)).tmod (t2.length : Int)).toNat []).getD ((W .i64 (a2)).tmod t5).toNat 0) + (iMax (W .i64 (a3)) (W .i64 (0 - (W .i64 (a3))))))) 1073741824))).getD ((W .i64 (a1)).tmod (t2.length : Int)).toNat []).length) c8_), (⟨g9_, o9_ + ((W .i64 (a2)).tmod t5).toNat * 1, none⟩, i6 ((((([] : List (List Int)) ++ t2).set ((W .i64 (a1)).tmod (t2.length : Int)).toNat ((([] : List Int) ++ (t2.getD ((W .i64 (a1)).tmod (t2.length : Int)).toNat [])).set ((W .i64 (a2)).tmod t5).toNat (iMin (W .i64 (((t2.getD ((W .i64 (a1)).tmod (t2.length : Int)).toNat []).getD ((W .i64 (a2)).tmod t5).toNat 0) + (iMax (W .i64 (a3)) (W .i64 (0 - (W .i64 (a3))))))) 1073741824))).getD ((W .i64 (a1)).tmod (t2.length : Int)).toNat []).getD ((W .i64 (a2)).tmod t5).toNat 0)), (⟨g10_, o10_ + ((W .i64 (a1)).tmod (t2.length : Int)).toNat * 1, none⟩, .slice A10_ ((t2.getD ((W .i64 (a1)).tmod (t2.length : Int)).toNat []).length) c10_), (⟨g11_, o11_ + ((W .i64 (a2)).tmod t5).toNat * 1, none⟩, i6 ((t2.getD ((W .i64 (a1)).tmod (t2.length : Int)).toNat []).getD ((W .i64 (a2)).tmod t5).toNat 0))] [] O8_127 ⟨186, []⟩ (Ld.vl u8d3l) (u8d3g a1 a2 t2 t5 g8_ g9_ o9_ g10_ o10_ g11_ o11_) u [.no, .no, .no, .no, .no, .no, .no, .no, .no, .r 0, .no, .no, .r 1, .no, .no, .no, .no, .r 2, .no, .no, .r 3, .no] 0 (O8_127.take 22) [(23, i6 t6), (22, .slice A2 (((([] : List (List Int)) ++ t2).set ((W .i64 (a1)).tmod (t2.length : Int)).toNat ((([] : List Int) ++ (t2.getD ((W .i64 (a1)).tmod (t2.length : Int)).toNat [])).set ((W .i64 (a2)).tmod t5).toNat (iMin (W .i64 (((t2.getD ((W .i64 (a1)).tmod (t2.length : Int)).toNat []).getD ((W .i64 (a2)).tmod t5).toNat 0) + (iMax (W .i64 (a3)) (W .i64 (0 - (W .i64 (a3))))))) 1073741824))).length) c2), (21, i6 ((W .i64 (a2)).tmod t5)), (20, i6 ((W .i64 (a1)).tmod (t2.length : Int))), (9, .bool t1), (10, .slice A1 t2.length c1), (11, i6 t3)]
noncomputable def u8d3s (a1 : Int) (a2 : Int) (a3 : Int) (t2 : List (List Int)) (A1 : Option Addr) (c1 : Nat) (t3 : Int) (t5 : Int) (A2 : Option Addr) (c2 : Nat) (t6 : Int) (g8_ : Nat) (A8_ : Option Addr) (c8_ : Nat) (g9_ : Nat) (o9_ : Nat) (A10_ : Option Addr) (c10_ : Nat) (g10_ : Nat) (o10_ : Nat) (g11_ : Nat) (o11_ : Nat) (u : Nat → Wt) : List Value := [i6 t6, i6 t3, .bool (decide (t6 ≥ t3)), .bool true, i6 t6, i6 t3, .slice A2 (((([] : List (List Int)) ++ t2).set ((W .i64 (a1)).tmod (t2.length : Int)).toNat ((([] : List Int) ++ (t2.getD ((W .i64 (a1)).tmod (t2.length : Int)).toNat [])).set ((W .i64 (a2)).tmod t5).toNat (iMin (W .i64 (((t2.getD ((W .i64 (a1)).tmod (t2.length : Int)).toNat []).getD ((W .i64 (a2)).tmod t5).toNat 0) + (iMax (W .i64 (a3)) (W .i64 (0 - (W .i64 (a3))))))) 1073741824))).length) c2, i6 ((W .i64 (a1)).tmod (t2.length : Int)), pt g8_ (0 + ((W .i64 (a1)).tmod (t2.length : Int)).toNat * 1), .slice A8_ ((((([] : List (List Int)) ++ t2).set ((W .i64 (a1)).tmod (t2.length : Int)).toNat ((([] : List Int) ++ (t2.getD ((W .i64 (a1)).tmod (t2.length : Int)).toNat [])).set ((W .i64 (a2)).tmod t5).toNat (iMin (W .i64 (((t2.getD ((W .i64 (a1)).tmod (t2.length : Int)).toNat []).getD ((W .i64 (a2)).tmod t5).toNat 0) + (iMax (W .i64 (a3)) (W .i64 (0 - (W .i64 (a3))))))) 1073741824))).getD ((W .i64 (a1)).tmod (t2.length : Int)).toNat []).length) c8_, i6 ((W .i64 (a2)).tmod t5), pt g9_ (o9_ + ((W .i64 (a2)).tmod t5).toNat * 1), i6 ((((([] : List (List Int)) ++ t2).set ((W .i64 (a1)).tmod (t2.length : Int)).toNat ((([] : List Int) ++ (t2.getD ((W .i64 (a1)).tmod (t2.length : Int)).toNat [])).set ((W .i64 (a2)).tmod t5).toNat (iMin (W .i64 (((t2.getD ((W .i64 (a1)).tmod (t2.length : Int)).toNat []).getD ((W .i64 (a2)).tmod t5).toNat 0) + (iMax (W .i64 (a3)) (W .i64 (0 - (W .i64 (a3))))))) 1073741824))).getD ((W .i64 (a1)).tmod (t2.length : Int)).toNat []).getD ((W .i64 (a2)).tmod t5).toNat 0), i6 (W .i64 (t3 + ((((([] : List (List Int)) ++ t2).set ((W .i64 (a1)).tmod (t2.length : Int)).toNat ((([] : List Int) ++ (t2.getD ((W .i64 (a1)).tmod (t2.length : Int)).toNat [])).set ((W .i64 (a2)).tmod t5).toNat (iMin (W .i64 (((t2.getD ((W .i64 (a1)).tmod (t2.length : Int)).toNat []).getD ((W .i64 (a2)).tmod t5).toNat 0) + (iMax (W .i64 (a3)) (W .i64 (0 - (W .i64 (a3))))))) 1073741824))).getD ((W .i64 (a1)).tmod (t2.length : Int)).toNat []).getD ((W .i64 (a2)).tmod t5).toNat 0))), .slice A1 t2.length c1, i6 ((W .i64 (a1)).tmod (t2.length : Int)), pt g10_ (o10_ + ((W .i64 (a1)).tmod (t2.length : Int)).toNat * 1), .slice A10_ ((t2.getD ((W .i64 (a1)).tmod (t2.length : Int)).toNat []).length) c10_, i6 ((W .i64 (a2)).tmod t5), pt g11_ (o11_ + ((W .i64 (a2)).tmod t5).toNat * 1), i6 ((t2.getD ((W .i64 (a1)).tmod (t2.length : Int)).toNat []).getD ((W .i64 (a2)).tmod t5).toNat 0), i6 (W .i64 ((W .i64 (t3 + ((((([] : List (List Int)) ++ t2).set ((W .i64 (a1)).tmod (t2.length : Int)).toNat ((([] : List Int) ++ (t2.getD ((W .i64 (a1)).tmod (t2.length : Int)).toNat [])).set ((W .i64 (a2)).tmod t5).toNat (iMin (W .i64 (((t2.getD ((W .i64 (a1)).tmod (t2.length : Int)).toNat []).getD ((W .i64 (a2)).tmod t5).toNat 0) + (iMax (W .i64 (a3)) (W .i64 (0 - (W .i64 (a3))))))) 1073741824))).getD ((W .i64 (a1)).tmod (t2.length : Int)).toNat []).getD ((W .i64 (a2)).tmod t5).toNat 0))) - ((t2.getD ((W .i64 (a1)).tmod (t2.length : Int)).toNat []).getD ((W .i64 (a2)).tmod t5).toNat 0)))]
noncomputable def u8d3f (a1 : Int) (a2 : Int) (a3 : Int) (t1 : Bool) (t2 : List (List Int)) (A1 : Option Addr) (c1 : Nat) (t3 : Int) (t5 : Int) (A2 : Option Addr) (c2 : Nat) (t6 : Int) (g8_ : Nat) (A8_ : Option Addr) (c8_ : Nat) (g9_ : Nat) (o9_ : Nat) (A10_ : Option Addr) (c10_ : Nat) (g10_ : Nat) (o10_ : Nat) (g11_ : Nat) (o11_ : Nat) (i : Nat) (u : Nat → Wt) : List (Nat × Value) := foldPut ⟨186, []⟩ [(23, i6 t6), (22, .slice A2 (((([] : List (List Int)) ++ t2).set ((W .i64 (a1)).tmod (t2.length : Int)).toNat ((([] : List Int) ++ (t2.getD ((W .i64 (a1)).tmod (t2.length : Int)).toNat [])).set ((W .i64 (a2)).tmod t5).toNat (iMin (W .i64 (((t2.getD ((W .i64 (a1)).tmod (t2.length : Int)).toNat []).getD ((W .i64 (a2)).tmod t5).toNat 0) + (iMax (W .i64 (a3)) (W .i64 (0 - (W .i64 (a3))))))) 1073741824))).length) c2), (21, i6 ((W .i64 (a2)).tmod t5)), (20, i6 ((W .i64 (a1)).tmod (t2.length : Int))), (9, .bool t1), (10, .slice A1 t2.length c1), (11, i6 t3)] (O8_127.take i) (((u8d3s a1 a2 a3 t2 A1 c1 t3 t5 A2 c2 t6 g8_ A8_ c8_ g9_ o9_ A10_ c10_ g10_ o10_ g11_ o11_) u).take i)
theorem u8d3v (a1 : Int) (a2 : Int) (a3 : Int) (t1 : Bool) (t2 : List (List Int)) (A1 : Option Addr) (c1 : Nat) (t3 : Int) (t5 : Int) (A2 : Option Addr) (c2 : Nat) (t6 : Int) (g8_ : Nat) (A8_ : Option Addr) (c8_ : Nat) (g9_ : Nat) (o9_ : Nat) (A10_ : Option Addr) (c10_ : Nat) (g10_ : Nat) (o10_ : Nat) (g11_ : Nat) (o11_ : Nat) (u : Nat → Wt) : (u8d3q a1 a2 a3 t1 t2 A1 c1 t3 t5 A2 c2 t6 g8_ A8_ c8_ g9_ o9_ A10_ c10_ g10_ o10_ g11_ o11_ u).map (fun x => (x.1, x.2.1)) = some ((u8d3s a1 a2 a3 t2 A1 c1 t3 t5 A2 c2 t6 g8_ A8_ c8_ g9_ o9_ A10_ c10_ g10_ o10_ g11_ o11_) u, (u8d3f a1 a2 a3 t1 t2 A1 c1 t3 t5 A2 c2 t6 g8_ A8_ c8_ g9_ o9_ A10_ c10_ g10_ o10_ g11_ o11_ 22) u) := by kernel_rfl
theorem u8d3e (a1 : Int) (a2 : Int) (a3 : Int) (t1 : Bool) (t2 : List (List Int)) (A1 : Option Addr) (c1 : Nat) (t3 : Int) (t5 : Int) (A2 : Option Addr) (c2 : Nat) (t6 : Int) (g8_ : Nat) (A8_ : Option Addr) (c8_ : Nat) (g9_ : Nat) (o9_ : Nat) (A10_ : Option Addr) (c10_ : Nat) (g10_ : Nat) (o10_ : Nat) (g11_ : Nat) (o11_ : Nat) (u : Nat → Wt) : (u8d3q a1 a2 a3 t1 t2 A1 c1 t3 t5 A2 c2 t6 g8_ A8_ c8_ g9_ o9_ A10_ c10_ g10_ o10_ g11_ o11_ u).map (fun x => x.2.2.map (·.1)) = (u8d3q a1 a2 a3 t1 t2 A1 c1 t3 t5 A2 c2 t6 g8_ A8_ c8_ g9_ o9_ A10_ c10_ g10_ o10_ g11_ o11_ u).map (fun x => x.2.2.map (·.2)) := by kernel_rfl
noncomputable def u8d4l  : List Ld :=
 []
noncomputable def u8d4g  : List (Nat × ((Nat → Wt) → Value)) := [(3, fun u => .bool false)]
noncomputable def u8d4q (a1 : Int) (a2 : Int) (a3 : Int) (t1 : Bool) (t2 : List (List Int)) (A1 : Option Addr) (c1 : Nat) (t3 : Int) (t5 : Int) (A2 : Option Addr) (c2 : Nat) (t6 : Int) (u : Nat → Wt) : Option (List Value × List (Nat × Value) × List (Nat × Nat)) := qSim Try.prog [] [] O8_127 ⟨186, []⟩ (Ld.vl u8d4l) u8d4g u [.no, .no, .no, .no, .no, .no, .no, .no, .no, .no, .no, .no, .no, .no, .no, .no, .no, .no, .no, .no, .no, .no] 0 (O8_127.take 22) [(23, i6 t6), (22, .slice A2 (((([] : List (List Int)) ++ t2).set ((W .i64 (a1)).tmod (t2.length : Int)).toNat ((([] : List Int) ++ (t2.getD ((W .i64 (a1)).tmod (t2.length : Int)).toNat [])).set ((W .i64 (a2)).tmod t5).toNat (iMin (W .i64 (((t2.getD ((W .i64 (a1)).tmod (t2.length : Int)).toNat []).getD ((W .i64 (a2)).tmod t5).toNat 0) + (iMax (W .i64 (a3)) (W .i64 (0 - (W .i64 (a3))))))) 1073741824))).length) c2), (21, i6 ((W .i64 (a2)).tmod t5)), (20, i6 ((W .i64 (a1)).tmod (t2.length : Int))), (9, .bool t1), (10, .slice A1 t2.length c1), (11, i6 t3)]
noncomputable def u8d4s (t3 : Int) (t6 : Int) (u : Nat → Wt) : List Value := [i6 t6, i6 t3, .bool (decide (t6 ≥ t3)), .bool false, undef, undef, undef, undef, undef, undef, undef, undef, undef, undef, undef, undef, undef, undef, undef, undef, undef, undef]
noncomputable def u8d4f (a1 : Int) (a2 : Int) (a3 : Int) (t1 : Bool) (t2 : List (List Int)) (A1 : Option Addr) (c1 : Nat) (t3 : Int) (t5 : Int) (A2 : Option Addr) (c2 : Nat) (t6 : Int) (i : Nat) (u : Nat → Wt) : List (Nat × Value) := foldPut ⟨186, []⟩ [(23, i6 t6), (22, .slice A2 (((([] : List (List Int)) ++ t2).set ((W .i64 (a1)).tmod (t2.length : Int)).toNat ((([] : List Int) ++ (t2.getD ((W .i64 (a1)).tmod (t2.length : Int)).toNat [])).set ((W .i64 (a2)).tmod t5).toNat (iMin (W .i64 (((t2.getD ((W .i64 (a1)).tmod (t2.length : Int)).toNat []).getD ((W .i64 (a2)).tmod t5).toNat 0) + (iMax (W .i64 (a3)) (W .i64 (0 - (W .i64 (a3))))))) 1073741824))).length) c2), (21, i6 ((W .i64 (a2)).tmod t5)), (20, i6 ((W .i64 (a1)).tmod (t2.length : Int))), (9, .bool t1), (10, .slice A1 t2.length c1), (11, i6 t3)] (O8_127.take i) (((u8d4s t3 t6) u).take i)
theorem u8d4v (a1 : Int) (a2 : Int) (a3 : Int) (t1 : Bool) (t2 : List (List Int)) (A1 : Option Addr) (c1 : Nat) (t3 : Int) (t5 : Int) (A2 : Option Addr) (c2 : Nat) (t6 : Int) (u : Nat → Wt) : (u8d4q a1 a2 a3 t1 t2 A1 c1 t3 t5 A2 c2 t6 u).map (fun x => (x.1, x.2.1)) = some ((u8d4s t3 t6) u, (u8d4f a1 a2 a3 t1 t2 A1 c1 t3 t5 A2 c2 t6 22) u) := by kernel_rfl
theorem u8d4e (a1 : Int) (a2 : Int) (a3 : Int) (t1 : Bool) (t2 : List (List Int)) (A1 : Option Addr) (c1 : Nat) (t3 : Int) (t5 : Int) (A2 : Option Addr) (c2 : Nat) (t6 : Int) (u : Nat → Wt) : (u8d4q a1 a2 a3 t1 t2 A1 c1 t3 t5 A2 c2 t6 u).map (fun x => x.2.2.map (·.1)) = (u8d4q a1 a2 a3 t1 t2 A1 c1 t3 t5 A2 c2 t6 u).map (fun x => x.2.2.map (·.2)) := by kernel_rfl
theorem armillarylaw22_AssignMonotonicity.calls (k : Nat) (I0 : Imm) (a0 : List (List Int)) (Ap0 : Option Addr) (cp0 : Nat) (a1 : Int) (a2 : Int) (a3 : Int) (w : World) (hI : I0.at_ w) (hlp0 : a0.length ≤ cp0) (hrp0 : Rd (Ty.slice (Ty.int .i64)) I0 Ap0 a0) (r : Bool) (h : armillarylaw22_AssignMonotonicity.f k a0 a1 a2 a3 = some r) :
  Calls Try.prog 8 [.slice Ap0 a0.length cp0, .int .u8 a1, .int .u8 a2, .int .i32 a3].toArray w fun e w' => ∃ v, e = .returned v ∧ armillarylaw22_AssignMonotonicity.Post I0 w r v w' := by
 have H : ((armillarylaw22_sanity.f k ).bind fun t1 => ((armillaryref22_Made.f k a0 12 12).bind fun t2 => ((armillarylaw22_optimum.f k t2).bind fun t3 => ((armillarylaw22_AssignMonotonicity.l2 t2 k 0 0).bind (armillarylaw22_AssignMonotonicity.k7 k a1 a2 a3 t1 t2 t3))))) = some r := h
 clear h
 refine calls_body Try.func8 (by kernel_rfl) 186 (by kernel_rfl) (by kernel_rfl) ⟨w, fun _ => False, I0⟩ I0 [] [(0, .slice Ap0 a0.length cp0), (1, .int .u8 a1), (2, .int .u8 a2), (3, .int .i32 a3)] (by kernel_rfl) (Sat.start w _ I0 hI) ?_
 generalize w.heap.size = nx0
 show OK _ K8_0 _ _ _ _ _ _ _ _
 refine OK.sr ?_
 refine RL.st 1 [(0, .slice Ap0 a0.length cp0), (1, .int .u8 a1), (2, .int .u8 a2), (3, .int .i32 a3)] ?_
 refine OK.sr ?_
 obtain ⟨t1, hA1, H⟩ := bnd H
 refine RL.callP 10 [] (some 24) (fun w => armillarylaw22_sanity.Post I0 w t1) (by kernel_rfl) (by kernel_rfl) (fun w hs => armillarylaw22_sanity.calls k I0  w hs.im  t1 hA1) ?_
 rintro w v w' hs ⟨I1, rfl, hg⟩
 have hi1 := hg.le
 refine RL.resume (X' := []) rfl (hs.call hg) ?_
 clear hs hg
 generalize w'.heap.size = nx1
 clear w w'
 refine RL.st 1 [(9, .bool t1), (0, .slice Ap0 a0.length cp0), (1, .int .u8 a1), (2, .int .u8 a2), (3, .int .i32 a3)] ?_
 refine OK.sr ?_
 refine RL.s 1 [(25, .slice Ap0 a0.length cp0), (9, .bool t1), (1, .int .u8 a1), (2, .int .u8 a2), (3, .int .i32 a3)] ?_
 obtain ⟨t2, hA2, H⟩ := bnd H
 refine RL.callP 13 [.slice Ap0 a0.length cp0, i6 12, i6 12] (some 26) (fun w => armillaryref22_Made.Post I1 w t2) (by kernel_rfl) (by kernel_rfl) (fun w hs => armillaryref22_Made.calls k I1 a0 Ap0 cp0 12 12 w hs.im hlp0 (Rd.ext hi1 hrp0) t2 hA2) ?_
 rintro w v w' hs ⟨I2, A1, c1, cs1, rfl, hg, hp1⟩
 have hi2 := hg.le
 refine RL.resume (X' := [orow 24 1 A1 t2.length c1 cs1]) rfl (hs.call hg) ?_
 clear hs hg
 generalize w'.heap.size = nx2
 clear w w'
 refine RL.st 1 [(10, .slice A1 t2.length c1), (9, .bool t1), (1, .int .u8 a1), (2, .int .u8 a2), (3, .int .i32 a3)] ?_
 refine OK.sr ?_
 refine RL.s 1 [(27, .slice A1 t2.length c1), (10, .slice A1 t2.length c1), (9, .bool t1), (1, .int .u8 a1), (2, .int .u8 a2), (3, .int .i32 a3)] ?_
 obtain ⟨t3, hA3, H⟩ := bnd H
 refine RL.callP 25 [.slice A1 t2.length c1] (some 28) (fun w v w' => ∃ I', Imm.le I2 I' ∧ armillarylaw22_optimum.Post I' w t3 v w') (by kernel_rfl) (by kernel_rfl) (fun w hs => ?_) ?_
 ·skip
  obtain ⟨JL1, hj1, hn1, hw1, hs⟩ := Sat.freeze (e := 24) (sz := 1) (S := A1) (n := t2.length) (cap := c1) (m := 0) hs (by kernel_rfl) hp1 rfl
  exact (armillarylaw22_optimum.calls k JL1 t2 A1 c1 _ hs.im hn1 hw1 t3 hA3).mono (fun e w' ⟨v, hv, hp⟩ => ⟨v, hv, JL1, hj1, hp⟩)
 rintro w v w' hs ⟨I', hle, J, rfl, hg⟩
 refine RL.resume (X' := [orow 24 1 A1 t2.length c1 cs1]) rfl (hs.call (hg.back hle)) ?_
 clear hs hg hle I' J
 generalize w'.heap.size = nx3
 clear w w'
 refine RL.st 2 [(12, i6 0), (11, i6 t3), (10, .slice A1 t2.length c1), (9, .bool t1), (1, .int .u8 a1), (2, .int .u8 a2), (3, .int .i32 a3)] ?_
 refine OK.sq ?_
 refine OK.sr ?_
 refine RL.st 1 [(13, i6 0), (12, i6 0), (11, i6 t3), (10, .slice A1 t2.length c1), (9, .bool t1), (1, .int .u8 a1), (2, .int .u8 a2), (3, .int .i32 a3)] ?_
 refine OK.join (fun K' I' _ L' X' => ∃ (x1 : Int), K' = [(1, .int .u8 a1), (2, .int .u8 a2), (3, .int .i32 a3), (9, .bool t1), (10, .slice A1 t2.length c1), (11, i6 t3), (12, i6 x1)] ∧ L' = [] ∧ X' = [orow 24 1 A1 t2.length c1 cs1] ∧ Imm.le I2 I' ∧ armillarylaw22_AssignMonotonicity.k7 k a1 a2 a3 t1 t2 t3 x1 = some r) ?_ ?_
 ·rintro _ I3 nx4 _ _ ⟨x1, rfl, rfl, rfl, hi3, H⟩
  rw [armillarylaw22_AssignMonotonicity.k7] at H
  refine QN.then_ ?_
  refine OK.sq ?_
  refine OK.sq ?_
  refine OK.join (fun K' I' _ L' X' => ∃ (x2 : Bool), K' = [(1, .int .u8 a1), (2, .int .u8 a2), (3, .int .i32 a3), (9, .bool t1), (10, .slice A1 t2.length c1), (11, i6 t3), (62, .bool x2)] ∧ L' = [] ∧ X' = [orow 24 1 A1 t2.length c1 cs1] ∧ Imm.le I3 I' ∧ armillarylaw22_AssignMonotonicity.k6 k a1 a2 a3 t1 t2 t3 x2 = some r) ?_ ?_
  ·rintro _ I4 nx5 _ _ ⟨x2, rfl, rfl, rfl, hi4, H⟩
   rw [armillarylaw22_AssignMonotonicity.k6] at H
   refine QN.then_ ?_
   refine OK.cd x2 (fun hb => ?_) (fun hb => ?_)
   ·skip
    have hc := hb
    rw [if_pos hc] at H
    clear hb
    refine OK.sr ?_
    refine RL.st 1 [(8, .bool false)] ?_
    refine OK.re ?_
    refine QN.thenR ?_
    obtain rfl := Option.some.inj H
    refine QN.body rfl [] (RFacts.nil _ _ _) (.no) (.bool false) (by kernel_rfl) (by kernel_rfl) (by kernel_rfl) ?_ _ (.inr rfl)
    exact fun w' hs' => ⟨_, rfl, I4, rfl, hs'.got _ (.cons _ .slnil)⟩
   ·skip
    have hc := (Bool.eq_false_iff.1 hb)
    rw [if_neg hc] at H
    clear hb
    refine OK.skt ?_
    refine OK.sq ?_
    refine OK.sq ?_
    refine OK.join (fun K' I' _ L' X' => ∃ (x3 : Bool), K' = [(1, .int .u8 a1), (2, .int .u8 a2), (3, .int .i32 a3), (9, .bool t1), (10, .slice A1 t2.length c1), (11, i6 t3), (70, .bool x3)] ∧ L' = [] ∧ X' = [orow 24 1 A1 t2.length c1 cs1] ∧ Imm.le I4 I' ∧ armillarylaw22_AssignMonotonicity.k5 k a1 a2 a3 t1 t2 t3 x3 = some r) ?_ ?_
    ·rintro _ I5 nx6 _ _ ⟨x3, rfl, rfl, rfl, hi5, H⟩
     rw [armillarylaw22_AssignMonotonicity.k5] at H
     refine QN.then_ ?_
     refine OK.cd x3 (fun hb => ?_) (fun hb => ?_)
     ·skip
      have hc := hb
      rw [if_pos hc] at H
      clear hb
      refine OK.sq ?_
      refine OK.join (fun K' I' _ L' X' => ∃ (x4 : Bool), K' = [(8, .bool x4)] ∧ L' = [] ∧ X' = [] ∧ Imm.le I5 I' ∧ armillarylaw22_AssignMonotonicity.k1 x4 = some r) ?_ ?_
      ·rintro _ I6 nx7 _ _ ⟨x4, rfl, rfl, rfl, hi6, H⟩
       rw [armillarylaw22_AssignMonotonicity.k1] at H
       refine QN.then_ ?_
       refine OK.re ?_
       refine QN.thenR ?_
       obtain rfl := Option.some.inj H
       refine QN.body rfl [] (RFacts.nil _ _ _) (.no) (.bool x4) (by kernel_rfl) (by kernel_rfl) (by kernel_rfl) ?_ _ (.inr rfl)
       exact fun w' hs' => ⟨_, rfl, I6, rfl, hs'.got _ .slnil⟩
      ·intro Q_1 hJ4 hQ4
       obtain ⟨y4, H, HK4⟩ := bnd H
       refine OK.rg ?_
       refine RL.s 3 [(73, .bool (t3 == 0)), (9, .bool t1)] ?_
       refine RL.cases (t3 == 0) (fun hb => ?_) (fun hb => ?_)
       ·have hc := (beq_iff_eq.1 hb)
        rw [hb]
        rw [if_pos hc] at H; clear hb
        refine RL.s 3 [(8, .bool t1)] ?_
        refine RL.nil (by kernel_rfl) ?_
        obtain rfl := Option.some.inj H
        refine QN.sel (K' := [(8, .bool t1)]) (L' := []) [] (by kernel_rfl) (by kernel_rfl) .slnil ?_
        refine QN.norm (X' := []) rfl rfl rfl (by kernel_rfl) ?_
        exact hJ4 _ _ _ _ _ ⟨t1, rfl, rfl, rfl, (Imm.le_refl _), HK4⟩
       ·have hc := (beq_eq_false_iff_ne.1 hb)
        rw [hb]
        rw [if_neg hc] at H; clear hb
        refine RL.s 3 [(8, .bool false)] ?_
        refine RL.nil (by kernel_rfl) ?_
        obtain rfl := Option.some.inj H
        refine QN.sel (K' := [(8, .bool false)]) (L' := []) [] (by kernel_rfl) (by kernel_rfl) .slnil ?_
        refine QN.norm (X' := []) rfl rfl rfl (by kernel_rfl) ?_
        exact hJ4 _ _ _ _ _ ⟨false, rfl, rfl, rfl, (Imm.le_refl _), HK4⟩
     ·skip
      have hc := (Bool.eq_false_iff.1 hb)
      rw [if_neg hc] at H
      clear hb
      refine OK.skt ?_
      refine OK.sr ?_
      refine RL.s 4 [(79, i6 (W .i64 ((t2.length : Int) - 1))), (76, .slice A1 t2.length c1), (1, .int .u8 a1), (2, .int .u8 a2), (3, .int .i32 a3), (9, .bool t1), (10, .slice A1 t2.length c1), (11, i6 t3)] ?_
      obtain ⟨hib0, H⟩ := ifs H
      obtain ⟨hib1, H⟩ := ifs H
      have hx01_ := hib0; have hx11_ := hib1
      refine RL.ownAddr (e := 24) (sz := 1) (S := A1) (n := t2.length) (cap := c1) (cs := cs1) 0 (by kernel_rfl) (by omega) (fun g1_ hA1_ => ?_)
      obtain ⟨A1_, c1_, hl1_, hr1_, hc1_⟩ := Ty.slice_own (Reps.ext (Imm.le_trans (Imm.le_trans hi3 hi4) hi5) hp1) (W .i64 ((t2.length : Int) - 1)) hib0 hib1
      refine RL.idx 1 .i64 (W .i64 ((t2.length : Int) - 1)) hA1_ t2.length c1 (some 80) (by kernel_rfl) (by kernel_rfl) (T := 22) (e := 24) (by kernel_rfl) (by kernel_rfl) hib0 hib1 (K' := [(80, pt g1_ (0 + (W .i64 ((t2.length : Int) - 1)).toNat * 1)), (79, i6 (W .i64 ((t2.length : Int) - 1))), (76, .slice A1 t2.length c1), (1, .int .u8 a1), (2, .int .u8 a2), (3, .int .i32 a3), (9, .bool t1), (10, .slice A1 t2.length c1), (11, i6 t3)]) (by kernel_rfl) ?_
      refine RL.simK (K' := [(16, .slice A1_ ((t2.getD (W .i64 ((t2.length : Int) - 1)).toNat []).length) c1_), (1, .int .u8 a1), (2, .int .u8 a2), (3, .int .i32 a3), (9, .bool t1), (10, .slice A1 t2.length c1), (11, i6 t3)]) [(⟨g1_, 0 + (W .i64 ((t2.length : Int) - 1)).toNat * 1, none⟩, .slice A1_ ((t2.getD (W .i64 ((t2.length : Int) - 1)).toNat []).length) c1_)] (RFacts.ownQ (e := 24) (sz := 1) (S := A1) (n := t2.length) (cap := c1) (cs := cs1) 0 (by kernel_rfl) hA1_ (0 + (W .i64 ((t2.length : Int) - 1)).toNat * 1) ((W .i64 ((t2.length : Int) - 1)).toNat * 1 + 0) (by omega) (hc1_ 0 _ rfl) (RFacts.nil _ _ _)) 2 [.r 0, .no] (by kernel_rfl) (by kernel_rfl) ?_
      refine RL.nt ?_
      refine OK.sr ?_
      refine RL.st 1 [(17, i6 0), (16, .slice A1_ ((t2.getD (W .i64 ((t2.length : Int) - 1)).toNat []).length) c1_), (1, .int .u8 a1), (2, .int .u8 a2), (3, .int .i32 a3), (9, .bool t1), (10, .slice A1 t2.length c1), (11, i6 t3)] ?_
      refine OK.sq ?_
      refine OK.sr ?_
      refine RL.st 1 [(18, i6 0), (17, i6 0), (16, .slice A1_ ((t2.getD (W .i64 ((t2.length : Int) - 1)).toNat []).length) c1_), (1, .int .u8 a1), (2, .int .u8 a2), (3, .int .i32 a3), (9, .bool t1), (10, .slice A1 t2.length c1), (11, i6 t3)] ?_
      refine OK.join (fun K' I' _ L' X' => ∃ (x5 : Int), K' = [(1, .int .u8 a1), (2, .int .u8 a2), (3, .int .i32 a3), (9, .bool t1), (10, .slice A1 t2.length c1), (11, i6 t3), (17, i6 x5)] ∧ L' = [] ∧ X' = [orow 24 1 A1 t2.length c1 cs1] ∧ Imm.le I5 I' ∧ armillarylaw22_AssignMonotonicity.k4 k a1 a2 a3 t1 t2 t3 x5 = some r) ?_ ?_
      ·rintro _ I7 nx8 _ _ ⟨x5, rfl, rfl, rfl, hi7, H⟩
       rw [armillarylaw22_AssignMonotonicity.k4] at H
       refine QN.then_ ?_
       refine OK.sr ?_
       refine RL.s 4 [(97, i6 (W .i64 ((t2.length : Int) - 1))), (94, .slice A1 t2.length c1), (1, .int .u8 a1), (2, .int .u8 a2), (3, .int .i32 a3), (9, .bool t1), (10, .slice A1 t2.length c1), (11, i6 t3), (17, i6 x5)] ?_
       refine RL.freeze (e := 24) (sz := 1) (S := A1) (n := t2.length) (cap := c1) 0 (by kernel_rfl) (Reps.ext (Imm.le_trans (Imm.le_trans (Imm.le_trans hi3 hi4) hi5) hi7) hp1) rfl (fun I8 hi8 hl1 hr1 => ?_)
       skip
       obtain ⟨hs1_1, H⟩ := ifs H
       obtain ⟨hs2_1, H⟩ := ifs H
       refine RL.subH (T := 22) (e := 24) (l := t2) (S := A1) (cap := c1) (hi := W .i64 ((t2.length : Int) - 1)) 1 .i64 (some 98) (by kernel_rfl) (by kernel_rfl) (by kernel_rfl) (by kernel_rfl) hl1 hs1_1 hs2_1 (K' := [(98, .slice (slA A1 (0 : Int).toNat c1 1) ((rpart t2 0 (W .i64 ((t2.length : Int) - 1))).length) (c1 - (0 : Int).toNat)), (97, i6 (W .i64 ((t2.length : Int) - 1))), (94, .slice A1 t2.length c1), (1, .int .u8 a1), (2, .int .u8 a2), (3, .int .i32 a3), (9, .bool t1), (10, .slice A1 t2.length c1), (11, i6 t3), (17, i6 x5)]) (by kernel_rfl) ?_
       obtain ⟨t4, hA4, H⟩ := bnd H
       refine RL.callP 25 [.slice (slA A1 (0 : Int).toNat c1 1) ((rpart t2 0 (W .i64 ((t2.length : Int) - 1))).length) (c1 - (0 : Int).toNat)] (some 99) (fun w => armillarylaw22_optimum.Post I8 w t4) (by kernel_rfl) (by kernel_rfl) (fun w hs => armillarylaw22_optimum.calls k I8 (rpart t2 0 (W .i64 ((t2.length : Int) - 1))) (slA A1 (0 : Int).toNat c1 1) (c1 - (0 : Int).toNat) w hs.im (part_le hl1 (Int.le_refl 0) hs1_1 hs2_1) (rd_sub hr1 hl1 (Int.le_refl 0) hs1_1 hs2_1) t4 hA4) ?_
       rintro w v w' hs ⟨I9, rfl, hg⟩
       have hi9 := hg.le
       refine RL.resume (X' := []) rfl (hs.call hg) ?_
       clear hs hg
       generalize w'.heap.size = nx9
       clear w w'
       refine RL.st 1 [(19, i6 t4), (1, .int .u8 a1), (2, .int .u8 a2), (3, .int .i32 a3), (9, .bool t1), (10, .slice A1 t2.length c1), (11, i6 t3), (17, i6 x5)] ?_
       refine OK.sq ?_
       refine OK.sq ?_
       refine OK.join (fun K' I' _ L' X' => ∃ (x6 : Bool), K' = [(1, .int .u8 a1), (2, .int .u8 a2), (3, .int .i32 a3), (9, .bool t1), (10, .slice A1 t2.length c1), (11, i6 t3), (113, .bool x6)] ∧ L' = [] ∧ X' = [] ∧ Imm.le I9 I' ∧ armillarylaw22_AssignMonotonicity.k3 k a1 a2 a3 t1 t2 t3 x6 = some r) ?_ ?_
       ·rintro _ I10 nx10 _ _ ⟨x6, rfl, rfl, rfl, hi10, H⟩
        rw [armillarylaw22_AssignMonotonicity.k3] at H
        refine QN.then_ ?_
        refine OK.cd x6 (fun hb => ?_) (fun hb => ?_)
        ·skip
         have hc := hb
         rw [if_pos hc] at H
         clear hb
         refine OK.sr ?_
         refine RL.st 1 [(8, .bool false)] ?_
         refine OK.re ?_
         refine QN.thenR ?_
         obtain rfl := Option.some.inj H
         refine QN.body rfl [] (RFacts.nil _ _ _) (.no) (.bool false) (by kernel_rfl) (by kernel_rfl) (by kernel_rfl) ?_ _ (.inr rfl)
         exact fun w' hs' => ⟨_, rfl, I10, rfl, hs'.got _ .slnil⟩
        ·skip
         have hc := (Bool.eq_false_iff.1 hb)
         rw [if_neg hc] at H
         clear hb
         refine OK.skt ?_
         refine OK.sq ?_
         by_cases hc1 : (t2.length : Int) = 0
         ·rw [if_pos hc1] at H; cases H
         rw [if_neg hc1] at H
         obtain ⟨t5, hA5, H⟩ := bnd H
         by_cases hc2 : t5 = 0
         ·rw [if_pos hc2] at H; cases H
         rw [if_neg hc2] at H
         refine OK.drawnC 26 11 O8_112 a8_112n (by kernel_rfl) (by kernel_rfl) (u8d1l t5) (u8d1g a1 a2 t2 t5) [] (RI.nil _) [.no, .no, .no, .no, .no, .no, .no, .no, .no, .no, .no] a8_112 a8_112o (by kernel_rfl) (by kernel_rfl) (u8d1s a1 a2 t2 A1 c1 t5) (u8d1f a1 a2 a3 t1 t2 A1 c1 t3 x6 t5 11) (u8d1v a1 a2 a3 t1 t2 A1 c1 t3 x6 t5) (u8d1e a1 a2 a3 t1 t2 A1 c1 t3 x6 t5) [u8d1f a1 a2 a3 t1 t2 A1 c1 t3 x6 t5 8] (framesOk.cons (fun u => rfl) framesOk.nil) ?_ [u8d1f a1 a2 a3 t1 t2 A1 c1 t3 x6 t5 4, u8d1f a1 a2 a3 t1 t2 A1 c1 t3 x6 t5 9] (framesOk.cons (fun u => rfl) (framesOk.cons (fun u => rfl) framesOk.nil)) ?_ ?_
         ·refine LoudsG.cons ?_ (LoudsG.nil)
          ·intro D u J w hp hJ hs hF
           refine Does.call 21 [.slice A1 t2.length c1] (by kernel_rfl) ((armillaryref22_Columns.calls J t2 A1 c1 w hs.im hl1 (Rd.ext (Imm.le_trans (Imm.le_trans hi9 hi10) hJ) hr1) t5 hA5).mono ?_)
           rintro e w' ⟨v, rfl, J2, rfl, hg⟩
           exact ⟨_, rfl, fun _ => (none, 0, []), J2, rfl, hg, trivial⟩
         ·refine Givens.cons (fun u w =>  ?_) (fun _ _ _ => rfl) (Givens.cons (fun u w =>  ?_) (fun _ _ _ => rfl) (Givens.nil))
          ·exact giv_rem .i64 (W .i64 (a1)) (t2.length : Int) (by kernel_rfl) hc1 w
          ·exact giv_rem .i64 (W .i64 (a2)) t5 (by kernel_rfl) hc2 w
         intro u I11 nx11 hi11 hF
         clear hF
         refine RL.norm (K' := [(20, i6 ((W .i64 (a1)).tmod (t2.length : Int))), (123, i6 ((W .i64 (a2)).tmod t5)), (122, i6 t5), (121, .slice A1 t2.length c1), (120, i6 (W .i64 (a2))), (119, .int .u8 a2), (118, i6 ((W .i64 (a1)).tmod (t2.length : Int))), (117, i6 (t2.length : Int)), (116, .slice A1 t2.length c1), (115, i6 (W .i64 (a1))), (114, .int .u8 a1), (1, .int .u8 a1), (2, .int .u8 a2), (3, .int .i32 a3), (9, .bool t1), (10, .slice A1 t2.length c1), (11, i6 t3), (113, .bool x6)]) (X' := []) (by kernel_rfl) rfl rfl rfl ?_
         refine RL.st 1 [(21, i6 ((W .i64 (a2)).tmod t5)), (20, i6 ((W .i64 (a1)).tmod (t2.length : Int))), (3, .int .i32 a3), (9, .bool t1), (10, .slice A1 t2.length c1), (11, i6 t3)] ?_
         refine OK.sr ?_
         refine RL.sp 2 [(125, .slice A1 t2.length c1), (124, .slice (some ⟨nx11, 0, none⟩) 0 0), (21, i6 ((W .i64 (a2)).tmod t5)), (20, i6 ((W .i64 (a1)).tmod (t2.length : Int))), (3, .int .i32 a3), (9, .bool t1), (10, .slice A1 t2.length c1), (11, i6 t3)] (nx11 + 1) [⟨nx11, [], 24⟩] ?_
         refine RL.toRow (b := ⟨nx11, [], 24⟩) 0 0 1 (by kernel_rfl) (by kernel_rfl) (by decide) ?_
         have hp2 : Reps (Ty.slice (Ty.int .i64)) I11 ([] : List (List Int)) [] := rfl
         refine RL.norm (L' := []) (X' := [orow 24 1 (some ⟨nx11, 0, none⟩) (([] : List (List Int)).length) 0 []]) rfl rfl (by kernel_rfl) (by kernel_rfl) ?_
         obtain ⟨hz1, H⟩ := ifs H
         refine RL.appendR (T := 22) (e := 24) (S := (some ⟨nx11, 0, none⟩)) (S2 := A1) 1 24 22 0 c1 [] (Ty.slice (Ty.int .i64)) ([] : List (List Int)) t2 0 (some 126) (by kernel_rfl) (by kernel_rfl) (by kernel_rfl) (by kernel_rfl) (by kernel_rfl) (by decide) (by kernel_rfl) hp2 (Rd.ext (Imm.le_trans (Imm.le_trans hi9 hi10) hi11) hr1) hz1 (by omega) (fun A2 c2 nx12 cs2 hp3 => ?_)
         refine RL.sub (K' := [(126, .slice A2 ((([] : List (List Int)) ++ t2).length) c2), (125, .slice A1 t2.length c1), (124, .slice (some ⟨nx11, 0, none⟩) 0 0), (21, i6 ((W .i64 (a2)).tmod t5)), (20, i6 ((W .i64 (a1)).tmod (t2.length : Int))), (3, .int .i32 a3), (9, .bool t1), (10, .slice A1 t2.length c1), (11, i6 t3)]) (L' := []) (X' := [orow 24 1 A2 ((([] : List (List Int)) ++ t2).length) c2 cs2]) (by kernel_rfl) (.refl _) (.refl _) ?_
         refine RL.st 1 [(22, .slice A2 ((([] : List (List Int)) ++ t2).length) c2), (21, i6 ((W .i64 (a2)).tmod t5)), (20, i6 ((W .i64 (a1)).tmod (t2.length : Int))), (3, .int .i32 a3), (9, .bool t1), (10, .slice A1 t2.length c1), (11, i6 t3)] ?_
         refine OK.sr ?_
         refine RL.sp 5 [(131, i6 ((W .i64 (a1)).tmod (t2.length : Int))), (130, .slice A1 t2.length c1), (129, .slice (some ⟨nx12, 0, none⟩) 0 0), (128, i6 ((W .i64 (a1)).tmod (t2.length : Int))), (127, .slice A2 ((([] : List (List Int)) ++ t2).length) c2), (22, .slice A2 ((([] : List (List Int)) ++ t2).length) c2), (21, i6 ((W .i64 (a2)).tmod t5)), (20, i6 ((W .i64 (a1)).tmod (t2.length : Int))), (3, .int .i32 a3), (9, .bool t1), (10, .slice A1 t2.length c1), (11, i6 t3)] (nx12 + 1) [⟨nx12, [], 2⟩] ?_
         obtain ⟨hib0, H⟩ := ifs H
         obtain ⟨hib1, H⟩ := ifs H
         obtain ⟨g2_, o2_, hA2_, A2_, c2_, hl2_, hr2_, hc2_⟩ := Ty.slice_at (Rd.ext (Imm.le_trans (Imm.le_trans hi9 hi10) hi11) hr1) ((W .i64 (a1)).tmod (t2.length : Int)) hib0 hib1
         refine RL.idx 1 .i64 ((W .i64 (a1)).tmod (t2.length : Int)) hA2_ t2.length c1 (some 132) (by kernel_rfl) (by kernel_rfl) (T := 22) (e := 24) (by kernel_rfl) (by kernel_rfl) hib0 hib1 (K' := [(132, pt g2_ (o2_ + ((W .i64 (a1)).tmod (t2.length : Int)).toNat * 1)), (131, i6 ((W .i64 (a1)).tmod (t2.length : Int))), (130, .slice A1 t2.length c1), (129, .slice (some ⟨nx12, 0, none⟩) 0 0), (128, i6 ((W .i64 (a1)).tmod (t2.length : Int))), (127, .slice A2 ((([] : List (List Int)) ++ t2).length) c2), (22, .slice A2 ((([] : List (List Int)) ++ t2).length) c2), (21, i6 ((W .i64 (a2)).tmod t5)), (20, i6 ((W .i64 (a1)).tmod (t2.length : Int))), (3, .int .i32 a3), (9, .bool t1), (10, .slice A1 t2.length c1), (11, i6 t3)]) (by kernel_rfl) ?_
         refine RL.simK (K' := [(133, .slice A2_ ((t2.getD ((W .i64 (a1)).tmod (t2.length : Int)).toNat []).length) c2_), (129, .slice (some ⟨nx12, 0, none⟩) 0 0), (128, i6 ((W .i64 (a1)).tmod (t2.length : Int))), (127, .slice A2 ((([] : List (List Int)) ++ t2).length) c2), (22, .slice A2 ((([] : List (List Int)) ++ t2).length) c2), (21, i6 ((W .i64 (a2)).tmod t5)), (20, i6 ((W .i64 (a1)).tmod (t2.length : Int))), (3, .int .i32 a3), (9, .bool t1), (10, .slice A1 t2.length c1), (11, i6 t3)]) [(⟨g2_, o2_ + ((W .i64 (a1)).tmod (t2.length : Int)).toNat * 1, none⟩, .slice A2_ ((t2.getD ((W .i64 (a1)).tmod (t2.length : Int)).toNat []).length) c2_)] (RFacts.imm (hc2_ 0 _ rfl) (RFacts.nil _ _ _)) 1 [.r 0] (by kernel_rfl) (by kernel_rfl) ?_
         refine RL.toRow (b := ⟨nx12, [], 2⟩) 0 0 1 (by kernel_rfl) (by kernel_rfl) (by decide) ?_
         have hp4 : Reps (Ty.int .i64) I11 ([] : List Int) [] := rfl
         refine RL.norm (L' := []) (X' := [orow 24 1 A2 ((([] : List (List Int)) ++ t2).length) c2 cs2, orow 2 1 (some ⟨nx12, 0, none⟩) (([] : List Int).length) 0 []]) rfl rfl (by kernel_rfl) (by kernel_rfl) ?_
         obtain ⟨hz2, H⟩ := ifs H
         refine RL.appendR (T := 24) (e := 2) (S := (some ⟨nx12, 0, none⟩)) (S2 := A2_) 1 8 24 0 c2_ [] (Ty.int .i64) ([] : List Int) (t2.getD ((W .i64 (a1)).tmod (t2.length : Int)).toNat []) 1 (some 134) (by kernel_rfl) (by kernel_rfl) (by kernel_rfl) (by kernel_rfl) (by kernel_rfl) (by decide) (by kernel_rfl) hp4 hr2_ hz2 (by omega) (fun A3 c3 nx13 cs3 hp5 => ?_)
         refine RL.sub (K' := [(134, .slice A3 ((([] : List Int) ++ (t2.getD ((W .i64 (a1)).tmod (t2.length : Int)).toNat [])).length) c3), (133, .slice A2_ ((t2.getD ((W .i64 (a1)).tmod (t2.length : Int)).toNat []).length) c2_), (129, .slice (some ⟨nx12, 0, none⟩) 0 0), (128, i6 ((W .i64 (a1)).tmod (t2.length : Int))), (127, .slice A2 ((([] : List (List Int)) ++ t2).length) c2), (22, .slice A2 ((([] : List (List Int)) ++ t2).length) c2), (21, i6 ((W .i64 (a2)).tmod t5)), (20, i6 ((W .i64 (a1)).tmod (t2.length : Int))), (3, .int .i32 a3), (9, .bool t1), (10, .slice A1 t2.length c1), (11, i6 t3)]) (L' := []) (X' := [orow 24 1 A2 ((([] : List (List Int)) ++ t2).length) c2 cs2, orow 2 1 A3 ((([] : List Int) ++ (t2.getD ((W .i64 (a1)).tmod (t2.length : Int)).toNat [])).length) c3 cs3]) (by kernel_rfl) (.refl _) (.refl _) ?_
         obtain ⟨hib0, H⟩ := ifs H
         obtain ⟨hib1, H⟩ := ifs H
         have hx03_ := hib0; have hx13_ := hib1
         refine RL.ownAddr (e := 24) (sz := 1) (S := A2) (n := (([] : List (List Int)) ++ t2).length) (cap := c2) (cs := cs2) 0 (by kernel_rfl) (by omega) (fun g3_ hA3_ => ?_)
         obtain ⟨A3_, c3_, hl3_, hr3_, hc3_⟩ := Ty.slice_own hp3 ((W .i64 (a1)).tmod (t2.length : Int)) hib0 hib1
         refine RL.idx 1 .i64 ((W .i64 (a1)).tmod (t2.length : Int)) hA3_ ((([] : List (List Int)) ++ t2).length) c2 (some 135) (by kernel_rfl) (by kernel_rfl) (T := 22) (e := 24) (by kernel_rfl) (by kernel_rfl) hib0 hib1 (K' := [(135, pt g3_ (0 + ((W .i64 (a1)).tmod (t2.length : Int)).toNat * 1)), (134, .slice A3 ((([] : List Int) ++ (t2.getD ((W .i64 (a1)).tmod (t2.length : Int)).toNat [])).length) c3), (133, .slice A2_ ((t2.getD ((W .i64 (a1)).tmod (t2.length : Int)).toNat []).length) c2_), (129, .slice (some ⟨nx12, 0, none⟩) 0 0), (128, i6 ((W .i64 (a1)).tmod (t2.length : Int))), (127, .slice A2 ((([] : List (List Int)) ++ t2).length) c2), (22, .slice A2 ((([] : List (List Int)) ++ t2).length) c2), (21, i6 ((W .i64 (a2)).tmod t5)), (20, i6 ((W .i64 (a1)).tmod (t2.length : Int))), (3, .int .i32 a3), (9, .bool t1), (10, .slice A1 t2.length c1), (11, i6 t3)]) (by kernel_rfl) ?_
         refine RL.storeH (T := 24) (e := 24) 0 hA3_ c2 ((W .i64 (a1)).tmod (t2.length : Int)) cs2 A3 ((([] : List Int) ++ (t2.getD ((W .i64 (a1)).tmod (t2.length : Int)).toNat [])).length) c3 (Ty.int .i64) (([] : List (List Int)) ++ t2) (by kernel_rfl) (by kernel_rfl) (by kernel_rfl) (by kernel_rfl) hp3 hx03_ hx13_ (fun cs4 hc3 hp6 => ?_)
         refine RL.sub (K' := [(134, .slice A3 ((([] : List Int) ++ (t2.getD ((W .i64 (a1)).tmod (t2.length : Int)).toNat [])).length) c3), (133, .slice A2_ ((t2.getD ((W .i64 (a1)).tmod (t2.length : Int)).toNat []).length) c2_), (129, .slice (some ⟨nx12, 0, none⟩) 0 0), (128, i6 ((W .i64 (a1)).tmod (t2.length : Int))), (127, .slice A2 ((([] : List (List Int)) ++ t2).length) c2), (22, .slice A2 ((([] : List (List Int)) ++ t2).length) c2), (21, i6 ((W .i64 (a2)).tmod t5)), (20, i6 ((W .i64 (a1)).tmod (t2.length : Int))), (3, .int .i32 a3), (9, .bool t1), (10, .slice A1 t2.length c1), (11, i6 t3)]) (L' := []) (X' := [orow 24 1 A2 ((([] : List (List Int)) ++ t2).length) c2 cs4, orow 2 1 A3 ((([] : List Int) ++ (t2.getD ((W .i64 (a1)).tmod (t2.length : Int)).toNat [])).length) c3 cs3]) (by kernel_rfl) (.refl _) (.refl _) ?_
         refine RL.nil (by kernel_rfl) ?_
         refine QN.sub (K' := [(22, .slice A2 ((([] : List (List Int)) ++ t2).length) c2), (21, i6 ((W .i64 (a2)).tmod t5)), (20, i6 ((W .i64 (a1)).tmod (t2.length : Int))), (3, .int .i32 a3), (9, .bool t1), (10, .slice A1 t2.length c1), (11, i6 t3)]) (L' := []) (by kernel_rfl) .slnil (.refl _) ?_
         refine QN.then_ ?_
         refine OK.sq ?_
         obtain ⟨hi0_1, H⟩ := ifs H
         obtain ⟨hi1_1, H⟩ := ifs H
         refine OK.ownAddr (e := 24) (sz := 1) (S := A2) (n := (([] : List (List Int)) ++ t2).length) (cap := c2) (cs := cs4) 0 (by kernel_rfl) (by omega) (fun g4_ hA4_ => ?_)
         obtain ⟨hi0_2, H⟩ := ifs H
         obtain ⟨hi1_2, H⟩ := ifs H
         obtain ⟨g5_, o5_, hA5_, A5_, c5_, hl5_, hr5_, hc5_⟩ := Ty.slice_at (Rd.ext (Imm.le_trans (Imm.le_trans hi9 hi10) hi11) hr1) ((W .i64 (a1)).tmod (t2.length : Int)) hi0_2 hi1_2
         obtain ⟨hi0_3, H⟩ := ifs H
         obtain ⟨hi1_3, H⟩ := ifs H
         obtain ⟨g6_, o6_, hA6_, hc6_⟩ := Ty.int_at hr5_ ((W .i64 (a2)).tmod t5) hi0_3 hi1_3
         refine OK.drawnC 29 20 O8_121 a8_121n (by kernel_rfl) (by kernel_rfl) u8d2l (u8d2g a1 a2 t2 t5 g4_ g5_ o5_ g6_ o6_) [(⟨g4_, 0 + ((W .i64 (a1)).tmod (t2.length : Int)).toNat * 1, none⟩, .slice A3 ((([] : List Int) ++ (t2.getD ((W .i64 (a1)).tmod (t2.length : Int)).toNat [])).length) c3), (⟨g5_, o5_ + ((W .i64 (a1)).tmod (t2.length : Int)).toNat * 1, none⟩, .slice A5_ ((t2.getD ((W .i64 (a1)).tmod (t2.length : Int)).toNat []).length) c5_), (⟨g6_, o6_ + ((W .i64 (a2)).tmod t5).toNat * 1, none⟩, i6 ((t2.getD ((W .i64 (a1)).tmod (t2.length : Int)).toNat []).getD ((W .i64 (a2)).tmod t5).toNat 0))] (RI.own (e := 24) (sz := 1) (S := A2) (n := (([] : List (List Int)) ++ t2).length) (cap := c2) (cs := cs4) 0 (by kernel_rfl) hA4_ (0 + ((W .i64 (a1)).tmod (t2.length : Int)).toNat * 1) (((W .i64 (a1)).tmod (t2.length : Int)).toNat * 1 + 0) (by omega) hc3 (RI.cons (hc5_ 0 _ rfl) (RI.cons (hc6_ 0 _ rfl) (RI.nil _)))) [.no, .no, .no, .r 0, .no, .no, .no, .no, .r 1, .no, .no, .r 2, .no, .no, .no, .no, .no, .no, .no, .no] a8_121 a8_121o (by kernel_rfl) (by kernel_rfl) (u8d2s a1 a2 a3 t2 A1 c1 t5 A2 c2 A3 c3 g4_ A5_ c5_ g5_ o5_ g6_ o6_) (u8d2f a1 a2 a3 t1 t2 A1 c1 t3 t5 A2 c2 A3 c3 g4_ A5_ c5_ g5_ o5_ g6_ o6_ 20) (u8d2v a1 a2 a3 t1 t2 A1 c1 t3 t5 A2 c2 A3 c3 g4_ A5_ c5_ g5_ o5_ g6_ o6_) (u8d2e a1 a2 a3 t1 t2 A1 c1 t3 t5 A2 c2 A3 c3 g4_ A5_ c5_ g5_ o5_ g6_ o6_) [] framesOk.nil ?_ [u8d2f a1 a2 a3 t1 t2 A1 c1 t3 t5 A2 c2 A3 c3 g4_ A5_ c5_ g5_ o5_ g6_ o6_ 2, u8d2f a1 a2 a3 t1 t2 A1 c1 t3 t5 A2 c2 A3 c3 g4_ A5_ c5_ g5_ o5_ g6_ o6_ 7, u8d2f a1 a2 a3 t1 t2 A1 c1 t3 t5 A2 c2 A3 c3 g4_ A5_ c5_ g5_ o5_ g6_ o6_ 10] (framesOk.cons (fun u => rfl) (framesOk.cons (fun u => rfl) (framesOk.cons (fun u => rfl) framesOk.nil))) ?_ ?_
         ·refine LoudsG.nil
         ·refine Givens.cons (fun u w =>  ?_) (fun _ _ _ => rfl) (Givens.cons (fun u w =>  ?_) (fun _ _ _ => rfl) (Givens.cons (fun u w =>  ?_) (fun _ _ _ => rfl) (Givens.nil)))
          ·exact giv_idx (T := 22) (e := 24) 1 .i64 ((W .i64 (a1)).tmod (t2.length : Int)) hA4_ ((([] : List (List Int)) ++ t2).length) c2 (by kernel_rfl) (by kernel_rfl) (by kernel_rfl) hi0_1 hi1_1 w
          ·exact giv_idx (T := 22) (e := 24) 1 .i64 ((W .i64 (a1)).tmod (t2.length : Int)) hA5_ t2.length c1 (by kernel_rfl) (by kernel_rfl) (by kernel_rfl) hi0_2 hi1_2 w
          ·exact giv_idx (T := 24) (e := 2) 1 .i64 ((W .i64 (a2)).tmod t5) hA6_ ((t2.getD ((W .i64 (a1)).tmod (t2.length : Int)).toNat []).length) c5_ (by kernel_rfl) (by kernel_rfl) (by kernel_rfl) hi0_3 hi1_3 w
         intro u I12 nx14 hi12 hF
         clear hF
         refine RL.norm (K' := [(155, i6 (iMin (W .i64 (((t2.getD ((W .i64 (a1)).tmod (t2.length : Int)).toNat []).getD ((W .i64 (a2)).tmod t5).toNat 0) + (iMax (W .i64 (a3)) (W .i64 (0 - (W .i64 (a3))))))) 1073741824)), (154, i6 (W .i64 (((t2.getD ((W .i64 (a1)).tmod (t2.length : Int)).toNat []).getD ((W .i64 (a2)).tmod t5).toNat 0) + (iMax (W .i64 (a3)) (W .i64 (0 - (W .i64 (a3)))))))), (153, i6 (iMax (W .i64 (a3)) (W .i64 (0 - (W .i64 (a3)))))), (152, i6 (W .i64 (0 - (W .i64 (a3))))), (151, i6 (W .i64 (a3))), (150, .int .i32 a3), (149, i6 (W .i64 (a3))), (148, .int .i32 a3), (147, i6 ((t2.getD ((W .i64 (a1)).tmod (t2.length : Int)).toNat []).getD ((W .i64 (a2)).tmod t5).toNat 0)), (146, pt g6_ (o6_ + ((W .i64 (a2)).tmod t5).toNat * 1)), (145, i6 ((W .i64 (a2)).tmod t5)), (144, .slice A5_ ((t2.getD ((W .i64 (a1)).tmod (t2.length : Int)).toNat []).length) c5_), (143, pt g5_ (o5_ + ((W .i64 (a1)).tmod (t2.length : Int)).toNat * 1)), (142, i6 ((W .i64 (a1)).tmod (t2.length : Int))), (141, .slice A1 t2.length c1), (140, i6 ((W .i64 (a2)).tmod t5)), (139, .slice A3 ((([] : List Int) ++ (t2.getD ((W .i64 (a1)).tmod (t2.length : Int)).toNat [])).length) c3), (138, pt g4_ (0 + ((W .i64 (a1)).tmod (t2.length : Int)).toNat * 1)), (137, i6 ((W .i64 (a1)).tmod (t2.length : Int))), (136, .slice A2 ((([] : List (List Int)) ++ t2).length) c2), (22, .slice A2 ((([] : List (List Int)) ++ t2).length) c2), (21, i6 ((W .i64 (a2)).tmod t5)), (20, i6 ((W .i64 (a1)).tmod (t2.length : Int))), (3, .int .i32 a3), (9, .bool t1), (10, .slice A1 t2.length c1), (11, i6 t3)]) (X' := [orow 24 1 A2 ((([] : List (List Int)) ++ t2).length) c2 cs4, orow 2 1 A3 ((([] : List Int) ++ (t2.getD ((W .i64 (a1)).tmod (t2.length : Int)).toNat [])).length) c3 cs3]) (by kernel_rfl) rfl rfl rfl ?_
         obtain ⟨hib0, H⟩ := ifs H
         obtain ⟨hib1, H⟩ := ifs H
         have hx07_ := hib0; have hx17_ := hib1
         refine RL.ownAddr (e := 2) (sz := 1) (S := A3) (n := (([] : List Int) ++ (t2.getD ((W .i64 (a1)).tmod (t2.length : Int)).toNat [])).length) (cap := c3) (cs := cs3) 1 (by kernel_rfl) (by omega) (fun g7_ hA7_ => ?_)
         have hc7_ := Ty.int_own (Reps.ext hi12 hp5) ((W .i64 (a2)).tmod t5) hib0 hib1
         refine RL.idx 1 .i64 ((W .i64 (a2)).tmod t5) hA7_ ((([] : List Int) ++ (t2.getD ((W .i64 (a1)).tmod (t2.length : Int)).toNat [])).length) c3 (some 156) (by kernel_rfl) (by kernel_rfl) (T := 24) (e := 2) (by kernel_rfl) (by kernel_rfl) hib0 hib1 (K' := [(156, pt g7_ (0 + ((W .i64 (a2)).tmod t5).toNat * 1)), (155, i6 (iMin (W .i64 (((t2.getD ((W .i64 (a1)).tmod (t2.length : Int)).toNat []).getD ((W .i64 (a2)).tmod t5).toNat 0) + (iMax (W .i64 (a3)) (W .i64 (0 - (W .i64 (a3))))))) 1073741824)), (154, i6 (W .i64 (((t2.getD ((W .i64 (a1)).tmod (t2.length : Int)).toNat []).getD ((W .i64 (a2)).tmod t5).toNat 0) + (iMax (W .i64 (a3)) (W .i64 (0 - (W .i64 (a3)))))))), (153, i6 (iMax (W .i64 (a3)) (W .i64 (0 - (W .i64 (a3)))))), (152, i6 (W .i64 (0 - (W .i64 (a3))))), (151, i6 (W .i64 (a3))), (150, .int .i32 a3), (149, i6 (W .i64 (a3))), (148, .int .i32 a3), (147, i6 ((t2.getD ((W .i64 (a1)).tmod (t2.length : Int)).toNat []).getD ((W .i64 (a2)).tmod t5).toNat 0)), (146, pt g6_ (o6_ + ((W .i64 (a2)).tmod t5).toNat * 1)), (145, i6 ((W .i64 (a2)).tmod t5)), (144, .slice A5_ ((t2.getD ((W .i64 (a1)).tmod (t2.length : Int)).toNat []).length) c5_), (143, pt g5_ (o5_ + ((W .i64 (a1)).tmod (t2.length : Int)).toNat * 1)), (142, i6 ((W .i64 (a1)).tmod (t2.length : Int))), (141, .slice A1 t2.length c1), (140, i6 ((W .i64 (a2)).tmod t5)), (139, .slice A3 ((([] : List Int) ++ (t2.getD ((W .i64 (a1)).tmod (t2.length : Int)).toNat [])).length) c3), (138, pt g4_ (0 + ((W .i64 (a1)).tmod (t2.length : Int)).toNat * 1)), (137, i6 ((W .i64 (a1)).tmod (t2.length : Int))), (136, .slice A2 ((([] : List (List Int)) ++ t2).length) c2), (22, .slice A2 ((([] : List (List Int)) ++ t2).length) c2), (21, i6 ((W .i64 (a2)).tmod t5)), (20, i6 ((W .i64 (a1)).tmod (t2.length : Int))), (3, .int .i32 a3), (9, .bool t1), (10, .slice A1 t2.length c1), (11, i6 t3)]) (by kernel_rfl) ?_
         refine RL.storeL (T := 2) (e := 2) 1 1 hA7_ c3 ((W .i64 (a2)).tmod t5) cs3 [i6 (iMin (W .i64 (((t2.getD ((W .i64 (a1)).tmod (t2.length : Int)).toNat []).getD ((W .i64 (a2)).tmod t5).toNat 0) + (iMax (W .i64 (a3)) (W .i64 (0 - (W .i64 (a3))))))) 1073741824)] (i6 (iMin (W .i64 (((t2.getD ((W .i64 (a1)).tmod (t2.length : Int)).toNat []).getD ((W .i64 (a2)).tmod t5).toNat 0) + (iMax (W .i64 (a3)) (W .i64 (0 - (W .i64 (a3))))))) 1073741824)) (Ty.int .i64) (([] : List Int) ++ (t2.getD ((W .i64 (a1)).tmod (t2.length : Int)).toNat [])) (iMin (W .i64 (((t2.getD ((W .i64 (a1)).tmod (t2.length : Int)).toNat []).getD ((W .i64 (a2)).tmod t5).toNat 0) + (iMax (W .i64 (a3)) (W .i64 (0 - (W .i64 (a3))))))) 1073741824) (by kernel_rfl) (by kernel_rfl) (by kernel_rfl) (by kernel_rfl) (by kernel_rfl) rfl (by kernel_rfl) (Reps.ext hi12 hp5) hx07_ hx17_ (fun cs5 hp7 => ?_)
         refine RL.sub (K' := [(155, i6 (iMin (W .i64 (((t2.getD ((W .i64 (a1)).tmod (t2.length : Int)).toNat []).getD ((W .i64 (a2)).tmod t5).toNat 0) + (iMax (W .i64 (a3)) (W .i64 (0 - (W .i64 (a3))))))) 1073741824)), (154, i6 (W .i64 (((t2.getD ((W .i64 (a1)).tmod (t2.length : Int)).toNat []).getD ((W .i64 (a2)).tmod t5).toNat 0) + (iMax (W .i64 (a3)) (W .i64 (0 - (W .i64 (a3)))))))), (153, i6 (iMax (W .i64 (a3)) (W .i64 (0 - (W .i64 (a3)))))), (152, i6 (W .i64 (0 - (W .i64 (a3))))), (151, i6 (W .i64 (a3))), (150, .int .i32 a3), (149, i6 (W .i64 (a3))), (148, .int .i32 a3), (147, i6 ((t2.getD ((W .i64 (a1)).tmod (t2.length : Int)).toNat []).getD ((W .i64 (a2)).tmod t5).toNat 0)), (146, pt g6_ (o6_ + ((W .i64 (a2)).tmod t5).toNat * 1)), (145, i6 ((W .i64 (a2)).tmod t5)), (144, .slice A5_ ((t2.getD ((W .i64 (a1)).tmod (t2.length : Int)).toNat []).length) c5_), (143, pt g5_ (o5_ + ((W .i64 (a1)).tmod (t2.length : Int)).toNat * 1)), (142, i6 ((W .i64 (a1)).tmod (t2.length : Int))), (141, .slice A1 t2.length c1), (140, i6 ((W .i64 (a2)).tmod t5)), (139, .slice A3 ((([] : List Int) ++ (t2.getD ((W .i64 (a1)).tmod (t2.length : Int)).toNat [])).length) c3), (138, pt g4_ (0 + ((W .i64 (a1)).tmod (t2.length : Int)).toNat * 1)), (137, i6 ((W .i64 (a1)).tmod (t2.length : Int))), (136, .slice A2 ((([] : List (List Int)) ++ t2).length) c2), (22, .slice A2 ((([] : List (List Int)) ++ t2).length) c2), (21, i6 ((W .i64 (a2)).tmod t5)), (20, i6 ((W .i64 (a1)).tmod (t2.length : Int))), (3, .int .i32 a3), (9, .bool t1), (10, .slice A1 t2.length c1), (11, i6 t3)]) (L' := []) (X' := [orow 24 1 A2 ((([] : List (List Int)) ++ t2).length) c2 cs4, orow 2 1 A3 (((([] : List Int) ++ (t2.getD ((W .i64 (a1)).tmod (t2.length : Int)).toNat [])).set ((W .i64 (a2)).tmod t5).toNat (iMin (W .i64 (((t2.getD ((W .i64 (a1)).tmod (t2.length : Int)).toNat []).getD ((W .i64 (a2)).tmod t5).toNat 0) + (iMax (W .i64 (a3)) (W .i64 (0 - (W .i64 (a3))))))) 1073741824)).length) c3 cs5]) (by kernel_rfl) (.refl _) (.refl _) ?_
         refine RL.norm (K' := [(155, i6 (iMin (W .i64 (((t2.getD ((W .i64 (a1)).tmod (t2.length : Int)).toNat []).getD ((W .i64 (a2)).tmod t5).toNat 0) + (iMax (W .i64 (a3)) (W .i64 (0 - (W .i64 (a3))))))) 1073741824)), (154, i6 (W .i64 (((t2.getD ((W .i64 (a1)).tmod (t2.length : Int)).toNat []).getD ((W .i64 (a2)).tmod t5).toNat 0) + (iMax (W .i64 (a3)) (W .i64 (0 - (W .i64 (a3)))))))), (153, i6 (iMax (W .i64 (a3)) (W .i64 (0 - (W .i64 (a3)))))), (152, i6 (W .i64 (0 - (W .i64 (a3))))), (151, i6 (W .i64 (a3))), (150, .int .i32 a3), (149, i6 (W .i64 (a3))), (148, .int .i32 a3), (147, i6 ((t2.getD ((W .i64 (a1)).tmod (t2.length : Int)).toNat []).getD ((W .i64 (a2)).tmod t5).toNat 0)), (146, pt g6_ (o6_ + ((W .i64 (a2)).tmod t5).toNat * 1)), (145, i6 ((W .i64 (a2)).tmod t5)), (144, .slice A5_ ((t2.getD ((W .i64 (a1)).tmod (t2.length : Int)).toNat []).length) c5_), (143, pt g5_ (o5_ + ((W .i64 (a1)).tmod (t2.length : Int)).toNat * 1)), (142, i6 ((W .i64 (a1)).tmod (t2.length : Int))), (141, .slice A1 t2.length c1), (140, i6 ((W .i64 (a2)).tmod t5)), (139, .slice A3 (((([] : List Int) ++ (t2.getD ((W .i64 (a1)).tmod (t2.length : Int)).toNat [])).set ((W .i64 (a2)).tmod t5).toNat (iMin (W .i64 (((t2.getD ((W .i64 (a1)).tmod (t2.length : Int)).toNat []).getD ((W .i64 (a2)).tmod t5).toNat 0) + (iMax (W .i64 (a3)) (W .i64 (0 - (W .i64 (a3))))))) 1073741824)).length) c3), (138, pt g4_ (0 + ((W .i64 (a1)).tmod (t2.length : Int)).toNat * 1)), (137, i6 ((W .i64 (a1)).tmod (t2.length : Int))), (136, .slice A2 ((([] : List (List Int)) ++ t2).length) c2), (22, .slice A2 ((([] : List (List Int)) ++ t2).length) c2), (21, i6 ((W .i64 (a2)).tmod t5)), (20, i6 ((W .i64 (a1)).tmod (t2.length : Int))), (3, .int .i32 a3), (9, .bool t1), (10, .slice A1 t2.length c1), (11, i6 t3)]) (L' := []) (by simp only [List.length_set]) rfl (by first | rfl | simp only [List.length_set]) rfl ?_
         refine RL.nil (by kernel_rfl) ?_
         refine QN.sub (K' := [(22, .slice A2 ((([] : List (List Int)) ++ t2).length) c2), (21, i6 ((W .i64 (a2)).tmod t5)), (20, i6 ((W .i64 (a1)).tmod (t2.length : Int))), (9, .bool t1), (10, .slice A1 t2.length c1), (11, i6 t3)]) (L' := []) (by kernel_rfl) .slnil (.refl _) ?_
         refine QN.then_ ?_
         refine OK.sr ?_
         refine RL.s 1 [(157, .slice A2 ((([] : List (List Int)) ++ t2).length) c2), (22, .slice A2 ((([] : List (List Int)) ++ t2).length) c2), (21, i6 ((W .i64 (a2)).tmod t5)), (20, i6 ((W .i64 (a1)).tmod (t2.length : Int))), (9, .bool t1), (10, .slice A1 t2.length c1), (11, i6 t3)] ?_
         refine RL.freeze (e := 2) (sz := 1) (S := A3) (n := ((([] : List Int) ++ (t2.getD ((W .i64 (a1)).tmod (t2.length : Int)).toNat [])).set ((W .i64 (a2)).tmod t5).toNat (iMin (W .i64 (((t2.getD ((W .i64 (a1)).tmod (t2.length : Int)).toNat []).getD ((W .i64 (a2)).tmod t5).toNat 0) + (iMax (W .i64 (a3)) (W .i64 (0 - (W .i64 (a3))))))) 1073741824)).length) (cap := c3) 1 (by kernel_rfl) hp7 rfl (fun I13 hi13 hl2 hr2 => ?_)
         skip
         have hp8 := hp6 _ ((([] : List Int) ++ (t2.getD ((W .i64 (a1)).tmod (t2.length : Int)).toNat [])).set ((W .i64 (a2)).tmod t5).toNat (iMin (W .i64 (((t2.getD ((W .i64 (a1)).tmod (t2.length : Int)).toNat []).getD ((W .i64 (a2)).tmod t5).toNat 0) + (iMax (W .i64 (a3)) (W .i64 (0 - (W .i64 (a3))))))) 1073741824)) (Imm.le_trans hi12 hi13) (by first | rfl | simp only [List.length_set]) hl2 hr2
         refine RL.norm (K' := [(157, .slice A2 (((([] : List (List Int)) ++ t2).set ((W .i64 (a1)).tmod (t2.length : Int)).toNat ((([] : List Int) ++ (t2.getD ((W .i64 (a1)).tmod (t2.length : Int)).toNat [])).set ((W .i64 (a2)).tmod t5).toNat (iMin (W .i64 (((t2.getD ((W .i64 (a1)).tmod (t2.length : Int)).toNat []).getD ((W .i64 (a2)).tmod t5).toNat 0) + (iMax (W .i64 (a3)) (W .i64 (0 - (W .i64 (a3))))))) 1073741824))).length) c2), (22, .slice A2 (((([] : List (List Int)) ++ t2).set ((W .i64 (a1)).tmod (t2.length : Int)).toNat ((([] : List Int) ++ (t2.getD ((W .i64 (a1)).tmod (t2.length : Int)).toNat [])).set ((W .i64 (a2)).tmod t5).toNat (iMin (W .i64 (((t2.getD ((W .i64 (a1)).tmod (t2.length : Int)).toNat []).getD ((W .i64 (a2)).tmod t5).toNat 0) + (iMax (W .i64 (a3)) (W .i64 (0 - (W .i64 (a3))))))) 1073741824))).length) c2), (21, i6 ((W .i64 (a2)).tmod t5)), (20, i6 ((W .i64 (a1)).tmod (t2.length : Int))), (9, .bool t1), (10, .slice A1 t2.length c1), (11, i6 t3)]) (L' := []) (X' := [orow 24 1 A2 (((([] : List (List Int)) ++ t2).set ((W .i64 (a1)).tmod (t2.length : Int)).toNat ((([] : List Int) ++ (t2.getD ((W .i64 (a1)).tmod (t2.length : Int)).toNat [])).set ((W .i64 (a2)).tmod t5).toNat (iMin (W .i64 (((t2.getD ((W .i64 (a1)).tmod (t2.length : Int)).toNat []).getD ((W .i64 (a2)).tmod t5).toNat 0) + (iMax (W .i64 (a3)) (W .i64 (0 - (W .i64 (a3))))))) 1073741824))).length) c2 cs4]) (by first | (simp only [List.length_set]; done) | (simp only [List.length_set]; rfl)) rfl (by first | rfl | simp only [List.length_set]) (by first | (simp only [List.length_set]; done) | (simp only [List.length_set]; rfl)) ?_
         obtain ⟨t6, hA6, H⟩ := bnd H
         refine RL.callP 25 [.slice A2 (((([] : List (List Int)) ++ t2).set ((W .i64 (a1)).tmod (t2.length : Int)).toNat ((([] : List Int) ++ (t2.getD ((W .i64 (a1)).tmod (t2.length : Int)).toNat [])).set ((W .i64 (a2)).tmod t5).toNat (iMin (W .i64 (((t2.getD ((W .i64 (a1)).tmod (t2.length : Int)).toNat []).getD ((W .i64 (a2)).tmod t5).toNat 0) + (iMax (W .i64 (a3)) (W .i64 (0 - (W .i64 (a3))))))) 1073741824))).length) c2] (some 158) (fun w v w' => ∃ I', Imm.le I13 I' ∧ armillarylaw22_optimum.Post I' w t6 v w') (by kernel_rfl) (by kernel_rfl) (fun w hs => ?_) ?_
         ·skip
          obtain ⟨JL2, hj2, hn2, hw2, hs⟩ := Sat.freeze (e := 24) (sz := 1) (S := A2) (n := ((([] : List (List Int)) ++ t2).set ((W .i64 (a1)).tmod (t2.length : Int)).toNat ((([] : List Int) ++ (t2.getD ((W .i64 (a1)).tmod (t2.length : Int)).toNat [])).set ((W .i64 (a2)).tmod t5).toNat (iMin (W .i64 (((t2.getD ((W .i64 (a1)).tmod (t2.length : Int)).toNat []).getD ((W .i64 (a2)).tmod t5).toNat 0) + (iMax (W .i64 (a3)) (W .i64 (0 - (W .i64 (a3))))))) 1073741824))).length) (cap := c2) (m := 0) hs (by kernel_rfl) hp8 rfl
          exact (armillarylaw22_optimum.calls k JL2 ((([] : List (List Int)) ++ t2).set ((W .i64 (a1)).tmod (t2.length : Int)).toNat ((([] : List Int) ++ (t2.getD ((W .i64 (a1)).tmod (t2.length : Int)).toNat [])).set ((W .i64 (a2)).tmod t5).toNat (iMin (W .i64 (((t2.getD ((W .i64 (a1)).tmod (t2.length : Int)).toNat []).getD ((W .i64 (a2)).tmod t5).toNat 0) + (iMax (W .i64 (a3)) (W .i64 (0 - (W .i64 (a3))))))) 1073741824))) A2 c2 _ hs.im hn2 hw2 t6 hA6).mono (fun e w' ⟨v, hv, hp⟩ => ⟨v, hv, JL2, hj2, hp⟩)
         rintro w v w' hs ⟨I', hle, J, rfl, hg⟩
         refine RL.resume (X' := [orow 24 1 A2 (((([] : List (List Int)) ++ t2).set ((W .i64 (a1)).tmod (t2.length : Int)).toNat ((([] : List Int) ++ (t2.getD ((W .i64 (a1)).tmod (t2.length : Int)).toNat [])).set ((W .i64 (a2)).tmod t5).toNat (iMin (W .i64 (((t2.getD ((W .i64 (a1)).tmod (t2.length : Int)).toNat []).getD ((W .i64 (a2)).tmod t5).toNat 0) + (iMax (W .i64 (a3)) (W .i64 (0 - (W .i64 (a3))))))) 1073741824))).length) c2 cs4]) rfl (hs.call (hg.back hle)) ?_
         clear hs hg hle I' J
         generalize w'.heap.size = nx15
         clear w w'
         refine RL.st 1 [(23, i6 t6), (22, .slice A2 (((([] : List (List Int)) ++ t2).set ((W .i64 (a1)).tmod (t2.length : Int)).toNat ((([] : List Int) ++ (t2.getD ((W .i64 (a1)).tmod (t2.length : Int)).toNat [])).set ((W .i64 (a2)).tmod t5).toNat (iMin (W .i64 (((t2.getD ((W .i64 (a1)).tmod (t2.length : Int)).toNat []).getD ((W .i64 (a2)).tmod t5).toNat 0) + (iMax (W .i64 (a3)) (W .i64 (0 - (W .i64 (a3))))))) 1073741824))).length) c2), (21, i6 ((W .i64 (a2)).tmod t5)), (20, i6 ((W .i64 (a1)).tmod (t2.length : Int))), (9, .bool t1), (10, .slice A1 t2.length c1), (11, i6 t3)] ?_
         refine OK.sq ?_
         refine OK.join (fun K' I' _ L' X' => ∃ (x7 : Bool), K' = [(8, .bool x7)] ∧ L' = [] ∧ X' = [] ∧ Imm.le I13 I' ∧ armillarylaw22_AssignMonotonicity.k2 x7 = some r) ?_ ?_
         ·rintro _ I14 nx16 _ _ ⟨x7, rfl, rfl, rfl, hi14, H⟩
          rw [armillarylaw22_AssignMonotonicity.k2] at H
          refine QN.then_ ?_
          refine OK.re ?_
          obtain rfl := Option.some.inj H
          refine QN.body rfl [] (RFacts.nil _ _ _) (.no) (.bool x7) (by kernel_rfl) (by kernel_rfl) (by kernel_rfl) ?_ _ (.inr rfl)
          exact fun w' hs' => ⟨_, rfl, I14, rfl, hs'.got _ .slnil⟩
         ·intro Q_2 hJ7 hQ7
          obtain ⟨y7, H, HK7⟩ := bnd H
          refine OK.cases (decide (t6 ≥ t3)) (fun hb1 => ?_) (fun hb1 => ?_)
          ·have hc4 := (of_decide_eq_true hb1)
           rw [if_pos hc4] at H
           obtain ⟨hi0_4, H⟩ := ifs H
           obtain ⟨hi1_4, H⟩ := ifs H
           refine OK.ownAddr (e := 24) (sz := 1) (S := A2) (n := ((([] : List (List Int)) ++ t2).set ((W .i64 (a1)).tmod (t2.length : Int)).toNat ((([] : List Int) ++ (t2.getD ((W .i64 (a1)).tmod (t2.length : Int)).toNat [])).set ((W .i64 (a2)).tmod t5).toNat (iMin (W .i64 (((t2.getD ((W .i64 (a1)).tmod (t2.length : Int)).toNat []).getD ((W .i64 (a2)).tmod t5).toNat 0) + (iMax (W .i64 (a3)) (W .i64 (0 - (W .i64 (a3))))))) 1073741824))).length) (cap := c2) (cs := cs4) 0 (by kernel_rfl) (by omega) (fun g8_ hA8_ => ?_)
           obtain ⟨A8_, c8_, hl8_, hr8_, hc8_⟩ := Ty.slice_own hp8 ((W .i64 (a1)).tmod (t2.length : Int)) hi0_4 hi1_4
           have hx08_ := hi0_4; have hx18_ := hi1_4
           obtain ⟨hi0_5, H⟩ := ifs H
           obtain ⟨hi1_5, H⟩ := ifs H
           obtain ⟨g9_, o9_, hA9_, hc9_⟩ := Ty.int_at hr8_ ((W .i64 (a2)).tmod t5) hi0_5 hi1_5
           obtain ⟨hi0_6, H⟩ := ifs H
           obtain ⟨hi1_6, H⟩ := ifs H
           obtain ⟨g10_, o10_, hA10_, A10_, c10_, hl10_, hr10_, hc10_⟩ := Ty.slice_at (Rd.ext (Imm.le_trans (Imm.le_trans (Imm.le_trans (Imm.le_trans hi9 hi10) hi11) hi12) hi13) hr1) ((W .i64 (a1)).tmod (t2.length : Int)) hi0_6 hi1_6
           obtain ⟨hi0_7, H⟩ := ifs H
           obtain ⟨hi1_7, H⟩ := ifs H
           obtain ⟨g11_, o11_, hA11_, hc11_⟩ := Ty.int_at hr10_ ((W .i64 (a2)).tmod t5) hi0_7 hi1_7
           refine OK.drawnC 31 22 O8_127 a8_127n (by kernel_rfl) (by kernel_rfl) u8d3l (u8d3g a1 a2 t2 t5 g8_ g9_ o9_ g10_ o10_ g11_ o11_) [(⟨g8_, 0 + ((W .i64 (a1)).tmod (t2.length : Int)).toNat * 1, none⟩, .slice A8_ ((((([] : List (List Int)) ++ t2).set ((W .i64 (a1)).tmod (t2.length : Int)).toNat ((([] : List Int) ++ (t2.getD ((W .i64 (a1)).tmod (t2.length : Int)).toNat [])).set ((W .i64 (a2)).tmod t5).toNat (iMin (W .i64 (((t2.getD ((W .i64 (a1)).tmod (t2.length : Int)).toNat []).getD ((W .i64 (a2)).tmod t5).toNat 0) + (iMax (W .i64 (a3)) (W .i64 (0 - (W .i64 (a3))))))) 1073741824))).getD ((W .i64 (a1)).tmod (t2.length : Int)).toNat []).length) c8_), (⟨g9_, o9_ + ((W .i64 (a2)).tmod t5).toNat * 1, none⟩, i6 ((((([] : List (List Int)) ++ t2).set ((W .i64 (a1)).tmod (t2.length : Int)).toNat ((([] : List Int) ++ (t2.getD ((W .i64 (a1)).tmod (t2.length : Int)).toNat [])).set ((W .i64 (a2)).tmod t5).toNat (iMin (W .i64 (((t2.getD ((W .i64 (a1)).tmod (t2.length : Int)).toNat []).getD ((W .i64 (a2)).tmod t5).toNat 0) + (iMax (W .i64 (a3)) (W .i64 (0 - (W .i64 (a3))))))) 1073741824))).getD ((W .i64 (a1)).tmod (t2.length : Int)).toNat []).getD ((W .i64 (a2)).tmod t5).toNat 0)), (⟨g10_, o10_ + ((W .i64 (a1)).tmod (t2.length : Int)).toNat * 1, none⟩, .slice A10_ ((t2.getD ((W .i64 (a1)).tmod (t2.length : Int)).toNat []).length) c10_), (⟨g11_, o11_ + ((W .i64 (a2)).tmod t5).toNat * 1, none⟩, i6 ((t2.getD ((W .i64 (a1)).tmod (t2.length : Int)).toNat []).getD ((W .i64 (a2)).tmod t5).toNat 0))] (RI.own (e := 24) (sz := 1) (S := A2) (n := ((([] : List (List Int)) ++ t2).set ((W .i64 (a1)).tmod (t2.length : Int)).toNat ((([] : List Int) ++ (t2.getD ((W .i64 (a1)).tmod (t2.length : Int)).toNat [])).set ((W .i64 (a2)).tmod t5).toNat (iMin (W .i64 (((t2.getD ((W .i64 (a1)).tmod (t2.length : Int)).toNat []).getD ((W .i64 (a2)).tmod t5).toNat 0) + (iMax (W .i64 (a3)) (W .i64 (0 - (W .i64 (a3))))))) 1073741824))).length) (cap := c2) (cs := cs4) 0 (by kernel_rfl) hA8_ (0 + ((W .i64 (a1)).tmod (t2.length : Int)).toNat * 1) (((W .i64 (a1)).tmod (t2.length : Int)).toNat * 1 + 0) (by omega) (hc8_ 0 _ rfl) (RI.cons (hc9_ 0 _ rfl) (RI.cons (hc10_ 0 _ rfl) (RI.cons (hc11_ 0 _ rfl) (RI.nil _))))) [.no, .no, .no, .no, .no, .no, .no, .no, .no, .r 0, .no, .no, .r 1, .no, .no, .no, .no, .r 2, .no, .no, .r 3, .no] a8_127 a8_127o (by kernel_rfl) (by kernel_rfl) (u8d3s a1 a2 a3 t2 A1 c1 t3 t5 A2 c2 t6 g8_ A8_ c8_ g9_ o9_ A10_ c10_ g10_ o10_ g11_ o11_) (u8d3f a1 a2 a3 t1 t2 A1 c1 t3 t5 A2 c2 t6 g8_ A8_ c8_ g9_ o9_ A10_ c10_ g10_ o10_ g11_ o11_ 22) (u8d3v a1 a2 a3 t1 t2 A1 c1 t3 t5 A2 c2 t6 g8_ A8_ c8_ g9_ o9_ A10_ c10_ g10_ o10_ g11_ o11_) (u8d3e a1 a2 a3 t1 t2 A1 c1 t3 t5 A2 c2 t6 g8_ A8_ c8_ g9_ o9_ A10_ c10_ g10_ o10_ g11_ o11_) [] framesOk.nil ?_ [u8d3f a1 a2 a3 t1 t2 A1 c1 t3 t5 A2 c2 t6 g8_ A8_ c8_ g9_ o9_ A10_ c10_ g10_ o10_ g11_ o11_ 3, u8d3f a1 a2 a3 t1 t2 A1 c1 t3 t5 A2 c2 t6 g8_ A8_ c8_ g9_ o9_ A10_ c10_ g10_ o10_ g11_ o11_ 8, u8d3f a1 a2 a3 t1 t2 A1 c1 t3 t5 A2 c2 t6 g8_ A8_ c8_ g9_ o9_ A10_ c10_ g10_ o10_ g11_ o11_ 11, u8d3f a1 a2 a3 t1 t2 A1 c1 t3 t5 A2 c2 t6 g8_ A8_ c8_ g9_ o9_ A10_ c10_ g10_ o10_ g11_ o11_ 16, u8d3f a1 a2 a3 t1 t2 A1 c1 t3 t5 A2 c2 t6 g8_ A8_ c8_ g9_ o9_ A10_ c10_ g10_ o10_ g11_ o11_ 19] (framesOk.cons (fun u => rfl) (framesOk.cons (fun u => rfl) (framesOk.cons (fun u => rfl) (framesOk.cons (fun u => rfl) (framesOk.cons (fun u => rfl) framesOk.nil))))) ?_ ?_
           ·refine LoudsG.nil
           ·refine Givens.cons (fun u w =>  ?_) (fun _ _ _ => rfl) (Givens.cons (fun u w =>  ?_) (fun _ _ _ => rfl) (Givens.cons (fun u w =>  ?_) (fun _ _ _ => rfl) (Givens.cons (fun u w =>  ?_) (fun _ _ _ => rfl) (Givens.cons (fun u w =>  ?_) (fun _ _ _ => rfl) (Givens.nil)))))
            ·exact giv_run (v := .bool (decide (t6 ≥ t3))) (by kernel_rfl) (by rw [hb1]; try rfl) w
            ·exact giv_idx (T := 22) (e := 24) 1 .i64 ((W .i64 (a1)).tmod (t2.length : Int)) hA8_ (((([] : List (List Int)) ++ t2).set ((W .i64 (a1)).tmod (t2.length : Int)).toNat ((([] : List Int) ++ (t2.getD ((W .i64 (a1)).tmod (t2.length : Int)).toNat [])).set ((W .i64 (a2)).tmod t5).toNat (iMin (W .i64 (((t2.getD ((W .i64 (a1)).tmod (t2.length : Int)).toNat []).getD ((W .i64 (a2)).tmod t5).toNat 0) + (iMax (W .i64 (a3)) (W .i64 (0 - (W .i64 (a3))))))) 1073741824))).length) c2 (by kernel_rfl) (by kernel_rfl) (by kernel_rfl) hi0_4 hi1_4 w
            ·exact giv_idx (T := 24) (e := 2) 1 .i64 ((W .i64 (a2)).tmod t5) hA9_ ((((([] : List (List Int)) ++ t2).set ((W .i64 (a1)).tmod (t2.length : Int)).toNat ((([] : List Int) ++ (t2.getD ((W .i64 (a1)).tmod (t2.length : Int)).toNat [])).set ((W .i64 (a2)).tmod t5).toNat (iMin (W .i64 (((t2.getD ((W .i64 (a1)).tmod (t2.length : Int)).toNat []).getD ((W .i64 (a2)).tmod t5).toNat 0) + (iMax (W .i64 (a3)) (W .i64 (0 - (W .i64 (a3))))))) 1073741824))).getD ((W .i64 (a1)).tmod (t2.length : Int)).toNat []).length) c8_ (by kernel_rfl) (by kernel_rfl) (by kernel_rfl) hi0_5 hi1_5 w
            ·exact giv_idx (T := 22) (e := 24) 1 .i64 ((W .i64 (a1)).tmod (t2.length : Int)) hA10_ t2.length c1 (by kernel_rfl) (by kernel_rfl) (by kernel_rfl) hi0_6 hi1_6 w
            ·exact giv_idx (T := 24) (e := 2) 1 .i64 ((W .i64 (a2)).tmod t5) hA11_ ((t2.getD ((W .i64 (a1)).tmod (t2.length : Int)).toNat []).length) c10_ (by kernel_rfl) (by kernel_rfl) (by kernel_rfl) hi0_7 hi1_7 w
           intro u I15 nx17 hi15 hF
           clear hF
           refine RL.norm (K' := ((180, i6 (W .i64 ((W .i64 (t3 + ((((([] : List (List Int)) ++ t2).set ((W .i64 (a1)).tmod (t2.length : Int)).toNat ((([] : List Int) ++ (t2.getD ((W .i64 (a1)).tmod (t2.length : Int)).toNat [])).set ((W .i64 (a2)).tmod t5).toNat (iMin (W .i64 (((t2.getD ((W .i64 (a1)).tmod (t2.length : Int)).toNat []).getD ((W .i64 (a2)).tmod t5).toNat 0) + (iMax (W .i64 (a3)) (W .i64 (0 - (W .i64 (a3))))))) 1073741824))).getD ((W .i64 (a1)).tmod (t2.length : Int)).toNat []).getD ((W .i64 (a2)).tmod t5).toNat 0))) - ((t2.getD ((W .i64 (a1)).tmod (t2.length : Int)).toNat []).getD ((W .i64 (a2)).tmod t5).toNat 0)))) :: (179, i6 ((t2.getD ((W .i64 (a1)).tmod (t2.length : Int)).toNat []).getD ((W .i64 (a2)).tmod t5).toNat 0)) :: (178, pt g11_ (o11_ + ((W .i64 (a2)).tmod t5).toNat * 1)) :: (177, i6 ((W .i64 (a2)).tmod t5)) :: (176, .slice A10_ ((t2.getD ((W .i64 (a1)).tmod (t2.length : Int)).toNat []).length) c10_) :: (175, pt g10_ (o10_ + ((W .i64 (a1)).tmod (t2.length : Int)).toNat * 1)) :: (174, i6 ((W .i64 (a1)).tmod (t2.length : Int))) :: (173, .slice A1 t2.length c1) :: (172, i6 (W .i64 (t3 + ((((([] : List (List Int)) ++ t2).set ((W .i64 (a1)).tmod (t2.length : Int)).toNat ((([] : List Int) ++ (t2.getD ((W .i64 (a1)).tmod (t2.length : Int)).toNat [])).set ((W .i64 (a2)).tmod t5).toNat (iMin (W .i64 (((t2.getD ((W .i64 (a1)).tmod (t2.length : Int)).toNat []).getD ((W .i64 (a2)).tmod t5).toNat 0) + (iMax (W .i64 (a3)) (W .i64 (0 - (W .i64 (a3))))))) 1073741824))).getD ((W .i64 (a1)).tmod (t2.length : Int)).toNat []).getD ((W .i64 (a2)).tmod t5).toNat 0)))) :: (171, i6 ((((([] : List (List Int)) ++ t2).set ((W .i64 (a1)).tmod (t2.length : Int)).toNat ((([] : List Int) ++ (t2.getD ((W .i64 (a1)).tmod (t2.length : Int)).toNat [])).set ((W .i64 (a2)).tmod t5).toNat (iMin (W .i64 (((t2.getD ((W .i64 (a1)).tmod (t2.length : Int)).toNat []).getD ((W .i64 (a2)).tmod t5).toNat 0) + (iMax (W .i64 (a3)) (W .i64 (0 - (W .i64 (a3))))))) 1073741824))).getD ((W .i64 (a1)).tmod (t2.length : Int)).toNat []).getD ((W .i64 (a2)).tmod t5).toNat 0)) :: (170, pt g9_ (o9_ + ((W .i64 (a2)).tmod t5).toNat * 1)) :: (169, i6 ((W .i64 (a2)).tmod t5)) :: (168, .slice A8_ ((((([] : List (List Int)) ++ t2).set ((W .i64 (a1)).tmod (t2.length : Int)).toNat ((([] : List Int) ++ (t2.getD ((W .i64 (a1)).tmod (t2.length : Int)).toNat [])).set ((W .i64 (a2)).tmod t5).toNat (iMin (W .i64 (((t2.getD ((W .i64 (a1)).tmod (t2.length : Int)).toNat []).getD ((W .i64 (a2)).tmod t5).toNat 0) + (iMax (W .i64 (a3)) (W .i64 (0 - (W .i64 (a3))))))) 1073741824))).getD ((W .i64 (a1)).tmod (t2.length : Int)).toNat []).length) c8_) :: (167, pt g8_ (0 + ((W .i64 (a1)).tmod (t2.length : Int)).toNat * 1)) :: (166, i6 ((W .i64 (a1)).tmod (t2.length : Int))) :: (165, .slice A2 (((([] : List (List Int)) ++ t2).set ((W .i64 (a1)).tmod (t2.length : Int)).toNat ((([] : List Int) ++ (t2.getD ((W .i64 (a1)).tmod (t2.length : Int)).toNat [])).set ((W .i64 (a2)).tmod t5).toNat (iMin (W .i64 (((t2.getD ((W .i64 (a1)).tmod (t2.length : Int)).toNat []).getD ((W .i64 (a2)).tmod t5).toNat 0) + (iMax (W .i64 (a3)) (W .i64 (0 - (W .i64 (a3))))))) 1073741824))).length) c2) :: (164, i6 t3) :: (163, i6 t6) :: (162, .bool true) :: (161, .bool (decide (t6 ≥ t3))) :: (160, i6 t3) :: (159, i6 t6) :: (23, i6 t6) :: (22, .slice A2 (((([] : List (List Int)) ++ t2).set ((W .i64 (a1)).tmod (t2.length : Int)).toNat ((([] : List Int) ++ (t2.getD ((W .i64 (a1)).tmod (t2.length : Int)).toNat [])).set ((W .i64 (a2)).tmod t5).toNat (iMin (W .i64 (((t2.getD ((W .i64 (a1)).tmod (t2.length : Int)).toNat []).getD ((W .i64 (a2)).tmod t5).toNat 0) + (iMax (W .i64 (a3)) (W .i64 (0 - (W .i64 (a3))))))) 1073741824))).length) c2) :: (21, i6 ((W .i64 (a2)).tmod t5)) :: (20, i6 ((W .i64 (a1)).tmod (t2.length : Int))) :: (9, .bool t1) :: (10, .slice A1 t2.length c1) :: (11, i6 t3) :: [])) (X' := [orow 24 1 A2 (((([] : List (List Int)) ++ t2).set ((W .i64 (a1)).tmod (t2.length : Int)).toNat ((([] : List Int) ++ (t2.getD ((W .i64 (a1)).tmod (t2.length : Int)).toNat [])).set ((W .i64 (a2)).tmod t5).toNat (iMin (W .i64 (((t2.getD ((W .i64 (a1)).tmod (t2.length : Int)).toNat []).getD ((W .i64 (a2)).tmod t5).toNat 0) + (iMax (W .i64 (a3)) (W .i64 (0 - (W .i64 (a3))))))) 1073741824))).length) c2 cs4]) (by kernel_rfl) rfl rfl rfl ?_
           refine RL.s 3 [(183, .bool (decide (t6 ≤ (W .i64 ((W .i64 (t3 + ((((([] : List (List Int)) ++ t2).set ((W .i64 (a1)).tmod (t2.length : Int)).toNat ((([] : List Int) ++ (t2.getD ((W .i64 (a1)).tmod (t2.length : Int)).toNat [])).set ((W .i64 (a2)).tmod t5).toNat (iMin (W .i64 (((t2.getD ((W .i64 (a1)).tmod (t2.length : Int)).toNat []).getD ((W .i64 (a2)).tmod t5).toNat 0) + (iMax (W .i64 (a3)) (W .i64 (0 - (W .i64 (a3))))))) 1073741824))).getD ((W .i64 (a1)).tmod (t2.length : Int)).toNat []).getD ((W .i64 (a2)).tmod t5).toNat 0))) - ((t2.getD ((W .i64 (a1)).tmod (t2.length : Int)).toNat []).getD ((W .i64 (a2)).tmod t5).toNat 0)))))), (9, .bool t1)] ?_
           refine RL.cases (decide (t6 ≤ (W .i64 ((W .i64 (t3 + ((((([] : List (List Int)) ++ t2).set ((W .i64 (a1)).tmod (t2.length : Int)).toNat ((([] : List Int) ++ (t2.getD ((W .i64 (a1)).tmod (t2.length : Int)).toNat [])).set ((W .i64 (a2)).tmod t5).toNat (iMin (W .i64 (((t2.getD ((W .i64 (a1)).tmod (t2.length : Int)).toNat []).getD ((W .i64 (a2)).tmod t5).toNat 0) + (iMax (W .i64 (a3)) (W .i64 (0 - (W .i64 (a3))))))) 1073741824))).getD ((W .i64 (a1)).tmod (t2.length : Int)).toNat []).getD ((W .i64 (a2)).tmod t5).toNat 0))) - ((t2.getD ((W .i64 (a1)).tmod (t2.length : Int)).toNat []).getD ((W .i64 (a2)).tmod t5).toNat 0))))) (fun hb => ?_) (fun hb => ?_)
           ·have hc := (of_decide_eq_true hb)
            rw [hb]
            rw [if_pos hc] at H; clear hb
            refine RL.s 3 [(8, .bool t1)] ?_
            refine RL.nil (by kernel_rfl) ?_
            obtain rfl := Option.some.inj H
            refine QN.sel (K' := [(8, .bool t1)]) (L' := []) [] (by kernel_rfl) (by kernel_rfl) .slnil ?_
            refine QN.norm (X' := []) rfl rfl rfl (by kernel_rfl) ?_
            exact hJ7 _ _ _ _ _ ⟨t1, rfl, rfl, rfl, hi15, HK7⟩
           ·have hc := (of_decide_eq_false hb)
            rw [hb]
            rw [if_neg hc] at H; clear hb
            refine RL.s 3 [(8, .bool false)] ?_
            refine RL.nil (by kernel_rfl) ?_
            obtain rfl := Option.some.inj H
            refine QN.sel (K' := [(8, .bool false)]) (L' := []) [] (by kernel_rfl) (by kernel_rfl) .slnil ?_
            refine QN.norm (X' := []) rfl rfl rfl (by kernel_rfl) ?_
            exact hJ7 _ _ _ _ _ ⟨false, rfl, rfl, rfl, hi15, HK7⟩
          ·have hc4 := (of_decide_eq_false hb1)
           rw [if_neg hc4] at H
           refine OK.drawnC 31 22 O8_127 a8_127n (by kernel_rfl) (by kernel_rfl) u8d4l u8d4g [] (RI.nil _) [.no, .no, .no, .no, .no, .no, .no, .no, .no, .no, .no, .no, .no, .no, .no, .no, .no, .no, .no, .no, .no, .no] a8_127 a8_127o (by kernel_rfl) (by kernel_rfl) (u8d4s t3 t6) (u8d4f a1 a2 a3 t1 t2 A1 c1 t3 t5 A2 c2 t6 22) (u8d4v a1 a2 a3 t1 t2 A1 c1 t3 t5 A2 c2 t6) (u8d4e a1 a2 a3 t1 t2 A1 c1 t3 t5 A2 c2 t6) [] framesOk.nil ?_ [u8d4f a1 a2 a3 t1 t2 A1 c1 t3 t5 A2 c2 t6 3] (framesOk.cons (fun u => rfl) framesOk.nil) ?_ ?_
           ·refine LoudsG.nil
           ·refine Givens.cons (fun u w =>  ?_) (fun _ _ _ => rfl) (Givens.nil)
            ·exact giv_run (v := .bool (decide (t6 ≥ t3))) (by kernel_rfl) (by rw [hb1]; try rfl) w
           intro u I16 nx18 hi16 hF
           clear hF
           refine RL.norm (K' := ((180, undef) :: (179, undef) :: (178, undef) :: (177, undef) :: (176, undef) :: (175, undef) :: (174, undef) :: (173, undef) :: (172, undef) :: (171, undef) :: (170, undef) :: (169, undef) :: (168, undef) :: (167, undef) :: (166, undef) :: (165, undef) :: (164, undef) :: (163, undef) :: (162, .bool false) :: (161, .bool (decide (t6 ≥ t3))) :: (160, i6 t3) :: (159, i6 t6) :: (23, i6 t6) :: (22, .slice A2 (((([] : List (List Int)) ++ t2).set ((W .i64 (a1)).tmod (t2.length : Int)).toNat ((([] : List Int) ++ (t2.getD ((W .i64 (a1)).tmod (t2.length : Int)).toNat [])).set ((W .i64 (a2)).tmod t5).toNat (iMin (W .i64 (((t2.getD ((W .i64 (a1)).tmod (t2.length : Int)).toNat []).getD ((W .i64 (a2)).tmod t5).toNat 0) + (iMax (W .i64 (a3)) (W .i64 (0 - (W .i64 (a3))))))) 1073741824))).length) c2) :: (21, i6 ((W .i64 (a2)).tmod t5)) :: (20, i6 ((W .i64 (a1)).tmod (t2.length : Int))) :: (9, .bool t1) :: (10, .slice A1 t2.length c1) :: (11, i6 t3) :: [])) (X' := [orow 24 1 A2 (((([] : List (List Int)) ++ t2).set ((W .i64 (a1)).tmod (t2.length : Int)).toNat ((([] : List Int) ++ (t2.getD ((W .i64 (a1)).tmod (t2.length : Int)).toNat [])).set ((W .i64 (a2)).tmod t5).toNat (iMin (W .i64 (((t2.getD ((W .i64 (a1)).tmod (t2.length : Int)).toNat []).getD ((W .i64 (a2)).tmod t5).toNat 0) + (iMax (W .i64 (a3)) (W .i64 (0 - (W .i64 (a3))))))) 1073741824))).length) c2 cs4]) (by kernel_rfl) rfl rfl rfl ?_
           refine RL.s 6 [(8, .bool false)] ?_
           refine RL.nil (by kernel_rfl) ?_
           obtain rfl := Option.some.inj H
           refine QN.sel (K' := [(8, .bool false)]) (L' := []) [] (by kernel_rfl) (by kernel_rfl) .slnil ?_
           refine QN.norm (X' := []) rfl rfl rfl (by kernel_rfl) ?_
           exact hJ7 _ _ _ _ _ ⟨false, rfl, rfl, rfl, hi16, HK7⟩
       ·intro Q_3 hJ6 hQ6
        obtain ⟨y6, H, HK6⟩ := bnd H
        refine OK.rg ?_
        refine RL.s 3 [(102, .bool (decide (t4 < 0))), (19, i6 t4), (1, .int .u8 a1), (2, .int .u8 a2), (3, .int .i32 a3), (9, .bool t1), (10, .slice A1 t2.length c1), (11, i6 t3), (17, i6 x5)] ?_
        refine RL.cases (decide (t4 < 0)) (fun hb => ?_) (fun hb => ?_)
        ·have hc := (of_decide_eq_true hb)
         rw [hb]
         rw [if_pos hc] at H; clear hb
         refine RL.s 11 [(113, .bool true), (1, .int .u8 a1), (2, .int .u8 a2), (3, .int .i32 a3), (9, .bool t1), (10, .slice A1 t2.length c1), (11, i6 t3)] ?_
         refine RL.nil (by kernel_rfl) ?_
         obtain rfl := Option.some.inj H
         exact QN.sb (hJ6 _ _ _ _ _ ⟨true, rfl, rfl, rfl, (Imm.le_refl _), HK6⟩) .slnil (.refl _)
        ·have hc := (of_decide_eq_false hb)
         rw [hb]
         rw [if_neg hc] at H; clear hb
         refine RL.s 5 [(107, .bool (decide (t4 > t3))), (19, i6 t4), (1, .int .u8 a1), (2, .int .u8 a2), (3, .int .i32 a3), (9, .bool t1), (10, .slice A1 t2.length c1), (11, i6 t3), (17, i6 x5)] ?_
         refine RL.cases (decide (t4 > t3)) (fun hb => ?_) (fun hb => ?_)
         ·have hc := (of_decide_eq_true hb)
          rw [hb]
          rw [if_pos hc] at H; clear hb
          refine RL.s 6 [(113, .bool true), (1, .int .u8 a1), (2, .int .u8 a2), (3, .int .i32 a3), (9, .bool t1), (10, .slice A1 t2.length c1), (11, i6 t3)] ?_
          refine RL.nil (by kernel_rfl) ?_
          obtain rfl := Option.some.inj H
          exact QN.sb (hJ6 _ _ _ _ _ ⟨true, rfl, rfl, rfl, (Imm.le_refl _), HK6⟩) .slnil (.refl _)
         ·have hc := (of_decide_eq_false hb)
          rw [hb]
          rw [if_neg hc] at H; clear hb
          refine RL.s 6 [(113, .bool (decide (t4 < (W .i64 (t3 - x5))))), (1, .int .u8 a1), (2, .int .u8 a2), (3, .int .i32 a3), (9, .bool t1), (10, .slice A1 t2.length c1), (11, i6 t3)] ?_
          refine RL.nil (by kernel_rfl) ?_
          obtain rfl := Option.some.inj H
          exact QN.sb (hJ6 _ _ _ _ _ ⟨(decide (t4 < (W .i64 (t3 - x5)))), rfl, rfl, rfl, (Imm.le_refl _), HK6⟩) .slnil (.refl _)
      ·intro Q_4 hJ5 hQ5
       obtain ⟨y5, H, HK5⟩ := bnd H
       refine OK.bk 4 ?_
       refine OK.sub (K' := [(1, .int .u8 a1), (2, .int .u8 a2), (3, .int .i32 a3), (9, .bool t1), (10, .slice A1 t2.length c1), (11, i6 t3), (16, .slice A1_ ((t2.getD (W .i64 ((t2.length : Int) - 1)).toNat []).length) c1_), (17, i6 0), (18, i6 0)]) (L' := []) (by kernel_rfl) .slnil (.refl _) ?_
       refine OK.lp (fun n_ K' I' _ L' X' => ∃ (x8 : Int) (x9 : Int), K' = [(1, .int .u8 a1), (2, .int .u8 a2), (3, .int .i32 a3), (9, .bool t1), (10, .slice A1 t2.length c1), (11, i6 t3), (16, .slice A1_ ((t2.getD (W .i64 ((t2.length : Int) - 1)).toNat []).length) c1_), (17, i6 x8), (18, i6 x9)] ∧ L' = [] ∧ X' = [orow 24 1 A1 t2.length c1 cs1] ∧ Imm.le I5 I' ∧ armillarylaw22_AssignMonotonicity.l1 t2 n_ x8 x9 = some y5) k ⟨0, 0, rfl, rfl, rfl, (Imm.le_refl _), H⟩ ?_ ?_
       ·rintro _ _ _ _ _ ⟨x8, x9, rfl, rfl, rfl, _, H⟩
        cases H
       ·rintro kq1 _ I17 nx19 _ _ ⟨x8, x9, rfl, rfl, rfl, hi17, H⟩ Q_l1 hJ8 hQ8
        rw [armillarylaw22_AssignMonotonicity.l1] at H
        refine OK.sq ?_
        refine OK.sr ?_
        refine RL.st 4 [(85, .bool (decide (x9 < ((t2.getD (W .i64 ((t2.length : Int) - 1)).toNat []).length : Int)))), (1, .int .u8 a1), (2, .int .u8 a2), (3, .int .i32 a3), (9, .bool t1), (10, .slice A1 t2.length c1), (11, i6 t3), (16, .slice A1_ ((t2.getD (W .i64 ((t2.length : Int) - 1)).toNat []).length) c1_), (17, i6 x8), (18, i6 x9)] ?_
        refine OK.cd (decide (x9 < ((t2.getD (W .i64 ((t2.length : Int) - 1)).toNat []).length : Int))) (fun hb => ?_) (fun hb => ?_)
        ·skip
         have hc := (of_decide_eq_true hb)
         rw [if_pos hc] at H
         clear hb
         refine OK.skt ?_
         refine OK.sq ?_
         refine OK.bk 5 ?_
         refine OK.rg ?_
         refine RL.s 3 [(90, i6 x9), (89, .slice A1_ ((t2.getD (W .i64 ((t2.length : Int) - 1)).toNat []).length) c1_), (88, i6 x8), (1, .int .u8 a1), (2, .int .u8 a2), (3, .int .i32 a3), (9, .bool t1), (10, .slice A1 t2.length c1), (11, i6 t3), (16, .slice A1_ ((t2.getD (W .i64 ((t2.length : Int) - 1)).toNat []).length) c1_), (17, i6 x8), (18, i6 x9)] ?_
         obtain ⟨hib0, H⟩ := ifs H
         obtain ⟨hib1, H⟩ := ifs H
         obtain ⟨g12_, o12_, hA12_, hc12_⟩ := Ty.int_at (Rd.ext hi17 hr1_) x9 hib0 hib1
         refine RL.idx 1 .i64 x9 hA12_ ((t2.getD (W .i64 ((t2.length : Int) - 1)).toNat []).length) c1_ (some 91) (by kernel_rfl) (by kernel_rfl) (T := 24) (e := 2) (by kernel_rfl) (by kernel_rfl) hib0 hib1 (K' := [(91, pt g12_ (o12_ + (x9).toNat * 1)), (90, i6 x9), (89, .slice A1_ ((t2.getD (W .i64 ((t2.length : Int) - 1)).toNat []).length) c1_), (88, i6 x8), (1, .int .u8 a1), (2, .int .u8 a2), (3, .int .i32 a3), (9, .bool t1), (10, .slice A1 t2.length c1), (11, i6 t3), (16, .slice A1_ ((t2.getD (W .i64 ((t2.length : Int) - 1)).toNat []).length) c1_), (17, i6 x8), (18, i6 x9)]) (by kernel_rfl) ?_
         refine RL.simK (K' := [(17, i6 (iMax x8 ((t2.getD (W .i64 ((t2.length : Int) - 1)).toNat []).getD (x9).toNat 0))), (1, .int .u8 a1), (2, .int .u8 a2), (3, .int .i32 a3), (9, .bool t1), (10, .slice A1 t2.length c1), (11, i6 t3), (16, .slice A1_ ((t2.getD (W .i64 ((t2.length : Int) - 1)).toNat []).length) c1_), (18, i6 x9)]) [(⟨g12_, o12_ + (x9).toNat * 1, none⟩, i6 ((t2.getD (W .i64 ((t2.length : Int) - 1)).toNat []).getD (x9).toNat 0))] (RFacts.imm (hc12_ 0 _ rfl) (RFacts.nil _ _ _)) 3 [.r 0, .no, .no] (by kernel_rfl) (by kernel_rfl) ?_
         refine RL.nil (by kernel_rfl) ?_
         refine QN.blkN ?_
         refine QN.then_ ?_
         refine OK.rg ?_
         refine RL.s 3 [(18, i6 (W .i64 (x9 + 1))), (17, i6 (iMax x8 ((t2.getD (W .i64 ((t2.length : Int) - 1)).toNat []).getD (x9).toNat 0))), (1, .int .u8 a1), (2, .int .u8 a2), (3, .int .i32 a3), (9, .bool t1), (10, .slice A1 t2.length c1), (11, i6 t3), (16, .slice A1_ ((t2.getD (W .i64 ((t2.length : Int) - 1)).toNat []).length) c1_)] ?_
         refine RL.nil (by kernel_rfl) ?_
         exact QN.sb (hJ8 _ _ _ _ _ ⟨iMax x8 ((t2.getD (W .i64 ((t2.length : Int) - 1)).toNat []).getD (x9).toNat 0), W .i64 (x9 + 1), rfl, rfl, rfl, hi17, H⟩) .slnil (.refl _)
        ·skip
         have hc := (of_decide_eq_false hb)
         rw [if_neg hc] at H
         clear hb
         refine OK.ex 4 ?_
         refine QN.thenE ?_
         refine QN.outE hQ8 ?_
         refine QN.blkE ?_
         obtain rfl := Option.some.inj H
         exact QN.sb (hJ5 _ _ _ _ _ ⟨x8, rfl, rfl, rfl, hi17, HK5⟩) .slnil (.refl _)
    ·intro Q_5 hJ3 hQ3
     obtain ⟨y3, H, HK3⟩ := bnd H
     refine OK.rg ?_
     refine RL.s 4 [(66, .bool ((t2.length : Int) == 0)), (1, .int .u8 a1), (2, .int .u8 a2), (3, .int .i32 a3), (9, .bool t1), (10, .slice A1 t2.length c1), (11, i6 t3)] ?_
     refine RL.cases ((t2.length : Int) == 0) (fun hb => ?_) (fun hb => ?_)
     ·have hc := (beq_iff_eq.1 hb)
      rw [hb]
      rw [if_pos hc] at H; clear hb
      refine RL.s 4 [(70, .bool true), (1, .int .u8 a1), (2, .int .u8 a2), (3, .int .i32 a3), (9, .bool t1), (10, .slice A1 t2.length c1), (11, i6 t3)] ?_
      refine RL.nil (by kernel_rfl) ?_
      obtain rfl := Option.some.inj H
      exact QN.sb (hJ3 _ _ _ _ _ ⟨true, rfl, rfl, rfl, (Imm.le_refl _), HK3⟩) .slnil (.refl _)
     ·have hc := (beq_eq_false_iff_ne.1 hb)
      rw [hb]
      rw [if_neg hc] at H; clear hb
      refine RL.s 1 [(67, .slice A1 t2.length c1), (66, .bool false), (1, .int .u8 a1), (2, .int .u8 a2), (3, .int .i32 a3), (9, .bool t1), (10, .slice A1 t2.length c1), (11, i6 t3)] ?_
      obtain ⟨t7, hA7, H⟩ := bnd H
      refine RL.callP 21 [.slice A1 t2.length c1] (some 68) (fun w v w' => ∃ I', Imm.le I4 I' ∧ armillaryref22_Columns.Post I' w t7 v w') (by kernel_rfl) (by kernel_rfl) (fun w hs => ?_) ?_
      ·skip
       obtain ⟨JL3, hj3, hn3, hw3, hs⟩ := Sat.freeze (e := 24) (sz := 1) (S := A1) (n := t2.length) (cap := c1) (m := 0) hs (by kernel_rfl) (Reps.ext (Imm.le_trans hi3 hi4) hp1) rfl
       exact (armillaryref22_Columns.calls JL3 t2 A1 c1 _ hs.im hn3 hw3 t7 hA7).mono (fun e w' ⟨v, hv, hp⟩ => ⟨v, hv, JL3, hj3, hp⟩)
      rintro w v w' hs ⟨I', hle, J, rfl, hg⟩
      refine RL.resume (X' := [orow 24 1 A1 t2.length c1 cs1]) rfl (hs.call (hg.back hle)) ?_
      clear hs hg hle I' J
      generalize w'.heap.size = nx20
      clear w w'
      refine RL.s 2 [(70, .bool (t7 == 0)), (1, .int .u8 a1), (2, .int .u8 a2), (3, .int .i32 a3), (9, .bool t1), (10, .slice A1 t2.length c1), (11, i6 t3)] ?_
      refine RL.nil (by kernel_rfl) ?_
      obtain rfl := Option.some.inj H
      exact QN.sb (hJ3 _ _ _ _ _ ⟨(t7 == 0), rfl, rfl, rfl, (Imm.le_refl _), HK3⟩) .slnil (.refl _)
  ·intro Q_6 hJ2 hQ2
   obtain ⟨y2, H, HK2⟩ := bnd H
   refine OK.rg ?_
   refine RL.s 3 [(58, .bool (decide (t3 < 0))), (1, .int .u8 a1), (2, .int .u8 a2), (3, .int .i32 a3), (9, .bool t1), (10, .slice A1 t2.length c1), (11, i6 t3), (12, i6 x1)] ?_
   refine RL.cases (decide (t3 < 0)) (fun hb => ?_) (fun hb => ?_)
   ·have hc := (of_decide_eq_true hb)
    rw [hb]
    rw [if_pos hc] at H; clear hb
    refine RL.s 4 [(62, .bool true), (1, .int .u8 a1), (2, .int .u8 a2), (3, .int .i32 a3), (9, .bool t1), (10, .slice A1 t2.length c1), (11, i6 t3)] ?_
    refine RL.nil (by kernel_rfl) ?_
    obtain rfl := Option.some.inj H
    exact QN.sb (hJ2 _ _ _ _ _ ⟨true, rfl, rfl, rfl, (Imm.le_refl _), HK2⟩) .slnil (.refl _)
   ·have hc := (of_decide_eq_false hb)
    rw [hb]
    rw [if_neg hc] at H; clear hb
    refine RL.s 4 [(62, .bool (decide (t3 > x1))), (1, .int .u8 a1), (2, .int .u8 a2), (3, .int .i32 a3), (9, .bool t1), (10, .slice A1 t2.length c1), (11, i6 t3)] ?_
    refine RL.nil (by kernel_rfl) ?_
    obtain rfl := Option.some.inj H
    exact QN.sb (hJ2 _ _ _ _ _ ⟨(decide (t3 > x1)), rfl, rfl, rfl, (Imm.le_refl _), HK2⟩) .slnil (.refl _)
 ·intro Q_7 hJ1 hQ1
  obtain ⟨y1, H, HK1⟩ := bnd H
  refine OK.bk 0 ?_
  refine OK.sub (K' := [(1, .int .u8 a1), (2, .int .u8 a2), (3, .int .i32 a3), (9, .bool t1), (10, .slice A1 t2.length c1), (11, i6 t3), (12, i6 0), (13, i6 0)]) (L' := []) (by kernel_rfl) .slnil (.refl _) ?_
  refine OK.lp (fun n_ K' I' _ L' X' => ∃ (x10 : Int) (x11 : Int), K' = [(1, .int .u8 a1), (2, .int .u8 a2), (3, .int .i32 a3), (9, .bool t1), (10, .slice A1 t2.length c1), (11, i6 t3), (12, i6 x10), (13, i6 x11)] ∧ L' = [] ∧ X' = [orow 24 1 A1 t2.length c1 cs1] ∧ Imm.le I2 I' ∧ armillarylaw22_AssignMonotonicity.l2 t2 n_ x10 x11 = some y1) k ⟨0, 0, rfl, rfl, rfl, (Imm.le_refl _), H⟩ ?_ ?_
  ·rintro _ _ _ _ _ ⟨x10, x11, rfl, rfl, rfl, _, H⟩
   cases H
  ·rintro kq2 _ I18 nx21 _ _ ⟨x10, x11, rfl, rfl, rfl, hi18, H⟩ Q_l2 hJ9 hQ9
   rw [armillarylaw22_AssignMonotonicity.l2] at H
   refine OK.sq ?_
   refine OK.sr ?_
   refine RL.st 4 [(32, .bool (decide (x11 < (t2.length : Int)))), (1, .int .u8 a1), (2, .int .u8 a2), (3, .int .i32 a3), (9, .bool t1), (10, .slice A1 t2.length c1), (11, i6 t3), (12, i6 x10), (13, i6 x11)] ?_
   refine OK.cd (decide (x11 < (t2.length : Int))) (fun hb => ?_) (fun hb => ?_)
   ·skip
    have hc := (of_decide_eq_true hb)
    rw [if_pos hc] at H
    clear hb
    refine OK.skt ?_
    refine OK.sq ?_
    refine OK.join (fun K' I' _ L' X' => ∃ (x12 : Int), K' = [(1, .int .u8 a1), (2, .int .u8 a2), (3, .int .i32 a3), (9, .bool t1), (10, .slice A1 t2.length c1), (11, i6 t3), (12, i6 x12), (13, i6 x11)] ∧ L' = [] ∧ X' = [orow 24 1 A1 t2.length c1 cs1] ∧ Imm.le I18 I' ∧ (armillarylaw22_AssignMonotonicity.l2 t2 kq2 x12 (W .i64 (x11 + 1))) = some y1) ?_ ?_
    ·rintro _ I19 nx22 _ _ ⟨x12, rfl, rfl, rfl, hi19, H⟩
     replace H : (armillarylaw22_AssignMonotonicity.l2 t2 kq2 x12 (W .i64 (x11 + 1))) = some y1 := H
     refine QN.then_ ?_
     refine OK.rg ?_
     refine RL.s 3 [(13, i6 (W .i64 (x11 + 1))), (1, .int .u8 a1), (2, .int .u8 a2), (3, .int .i32 a3), (9, .bool t1), (10, .slice A1 t2.length c1), (11, i6 t3), (12, i6 x12)] ?_
     refine RL.nil (by kernel_rfl) ?_
     exact QN.sb (hJ9 _ _ _ _ _ ⟨x12, W .i64 (x11 + 1), rfl, rfl, rfl, (Imm.le_trans hi18 hi19), H⟩) .slnil (.refl _)
    ·intro Q_8 hJ10 hQ10
     obtain ⟨y8, H, HK8⟩ := bnd H
     refine OK.bk 1 ?_
     refine OK.sr ?_
     refine RL.st 1 [(14, i6 0), (1, .int .u8 a1), (2, .int .u8 a2), (3, .int .i32 a3), (9, .bool t1), (10, .slice A1 t2.length c1), (11, i6 t3), (12, i6 x10), (13, i6 x11)] ?_
     refine OK.sq ?_
     refine OK.sr ?_
     refine RL.st 1 [(15, i6 0), (14, i6 0), (1, .int .u8 a1), (2, .int .u8 a2), (3, .int .i32 a3), (9, .bool t1), (10, .slice A1 t2.length c1), (11, i6 t3), (12, i6 x10), (13, i6 x11)] ?_
     refine OK.join (fun K' I' _ L' X' => ∃ (x13 : Int), K' = [(1, .int .u8 a1), (2, .int .u8 a2), (3, .int .i32 a3), (9, .bool t1), (10, .slice A1 t2.length c1), (11, i6 t3), (12, i6 x10), (13, i6 x11), (14, i6 x13)] ∧ L' = [] ∧ X' = [orow 24 1 A1 t2.length c1 cs1] ∧ Imm.le I18 I' ∧ armillarylaw22_AssignMonotonicity.k9 x10 x13 = some y8) ?_ ?_
     ·rintro _ I20 nx23 _ _ ⟨x13, rfl, rfl, rfl, hi20, H⟩
      rw [armillarylaw22_AssignMonotonicity.k9] at H
      refine QN.then_ ?_
      refine OK.rg ?_
      refine RL.s 4 [(12, i6 (W .i64 (x10 + x13))), (1, .int .u8 a1), (2, .int .u8 a2), (3, .int .i32 a3), (9, .bool t1), (10, .slice A1 t2.length c1), (11, i6 t3), (13, i6 x11)] ?_
      refine RL.nil (by kernel_rfl) ?_
      refine QN.blkN ?_
      obtain rfl := Option.some.inj H
      exact QN.sb (hJ10 _ _ _ _ _ ⟨W .i64 (x10 + x13), rfl, rfl, rfl, hi20, HK8⟩) .slnil (.refl _)
     ·intro Q_9 hJ11 hQ11
      obtain ⟨y9, H, HK9⟩ := bnd H
      refine OK.bk 2 ?_
      refine OK.sub (K' := [(1, .int .u8 a1), (2, .int .u8 a2), (3, .int .i32 a3), (9, .bool t1), (10, .slice A1 t2.length c1), (11, i6 t3), (12, i6 x10), (13, i6 x11), (14, i6 0), (15, i6 0)]) (L' := []) (by kernel_rfl) .slnil (.refl _) ?_
      refine OK.lp (fun n_ K' I' _ L' X' => ∃ (x14 : Int) (x15 : Int), K' = [(1, .int .u8 a1), (2, .int .u8 a2), (3, .int .i32 a3), (9, .bool t1), (10, .slice A1 t2.length c1), (11, i6 t3), (12, i6 x10), (13, i6 x11), (14, i6 x14), (15, i6 x15)] ∧ L' = [] ∧ X' = [orow 24 1 A1 t2.length c1 cs1] ∧ Imm.le I18 I' ∧ armillarylaw22_AssignMonotonicity.l3 t2 x11 n_ x14 x15 = some y9) kq2 ⟨0, 0, rfl, rfl, rfl, (Imm.le_refl _), H⟩ ?_ ?_
      ·rintro _ _ _ _ _ ⟨x14, x15, rfl, rfl, rfl, _, H⟩
       cases H
      ·rintro kq3 _ I21 nx24 _ _ ⟨x14, x15, rfl, rfl, rfl, hi21, H⟩ Q_l3 hJ12 hQ12
       rw [armillarylaw22_AssignMonotonicity.l3] at H
       refine OK.sq ?_
       refine OK.sr ?_
       refine RL.s 3 [(37, i6 x11), (36, .slice A1 t2.length c1), (35, i6 x15), (1, .int .u8 a1), (2, .int .u8 a2), (3, .int .i32 a3), (9, .bool t1), (10, .slice A1 t2.length c1), (11, i6 t3), (12, i6 x10), (13, i6 x11), (14, i6 x14), (15, i6 x15)] ?_
       obtain ⟨hib0, H⟩ := ifs H
       obtain ⟨hib1, H⟩ := ifs H
       have hx013_ := hib0; have hx113_ := hib1
       refine RL.ownAddr (e := 24) (sz := 1) (S := A1) (n := t2.length) (cap := c1) (cs := cs1) 0 (by kernel_rfl) (by omega) (fun g13_ hA13_ => ?_)
       obtain ⟨A13_, c13_, hl13_, hr13_, hc13_⟩ := Ty.slice_own (Reps.ext (Imm.le_trans hi18 hi21) hp1) x11 hib0 hib1
       refine RL.idx 1 .i64 x11 hA13_ t2.length c1 (some 38) (by kernel_rfl) (by kernel_rfl) (T := 22) (e := 24) (by kernel_rfl) (by kernel_rfl) hib0 hib1 (K' := [(38, pt g13_ (0 + (x11).toNat * 1)), (37, i6 x11), (36, .slice A1 t2.length c1), (35, i6 x15), (1, .int .u8 a1), (2, .int .u8 a2), (3, .int .i32 a3), (9, .bool t1), (10, .slice A1 t2.length c1), (11, i6 t3), (12, i6 x10), (13, i6 x11), (14, i6 x14), (15, i6 x15)]) (by kernel_rfl) ?_
       refine RL.simK (K' := [(41, .bool (decide (x15 < ((t2.getD (x11).toNat []).length : Int)))), (1, .int .u8 a1), (2, .int .u8 a2), (3, .int .i32 a3), (9, .bool t1), (10, .slice A1 t2.length c1), (11, i6 t3), (12, i6 x10), (13, i6 x11), (14, i6 x14), (15, i6 x15)]) [(⟨g13_, 0 + (x11).toNat * 1, none⟩, .slice A13_ ((t2.getD (x11).toNat []).length) c13_)] (RFacts.ownQ (e := 24) (sz := 1) (S := A1) (n := t2.length) (cap := c1) (cs := cs1) 0 (by kernel_rfl) hA13_ (0 + (x11).toNat * 1) ((x11).toNat * 1 + 0) (by omega) (hc13_ 0 _ rfl) (RFacts.nil _ _ _)) 3 [.r 0, .no, .no] (by kernel_rfl) (by kernel_rfl) ?_
       refine RL.nt ?_
       refine OK.cd (decide (x15 < ((t2.getD (x11).toNat []).length : Int))) (fun hb => ?_) (fun hb => ?_)
       ·skip
        have hc := (of_decide_eq_true hb)
        rw [if_pos hc] at H
        clear hb
        refine OK.skt ?_
        refine OK.sq ?_
        refine OK.bk 3 ?_
        refine OK.rg ?_
        refine RL.s 3 [(46, i6 x11), (45, .slice A1 t2.length c1), (44, i6 x14), (1, .int .u8 a1), (2, .int .u8 a2), (3, .int .i32 a3), (9, .bool t1), (10, .slice A1 t2.length c1), (11, i6 t3), (12, i6 x10), (13, i6 x11), (14, i6 x14), (15, i6 x15)] ?_
        obtain ⟨hib0, H⟩ := ifs H
        obtain ⟨hib1, H⟩ := ifs H
        have hx014_ := hib0; have hx114_ := hib1
        refine RL.ownAddr (e := 24) (sz := 1) (S := A1) (n := t2.length) (cap := c1) (cs := cs1) 0 (by kernel_rfl) (by omega) (fun g14_ hA14_ => ?_)
        obtain ⟨A14_, c14_, hl14_, hr14_, hc14_⟩ := Ty.slice_own (Reps.ext (Imm.le_trans hi18 hi21) hp1) x11 hib0 hib1
        refine RL.idx 1 .i64 x11 hA14_ t2.length c1 (some 47) (by kernel_rfl) (by kernel_rfl) (T := 22) (e := 24) (by kernel_rfl) (by kernel_rfl) hib0 hib1 (K' := [(47, pt g14_ (0 + (x11).toNat * 1)), (46, i6 x11), (45, .slice A1 t2.length c1), (44, i6 x14), (1, .int .u8 a1), (2, .int .u8 a2), (3, .int .i32 a3), (9, .bool t1), (10, .slice A1 t2.length c1), (11, i6 t3), (12, i6 x10), (13, i6 x11), (14, i6 x14), (15, i6 x15)]) (by kernel_rfl) ?_
        refine RL.simK (K' := [(49, i6 x15), (48, .slice A14_ ((t2.getD (x11).toNat []).length) c14_), (44, i6 x14), (1, .int .u8 a1), (2, .int .u8 a2), (3, .int .i32 a3), (9, .bool t1), (10, .slice A1 t2.length c1), (11, i6 t3), (12, i6 x10), (13, i6 x11), (14, i6 x14), (15, i6 x15)]) [(⟨g14_, 0 + (x11).toNat * 1, none⟩, .slice A14_ ((t2.getD (x11).toNat []).length) c14_)] (RFacts.ownQ (e := 24) (sz := 1) (S := A1) (n := t2.length) (cap := c1) (cs := cs1) 0 (by kernel_rfl) hA14_ (0 + (x11).toNat * 1) ((x11).toNat * 1 + 0) (by omega) (hc14_ 0 _ rfl) (RFacts.nil _ _ _)) 2 [.r 0, .no] (by kernel_rfl) (by kernel_rfl) ?_
        obtain ⟨hib0, H⟩ := ifs H
        obtain ⟨hib1, H⟩ := ifs H
        obtain ⟨g15_, o15_, hA15_, hc15_⟩ := Ty.int_at hr14_ x15 hib0 hib1
        refine RL.idx 1 .i64 x15 hA15_ ((t2.getD (x11).toNat []).length) c14_ (some 50) (by kernel_rfl) (by kernel_rfl) (T := 24) (e := 2) (by kernel_rfl) (by kernel_rfl) hib0 hib1 (K' := [(50, pt g15_ (o15_ + (x15).toNat * 1)), (49, i6 x15), (48, .slice A14_ ((t2.getD (x11).toNat []).length) c14_), (44, i6 x14), (1, .int .u8 a1), (2, .int .u8 a2), (3, .int .i32 a3), (9, .bool t1), (10, .slice A1 t2.length c1), (11, i6 t3), (12, i6 x10), (13, i6 x11), (14, i6 x14), (15, i6 x15)]) (by kernel_rfl) ?_
        refine RL.simK (K' := [(14, i6 (iMax x14 ((t2.getD (x11).toNat []).getD (x15).toNat 0))), (1, .int .u8 a1), (2, .int .u8 a2), (3, .int .i32 a3), (9, .bool t1), (10, .slice A1 t2.length c1), (11, i6 t3), (12, i6 x10), (13, i6 x11), (15, i6 x15)]) [(⟨g15_, o15_ + (x15).toNat * 1, none⟩, i6 ((t2.getD (x11).toNat []).getD (x15).toNat 0))] (RFacts.imm (hc15_ 0 _ rfl) (RFacts.nil _ _ _)) 3 [.r 0, .no, .no] (by kernel_rfl) (by kernel_rfl) ?_
        refine RL.nil (by kernel_rfl) ?_
        refine QN.blkN ?_
        refine QN.then_ ?_
        refine OK.rg ?_
        refine RL.s 3 [(15, i6 (W .i64 (x15 + 1))), (14, i6 (iMax x14 ((t2.getD (x11).toNat []).getD (x15).toNat 0))), (1, .int .u8 a1), (2, .int .u8 a2), (3, .int .i32 a3), (9, .bool t1), (10, .slice A1 t2.length c1), (11, i6 t3), (12, i6 x10), (13, i6 x11)] ?_
        refine RL.nil (by kernel_rfl) ?_
        exact QN.sb (hJ12 _ _ _ _ _ ⟨iMax x14 ((t2.getD (x11).toNat []).getD (x15).toNat 0), W .i64 (x15 + 1), rfl, rfl, rfl, hi21, H⟩) .slnil (.refl _)
       ·skip
        have hc := (of_decide_eq_false hb)
        rw [if_neg hc] at H
        clear hb
        refine OK.ex 2 ?_
        refine QN.thenE ?_
        refine QN.outE hQ12 ?_
        refine QN.blkE ?_
        obtain rfl := Option.some.inj H
        exact QN.sb (hJ11 _ _ _ _ _ ⟨x14, rfl, rfl, rfl, hi21, HK9⟩) .slnil (.refl _)
   ·skip
    have hc := (of_decide_eq_false hb)
    rw [if_neg hc] at H
    clear hb
    refine OK.ex 0 ?_
    refine QN.thenE ?_
    refine QN.outE hQ9 ?_
    refine QN.blkE ?_
    obtain rfl := Option.some.inj H
    exact QN.sb (hJ1 _ _ _ _ _ ⟨x10, rfl, rfl, rfl, hi18, HK1⟩) .slnil (.refl _)

end Go.Proofs.Ytdmhbcgmimfjcaa
namespace Go.Proofs.Ytdmhbcgmimfjcaa.RW
open Go Go.RowKit

/-- The whole memory, as cells that never turn. -/
def wImm (W : World) : Imm := look W
theorem wImm_at (W : World) : (wImm W).at_ W := fun _ _ h => h
/-- What reads as a datum of type t is told by d, with p. -/
def Opens (P : Program) {α : Type} (d : Ty α) (t : TypeId) (p : α → Prop) : Prop :=
 ∀ {H : Type} {enc : TypeId × Value → H} (W : World) (base : Nat) (sp : Nat → Bool) (held : Bool) (fuel : Nat) (cs : List Value) (x : DataW H × List MemPlace), DataW.trod enc P W base sp held fuel t cs = some x → ∃ a, d.K (wImm W) a cs ∧ p a

section
variable {P : Program} {α β : Type} {d : Ty α} {t e : TypeId} {p : α → Prop}
theorem opens_int {k : IntKind} (ht : P.underlying t = some (.int k)) : Opens P (Ty.int k) t (fun n => (Lit.int k n).wf = true) := by
 intro H enc W base sp held fuel cs x h
 obtain ⟨n, rfl, _, hw⟩ := DataW.trod_int ht h
 exact ⟨n, rfl, hw⟩
theorem opens_bool (ht : P.underlying t = some .bool) : Opens P Ty.bool t (fun _ => True) := by
 intro H enc W base sp held fuel cs x h
 obtain ⟨b, rfl, _⟩ := DataW.trod_bool ht h
 exact ⟨b, rfl, trivial⟩
theorem opens_string (ht : P.underlying t = some .string) : Opens P Ty.string t (fun s => s.size ≤ maxLen) := by
 intro H enc W base sp held fuel cs x h
 obtain ⟨s, rfl, _, hs⟩ := DataW.trod_string ht h
 exact ⟨s, rfl, hs⟩
theorem add_add {a : Addr} (h : a.spot = none) (n m : Nat) : (a.add n).add m = ⟨a.block, a.off + n + m, none⟩ := by
 obtain ⟨b, o, s⟩ := a
 obtain rfl : s = none := h
 unfold Addr.add
 split <;> split <;> simp_all
theorem opens_slice (ho : Opens P d e p) (ht : P.underlying t = some (.slice e)) (hsz : P.cellsOf e = d.sz) (hpos : 0 < d.sz) : Opens P (Ty.slice d) t (fun l => ∀ x ∈ l, p x) := by
 intro H enc W base sp held fuel cs x h
 rcases DataW.trod_slice ht h with ⟨rfl, _⟩ | ⟨a, len, cap, elems, rest, n, _, rfl, _, hb, hl, hm, hlen, hel, _, _⟩
 ·exact ⟨[], ⟨none, 0, rfl, Nat.le_refl _, Rd.nil _ _ _⟩, fun x hx => by cases hx⟩
 ·have hsp0 : 0 < len → a.spot = none := by
   intro hi
   have h1 := hel 0 hi
   rw [List.getElem?_eq_getElem (by rw [hlen]; exact hi), Option.bind_eq_some_iff] at h1
   obtain ⟨c, hc, hy⟩ := h1
   obtain ⟨_, hcl, hcell⟩ := World.cells?_some hc
   have h2 := hcell 0 (by rw [hsz]; exact hpos)
   have hlt : 0 < c.length := by rw [hcl, hsz]; exact hpos
   rw [List.getElem?_eq_getElem hlt, show (a.add (0 * P.cellsOf e)).add 0 = a from by simp [Addr.add]] at h2
   cases hsp : a.spot with
   | none => rfl
   | some s =>
    exfalso
    unfold World.cell? at h2
    split at h2
    ·rw [hsp] at h2; simp at h2
    ·cases h2
  have each : ∀ i, i < len → ∃ v c, d.K (wImm W) v c ∧ p v ∧ a.spot = none ∧ ∀ q u, c[q]? = some u → wImm W ⟨a.block, a.off + i * d.sz + q, none⟩ = some u := by
   intro i hi
   have h1 := hel i hi
   rw [List.getElem?_eq_getElem (by rw [hlen]; exact hi), Option.bind_eq_some_iff] at h1
   obtain ⟨c, hc, hy⟩ := h1
   obtain ⟨v, hk, hp⟩ := ho W base sp held n c _ hy
   obtain ⟨_, hcl, hcell⟩ := World.cells?_some hc
   have hspot := hsp0 (by omega)
   refine ⟨v, c, hk, hp, hspot, fun q u hu => ?_⟩
   have hql : q < c.length := (List.getElem?_eq_some_iff.1 hu).1
   have h2 := hcell q (by rw [← hcl]; exact hql)
   rw [add_add hspot, hsz, hu] at h2
   exact h2
  have build : ∀ n, n ≤ len → ∃ l : List α, l.length = n ∧ (∀ x ∈ l, p x) ∧ ∀ (j : Nat) (v : α), l[j]? = some v → ∃ c, d.K (wImm W) v c ∧ a.spot = none ∧ ∀ q u, c[q]? = some u → wImm W ⟨a.block, a.off + j * d.sz + q, none⟩ = some u := by
   intro n
   induction n with
   | zero => intro _; exact ⟨[], rfl, (fun x hx => by cases hx), fun j v hj => by cases hj⟩
   | succ n ih =>
    intro hn
    obtain ⟨l, hl1, hl2, hl3⟩ := ih (by omega)
    obtain ⟨v, c, hk, hp, hs, hc⟩ := each n (by omega)
    refine ⟨l ++ [v], by simp [hl1], fun x hx => ?_, fun j w hj => ?_⟩
    ·rcases List.mem_append.1 hx with hx | hx
     ·exact hl2 x hx
     ·rw [List.mem_singleton.1 hx]; exact hp
    ·rcases Nat.lt_or_ge j l.length with hlt | hge
     ·rw [List.getElem?_append_left hlt] at hj
      exact hl3 j w hj
     ·rw [List.getElem?_append_right hge] at hj
      have hj0 : j - l.length = 0 := by
       rcases Nat.eq_zero_or_pos (j - l.length) with h0 | h0
       ·exact h0
       ·rw [List.getElem?_eq_none (by simp; omega)] at hj; cases hj
      rw [hj0] at hj
      simp only [List.getElem?_cons_zero, Option.some.injEq] at hj
      subst hj
      obtain rfl : j = n := by omega
      exact ⟨c, hk, hs, hc⟩
  obtain ⟨l, hl1, hl2, hl3⟩ := build len (Nat.le_refl _)
  refine ⟨l, ⟨some a, cap, by rw [hl1], by omega, ⟨by unfold maxLen at hm; omega, fun hne => ?_⟩⟩, hl2⟩
  have h0 : 0 < l.length := List.length_pos_iff.2 hne
  obtain ⟨_, _, hs, _⟩ := hl3 0 _ (List.getElem?_eq_getElem h0)
  refine ⟨a.block, a.off, by obtain ⟨b, o, s⟩ := a; simp_all, fun j v hj => ?_⟩
  obtain ⟨c, hk, _, hc⟩ := hl3 j v hj
  exact ⟨c, hk, hc⟩

/-- The fields of a struct, from cell 'off' on. -/
def offs : Nat → List (TypeId × Nat) → List (TypeId × Nat × Nat)
 | _, [] => []
 | o, (t, n) :: r => (t, o, n) :: offs (o + n) r
def total : List (TypeId × Nat) → Nat
 | [] => 0
 | (_, n) :: r => n + total r
def OpensF (P : Program) {α : Type} (d : Ty α) (fl : List (TypeId × Nat)) (p : α → Prop) : Prop :=
 ∀ {H : Type} {enc : TypeId × Value → H} (W : World) (base : Nat) (sp : Nat → Bool) (held : Bool) (fuel off : Nat) (cs : List Value),
  (∀ q ∈ offs off fl, ∃ x, DataW.trod enc P W base sp held fuel q.1 ((cs.drop q.2.1).take q.2.2) = some x) → cs.length = off + total fl → ∃ a, d.K (wImm W) a (cs.drop off) ∧ p a
theorem opensF_one (ho : Opens P d t p) (n : Nat) : OpensF P d [(t, n)] p := by
 intro H enc W base sp held fuel off cs h hl
 obtain ⟨x, hx⟩ := h _ List.mem_cons_self
 simp only [total, Nat.add_zero] at hl
 have e : (cs.drop off).take n = cs.drop off := List.take_of_length_le (by rw [List.length_drop]; omega)
 simp only at hx
 rw [e] at hx
 exact ho W base sp held fuel _ x hx
theorem opensF_cons {d2 : Ty β} {fl : List (TypeId × Nat)} {q : β → Prop} (n : Nat) (ho : Opens P d t p) (hr : OpensF P d2 fl q) : OpensF P (Ty.pair d d2) ((t, n) :: fl) (fun x => p x.1 ∧ q x.2) := by
 intro H enc W base sp held fuel off cs h hl
 simp only [total] at hl
 obtain ⟨x, hx⟩ := h _ List.mem_cons_self
 obtain ⟨a, hk, hp⟩ := ho W base sp held fuel _ x hx
 obtain ⟨b, hk2, hp2⟩ := hr (enc := enc) W base sp held fuel (off + n) cs (fun q hq => h q (List.mem_cons_of_mem _ hq)) (by omega)
 refine ⟨(a, b), ⟨_, _, ?_, hk, hk2⟩, hp, hp2⟩
 simp only
 rw [← List.drop_drop, List.take_append_drop]
theorem opens_struct {fl : List (TypeId × Nat)} (ho : OpensF P d fl p) (ht : P.underlying t = some (.struct (P.fieldsOf t))) (hf : (P.fieldsOf t).toList.map (fun f => (f.type, f.offset, P.cellsOf f.type)) = offs 0 fl) (hc : P.cellsOf t = total fl)
  (f : β → α) (g : α → β) (hg : ∀ y, f (g y) = y) : Opens P (Ty.iso d f) t (fun x => p (f x)) := by
 intro H enc W base sp held fuel cs x h
 obtain ⟨xs, n, _, _, hcl, hxl, hx⟩ := DataW.trod_struct ht h
 have hseg : ∀ q ∈ offs 0 fl, ∃ x, DataW.trod enc P W base sp held n q.1 ((cs.drop q.2.1).take q.2.2) = some x := by
  intro q hq
  rw [← hf] at hq
  obtain ⟨f, hfm, rfl⟩ := List.mem_map.1 hq
  obtain ⟨i, hi, hif⟩ := List.getElem_of_mem hfm
  have h1 := hx i f (by rw [← Array.getElem?_toList, List.getElem?_eq_getElem hi, hif])
  have h2 : i < xs.length := by rw [hxl]; simpa using hi
  rw [List.getElem?_eq_getElem h2] at h1
  exact ⟨_, h1⟩
 obtain ⟨a, hk, hp⟩ := ho W base sp held n 0 cs hseg (by rw [hcl, hc, Nat.zero_add])
 refine ⟨g a, ?_, by show p (f (g a)); rw [hg]; exact hp⟩
 show d.K (wImm W) (f (g a)) cs
 rw [hg]
 exact hk
theorem opens_array {n : Nat} {fl : List (TypeId × Nat)} (ho : OpensF P d fl p) (ht : P.underlying t = some (.array n e)) (hf : (List.range n).map (fun i => (e, i * P.cellsOf e, P.cellsOf e)) = offs 0 fl) (hc : P.cellsOf t = total fl)
  (f : β → α) (g : α → β) (hg : ∀ y, f (g y) = y) : Opens P (Ty.iso d f) t (fun x => p (f x)) := by
 intro H enc W base sp held fuel cs x h
 obtain ⟨xs, m, _, _, hcl, hxl, hx⟩ := DataW.trod_array ht h
 have hseg : ∀ q ∈ offs 0 fl, ∃ x, DataW.trod enc P W base sp held m q.1 ((cs.drop q.2.1).take q.2.2) = some x := by
  intro q hq
  rw [← hf] at hq
  obtain ⟨i, hi, rfl⟩ := List.mem_map.1 hq
  have hi' := List.mem_range.1 hi
  have h1 := hx i hi'
  rw [List.getElem?_eq_getElem (show i < xs.length by omega)] at h1
  exact ⟨_, h1⟩
 obtain ⟨a, hk, hp⟩ := ho W base sp held m 0 cs hseg (by rw [hcl, hc, Nat.zero_add])
 refine ⟨g a, ?_, by show p (f (g a)); rw [hg]; exact hp⟩
 show d.K (wImm W) (f (g a)) cs
 rw [hg]
 exact hk
end
end Go.Proofs.Ytdmhbcgmimfjcaa.RW
namespace Go.Proofs.Ytdmhbcgmimfjcaa
open Go Go.Proofs.Ytdmhbcgmimfjcaa.RW
set_option linter.unusedVariables false
set_option maxRecDepth 100000
set_option maxHeartbeats 8000000

-- p58: no reading of the kind array
def p26 (x : S26) : Prop := (fun l => ∀ x ∈ l, (fun n => (Lit.int .i64 n).wf = true) x) x.f0 ∧ (fun l => ∀ x ∈ l, (fun n => (Lit.int .i64 n).wf = true) x) x.f1
theorem o26 : Opens Try.prog t26 26 p26 :=
 opens_struct (fl := [(24, 1), (24, 1)]) (opensF_cons 1 (opens_slice (e := 2) (opens_int (by kernel_rfl)) (by kernel_rfl) (by kernel_rfl) (Nat.le_of_ble_eq_true (by kernel_rfl))) (opensF_one (opens_slice (e := 2) (opens_int (by kernel_rfl)) (by kernel_rfl) (by kernel_rfl) (Nat.le_of_ble_eq_true (by kernel_rfl))) 1)) (by kernel_rfl) (by kernel_rfl) (by kernel_rfl) (fun (x : S26) => (x.f0, x.f1)) (fun y => ⟨y.1, y.2⟩) (fun _ => rfl)
def p39 (x : S39) : Prop := (fun n => (Lit.int .i32 n).wf = true) x.f0 ∧ (fun n => (Lit.int .i32 n).wf = true) x.f1
theorem o39 : Opens Try.prog t39 39 p39 :=
 opens_array (n := 2) (e := 21) (fl := [(21, 1), (21, 1)]) (opensF_cons 1 (opens_int (by kernel_rfl)) (opensF_one (opens_int (by kernel_rfl)) 1)) (by kernel_rfl) (by kernel_rfl) (by kernel_rfl) (fun (x : S39) => (x.f0, x.f1)) (fun y => ⟨y.1, y.2⟩) (fun _ => rfl)

end Go.Proofs.Ytdmhbcgmimfjcaa
