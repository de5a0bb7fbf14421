/- What a function of the program computes, and the walk that shows it; made by a program of the session's out of the translation; no conditions beyond those that the theorems name. -/
import Derived.Test.YtiomeaoeegikkaaDoorY3
import Derived.Test.YtiomeaoeegikkaaDoorY5
import Derived.Test.YtiomeaoeegikkaaDoorY6
import Derived.Test.YtiomeaoeegikkaaDoorY4
import Derived.Test.YtiomeaoeegikkaaDoorRows
import Derived.Test.YtiomeaoeegikkaaDoorCards
import Derived.Test.YtiomeaoeegikkaaDoorTie
import Derived.SevenTiedAt
import Derived.WalkKit
import Derived.ProofKit
import Derived.OpenShut
import Derived.ShutString
import Derived.ChangeOld
import Derived.Below
import Derived.Carry
import Derived.WideShapes
namespace Go.Proofs.YtiomeaoeegikkaaDoor
open Go Go.Proofs.YtiomeaoeegikkaaDoor.RW
set_option linter.unusedVariables false
set_option maxRecDepth 100000
set_option maxHeartbeats 8000000

/-! ### armillarylaw28_LedgerRepair: function 8, armillary/armillarylaw28.LedgerRepair -/
noncomputable def K8_0 : Code := cBody Tryd.f8
noncomputable def O8_23 : List Oper := cOps (cL (cR (cR (cR (cR (cR K8_0))))))
def armillarylaw28_LedgerRepair.k1  (x3 : Bool) : Option (Bool) := (some x3)
def armillarylaw28_LedgerRepair.k2 (k : Nat) (t1 : Bool) (t3 : List S25) (t5 : List S25 × Int × Int) (t6 : List Int) (x2 : Bool) : Option (Bool) := (if x2 = true then (some false) else ((armillarylaw28_build.f k t6 t3).bind fun t7 => ((ledger_Scan.f k t7.1).bind fun t8 => (if (([] : List S25).length + t5.1.length) * 48 ≤ 140737488355328 then (if ((([] : List S25) ++ t5.1).length + t3.length) * 48 ≤ 140737488355328 then ((if t7.2 = true then (if t8.2.2 = 0 then ((armillaryref28_Same.f k t8.1 ((([] : List S25) ++ t5.1) ++ t3)).bind fun t9 => (if t9 = true then (some t1) else (some false))) else (some false)) else (some false)).bind (armillarylaw28_LedgerRepair.k1)) else none) else none))))
def armillarylaw28_LedgerRepair.k3 (k : Nat) (a1 : List Int) (t1 : Bool) (t3 : List S25) (t4 : List Int × Bool) (x1 : Bool) : Option (Bool) := (if x1 = true then (some false) else (if (([] : List Int).length + t4.1.length) * 1 ≤ 140737488355328 then (if (0 : Int) ≤ (iMin (a1.length : Int) 40) then (if (iMin (a1.length : Int) 40) ≤ (a1.length : Int) then (if ((([] : List Int) ++ t4.1).length + (rpart a1 0 (iMin (a1.length : Int) 40)).length) * 1 ≤ 140737488355328 then ((ledger_Scan.f k ((([] : List Int) ++ t4.1) ++ (rpart a1 0 (iMin (a1.length : Int) 40)))).bind fun t5 => ((ledger_Repair.f k ((([] : List Int) ++ t4.1) ++ (rpart a1 0 (iMin (a1.length : Int) 40)))).bind fun t6 => ((if t5.2.1 < (t4.1.length : Int) then (some true) else (if (0 : Int) ≤ t5.2.1 then (if t5.2.1 ≤ (((([] : List Int) ++ t4.1) ++ (rpart a1 0 (iMin (a1.length : Int) 40))).length : Int) then ((armillaryref28_SameBytes.f k t6 (rpart ((([] : List Int) ++ t4.1) ++ (rpart a1 0 (iMin (a1.length : Int) 40))) 0 t5.2.1)).bind fun t10 => (some (!t10))) else none) else none)).bind (armillarylaw28_LedgerRepair.k2 k t1 t3 t5 t6)))) else none) else none) else none) else none))
def armillarylaw28_LedgerRepair.f (k : Nat) (a0 : List S25) (a1 : List Int) (a2 : List S25) : Option (Bool) := ((armillarylaw28_sanity.f k ).bind fun t1 => ((armillaryref28_Made.f k a0 6).bind fun t2 => ((armillaryref28_Made.f k a2 3).bind fun t3 => ((armillarylaw28_build.f k [] t2).bind fun t4 => ((if t4.2 = true then ((ledger_Repair.f k t4.1).bind fun t11 => ((armillaryref28_SameBytes.f k t11 t4.1).bind fun t12 => (some (!t12)))) else (some true)).bind (armillarylaw28_LedgerRepair.k3 k a1 t1 t3 t4))))))
def armillarylaw28_LedgerRepair.Post (I : Imm) (w : World) (r : Bool) (v : Value) (w' : World) : Prop :=
 ∃ (J : Imm), v = .bool r ∧ Got w w' I J []
noncomputable def a8_23n : List Nat := [0, 0, 3, 0, 0, 16, 48, 120, 255, 511]
theorem a8_23 : ancs O8_23 [] = a8_23n := by kernel_rfl
theorem a8_23o : drawOk O8_23 a8_23n 8 = true := by kernel_rfl
noncomputable def u8d1l (t4 : List Int × Bool) : List (Nat × (Wt → Value)) := [(0, fun x => .slice ((x 0).1) (([] : List Int).length) ((x 0).2.1)), (2, fun x => .slice ((x 0).1) ((([] : List Int) ++ t4.1).length) ((x 0).2.1))]
noncomputable def u8d1g (a1 : List Int) (Ap1 : Option Addr) (cp1 : Nat) : List (Nat × ((Nat → Wt) → Value)) := [(7, fun u => .slice (slA Ap1 (0 : Int).toNat cp1 1) ((rpart a1 0 (iMin (a1.length : Int) 40)).length) (cp1 - (0 : Int).toNat))]
noncomputable def u8d1x (t3 : List S25) (A2 : Option Addr) (c2 : Nat) (cs2 : List Value) (t4 : List Int × Bool) : Nat → (Nat → Wt) → List Res := fun q u => match q with | 0 => [orow 25 3 A2 t3.length c2 cs2] | 1 => [orow 25 3 A2 t3.length c2 cs2, orow 5 1 ((u 0 0).1) (([] : List Int).length) ((u 0 0).2.1) []] | _ => [orow 25 3 A2 t3.length c2 cs2, orow 5 1 ((u 2 0).1) ((([] : List Int) ++ t4.1).length) ((u 2 0).2.1) ((u 2 0).2.2)]
noncomputable def u8d1p (t3 : List S25) (cs2 : List Value) (t4 : List Int × Bool) : Nat → (Nat → Wt) → Imm → Prop := fun q u J => match q with | 0 => Reps t25 J t3 cs2 ∧ True | 1 => Reps t25 J t3 cs2 ∧ Reps (Ty.int .u8) J ([] : List Int) [] ∧ True | _ => Reps t25 J t3 cs2 ∧ Reps (Ty.int .u8) J (([] : List Int) ++ t4.1) ((u 2 0).2.2) ∧ True
noncomputable def u8d1q (a1 : List Int) (Ap1 : Option Addr) (cp1 : Nat) (t1 : Bool) (t3 : List S25) (A2 : Option Addr) (c2 : Nat) (t4 : List Int × Bool) (A3 : Option Addr) (c3 : Nat) (x1 : Bool) (u : Nat → Wt) : Option (List Value × List (Nat × Value) × List (Nat × Nat)) := qSim Tryd.prog [] [] O8_23 ⟨101, []⟩ (u8d1l t4) (u8d1g a1 Ap1 cp1) u [.no, .no, .no, .no, .no, .no, .no, .no] 0 (O8_23.take 8) [(1, .slice Ap1 a1.length cp1), (7, .bool t1), (9, .slice A2 t3.length c2), (10, .slice A3 t4.1.length c3), (41, .bool x1)]
noncomputable def u8d1s (a1 : List Int) (Ap1 : Option Addr) (cp1 : Nat) (t4 : List Int × Bool) (A3 : Option Addr) (c3 : Nat) (u : Nat → Wt) : List Value := [.slice ((u 0 0).1) (([] : List Int).length) ((u 0 0).2.1), .slice A3 t4.1.length c3, .slice ((u 2 0).1) ((([] : List Int) ++ t4.1).length) ((u 2 0).2.1), .slice Ap1 a1.length cp1, .slice Ap1 a1.length cp1, i6 (a1.length : Int), i6 (iMin (a1.length : Int) 40), .slice (slA Ap1 (0 : Int).toNat cp1 1) ((rpart a1 0 (iMin (a1.length : Int) 40)).length) (cp1 - (0 : Int).toNat)]
noncomputable def u8d1f (a1 : List Int) (Ap1 : Option Addr) (cp1 : Nat) (t1 : Bool) (t3 : List S25) (A2 : Option Addr) (c2 : Nat) (t4 : List Int × Bool) (A3 : Option Addr) (c3 : Nat) (x1 : Bool) (i : Nat) (u : Nat → Wt) : List (Nat × Value) := foldPut ⟨101, []⟩ [(1, .slice Ap1 a1.length cp1), (7, .bool t1), (9, .slice A2 t3.length c2), (10, .slice A3 t4.1.length c3), (41, .bool x1)] (O8_23.take i) (((u8d1s a1 Ap1 cp1 t4 A3 c3) u).take i)
theorem u8d1v (a1 : List Int) (Ap1 : Option Addr) (cp1 : Nat) (t1 : Bool) (t3 : List S25) (A2 : Option Addr) (c2 : Nat) (t4 : List Int × Bool) (A3 : Option Addr) (c3 : Nat) (x1 : Bool) (u : Nat → Wt) : (u8d1q a1 Ap1 cp1 t1 t3 A2 c2 t4 A3 c3 x1 u).map (fun x => (x.1, x.2.1)) = some ((u8d1s a1 Ap1 cp1 t4 A3 c3) u, (u8d1f a1 Ap1 cp1 t1 t3 A2 c2 t4 A3 c3 x1 8) u) := by kernel_rfl
theorem u8d1e (a1 : List Int) (Ap1 : Option Addr) (cp1 : Nat) (t1 : Bool) (t3 : List S25) (A2 : Option Addr) (c2 : Nat) (t4 : List Int × Bool) (A3 : Option Addr) (c3 : Nat) (x1 : Bool) (u : Nat → Wt) : (u8d1q a1 Ap1 cp1 t1 t3 A2 c2 t4 A3 c3 x1 u).map (fun x => x.2.2.map (·.1)) = (u8d1q a1 Ap1 cp1 t1 t3 A2 c2 t4 A3 c3 x1 u).map (fun x => x.2.2.map (·.2)) := by kernel_rfl
theorem armillarylaw28_LedgerRepair.calls (k : Nat) (I0 : Imm) (a0 : List S25) (Ap0 : Option Addr) (cp0 : Nat) (a1 : List Int) (Ap1 : Option Addr) (cp1 : Nat) (a2 : List S25) (Ap2 : Option Addr) (cp2 : Nat) (w : World) (hI : I0.at_ w) (hG : Glob I0) (hlp0 : a0.length ≤ cp0) (hrp0 : Rd t25 I0 Ap0 a0) (hlp1 : a1.length ≤ cp1) (hrp1 : Rd (Ty.int .u8) I0 Ap1 a1) (hlp2 : a2.length ≤ cp2) (hrp2 : Rd t25 I0 Ap2 a2) (r : Bool) (h : armillarylaw28_LedgerRepair.f k a0 a1 a2 = some r) :
  Calls Tryd.prog 8 [.slice Ap0 a0.length cp0, .slice Ap1 a1.length cp1, .slice Ap2 a2.length cp2].toArray w fun e w' => ∃ v, e = .returned v ∧ armillarylaw28_LedgerRepair.Post I0 w r v w' := by
 have H : ((armillarylaw28_sanity.f k ).bind fun t1 => ((armillaryref28_Made.f k a0 6).bind fun t2 => ((armillaryref28_Made.f k a2 3).bind fun t3 => ((armillarylaw28_build.f k [] t2).bind fun t4 => ((if t4.2 = true then ((ledger_Repair.f k t4.1).bind fun t11 => ((armillaryref28_SameBytes.f k t11 t4.1).bind fun t12 => (some (!t12)))) else (some true)).bind (armillarylaw28_LedgerRepair.k3 k a1 t1 t3 t4)))))) = some r := h
 clear h
 refine calls_body Tryd.func8 (by kernel_rfl) 101 (by kernel_rfl) (by kernel_rfl) ⟨w, fun _ => False, I0⟩ I0 [] [(0, .slice Ap0 a0.length cp0), (1, .slice Ap1 a1.length cp1), (2, .slice Ap2 a2.length cp2)] (by kernel_rfl) (Sat.start w _ I0 hI) ?_
 generalize w.heap.size = nx0
 show OK _ K8_0 _ _ _ _ _ _ _ _
 refine OK.sr ?_
 refine RL.st 1 [(0, .slice Ap0 a0.length cp0), (1, .slice Ap1 a1.length cp1), (2, .slice Ap2 a2.length cp2)] ?_
 refine OK.sr ?_
 obtain ⟨t1, hA1, H⟩ := bnd H
 refine RL.callP 11 [] (some 23) (fun w => armillarylaw28_sanity.Post I0 w t1) (by kernel_rfl) (by kernel_rfl) (fun w hs => armillarylaw28_sanity.calls k I0  w hs.im hG t1 hA1) ?_
 rintro w v w' hs ⟨I1, rfl, hg⟩
 have hi1 := hg.le
 refine RL.resume (X' := []) rfl (hs.call hg) ?_
 clear hs hg
 generalize w'.heap.size = nx1
 clear w w'
 refine RL.st 1 [(7, .bool t1), (0, .slice Ap0 a0.length cp0), (1, .slice Ap1 a1.length cp1), (2, .slice Ap2 a2.length cp2)] ?_
 refine OK.sr ?_
 refine RL.s 1 [(24, .slice Ap0 a0.length cp0), (7, .bool t1), (1, .slice Ap1 a1.length cp1), (2, .slice Ap2 a2.length cp2)] ?_
 obtain ⟨t2, hA2, H⟩ := bnd H
 refine RL.callP 12 [.slice Ap0 a0.length cp0, i6 6] (some 25) (fun w => armillaryref28_Made.Post I1 w t2) (by kernel_rfl) (by kernel_rfl) (fun w hs => armillaryref28_Made.calls k I1 a0 Ap0 cp0 6 w hs.im hlp0 (Rd.ext hi1 hrp0) t2 hA2) ?_
 rintro w v w' hs ⟨I2, A1, c1, cs1, rfl, hg, hp1⟩
 have hi2 := hg.le
 refine RL.resume (X' := [orow 25 3 A1 t2.length c1 cs1]) rfl (hs.call hg) ?_
 clear hs hg
 generalize w'.heap.size = nx2
 clear w w'
 refine RL.s 1 [(26, .slice Ap2 a2.length cp2), (25, .slice A1 t2.length c1), (7, .bool t1), (1, .slice Ap1 a1.length cp1)] ?_
 obtain ⟨t3, hA3, H⟩ := bnd H
 refine RL.callP 12 [.slice Ap2 a2.length cp2, i6 3] (some 27) (fun w => armillaryref28_Made.Post I2 w t3) (by kernel_rfl) (by kernel_rfl) (fun w hs => armillaryref28_Made.calls k I2 a2 Ap2 cp2 3 w hs.im hlp2 (Rd.ext (Imm.le_trans hi1 hi2) hrp2) t3 hA3) ?_
 rintro w v w' hs ⟨I3, A2, c2, cs2, rfl, hg, hp2⟩
 have hi3 := hg.le
 refine RL.resume (X' := [orow 25 3 A1 t2.length c1 cs1, orow 25 3 A2 t3.length c2 cs2]) rfl (hs.call hg) ?_
 clear hs hg
 generalize w'.heap.size = nx3
 clear w w'
 refine RL.st 2 [(9, .slice A2 t3.length c2), (8, .slice A1 t2.length c1), (7, .bool t1), (1, .slice Ap1 a1.length cp1)] ?_
 refine OK.sr ?_
 refine RL.s 1 [(29, .slice A1 t2.length c1), (9, .slice A2 t3.length c2), (7, .bool t1), (1, .slice Ap1 a1.length cp1)] ?_
 refine RL.freeze (e := 25) (sz := 3) (S := A1) (n := t2.length) (cap := c1) 0 (by kernel_rfl) (Reps.ext hi3 hp1) rfl (fun I4 hi4 hl1 hr1 => ?_)
 skip
 obtain ⟨t4, hA4, H⟩ := bnd H
 refine RL.callP 24 [.slice none 0 0, .slice A1 t2.length c1] (some 30) (fun w => armillarylaw28_build.Post I4 w t4) (by kernel_rfl) (by kernel_rfl) (fun w hs => armillarylaw28_build.calls k I4 [] none 0 t2 A1 c1 w hs.im (Nat.le_refl _) (Rd.nil _ _ _) hl1 hr1 t4 hA4) ?_
 rintro w v w' hs ⟨I5, A3, c3, rfl, hg, hl2, hr2⟩
 have hi5 := hg.le
 refine RL.resume (X' := [orow 25 3 A2 t3.length c2 cs2]) rfl (hs.call hg) ?_
 clear hs hg
 generalize w'.heap.size = nx4
 clear w w'
 refine RL.st 5 [(11, .bool t4.2), (10, .slice A3 t4.1.length c3), (9, .slice A2 t3.length c2), (7, .bool t1), (1, .slice Ap1 a1.length cp1)] ?_
 refine OK.sq ?_
 refine OK.sq ?_
 refine OK.join (fun K' I' _ L' X' => ∃ (x1 : Bool), K' = [(1, .slice Ap1 a1.length cp1), (7, .bool t1), (9, .slice A2 t3.length c2), (10, .slice A3 t4.1.length c3), (41, .bool x1)] ∧ L' = [] ∧ X' = [orow 25 3 A2 t3.length c2 cs2] ∧ Imm.le I5 I' ∧ armillarylaw28_LedgerRepair.k3 k a1 t1 t3 t4 x1 = some r) ?_ ?_
 ·rintro _ I6 nx5 _ _ ⟨x1, rfl, rfl, rfl, hi6, H⟩
  rw [armillarylaw28_LedgerRepair.k3] at H
  refine QN.then_ ?_
  refine OK.cd x1 (fun hb => ?_) (fun hb => ?_)
  ·skip
   have hc := hb
   rw [if_pos hc] at H
   clear hb
   refine OK.sr ?_
   refine RL.st 1 [(6, .bool false)] ?_
   refine OK.re ?_
   refine QN.thenR ?_
   obtain rfl := Option.some.inj H
   refine QN.body rfl [] (RFacts.nil _ _ _) (.no) (.bool false) (by kernel_rfl) (by kernel_rfl) (by kernel_rfl) ?_ _ (.inr rfl)
   exact fun w' hs' => ⟨_, rfl, I6, rfl, hs'.got _ (.cons _ .slnil)⟩
  ·skip
   have hc := (Bool.eq_false_iff.1 hb)
   rw [if_neg hc] at H
   clear hb
   refine OK.skt ?_
   refine OK.sq ?_
   obtain ⟨hz1, H⟩ := ifs H
   obtain ⟨hs1_1, H⟩ := ifs H
   obtain ⟨hs2_1, H⟩ := ifs H
   refine OK.drawnL 6 8 O8_23 a8_23n (by kernel_rfl) (by kernel_rfl) (u8d1l t4) (u8d1g a1 Ap1 cp1) (u8d1x t3 A2 c2 cs2 t4) (u8d1p t3 cs2 t4) [] (RI.nil _) [.no, .no, .no, .no, .no, .no, .no, .no] a8_23 a8_23o (by kernel_rfl) (by kernel_rfl) (u8d1s a1 Ap1 cp1 t4 A3 c3) (u8d1f a1 Ap1 cp1 t1 t3 A2 c2 t4 A3 c3 x1 8) (u8d1v a1 Ap1 cp1 t1 t3 A2 c2 t4 A3 c3 x1) (u8d1e a1 Ap1 cp1 t1 t3 A2 c2 t4 A3 c3 x1) (fun _ => rfl) (fun _ => ⟨(Reps.ext (Imm.le_trans (Imm.le_trans hi4 hi5) hi6) hp2), trivial⟩) [u8d1f a1 Ap1 cp1 t1 t3 A2 c2 t4 A3 c3 x1 0, u8d1f a1 Ap1 cp1 t1 t3 A2 c2 t4 A3 c3 x1 2] (framesOk.cons (fun u => rfl) (framesOk.cons (fun u => rfl) framesOk.nil)) ?_ [u8d1f a1 Ap1 cp1 t1 t3 A2 c2 t4 A3 c3 x1 7] (framesOk.cons (fun u => rfl) framesOk.nil) ?_ ?_
   ·refine Steps.cons ?_ (Steps.cons ?_ (Steps.nil))
    ·rintro u w ⟨J, hJ, hs, r0, -⟩
     replace hs : Sat _ J w.heap.size [] [orow 25 3 A2 t3.length c2 cs2] w := hs
     refine (Does.make hs.im (fun n_ => .slice (some ⟨n_, 0, none⟩) 0 0) (cs := []) (ty := 5) (fun n_ => by kernel_rfl)).mono ?_
     rintro v w' ⟨rfl, hg⟩
     exact ⟨fun _ => (some ⟨w.heap.size, 0, none⟩, 0, []), rfl, J, hJ, (hs.call hg).kblkRow (n := 0) (sz := 1) (by kernel_rfl) (by decide), r0, rfl, trivial⟩
    ·rintro u w ⟨J, hJ, hs, r0, r1, -⟩
     replace hs : Sat _ J w.heap.size [] [orow 25 3 A2 t3.length c2 cs2, orow 5 1 ((u 0 0).1) (([] : List Int).length) ((u 0 0).2.1) []] w := hs
     obtain ⟨S', c', cs', w', hr, hp, hs'⟩ := hs.append_runR (P := Tryd.prog) (T := 22) (e := 5) (S := (u 0 0).1) (S2 := A3) 1 1 22 ((u 0 0).2.1) c3 [] (Ty.int .u8) ([] : List Int) t4.1 1 (by kernel_rfl) (by kernel_rfl) (by kernel_rfl) (by decide) (by kernel_rfl) r1 (Rd.ext (Imm.le_trans hi6 hJ) hr2) hz1 (by omega)
     have hx : execOp (evalK (u8d1f a1 Ap1 cp1 t1 t3 A2 c2 t4 A3 c3 x1 2 u)) (O8_23.getD 2 default) = toNext (Builtin.append_ #[22, 22] 22 #[.slice ((u 0 0).1) ([] : List Int).length ((u 0 0).2.1), .slice A3 t4.1.length c3]) := by kernel_rfl
     refine Does.run (w' := w') (v := .slice S' (([] : List Int) ++ t4.1).length c') ?_ ?_
     ·rw [hx]; exact (run_toNext hr)
     exact ⟨fun _ => (S', c', cs'), rfl, J, hJ, hs', r0, hp, trivial⟩
   ·refine Givens.cons (fun u w => ?_) (fun _ _ _ => rfl) (Givens.nil)
    ·exact giv_subH (T := 22) (e := 5) (l := a1) (S := Ap1) (cap := cp1) (hi := iMin (a1.length : Int) 40) 1 .i64 (by kernel_rfl) (by kernel_rfl) (by kernel_rfl) hlp1 hs1_1 hs2_1 w
   rintro u I7 nx6 hi7 ⟨hp3, hp4, -⟩
   refine RL.norm (K' := [(49, .slice (slA Ap1 (0 : Int).toNat cp1 1) ((rpart a1 0 (iMin (a1.length : Int) 40)).length) (cp1 - (0 : Int).toNat)), (48, i6 (iMin (a1.length : Int) 40)), (47, i6 (a1.length : Int)), (46, .slice Ap1 a1.length cp1), (45, .slice Ap1 a1.length cp1), (44, .slice ((u 2 0).1) ((([] : List Int) ++ t4.1).length) ((u 2 0).2.1)), (43, .slice A3 t4.1.length c3), (42, .slice ((u 0 0).1) (([] : List Int).length) ((u 0 0).2.1)), (1, .slice Ap1 a1.length cp1), (7, .bool t1), (9, .slice A2 t3.length c2), (10, .slice A3 t4.1.length c3), (41, .bool x1)]) (X' := [orow 25 3 A2 t3.length c2 cs2, orow 5 1 ((u 2 0).1) ((([] : List Int) ++ t4.1).length) ((u 2 0).2.1) ((u 2 0).2.2)]) (by kernel_rfl) rfl rfl rfl ?_
   revert hp3 hp4
   generalize (u 0 0).1 = A4
   generalize (u 0 0).2.1 = c4
   generalize (u 2 0).1 = A5
   generalize (u 2 0).2.1 = c5
   generalize (u 2 0).2.2 = cs3
   intro hp3 hp4
   clear u
   obtain ⟨hz2, H⟩ := ifs H
   refine RL.appendR (T := 22) (e := 5) (S := A5) (S2 := (slA Ap1 (0 : Int).toNat cp1 1)) 1 1 22 c5 (cp1 - (0 : Int).toNat) cs3 (Ty.int .u8) (([] : List Int) ++ t4.1) (rpart a1 0 (iMin (a1.length : Int) 40)) 1 (some 50) (by kernel_rfl) (by kernel_rfl) (by kernel_rfl) (by kernel_rfl) (by kernel_rfl) (by decide) (by kernel_rfl) hp4 (Rd.ext hi7 (rd_sub (Rd.ext (Imm.le_trans (Imm.le_trans (Imm.le_trans (Imm.le_trans (Imm.le_trans hi1 hi2) hi3) hi4) hi5) hi6) hrp1) hlp1 (Int.le_refl 0) hs1_1 hs2_1)) hz2 (by omega) (fun A6 c6 nx7 cs4 hp5 => ?_)
   refine RL.sub (K' := [(50, .slice A6 (((([] : List Int) ++ t4.1) ++ (rpart a1 0 (iMin (a1.length : Int) 40))).length) c6), (49, .slice (slA Ap1 (0 : Int).toNat cp1 1) ((rpart a1 0 (iMin (a1.length : Int) 40)).length) (cp1 - (0 : Int).toNat)), (48, i6 (iMin (a1.length : Int) 40)), (47, i6 (a1.length : Int)), (46, .slice Ap1 a1.length cp1), (45, .slice Ap1 a1.length cp1), (43, .slice A3 t4.1.length c3), (42, .slice (A4) (([] : List Int).length) (c4)), (1, .slice Ap1 a1.length cp1), (7, .bool t1), (9, .slice A2 t3.length c2), (10, .slice A3 t4.1.length c3), (41, .bool x1)]) (L' := []) (X' := [orow 25 3 A2 t3.length c2 cs2, orow 5 1 A6 (((([] : List Int) ++ t4.1) ++ (rpart a1 0 (iMin (a1.length : Int) 40))).length) c6 cs4]) (by kernel_rfl) (.refl _) (.refl _) ?_
   refine RL.st 1 [(12, .slice A6 (((([] : List Int) ++ t4.1) ++ (rpart a1 0 (iMin (a1.length : Int) 40))).length) c6), (7, .bool t1), (9, .slice A2 t3.length c2), (10, .slice A3 t4.1.length c3)] ?_
   refine OK.sr ?_
   refine RL.s 1 [(52, .slice A6 (((([] : List Int) ++ t4.1) ++ (rpart a1 0 (iMin (a1.length : Int) 40))).length) c6), (12, .slice A6 (((([] : List Int) ++ t4.1) ++ (rpart a1 0 (iMin (a1.length : Int) 40))).length) c6), (7, .bool t1), (9, .slice A2 t3.length c2), (10, .slice A3 t4.1.length c3)] ?_
   refine RL.freeze (e := 5) (sz := 1) (S := A6) (n := ((([] : List Int) ++ t4.1) ++ (rpart a1 0 (iMin (a1.length : Int) 40))).length) (cap := c6) 1 (by kernel_rfl) hp5 rfl (fun I8 hi8 hl3 hr3 => ?_)
   skip
   obtain ⟨t5, hA5, H⟩ := bnd H
   refine RL.callP 16 [.slice A6 (((([] : List Int) ++ t4.1) ++ (rpart a1 0 (iMin (a1.length : Int) 40))).length) c6] (some 53) (fun w => ledger_Scan.Post I8 w t5) (by kernel_rfl) (by kernel_rfl) (fun w hs => ledger_Scan.calls k I8 ((([] : List Int) ++ t4.1) ++ (rpart a1 0 (iMin (a1.length : Int) 40))) A6 c6 w hs.im (Glob.ext (Imm.le_trans (Imm.le_trans (Imm.le_trans (Imm.le_trans (Imm.le_trans (Imm.le_trans (Imm.le_trans hi1 hi2) hi3) hi4) hi5) hi6) hi7) hi8) hG) hl3 hr3 t5 hA5) ?_
   rintro w v w' hs ⟨I9, A7, c7, cs5, rfl, hg, hp6⟩
   have hi9 := hg.le
   refine RL.resume (X' := [orow 25 3 A2 t3.length c2 cs2, orow 25 3 A7 t5.1.length c7 cs5]) rfl (hs.call hg) ?_
   clear hs hg
   generalize w'.heap.size = nx8
   clear w w'
   refine RL.st 7 [(14, i6 t5.2.1), (13, .slice A7 t5.1.length c7), (12, .slice A6 (((([] : List Int) ++ t4.1) ++ (rpart a1 0 (iMin (a1.length : Int) 40))).length) c6), (7, .bool t1), (9, .slice A2 t3.length c2), (10, .slice A3 t4.1.length c3)] ?_
   refine OK.sr ?_
   refine RL.s 1 [(57, .slice A6 (((([] : List Int) ++ t4.1) ++ (rpart a1 0 (iMin (a1.length : Int) 40))).length) c6), (14, i6 t5.2.1), (13, .slice A7 t5.1.length c7), (12, .slice A6 (((([] : List Int) ++ t4.1) ++ (rpart a1 0 (iMin (a1.length : Int) 40))).length) c6), (7, .bool t1), (9, .slice A2 t3.length c2), (10, .slice A3 t4.1.length c3)] ?_
   obtain ⟨t6, hA6, H⟩ := bnd H
   refine RL.callP 20 [.slice A6 (((([] : List Int) ++ t4.1) ++ (rpart a1 0 (iMin (a1.length : Int) 40))).length) c6] (some 58) (fun w => ledger_Repair.Post I9 w t6) (by kernel_rfl) (by kernel_rfl) (fun w hs => ledger_Repair.calls k I9 ((([] : List Int) ++ t4.1) ++ (rpart a1 0 (iMin (a1.length : Int) 40))) A6 c6 w hs.im (Glob.ext (Imm.le_trans (Imm.le_trans (Imm.le_trans (Imm.le_trans (Imm.le_trans (Imm.le_trans (Imm.le_trans (Imm.le_trans hi1 hi2) hi3) hi4) hi5) hi6) hi7) hi8) hi9) hG) hl3 (Rd.ext hi9 hr3) t6 hA6) ?_
   rintro w v w' hs ⟨I10, A8, c8, cs6, rfl, hg, hp7⟩
   have hi10 := hg.le
   refine RL.resume (X' := [orow 25 3 A2 t3.length c2 cs2, orow 25 3 A7 t5.1.length c7 cs5, orow 5 1 A8 t6.length c8 cs6]) rfl (hs.call hg) ?_
   clear hs hg
   generalize w'.heap.size = nx9
   clear w w'
   refine RL.st 1 [(16, .slice A8 t6.length c8), (14, i6 t5.2.1), (13, .slice A7 t5.1.length c7), (12, .slice A6 (((([] : List Int) ++ t4.1) ++ (rpart a1 0 (iMin (a1.length : Int) 40))).length) c6), (7, .bool t1), (9, .slice A2 t3.length c2), (10, .slice A3 t4.1.length c3)] ?_
   refine OK.sq ?_
   refine OK.sq ?_
   refine OK.join (fun K' I' _ L' X' => ∃ (x2 : Bool), K' = [(7, .bool t1), (9, .slice A2 t3.length c2), (13, .slice A7 t5.1.length c7), (16, .slice A8 t6.length c8), (70, .bool x2)] ∧ L' = [] ∧ X' = [orow 25 3 A2 t3.length c2 cs2, orow 25 3 A7 t5.1.length c7 cs5, orow 5 1 A8 t6.length c8 cs6] ∧ Imm.le I10 I' ∧ armillarylaw28_LedgerRepair.k2 k t1 t3 t5 t6 x2 = some r) ?_ ?_
   ·rintro _ I11 nx10 _ _ ⟨x2, rfl, rfl, rfl, hi11, H⟩
    rw [armillarylaw28_LedgerRepair.k2] at H
    refine QN.then_ ?_
    refine OK.cd x2 (fun hb => ?_) (fun hb => ?_)
    ·skip
     have hc := hb
     rw [if_pos hc] at H
     clear hb
     refine OK.sr ?_
     refine RL.st 1 [(6, .bool false)] ?_
     refine OK.re ?_
     refine QN.thenR ?_
     obtain rfl := Option.some.inj H
     refine QN.body rfl [] (RFacts.nil _ _ _) (.no) (.bool false) (by kernel_rfl) (by kernel_rfl) (by kernel_rfl) ?_ _ (.inr rfl)
     exact fun w' hs' => ⟨_, rfl, I11, rfl, hs'.got _ (.cons _ (.cons _ (.cons _ .slnil)))⟩
    ·skip
     have hc := (Bool.eq_false_iff.1 hb)
     rw [if_neg hc] at H
     clear hb
     refine OK.skt ?_
     refine OK.sr ?_
     refine RL.s 2 [(73, .slice A2 t3.length c2), (72, .slice A8 t6.length c8), (7, .bool t1), (9, .slice A2 t3.length c2), (13, .slice A7 t5.1.length c7)] ?_
     refine RL.freeze (e := 5) (sz := 1) (S := A8) (n := t6.length) (cap := c8) 2 (by kernel_rfl) (Reps.ext hi11 hp7) rfl (fun I12 hi12 hl4 hr4 => ?_)
     skip
     refine RL.freeze (e := 25) (sz := 3) (S := A2) (n := t3.length) (cap := c2) 0 (by kernel_rfl) (Reps.ext (Imm.le_trans (Imm.le_trans (Imm.le_trans (Imm.le_trans hi8 hi9) hi10) hi11) hi12) hp3) rfl (fun I13 hi13 hl5 hr5 => ?_)
     skip
     obtain ⟨t7, hA7, H⟩ := bnd H
     refine RL.callP 24 [.slice A8 t6.length c8, .slice A2 t3.length c2] (some 74) (fun w => armillarylaw28_build.Post I13 w t7) (by kernel_rfl) (by kernel_rfl) (fun w hs => armillarylaw28_build.calls k I13 t6 A8 c8 t3 A2 c2 w hs.im hl4 (Rd.ext hi13 hr4) hl5 hr5 t7 hA7) ?_
     rintro w v w' hs ⟨I14, A9, c9, rfl, hg, hl6, hr6⟩
     have hi14 := hg.le
     refine RL.resume (X' := [orow 25 3 A7 t5.1.length c7 cs5]) rfl (hs.call hg) ?_
     clear hs hg
     generalize w'.heap.size = nx11
     clear w w'
     refine RL.st 5 [(18, .bool t7.2), (17, .slice A9 t7.1.length c9), (7, .bool t1), (9, .slice A2 t3.length c2), (13, .slice A7 t5.1.length c7)] ?_
     refine OK.sr ?_
     refine RL.s 1 [(78, .slice A9 t7.1.length c9), (18, .bool t7.2), (7, .bool t1), (9, .slice A2 t3.length c2), (13, .slice A7 t5.1.length c7)] ?_
     obtain ⟨t8, hA8, H⟩ := bnd H
     refine RL.callP 16 [.slice A9 t7.1.length c9] (some 79) (fun w => ledger_Scan.Post I14 w t8) (by kernel_rfl) (by kernel_rfl) (fun w hs => ledger_Scan.calls k I14 t7.1 A9 c9 w hs.im (Glob.ext (Imm.le_trans (Imm.le_trans (Imm.le_trans (Imm.le_trans (Imm.le_trans (Imm.le_trans (Imm.le_trans (Imm.le_trans (Imm.le_trans (Imm.le_trans (Imm.le_trans (Imm.le_trans (Imm.le_trans hi1 hi2) hi3) hi4) hi5) hi6) hi7) hi8) hi9) hi10) hi11) hi12) hi13) hi14) hG) hl6 hr6 t8 hA8) ?_
     rintro w v w' hs ⟨I15, A10, c10, cs7, rfl, hg, hp8⟩
     have hi15 := hg.le
     refine RL.resume (X' := [orow 25 3 A7 t5.1.length c7 cs5, orow 25 3 A10 t8.1.length c10 cs7]) rfl (hs.call hg) ?_
     clear hs hg
     generalize w'.heap.size = nx12
     clear w w'
     refine RL.st 7 [(21, i6 t8.2.2), (19, .slice A10 t8.1.length c10), (18, .bool t7.2), (7, .bool t1), (9, .slice A2 t3.length c2), (13, .slice A7 t5.1.length c7)] ?_
     refine OK.sr ?_
     refine RL.sp 2 [(84, .slice A7 t5.1.length c7), (83, .slice (some ⟨nx12, 0, none⟩) 0 0), (21, i6 t8.2.2), (19, .slice A10 t8.1.length c10), (18, .bool t7.2), (7, .bool t1), (9, .slice A2 t3.length c2)] (nx12 + 1) [⟨nx12, [], 25⟩] ?_
     refine RL.freeze (e := 25) (sz := 3) (S := A7) (n := t5.1.length) (cap := c7) 0 (by kernel_rfl) (Reps.ext (Imm.le_trans (Imm.le_trans (Imm.le_trans (Imm.le_trans (Imm.le_trans hi10 hi11) hi12) hi13) hi14) hi15) hp6) rfl (fun I16 hi16 hl7 hr7 => ?_)
     skip
     refine RL.toRow (b := ⟨nx12, [], 25⟩) 0 0 3 (by kernel_rfl) (by kernel_rfl) (by decide) ?_
     have hp9 : Reps t25 I16 ([] : List S25) [] := rfl
     refine RL.norm (L' := []) (X' := [orow 25 3 A10 t8.1.length c10 cs7, orow 25 3 (some ⟨nx12, 0, none⟩) (([] : List S25).length) 0 []]) rfl rfl (by kernel_rfl) (by kernel_rfl) ?_
     obtain ⟨hz3, H⟩ := ifs H
     refine RL.appendR (T := 23) (e := 25) (S := (some ⟨nx12, 0, none⟩)) (S2 := A7) 3 48 23 0 c7 [] t25 ([] : List S25) t5.1 1 (some 85) (by kernel_rfl) (by kernel_rfl) (by kernel_rfl) (by kernel_rfl) (by kernel_rfl) (by decide) (by kernel_rfl) hp9 hr7 hz3 (by omega) (fun A11 c11 nx13 cs8 hp10 => ?_)
     refine RL.sub (K' := [(85, .slice A11 ((([] : List S25) ++ t5.1).length) c11), (84, .slice A7 t5.1.length c7), (83, .slice (some ⟨nx12, 0, none⟩) 0 0), (21, i6 t8.2.2), (19, .slice A10 t8.1.length c10), (18, .bool t7.2), (7, .bool t1), (9, .slice A2 t3.length c2)]) (L' := []) (X' := [orow 25 3 A10 t8.1.length c10 cs7, orow 25 3 A11 ((([] : List S25) ++ t5.1).length) c11 cs8]) (by kernel_rfl) (.refl _) (.refl _) ?_
     refine RL.s 1 [(86, .slice A2 t3.length c2), (85, .slice A11 ((([] : List S25) ++ t5.1).length) c11), (21, i6 t8.2.2), (19, .slice A10 t8.1.length c10), (18, .bool t7.2), (7, .bool t1)] ?_
     obtain ⟨hz4, H⟩ := ifs H
     refine RL.appendR (T := 23) (e := 25) (S := A11) (S2 := A2) 3 48 23 c11 c2 cs8 t25 (([] : List S25) ++ t5.1) t3 1 (some 87) (by kernel_rfl) (by kernel_rfl) (by kernel_rfl) (by kernel_rfl) (by kernel_rfl) (by decide) (by kernel_rfl) hp10 (Rd.ext (Imm.le_trans (Imm.le_trans hi14 hi15) hi16) hr5) hz4 (by omega) (fun A12 c12 nx14 cs9 hp11 => ?_)
     refine RL.sub (K' := [(87, .slice A12 (((([] : List S25) ++ t5.1) ++ t3).length) c12), (86, .slice A2 t3.length c2), (21, i6 t8.2.2), (19, .slice A10 t8.1.length c10), (18, .bool t7.2), (7, .bool t1)]) (L' := []) (X' := [orow 25 3 A10 t8.1.length c10 cs7, orow 25 3 A12 (((([] : List S25) ++ t5.1) ++ t3).length) c12 cs9]) (by kernel_rfl) (.refl _) (.refl _) ?_
     refine RL.st 1 [(22, .slice A12 (((([] : List S25) ++ t5.1) ++ t3).length) c12), (21, i6 t8.2.2), (19, .slice A10 t8.1.length c10), (18, .bool t7.2), (7, .bool t1)] ?_
     refine OK.sq ?_
     refine OK.join (fun K' I' _ L' X' => ∃ (x3 : Bool), K' = [(6, .bool x3)] ∧ L' = [] ∧ X' = [] ∧ Imm.le I16 I' ∧ armillarylaw28_LedgerRepair.k1 x3 = some r) ?_ ?_
     ·rintro _ I17 nx15 _ _ ⟨x3, rfl, rfl, rfl, hi17, H⟩
      rw [armillarylaw28_LedgerRepair.k1] at H
      refine QN.then_ ?_
      refine OK.re ?_
      obtain rfl := Option.some.inj H
      refine QN.body rfl [] (RFacts.nil _ _ _) (.no) (.bool x3) (by kernel_rfl) (by kernel_rfl) (by kernel_rfl) ?_ _ (.inr rfl)
      exact fun w' hs' => ⟨_, rfl, I17, rfl, hs'.got _ .slnil⟩
     ·intro Q_1 hJ3 hQ3
      obtain ⟨y3, H, HK3⟩ := bnd H
      refine OK.rg ?_
      refine RL.s 2 [(89, .bool t7.2), (22, .slice A12 (((([] : List S25) ++ t5.1) ++ t3).length) c12), (21, i6 t8.2.2), (19, .slice A10 t8.1.length c10), (7, .bool t1)] ?_
      refine RL.cases t7.2 (fun hb => ?_) (fun hb => ?_)
      ·have hc := hb
       rw [hb]
       rw [if_pos hc] at H; clear hb
       refine RL.s 4 [(93, .bool (t8.2.2 == 0)), (22, .slice A12 (((([] : List S25) ++ t5.1) ++ t3).length) c12), (19, .slice A10 t8.1.length c10), (7, .bool t1)] ?_
       refine RL.cases (t8.2.2 == 0) (fun hb => ?_) (fun hb => ?_)
       ·have hc := (beq_iff_eq.1 hb)
        rw [hb]
        rw [if_pos hc] at H; clear hb
        refine RL.s 2 [(95, .slice A12 (((([] : List S25) ++ t5.1) ++ t3).length) c12), (94, .slice A10 t8.1.length c10), (93, .bool true), (7, .bool t1)] ?_
        obtain ⟨t9, hA9, H⟩ := bnd H
        refine RL.callP 19 [.slice A10 t8.1.length c10, .slice A12 (((([] : List S25) ++ t5.1) ++ t3).length) c12] (some 96) (fun w v w' => ∃ I', Imm.le I16 I' ∧ armillaryref28_Same.Post I' w t9 v w') (by kernel_rfl) (by kernel_rfl) (fun w hs => ?_) ?_
        ·skip
         obtain ⟨JL1, hj1, hn1, hw1, hs⟩ := Sat.freeze (e := 25) (sz := 3) (S := A10) (n := t8.1.length) (cap := c10) (m := 0) hs (by kernel_rfl) (Reps.ext hi16 hp8) rfl
         obtain ⟨JL2, hj2, hn2, hw2, hs⟩ := Sat.freeze (e := 25) (sz := 3) (S := A12) (n := ((([] : List S25) ++ t5.1) ++ t3).length) (cap := c12) (m := 0) hs (by kernel_rfl) (Reps.ext hj1 hp11) rfl
         exact (armillaryref28_Same.calls k JL2 t8.1 A10 c10 ((([] : List S25) ++ t5.1) ++ t3) A12 c12 _ hs.im hn1 (Rd.ext hj2 hw1) hn2 hw2 t9 hA9).mono (fun e w' ⟨v, hv, hp⟩ => ⟨v, hv, JL2, (Imm.le_trans hj1 hj2), hp⟩)
        rintro w v w' hs ⟨I', hle, J, rfl, hg⟩
        refine RL.resume (X' := [orow 25 3 A10 t8.1.length c10 cs7, orow 25 3 A12 (((([] : List S25) ++ t5.1) ++ t3).length) c12 cs9]) rfl (hs.call (hg.back hle)) ?_
        clear hs hg hle I' J
        generalize w'.heap.size = nx16
        clear w w'
        refine RL.s 2 [(98, .bool t9), (7, .bool t1)] ?_
        refine RL.cases t9 (fun hb => ?_) (fun hb => ?_)
        ·have hc := hb
         rw [hb]
         rw [if_pos hc] at H; clear hb
         refine RL.s 3 [(6, .bool t1)] ?_
         refine RL.nil (by kernel_rfl) ?_
         obtain rfl := Option.some.inj H
         refine QN.sel (K' := [(6, .bool t1)]) (L' := []) [] (by kernel_rfl) (by kernel_rfl) .slnil ?_
         refine QN.norm (X' := []) rfl rfl rfl (by kernel_rfl) ?_
         exact hJ3 _ _ _ _ _ ⟨t1, rfl, rfl, rfl, (Imm.le_refl _), HK3⟩
        ·have hc := (Bool.eq_false_iff.1 hb)
         rw [hb]
         rw [if_neg hc] at H; clear hb
         refine RL.s 3 [(6, .bool false)] ?_
         refine RL.nil (by kernel_rfl) ?_
         obtain rfl := Option.some.inj H
         refine QN.sel (K' := [(6, .bool false)]) (L' := []) [] (by kernel_rfl) (by kernel_rfl) .slnil ?_
         refine QN.norm (X' := []) rfl rfl rfl (by kernel_rfl) ?_
         exact hJ3 _ _ _ _ _ ⟨false, rfl, rfl, rfl, (Imm.le_refl _), HK3⟩
       ·have hc := (beq_eq_false_iff_ne.1 hb)
        rw [hb]
        rw [if_neg hc] at H; clear hb
        refine RL.s 8 [(6, .bool false)] ?_
        refine RL.nil (by kernel_rfl) ?_
        obtain rfl := Option.some.inj H
        refine QN.sel (K' := [(6, .bool false)]) (L' := []) [] (by kernel_rfl) (by kernel_rfl) .slnil ?_
        refine QN.norm (X' := []) rfl rfl rfl (by kernel_rfl) ?_
        exact hJ3 _ _ _ _ _ ⟨false, rfl, rfl, rfl, (Imm.le_refl _), HK3⟩
      ·have hc := (Bool.eq_false_iff.1 hb)
       rw [hb]
       rw [if_neg hc] at H; clear hb
       refine RL.s 12 [(6, .bool false)] ?_
       refine RL.nil (by kernel_rfl) ?_
       obtain rfl := Option.some.inj H
       refine QN.sel (K' := [(6, .bool false)]) (L' := []) [] (by kernel_rfl) (by kernel_rfl) .slnil ?_
       refine QN.norm (X' := []) rfl rfl rfl (by kernel_rfl) ?_
       exact hJ3 _ _ _ _ _ ⟨false, rfl, rfl, rfl, (Imm.le_refl _), HK3⟩
   ·intro Q_2 hJ2 hQ2
    obtain ⟨y2, H, HK2⟩ := bnd H
    refine OK.rg ?_
    refine RL.s 5 [(63, .bool (decide (t5.2.1 < (t4.1.length : Int)))), (16, .slice A8 t6.length c8), (14, i6 t5.2.1), (13, .slice A7 t5.1.length c7), (12, .slice A6 (((([] : List Int) ++ t4.1) ++ (rpart a1 0 (iMin (a1.length : Int) 40))).length) c6), (7, .bool t1), (9, .slice A2 t3.length c2)] ?_
    refine RL.cases (decide (t5.2.1 < (t4.1.length : Int))) (fun hb => ?_) (fun hb => ?_)
    ·have hc := (of_decide_eq_true hb)
     rw [hb]
     rw [if_pos hc] at H; clear hb
     refine RL.s 7 [(70, .bool true), (16, .slice A8 t6.length c8), (13, .slice A7 t5.1.length c7), (7, .bool t1), (9, .slice A2 t3.length c2)] ?_
     refine RL.nil (by kernel_rfl) ?_
     obtain rfl := Option.some.inj H
     exact QN.sb (hJ2 _ _ _ _ _ ⟨true, rfl, rfl, rfl, (Imm.le_refl _), HK2⟩) .slnil (.refl _)
    ·have hc := (of_decide_eq_false hb)
     rw [hb]
     rw [if_neg hc] at H; clear hb
     refine RL.s 3 [(66, i6 t5.2.1), (65, .slice A6 (((([] : List Int) ++ t4.1) ++ (rpart a1 0 (iMin (a1.length : Int) 40))).length) c6), (64, .slice A8 t6.length c8), (63, .bool false), (16, .slice A8 t6.length c8), (13, .slice A7 t5.1.length c7), (7, .bool t1), (9, .slice A2 t3.length c2)] ?_
     obtain ⟨hs1_2, H⟩ := ifs H
     obtain ⟨hs2_2, H⟩ := ifs H
     refine RL.subH (T := 22) (e := 5) (l := ((([] : List Int) ++ t4.1) ++ (rpart a1 0 (iMin (a1.length : Int) 40)))) (S := A6) (cap := c6) (hi := t5.2.1) 1 .i64 (some 67) (by kernel_rfl) (by kernel_rfl) (by kernel_rfl) (by kernel_rfl) hl3 hs1_2 hs2_2 (K' := [(67, .slice (slA A6 (0 : Int).toNat c6 1) ((rpart ((([] : List Int) ++ t4.1) ++ (rpart a1 0 (iMin (a1.length : Int) 40))) 0 t5.2.1).length) (c6 - (0 : Int).toNat)), (66, i6 t5.2.1), (65, .slice A6 (((([] : List Int) ++ t4.1) ++ (rpart a1 0 (iMin (a1.length : Int) 40))).length) c6), (64, .slice A8 t6.length c8), (63, .bool false), (16, .slice A8 t6.length c8), (13, .slice A7 t5.1.length c7), (7, .bool t1), (9, .slice A2 t3.length c2)]) (by kernel_rfl) ?_
     obtain ⟨t10, hA10, H⟩ := bnd H
     refine RL.callP 18 [.slice A8 t6.length c8, .slice (slA A6 (0 : Int).toNat c6 1) ((rpart ((([] : List Int) ++ t4.1) ++ (rpart a1 0 (iMin (a1.length : Int) 40))) 0 t5.2.1).length) (c6 - (0 : Int).toNat)] (some 68) (fun w v w' => ∃ I', Imm.le I10 I' ∧ armillaryref28_SameBytes.Post I' w t10 v w') (by kernel_rfl) (by kernel_rfl) (fun w hs => ?_) ?_
     ·skip
      obtain ⟨JL3, hj3, hn3, hw3, hs⟩ := Sat.freeze (e := 5) (sz := 1) (S := A8) (n := t6.length) (cap := c8) (m := 2) hs (by kernel_rfl) hp7 rfl
      exact (armillaryref28_SameBytes.calls k JL3 t6 A8 c8 (rpart ((([] : List Int) ++ t4.1) ++ (rpart a1 0 (iMin (a1.length : Int) 40))) 0 t5.2.1) (slA A6 (0 : Int).toNat c6 1) (c6 - (0 : Int).toNat) _ hs.im hn3 hw3 (part_le hl3 (Int.le_refl 0) hs1_2 hs2_2) (Rd.ext hj3 (rd_sub (Rd.ext (Imm.le_trans hi9 hi10) hr3) hl3 (Int.le_refl 0) hs1_2 hs2_2)) t10 hA10).mono (fun e w' ⟨v, hv, hp⟩ => ⟨v, hv, JL3, hj3, hp⟩)
     rintro w v w' hs ⟨I', hle, J, rfl, hg⟩
     refine RL.resume (X' := [orow 25 3 A2 t3.length c2 cs2, orow 25 3 A7 t5.1.length c7 cs5, orow 5 1 A8 t6.length c8 cs6]) rfl (hs.call (hg.back hle)) ?_
     clear hs hg hle I' J
     generalize w'.heap.size = nx17
     clear w w'
     refine RL.s 2 [(70, .bool (!t10)), (16, .slice A8 t6.length c8), (13, .slice A7 t5.1.length c7), (7, .bool t1), (9, .slice A2 t3.length c2)] ?_
     refine RL.nil (by kernel_rfl) ?_
     obtain rfl := Option.some.inj H
     exact QN.sb (hJ2 _ _ _ _ _ ⟨(!t10), rfl, rfl, rfl, (Imm.le_refl _), HK2⟩) .slnil (.refl _)
 ·intro Q_3 hJ1 hQ1
  obtain ⟨y1, H, HK1⟩ := bnd H
  refine OK.rg ?_
  refine RL.s 3 [(35, .bool (!t4.2)), (10, .slice A3 t4.1.length c3), (9, .slice A2 t3.length c2), (7, .bool t1), (1, .slice Ap1 a1.length cp1)] ?_
  refine RL.cases t4.2 (fun hb => ?_) (fun hb => ?_)
  ·have hc := hb
   rw [hb]
   rw [if_pos hc] at H; clear hb
   refine RL.s 1 [(36, .slice A3 t4.1.length c3), (35, .bool false), (10, .slice A3 t4.1.length c3), (9, .slice A2 t3.length c2), (7, .bool t1), (1, .slice Ap1 a1.length cp1)] ?_
   obtain ⟨t11, hA11, H⟩ := bnd H
   refine RL.callP 20 [.slice A3 t4.1.length c3] (some 37) (fun w => ledger_Repair.Post I5 w t11) (by kernel_rfl) (by kernel_rfl) (fun w hs => ledger_Repair.calls k I5 t4.1 A3 c3 w hs.im (Glob.ext (Imm.le_trans (Imm.le_trans (Imm.le_trans (Imm.le_trans hi1 hi2) hi3) hi4) hi5) hG) hl2 hr2 t11 hA11) ?_
   rintro w v w' hs ⟨I18, A13, c13, cs10, rfl, hg, hp12⟩
   have hi18 := hg.le
   refine RL.resume (X' := [orow 25 3 A2 t3.length c2 cs2, orow 5 1 A13 t11.length c13 cs10]) rfl (hs.call hg) ?_
   clear hs hg
   generalize w'.heap.size = nx18
   clear w w'
   refine RL.s 1 [(38, .slice A3 t4.1.length c3), (37, .slice A13 t11.length c13), (35, .bool false), (10, .slice A3 t4.1.length c3), (9, .slice A2 t3.length c2), (7, .bool t1), (1, .slice Ap1 a1.length cp1)] ?_
   obtain ⟨t12, hA12, H⟩ := bnd H
   refine RL.callP 18 [.slice A13 t11.length c13, .slice A3 t4.1.length c3] (some 39) (fun w v w' => ∃ I', Imm.le I18 I' ∧ armillaryref28_SameBytes.Post I' w t12 v w') (by kernel_rfl) (by kernel_rfl) (fun w hs => ?_) ?_
   ·skip
    obtain ⟨JL4, hj4, hn4, hw4, hs⟩ := Sat.freeze (e := 5) (sz := 1) (S := A13) (n := t11.length) (cap := c13) (m := 1) hs (by kernel_rfl) hp12 rfl
    exact (armillaryref28_SameBytes.calls k JL4 t11 A13 c13 t4.1 A3 c3 _ hs.im hn4 hw4 hl2 (Rd.ext hj4 (Rd.ext hi18 hr2)) t12 hA12).mono (fun e w' ⟨v, hv, hp⟩ => ⟨v, hv, JL4, hj4, hp⟩)
   rintro w v w' hs ⟨I', hle, J, rfl, hg⟩
   refine RL.resume (X' := [orow 25 3 A2 t3.length c2 cs2, orow 5 1 A13 t11.length c13 cs10]) rfl (hs.call (hg.back hle)) ?_
   clear hs hg hle I' J
   generalize w'.heap.size = nx19
   clear w w'
   refine RL.s 2 [(41, .bool (!t12)), (10, .slice A3 t4.1.length c3), (9, .slice A2 t3.length c2), (7, .bool t1), (1, .slice Ap1 a1.length cp1)] ?_
   refine RL.nil (by kernel_rfl) ?_
   obtain rfl := Option.some.inj H
   refine QN.sel (K' := [(1, .slice Ap1 a1.length cp1), (7, .bool t1), (9, .slice A2 t3.length c2), (10, .slice A3 t4.1.length c3), (41, .bool (!t12))]) (L' := []) [0] (by kernel_rfl) (by kernel_rfl) .slnil ?_
   refine QN.norm (X' := [orow 25 3 A2 t3.length c2 cs2]) rfl rfl rfl (by kernel_rfl) ?_
   exact hJ1 _ _ _ _ _ ⟨(!t12), rfl, rfl, rfl, hi18, HK1⟩
  ·have hc := (Bool.eq_false_iff.1 hb)
   rw [hb]
   rw [if_neg hc] at H; clear hb
   refine RL.s 6 [(41, .bool true), (10, .slice A3 t4.1.length c3), (9, .slice A2 t3.length c2), (7, .bool t1), (1, .slice Ap1 a1.length cp1)] ?_
   refine RL.nil (by kernel_rfl) ?_
   obtain rfl := Option.some.inj H
   exact QN.sb (hJ1 _ _ _ _ _ ⟨true, rfl, rfl, rfl, (Imm.le_refl _), HK1⟩) .slnil (.refl _)

end Go.Proofs.YtiomeaoeegikkaaDoor
namespace Go.Proofs.YtiomeaoeegikkaaDoor
open Go Go.Proofs.YtiomeaoeegikkaaDoor.RW Go.Proofs.YtiomeaoeegikkaaDoor.led
set_option linter.unusedVariables false
theorem armillarylaw28_LedgerRepair_holds (a0 : List S25) (a1 : List Int) (a2 : List S25) (hp0 : ∀ x ∈ a0, p25 x) (h0 : a0.length ≤ 9223372036854775807) (hp1 : ∀ x ∈ a1, (Lit.int .u8 x).wf = true) (h1 : a1.length ≤ 9223372036854775807) (hp2 : ∀ x ∈ a2, p25 x) (h2 : a2.length ≤ 9223372036854775807) :
    ∃ k, armillarylaw28_LedgerRepair.f k a0 a1 a2 = some true := by
  obtain ⟨es, e2, hok, hn, h60⟩ := made_ev a0 hp0 (by omega) 6 (by decide)
  obtain ⟨fs, e3, hokf, hnf, h60f⟩ := made_ev a2 hp2 (by omega) 3 (by decide)
  have hl := logOf_small hok h60
  have hlf := logOf_small hokf h60f
  have e4 := build_ev es hok (by omega) [] (by decide)
  rw [List.nil_append] at e4
  have sc0 := scan_log hok (by omega)
  have rp0 : Ev (fun k => ledger_Repair.f k (logOf es)) (logOf es) := by
    have := repair_ev (es := es) (r := []) (x := 0) (by rw [List.append_nil]; exact sc0) (by omega)
    rwa [List.append_nil] at this
  have hm : iMin (a1.length : Int) 40 = ((min a1.length 40 : Nat) : Int) := by rw [iMin_eq]; omega
  obtain ⟨g, hg⟩ : ∃ g, a1.take (min a1.length 40) = g := ⟨_, rfl⟩
  have hgl : g.length ≤ 40 := by rw [← hg, List.length_take]; omega
  have hgb : isBytes g := by rw [← hg]; exact fun x hx => u8_wf (hp1 x (List.mem_of_mem_take hx))
  obtain ⟨gs, r, hokg, hge, hr⟩ := split_any g.length g (Nat.le_refl _) hgb (by omega)
  have hgl2 := congrArg List.length hge
  rw [List.length_append] at hgl2
  have hga := logOf_ge hokg
  have hokeg := hok.app hokg
  have hraw : logOf es ++ g = logOf (es ++ gs) ++ r := by rw [hge, logOf_app, List.append_assoc]
  have hlen : (logOf (es ++ gs)).length = (logOf es).length + (logOf gs).length := by rw [logOf_app, List.length_append]
  obtain ⟨x, sc1⟩ := scan_any hokeg (r := r) (by rw [← hraw]; exact (logOf_bytes hok).app hgb) (by rw [← hraw, List.length_append]; omega) hr
  have rp1 := repair_ev sc1 (by omega)
  have b2 := build_ev fs hokf (by omega) (logOf (es ++ gs)) (by omega)
  rw [← logOf_app] at b2
  have hokall := hokeg.app hokf
  have sc2 := scan_log hokall (by simp only [List.length_append]; omega)
  refine Ev.get (Ev.bind sanity_ev (Ev.bind e2 (Ev.bind e3 (Ev.bind e4 ?_))))
  refine Ev.bind (r := false) ?_ ?_
  · refine Ev.congr (fun k => if_pos rfl) ?_
    exact Ev.bind rp0 (Ev.bind (same_bytes (a := logOf es) (by omega)) (Ev.const rfl))
  have hcat : (([] : List Int) ++ ((logOf es, true) : List Int × Bool).1) ++ rpart a1 0 (iMin (a1.length : Int) 40) = logOf (es ++ gs) ++ r := by
    rw [hm, rpart_take, hg, List.nil_append]
    exact hraw
  refine Ev.congr (fun k => if_neg (by decide)) ?_
  refine Ev.congr (fun k => if_pos (by show (0 + (logOf es).length) * 1 ≤ _; omega)) ?_
  refine Ev.congr (fun k => if_pos (by omega)) ?_
  refine Ev.congr (fun k => if_pos (by omega)) ?_
  refine Ev.congr (fun k => if_pos (by rw [hm, rpart_take, hg, List.nil_append]; show ((logOf es).length + g.length) * 1 ≤ _; omega)) ?_
  rw [hcat]
  refine Ev.bind sc1 (Ev.bind rp1 ?_)
  refine Ev.bind (r := false) ?_ ?_
  · refine Ev.congr (fun k => if_neg (by show ¬ ((logOf (es ++ gs)).length : Int) < ((logOf es).length : Int); omega)) ?_
    refine Ev.congr (fun k => if_pos (by show (0 : Int) ≤ ((logOf (es ++ gs)).length : Int); omega)) ?_
    refine Ev.congr (fun k => if_pos (by rw [List.length_append]; show ((logOf (es ++ gs)).length : Int) ≤ _; omega)) ?_
    rw [rpart_take, List.take_left]
    exact Ev.bind (same_bytes (a := logOf (es ++ gs)) (by omega)) (Ev.const rfl)
  refine Ev.congr (fun k => if_neg (by decide)) ?_
  refine Ev.bind b2 (Ev.bind sc2 ?_)
  refine Ev.congr (fun k => if_pos (by show (0 + (es ++ gs).length) * 48 ≤ _; rw [List.length_append]; omega)) ?_
  refine Ev.congr (fun k => if_pos (by show ((es ++ gs).length + fs.length) * 48 ≤ _; rw [List.length_append]; omega)) ?_
  refine Ev.bind (r := true) ?_ (Ev.const rfl)
  refine Ev.congr (fun k => if_pos rfl) ?_
  refine Ev.congr (fun k => if_pos rfl) ?_
  refine Ev.bind (same_ev (a := es ++ gs ++ fs) (by simp only [List.length_append]; omega)) ?_
  exact Ev.congr (fun k => if_pos rfl) (Ev.const rfl)
end Go.Proofs.YtiomeaoeegikkaaDoor
namespace Go.Proofs.YtiomeaoeegikkaaDoor.ledgerRepair
open Go.ChangeShapes Go.WideShapes Go.ChangeAt Go.RowKit Go.Proofs.YtiomeaoeegikkaaDoor Go.Proofs.YtiomeaoeegikkaaDoor.RW
open Go.ChangeMaps (open_string shut_string)
set_option linter.unusedVariables false
set_option maxRecDepth 1000000
set_option maxHeartbeats 8000000

theorem own : ownKnob Tryd.prog.godebug = none := by kernel_rfl
theorem laidOut : laidOutB Tryd.prog = true := by kernel_rfl
theorem lifted (os : Os) (started : os.Started) (H : Type) (enc : TypeId × Value → H) :
  ReturnsInHanded {} Tryd.checked os 8 .any (fun w args => (Rows.ledgerRepairSpec.pre enc Tryd.prog Tryd.f8 [] false w args ∧ laidMetH Tryd.prog lh.laid w) ∧ sizedMet enc Tryd.prog Tryd.f8 (OpenSpec.ofChange Rows.ledgerRepairSpec) false w args) (Rows.ledgerRepairSpec.post enc Tryd.prog Tryd.f8 false true false false) := by
 refine returnsInHanded_of_change_and (C := Tryd.checked) (X := fun w _ => laidMetH Tryd.prog lh.laid w) (fun _ _ _ hh h => h.of_heap hh) own started (by kernel_rfl) Tryd.func8
  (ChangeSpec.witness_at (enc := enc) (C := Tryd.checked) (os := os) (X := fun w _ => laidMetH Tryd.prog lh.laid w) false (lh.laidWorld os) #[.slice none 0 0, .slice none 0 0, .slice none 0 0] 8 rfl (by kernel_rfl) (by kernel_rfl) (by kernel_rfl) (by kernel_rfl) (by kernel_rfl) (lh.laidWorld_met os _)) ?_
 intro W base args ds gs before hval0 hW hcnd _ hL _
 have hval : ∀ (j : Nat) t v, Tryd.f8.params[j]? = some t → args[j]? = some v → Value.okWide Tryd.prog W .any base t v := hval0
 have hW' := hW
 obtain ⟨p, q, hA0, hV, rfl, hfz, hnd⟩ := hW
 have hA : DataW.TrodAll enc Tryd.prog W 0 (fun _ => true) true Tryd.f8.params.toList args.toList ds p := hA0
 rw [Tryd.params8] at hA hval
 obtain ⟨v0, vs0, d0, ds0, p0, q0, hargs, rfl, rfl, h0, z0⟩ := trodAll_cons hA
 obtain ⟨v1, vs1, d1, ds1, p1, q1, rfl, rfl, rfl, h1, z1⟩ := trodAll_cons z0
 obtain ⟨v2, vs2, d2, ds2, p2, q2, rfl, rfl, rfl, h2, z2⟩ := trodAll_cons z1
 obtain ⟨rfl, rfl, rfl⟩ := trodAll_nil z2
 obtain rfl : args = #[v0, v1, v2] := by cases args; simp_all
 obtain ⟨rfl, rfl⟩ := trodVars_none hV
 have k0 := h0
 have lt0 : ∀ x ∈ p0, x.block < W.heap.size := by obtain ⟨m, hm⟩ := k0; exact DataW.trod_lt m _ _ _ hm
 obtain ⟨b0, len0, cap0, rfl⟩ := okWide_slice Tryd.underlying23 (hval 0 23 v0 rfl rfl)
 obtain ⟨fuel0, hf0⟩ := h0
 obtain ⟨a0, ⟨A0, c0, e0, l0, r0⟩, hp0⟩ := (opens_slice (e := 25) o25 (by kernel_rfl) (by kernel_rfl) (Nat.le_of_ble_eq_true (by kernel_rfl)) : Opens Tryd.prog (Ty.slice t25) 23 (fun l => ∀ x ∈ l, p25 x)) W 0 _ _ _ _ _ hf0
 obtain ⟨rfl, rfl, rfl⟩ : b0 = A0 ∧ len0 = a0.length ∧ cap0 = c0 := by simpa [Value.cells] using e0
 have k1 := h1
 have lt1 : ∀ x ∈ p1, x.block < W.heap.size := by obtain ⟨m, hm⟩ := k1; exact DataW.trod_lt m _ _ _ hm
 obtain ⟨b1, len1, cap1, rfl⟩ := okWide_slice Tryd.underlying22 (hval 1 22 v1 rfl rfl)
 obtain ⟨fuel1, hf1⟩ := h1
 obtain ⟨a1, ⟨A1, c1, e1, l1, r1⟩, hp1⟩ := (opens_slice (e := 5) (opens_int (by kernel_rfl)) (by kernel_rfl) (by kernel_rfl) (Nat.le_of_ble_eq_true (by kernel_rfl)) : Opens Tryd.prog (Ty.slice (Ty.int .u8)) 22 (fun l => ∀ x ∈ l, (fun n => (Lit.int .u8 n).wf = true) x)) W 0 _ _ _ _ _ hf1
 obtain ⟨rfl, rfl, rfl⟩ : b1 = A1 ∧ len1 = a1.length ∧ cap1 = c1 := by simpa [Value.cells] using e1
 have k2 := h2
 have lt2 : ∀ x ∈ p2, x.block < W.heap.size := by obtain ⟨m, hm⟩ := k2; exact DataW.trod_lt m _ _ _ hm
 obtain ⟨b2, len2, cap2, rfl⟩ := okWide_slice Tryd.underlying23 (hval 2 23 v2 rfl rfl)
 obtain ⟨fuel2, hf2⟩ := h2
 obtain ⟨a2, ⟨A2, c2, e2, l2, r2⟩, hp2⟩ := (opens_slice (e := 25) o25 (by kernel_rfl) (by kernel_rfl) (Nat.le_of_ble_eq_true (by kernel_rfl)) : Opens Tryd.prog (Ty.slice t25) 23 (fun l => ∀ x ∈ l, p25 x)) W 0 _ _ _ _ _ hf2
 obtain ⟨rfl, rfl, rfl⟩ : b2 = A2 ∧ len2 = a2.length ∧ cap2 = c2 := by simpa [Value.cells] using e2
 clear hA0 hval0
 obtain ⟨k, hk⟩ := armillarylaw28_LedgerRepair_holds a0 a1 a2 hp0 r0.1 hp1 r1.1 hp2 r2.1
 refine (armillarylaw28_LedgerRepair.calls k (wImm W) a0 b0 cap0 a1 b1 cap1 a2 b2 cap2 W (wImm_at W) (lh.glob_of_laid hL) l0 r0 l1 r1 l2 r2 true hk).mono ?_
 rintro e W' ⟨v, rfl, J, rfl, hg⟩
 have bel : Below W.heap.size W W' := ⟨hg.evo.os, hg.evo.tape, hg.evo.output, hg.evo.size, fun k hk => hg.evo.blk k hk (fun h => h)⟩
 exact ⟨_, rfl, _, _, _, [], _, [], hW', trodAll_mk1 (shut_bool Tryd.underlying4 _), (trodAll_cons_mk (Below.trod laidOut (by kernel_rfl) (of_decide_eq_true (by kernel_rfl)) k0 bel lt0) (trodAll_cons_mk (Below.trod laidOut (by kernel_rfl) (of_decide_eq_true (by kernel_rfl)) k1 bel lt1) (trodAll_cons_mk (Below.trod laidOut (by kernel_rfl) (of_decide_eq_true (by kernel_rfl)) k2 bel lt2) trodAll_mk0))), rfl, bel.frame _, fun h => by cases h⟩

theorem over : Rows.ledgerRepairRow.holds Tryd.pinned (OpenSpec.ofChange Rows.ledgerRepairSpec) :=
 OpenClaim.holds_of_wide 8 Tryd.f8 rfl rfl rfl rfl rfl rfl rfl ⟨rfl, rfl, rfl, rfl, rfl⟩ rfl rfl rfl rfl rfl (by kernel_rfl) Tryd.func8 (by kernel_rfl)
  (of_decide_eq_true (by kernel_rfl)) (by unfold Func.isWrapper; first | (rw [if_pos (by decide +kernel)]; kernel_rfl) | (rw [if_neg (by decide +kernel)]; exact ⟨rfl, rfl⟩))
  (fun os started H enc _ => lifted os started H enc)
theorem tied : Rows.LedgerRepairCardSaid :=
  Claim7.holds_tied_plain_at .later [] [.handle] true (true, "fef0f658d46f2b31548aceb5a193b059c844c18693a0855299c2bac37f2f0ac5") true
    over (fun _ h => by cases h) (by kernel_rfl) (fun _ h => by cases h) ledgerRepair_row_tie rfl ⟨rfl, rfl⟩ (by kernel_rfl) rfl
    (fun f fn hf hfn => by
      obtain rfl : f = 8 := Option.some.inj ((show Tryd.prog.funcNamed "armillary/armillarylaw28.LedgerRepair" = some 8 by kernel_rfl).symm.trans hf) |>.symm
      obtain rfl : fn = Tryd.f8 := (Option.some.inj (Tryd.func8.symm.trans hfn)).symm
      refine ⟨by kernel_rfl, fun j t ht => ?_⟩
      have hm := Array.mem_of_getElem? ht
      rw [Tryd.params8] at hm
      simp only [List.mem_toArray, List.mem_cons, List.not_mem_nil, or_false] at hm
      first
        | (obtain rfl := hm; show Tryd.prog.wantsStandIn _ = false; kernel_rfl)
        | (rcases hm with rfl | rfl <;> show Tryd.prog.wantsStandIn _ = false <;> kernel_rfl)
        | (rcases hm with rfl | rfl | rfl <;> show Tryd.prog.wantsStandIn _ = false <;> kernel_rfl))
    (by kernel_rfl)
theorem proved : Rows.LedgerRepairCardSaid := tied
#print axioms proved
end Go.Proofs.YtiomeaoeegikkaaDoor.ledgerRepair
