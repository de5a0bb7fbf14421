/- What a function of the program computes, and the walk that shows it; made by a program of the session's out of the translation; no conditions beyond those that the theorems name. -/
import Derived.Test.YtiomeaoeegikkaaDoorY3
import Derived.Test.YtiomeaoeegikkaaDoorY5
import Derived.Test.YtiomeaoeegikkaaDoorY6
import Derived.Test.YtiomeaoeegikkaaDoorY4
import Derived.Test.YtiomeaoeegikkaaDoorRows
import Derived.Test.YtiomeaoeegikkaaDoorCards
import Derived.Test.YtiomeaoeegikkaaDoorTie
import Derived.SevenTiedAt
import Derived.WalkKit
import Derived.ProofKit
import Derived.OpenShut
import Derived.ShutString
import Derived.ChangeOld
import Derived.Below
import Derived.Carry
import Derived.WideShapes
namespace Go.Proofs.YtiomeaoeegikkaaDoor
open Go Go.Proofs.YtiomeaoeegikkaaDoor.RW
set_option linter.unusedVariables false
set_option maxRecDepth 100000
set_option maxHeartbeats 8000000

/-! ### armillarylaw28_LedgerCanonical: function 5, armillary/armillarylaw28.LedgerCanonical -/
noncomputable def K5_0 : Code := cBody Tryd.f5
noncomputable def O5_7 : List Oper := cOps (cL (cR (cR K5_0)))
def armillarylaw28_LedgerCanonical.k1  (x4 : Bool) : Option (Bool) := (some x4)
def armillarylaw28_LedgerCanonical.k2 (k : Nat) (t1 : Bool) (x2 : List Int) (t4 : List S25 × Int × Int) (x3 : Bool) : Option (Bool) := (if x3 = true then (some false) else ((armillarylaw28_build.f k [] t4.1).bind fun t5 => (if (0 : Int) ≤ t4.2.1 then (if t4.2.1 ≤ (x2.length : Int) then ((ledger_Scan.f k (rpart x2 0 t4.2.1)).bind fun t6 => ((if t5.2 = true then (if (0 : Int) ≤ t4.2.1 then (if t4.2.1 ≤ (x2.length : Int) then ((armillaryref28_SameBytes.f k t5.1 (rpart x2 0 t4.2.1)).bind fun t7 => (if t7 = true then (if t6.2.1 = t4.2.1 then (if t6.2.2 = 0 then ((armillaryref28_Same.f k t6.1 t4.1).bind fun t8 => (if t8 = true then (some t1) else (some false))) else (some false)) else (some false)) else (some false))) else none) else none) else (some false)).bind (armillarylaw28_LedgerCanonical.k1))) else none) else none)))
def armillarylaw28_LedgerCanonical.k3 (k : Nat) (t1 : Bool) (x2 : List Int) : Option (Bool) := ((ledger_Scan.f k x2).bind fun t4 => ((if t4.2.1 < 0 then (some true) else (some (decide (t4.2.1 > (x2.length : Int))))).bind (armillarylaw28_LedgerCanonical.k2 k t1 x2 t4)))
def armillarylaw28_LedgerCanonical.k4 (k : Nat) (a0 : List Int) (a2 : Int) (t1 : Bool) (t3 : List Int) (x1 : Bool) : Option (Bool) := ((if x1 = true then (if ((t3 ++ (rpart a0 0 (iMin (a0.length : Int) 400))).length : Int) = 0 then none else (if 0 ≤ ((W .i64 (a2)).tmod ((t3 ++ (rpart a0 0 (iMin (a0.length : Int) 400))).length : Int)) then (if ((W .i64 (a2)).tmod ((t3 ++ (rpart a0 0 (iMin (a0.length : Int) 400))).length : Int)) < ((t3 ++ (rpart a0 0 (iMin (a0.length : Int) 400))).length : Int) then (some ((t3 ++ (rpart a0 0 (iMin (a0.length : Int) 400))).set ((W .i64 (a2)).tmod ((t3 ++ (rpart a0 0 (iMin (a0.length : Int) 400))).length : Int)).toNat (W .u8 (Int.fdiv a2 256)))) else none) else none)) else (some (t3 ++ (rpart a0 0 (iMin (a0.length : Int) 400))))).bind (armillarylaw28_LedgerCanonical.k3 k t1))
def armillarylaw28_LedgerCanonical.f (k : Nat) (a0 : List Int) (a1 : List S25) (a2 : Int) : Option (Bool) := ((armillarylaw28_sanity.f k ).bind fun t1 => ((armillaryref28_Made.f k a1 6).bind fun t2 => ((armillaryref28_Log.f k t2).bind fun t3 => (if (0 : Int) ≤ (iMin (a0.length : Int) 400) then (if (iMin (a0.length : Int) 400) ≤ (a0.length : Int) then (if (t3.length + (rpart a0 0 (iMin (a0.length : Int) 400)).length) * 1 ≤ 140737488355328 then ((if ((t3 ++ (rpart a0 0 (iMin (a0.length : Int) 400))).length : Int) > 0 then (some (decide ((a2.tmod 4) > 0))) else (some false)).bind (armillarylaw28_LedgerCanonical.k4 k a0 a2 t1 t3)) else none) else none) else none))))
def armillarylaw28_LedgerCanonical.Post (I : Imm) (w : World) (r : Bool) (v : Value) (w' : World) : Prop :=
 ∃ (J : Imm), v = .bool r ∧ Got w w' I J []
noncomputable def a5_7n : List Nat := [0, 1, 3, 0, 0, 16, 48, 120, 255, 511]
theorem a5_7 : ancs O5_7 [] = a5_7n := by kernel_rfl
theorem a5_7o : drawOk O5_7 a5_7n 8 = true := by kernel_rfl
noncomputable def u5d1l (t2 : List S25) (t3 : List Int) : List Ld :=
 [⟨1, fun x => .slice ((x 0).1) t2.length ((x 0).2.1), fun x => [], fun x J => t2.length ≤ (x 0).2.1 ∧ Rd t25 J (x 0).1 t2 ∧ True, fun x J J' h f => ⟨f.1, Rd.ext h f.2.1, trivial⟩⟩,
  ⟨2, fun x => .slice ((x 0).1) t3.length ((x 0).2.1), fun x => [orow 5 1 (x 0).1 t3.length (x 0).2.1 (x 0).2.2], fun x J => Reps (Ty.int .u8) J t3 (x 0).2.2 ∧ True, fun x J J' h f => ⟨Reps.ext h f.1, trivial⟩⟩]
noncomputable def u5d1g (a0 : List Int) (Ap0 : Option Addr) (cp0 : Nat) : List (Nat × ((Nat → Wt) → Value)) := [(7, fun u => .slice (slA Ap0 (0 : Int).toNat cp0 1) ((rpart a0 0 (iMin (a0.length : Int) 400)).length) (cp0 - (0 : Int).toNat))]
noncomputable def u5d1q (a0 : List Int) (Ap0 : Option Addr) (cp0 : Nat) (a1 : List S25) (Ap1 : Option Addr) (cp1 : Nat) (a2 : Int) (t1 : Bool) (t2 : List S25) (t3 : List Int) (u : Nat → Wt) : Option (List Value × List (Nat × Value) × List (Nat × Nat)) := qSim Tryd.prog [] [] O5_7 ⟨97, []⟩ (Ld.vl (u5d1l t2 t3)) (u5d1g a0 Ap0 cp0) u [.no, .no, .no, .no, .no, .no, .no, .no] 0 (O5_7.take 8) [(7, .bool t1), (0, .slice Ap0 a0.length cp0), (1, .slice Ap1 a1.length cp1), (2, .int .u16 a2)]
noncomputable def u5d1s (a0 : List Int) (Ap0 : Option Addr) (cp0 : Nat) (a1 : List S25) (Ap1 : Option Addr) (cp1 : Nat) (t2 : List S25) (t3 : List Int) (u : Nat → Wt) : List Value := [.slice Ap1 a1.length cp1, .slice ((u 1 0).1) t2.length ((u 1 0).2.1), .slice ((u 2 0).1) t3.length ((u 2 0).2.1), .slice Ap0 a0.length cp0, .slice Ap0 a0.length cp0, i6 (a0.length : Int), i6 (iMin (a0.length : Int) 400), .slice (slA Ap0 (0 : Int).toNat cp0 1) ((rpart a0 0 (iMin (a0.length : Int) 400)).length) (cp0 - (0 : Int).toNat)]
noncomputable def u5d1f (a0 : List Int) (Ap0 : Option Addr) (cp0 : Nat) (a1 : List S25) (Ap1 : Option Addr) (cp1 : Nat) (a2 : Int) (t1 : Bool) (t2 : List S25) (t3 : List Int) (i : Nat) (u : Nat → Wt) : List (Nat × Value) := foldPut ⟨97, []⟩ [(7, .bool t1), (0, .slice Ap0 a0.length cp0), (1, .slice Ap1 a1.length cp1), (2, .int .u16 a2)] (O5_7.take i) (((u5d1s a0 Ap0 cp0 a1 Ap1 cp1 t2 t3) u).take i)
theorem u5d1v (a0 : List Int) (Ap0 : Option Addr) (cp0 : Nat) (a1 : List S25) (Ap1 : Option Addr) (cp1 : Nat) (a2 : Int) (t1 : Bool) (t2 : List S25) (t3 : List Int) (u : Nat → Wt) : (u5d1q a0 Ap0 cp0 a1 Ap1 cp1 a2 t1 t2 t3 u).map (fun x => (x.1, x.2.1)) = some ((u5d1s a0 Ap0 cp0 a1 Ap1 cp1 t2 t3) u, (u5d1f a0 Ap0 cp0 a1 Ap1 cp1 a2 t1 t2 t3 8) u) := by kernel_rfl
theorem u5d1e (a0 : List Int) (Ap0 : Option Addr) (cp0 : Nat) (a1 : List S25) (Ap1 : Option Addr) (cp1 : Nat) (a2 : Int) (t1 : Bool) (t2 : List S25) (t3 : List Int) (u : Nat → Wt) : (u5d1q a0 Ap0 cp0 a1 Ap1 cp1 a2 t1 t2 t3 u).map (fun x => x.2.2.map (·.1)) = (u5d1q a0 Ap0 cp0 a1 Ap1 cp1 a2 t1 t2 t3 u).map (fun x => x.2.2.map (·.2)) := by kernel_rfl
theorem armillarylaw28_LedgerCanonical.calls (k : Nat) (I0 : Imm) (a0 : List Int) (Ap0 : Option Addr) (cp0 : Nat) (a1 : List S25) (Ap1 : Option Addr) (cp1 : Nat) (a2 : Int) (w : World) (hI : I0.at_ w) (hG : Glob I0) (hlp0 : a0.length ≤ cp0) (hrp0 : Rd (Ty.int .u8) I0 Ap0 a0) (hlp1 : a1.length ≤ cp1) (hrp1 : Rd t25 I0 Ap1 a1) (r : Bool) (h : armillarylaw28_LedgerCanonical.f k a0 a1 a2 = some r) :
  Calls Tryd.prog 5 [.slice Ap0 a0.length cp0, .slice Ap1 a1.length cp1, .int .u16 a2].toArray w fun e w' => ∃ v, e = .returned v ∧ armillarylaw28_LedgerCanonical.Post I0 w r v w' := by
 have H : ((armillarylaw28_sanity.f k ).bind fun t1 => ((armillaryref28_Made.f k a1 6).bind fun t2 => ((armillaryref28_Log.f k t2).bind fun t3 => (if (0 : Int) ≤ (iMin (a0.length : Int) 400) then (if (iMin (a0.length : Int) 400) ≤ (a0.length : Int) then (if (t3.length + (rpart a0 0 (iMin (a0.length : Int) 400)).length) * 1 ≤ 140737488355328 then ((if ((t3 ++ (rpart a0 0 (iMin (a0.length : Int) 400))).length : Int) > 0 then (some (decide ((a2.tmod 4) > 0))) else (some false)).bind (armillarylaw28_LedgerCanonical.k4 k a0 a2 t1 t3)) else none) else none) else none)))) = some r := h
 clear h
 refine calls_body Tryd.func5 (by kernel_rfl) 97 (by kernel_rfl) (by kernel_rfl) ⟨w, fun _ => False, I0⟩ I0 [] [(0, .slice Ap0 a0.length cp0), (1, .slice Ap1 a1.length cp1), (2, .int .u16 a2)] (by kernel_rfl) (Sat.start w _ I0 hI) ?_
 generalize w.heap.size = nx0
 show OK _ K5_0 _ _ _ _ _ _ _ _
 refine OK.sr ?_
 refine RL.st 1 [(0, .slice Ap0 a0.length cp0), (1, .slice Ap1 a1.length cp1), (2, .int .u16 a2)] ?_
 refine OK.sr ?_
 obtain ⟨t1, hA1, H⟩ := bnd H
 refine RL.callP 11 [] (some 17) (fun w => armillarylaw28_sanity.Post I0 w t1) (by kernel_rfl) (by kernel_rfl) (fun w hs => armillarylaw28_sanity.calls k I0  w hs.im hG t1 hA1) ?_
 rintro w v w' hs ⟨I1, rfl, hg⟩
 have hi1 := hg.le
 refine RL.resume (X' := []) rfl (hs.call hg) ?_
 clear hs hg
 generalize w'.heap.size = nx1
 clear w w'
 refine RL.st 1 [(7, .bool t1), (0, .slice Ap0 a0.length cp0), (1, .slice Ap1 a1.length cp1), (2, .int .u16 a2)] ?_
 refine OK.sq ?_
 obtain ⟨t2, hA2, H⟩ := bnd H
 obtain ⟨t3, hA3, H⟩ := bnd H
 obtain ⟨hs1_1, H⟩ := ifs H
 obtain ⟨hs2_1, H⟩ := ifs H
 refine OK.drawnC 2 8 O5_7 a5_7n (by kernel_rfl) (by kernel_rfl) (u5d1l t2 t3) (u5d1g a0 Ap0 cp0) [] (RI.nil _) [.no, .no, .no, .no, .no, .no, .no, .no] a5_7 a5_7o (by kernel_rfl) (by kernel_rfl) (u5d1s a0 Ap0 cp0 a1 Ap1 cp1 t2 t3) (u5d1f a0 Ap0 cp0 a1 Ap1 cp1 a2 t1 t2 t3 8) (u5d1v a0 Ap0 cp0 a1 Ap1 cp1 a2 t1 t2 t3) (u5d1e a0 Ap0 cp0 a1 Ap1 cp1 a2 t1 t2 t3) [u5d1f a0 Ap0 cp0 a1 Ap1 cp1 a2 t1 t2 t3 1, u5d1f a0 Ap0 cp0 a1 Ap1 cp1 a2 t1 t2 t3 2] (framesOk.cons (fun u => rfl) (framesOk.cons (fun u => rfl) framesOk.nil)) ?_ [u5d1f a0 Ap0 cp0 a1 Ap1 cp1 a2 t1 t2 t3 7] (framesOk.cons (fun u => rfl) framesOk.nil) ?_ ?_
 ·refine LoudsG.cons ?_ (LoudsG.cons ?_ (LoudsG.nil))
  ·intro D u J w hp hJ hs hF
   refine Does.call 12 [.slice Ap1 a1.length cp1, i6 6] (by kernel_rfl) ((armillaryref28_Made.calls k J a1 Ap1 cp1 6 w hs.im hlp1 (Rd.ext (Imm.le_trans hi1 hJ) hrp1) t2 hA2).mono ?_)
   rintro e w' ⟨v, rfl, J2, A0_, c0_, cs0_, rfl, hg, hp0_⟩
   obtain ⟨J2', hj0_, hg', hl0_, hr0_⟩ := hg.freeze 0 rfl hp0_ rfl
   exact ⟨_, rfl, fun _ => (A0_, c0_, cs0_), J2', rfl, hg', hl0_, hr0_, trivial⟩
  ·intro D u J w hp hJ hs hF
   refine Does.call 13 [.slice ((u 1 0).1) t2.length ((u 1 0).2.1)] (by kernel_rfl) ((armillaryref28_Log.calls k J t2 ((u 1 0).1) ((u 1 0).2.1) w hs.im ((hF.1 (hp 1 (by kernel_rfl) (by kernel_rfl))).1) ((hF.1 (hp 1 (by kernel_rfl) (by kernel_rfl))).2.1) t3 hA3).mono ?_)
   rintro e w' ⟨v, rfl, J2, A0_, c0_, cs0_, rfl, hg, hp0_⟩
   exact ⟨_, rfl, fun _ => (A0_, c0_, cs0_), J2, rfl, hg, hp0_, trivial⟩
 ·refine Givens.cons (fun u w =>  ?_) (fun _ _ _ => rfl) (Givens.nil)
  ·exact giv_subH (T := 22) (e := 5) (l := a0) (S := Ap0) (cap := cp0) (hi := iMin (a0.length : Int) 400) 1 .i64 (by kernel_rfl) (by kernel_rfl) (by kernel_rfl) hlp0 hs1_1 hs2_1 w
 intro u I2 nx2 hi2 hF
 have hf1 := ((hF.1 rfl).1)
 have hf2 := ((hF.1 rfl).2.1)
 have hf3 := ((hF.2.1 rfl).1)
 clear hF
 refine RL.norm (K' := [(25, .slice (slA Ap0 (0 : Int).toNat cp0 1) ((rpart a0 0 (iMin (a0.length : Int) 400)).length) (cp0 - (0 : Int).toNat)), (24, i6 (iMin (a0.length : Int) 400)), (23, i6 (a0.length : Int)), (22, .slice Ap0 a0.length cp0), (21, .slice Ap0 a0.length cp0), (20, .slice ((u 2 0).1) t3.length ((u 2 0).2.1)), (19, .slice ((u 1 0).1) t2.length ((u 1 0).2.1)), (18, .slice Ap1 a1.length cp1), (7, .bool t1), (0, .slice Ap0 a0.length cp0), (1, .slice Ap1 a1.length cp1), (2, .int .u16 a2)]) (X' := [orow 5 1 (u 2 0).1 t3.length (u 2 0).2.1 (u 2 0).2.2]) (by kernel_rfl) rfl rfl rfl ?_
 revert hf1 hf2 hf3
 generalize (u 1 0).1 = A1
 generalize (u 1 0).2.1 = c1
 generalize (u 1 0).2.2 = cs1
 generalize (u 2 0).1 = A2
 generalize (u 2 0).2.1 = c2
 generalize (u 2 0).2.2 = cs2
 intro hf1 hf2 hf3
 clear u
 obtain ⟨hz1, H⟩ := ifs H
 refine RL.appendR (T := 22) (e := 5) (S := A2) (S2 := (slA Ap0 (0 : Int).toNat cp0 1)) 1 1 22 c2 (cp0 - (0 : Int).toNat) cs2 (Ty.int .u8) t3 (rpart a0 0 (iMin (a0.length : Int) 400)) 0 (some 26) (by kernel_rfl) (by kernel_rfl) (by kernel_rfl) (by kernel_rfl) (by kernel_rfl) (by decide) (by kernel_rfl) hf3 (Rd.ext hi2 (rd_sub (Rd.ext hi1 hrp0) hlp0 (Int.le_refl 0) hs1_1 hs2_1)) hz1 (by omega) (fun A3 c3 nx3 cs3 hp1 => ?_)
 refine RL.sub (K' := [(26, .slice A3 ((t3 ++ (rpart a0 0 (iMin (a0.length : Int) 400))).length) c3), (25, .slice (slA Ap0 (0 : Int).toNat cp0 1) ((rpart a0 0 (iMin (a0.length : Int) 400)).length) (cp0 - (0 : Int).toNat)), (24, i6 (iMin (a0.length : Int) 400)), (23, i6 (a0.length : Int)), (22, .slice Ap0 a0.length cp0), (21, .slice Ap0 a0.length cp0), (19, .slice A1 t2.length c1), (18, .slice Ap1 a1.length cp1), (7, .bool t1), (0, .slice Ap0 a0.length cp0), (1, .slice Ap1 a1.length cp1), (2, .int .u16 a2)]) (L' := []) (X' := [orow 5 1 A3 ((t3 ++ (rpart a0 0 (iMin (a0.length : Int) 400))).length) c3 cs3]) (by kernel_rfl) (.refl _) (.refl _) ?_
 refine RL.st 1 [(8, .slice A3 ((t3 ++ (rpart a0 0 (iMin (a0.length : Int) 400))).length) c3), (7, .bool t1), (2, .int .u16 a2)] ?_
 refine OK.sq ?_
 refine OK.sq ?_
 refine OK.join (fun K' I' _ L' X' => ∃ (x1 : Bool), K' = [(2, .int .u16 a2), (7, .bool t1), (8, .slice A3 ((t3 ++ (rpart a0 0 (iMin (a0.length : Int) 400))).length) c3), (34, .bool x1)] ∧ L' = [] ∧ X' = [orow 5 1 A3 ((t3 ++ (rpart a0 0 (iMin (a0.length : Int) 400))).length) c3 cs3] ∧ Imm.le I2 I' ∧ armillarylaw28_LedgerCanonical.k4 k a0 a2 t1 t3 x1 = some r) ?_ ?_
 ·rintro _ I3 nx4 _ _ ⟨x1, rfl, rfl, rfl, hi3, H⟩
  rw [armillarylaw28_LedgerCanonical.k4] at H
  refine QN.then_ ?_
  refine OK.join (fun K' I' _ L' X' => ∃ (x2 : List Int) (A4 : Option Addr) (c4 : Nat) (cs4 : List Value), K' = [(7, .bool t1), (8, .slice A4 x2.length c4)] ∧ L' = [] ∧ X' = [orow 5 1 A4 x2.length c4 cs4] ∧ Imm.le I3 I' ∧ Reps (Ty.int .u8) I' x2 cs4 ∧ armillarylaw28_LedgerCanonical.k3 k t1 x2 = some r) ?_ ?_
  ·rintro _ I4 nx5 _ _ ⟨x2, A4, c4, cs4, rfl, rfl, rfl, hi4, hp2, H⟩
   rw [armillarylaw28_LedgerCanonical.k3] at H
   refine QN.then_ ?_
   refine OK.sr ?_
   refine RL.s 1 [(46, .slice A4 x2.length c4), (7, .bool t1), (8, .slice A4 x2.length c4)] ?_
   refine RL.freeze (e := 5) (sz := 1) (S := A4) (n := x2.length) (cap := c4) 0 (by kernel_rfl) hp2 rfl (fun I5 hi5 hl1 hr1 => ?_)
   skip
   obtain ⟨t4, hA4, H⟩ := bnd H
   refine RL.callP 16 [.slice A4 x2.length c4] (some 47) (fun w => ledger_Scan.Post I5 w t4) (by kernel_rfl) (by kernel_rfl) (fun w hs => ledger_Scan.calls k I5 x2 A4 c4 w hs.im (Glob.ext (Imm.le_trans (Imm.le_trans (Imm.le_trans (Imm.le_trans hi1 hi2) hi3) hi4) hi5) hG) hl1 hr1 t4 hA4) ?_
   rintro w v w' hs ⟨I6, A5, c5, cs5, rfl, hg, hp3⟩
   have hi6 := hg.le
   refine RL.resume (X' := [orow 25 3 A5 t4.1.length c5 cs5]) rfl (hs.call hg) ?_
   clear hs hg
   generalize w'.heap.size = nx6
   clear w w'
   refine RL.st 7 [(10, i6 t4.2.1), (9, .slice A5 t4.1.length c5), (7, .bool t1), (8, .slice A4 x2.length c4)] ?_
   refine OK.sq ?_
   refine OK.sq ?_
   refine OK.join (fun K' I' _ L' X' => ∃ (x3 : Bool), K' = [(7, .bool t1), (8, .slice A4 x2.length c4), (9, .slice A5 t4.1.length c5), (10, i6 t4.2.1), (58, .bool x3)] ∧ L' = [] ∧ X' = [orow 25 3 A5 t4.1.length c5 cs5] ∧ Imm.le I6 I' ∧ armillarylaw28_LedgerCanonical.k2 k t1 x2 t4 x3 = some r) ?_ ?_
   ·rintro _ I7 nx7 _ _ ⟨x3, rfl, rfl, rfl, hi7, H⟩
    rw [armillarylaw28_LedgerCanonical.k2] at H
    refine QN.then_ ?_
    refine OK.cd x3 (fun hb => ?_) (fun hb => ?_)
    ·skip
     have hc := hb
     rw [if_pos hc] at H
     clear hb
     refine OK.sr ?_
     refine RL.st 1 [(6, .bool false)] ?_
     refine OK.re ?_
     refine QN.thenR ?_
     obtain rfl := Option.some.inj H
     refine QN.body rfl [] (RFacts.nil _ _ _) (.no) (.bool false) (by kernel_rfl) (by kernel_rfl) (by kernel_rfl) ?_ _ (.inr rfl)
     exact fun w' hs' => ⟨_, rfl, I7, rfl, hs'.got _ (.cons _ .slnil)⟩
    ·skip
     have hc := (Bool.eq_false_iff.1 hb)
     rw [if_neg hc] at H
     clear hb
     refine OK.skt ?_
     refine OK.sr ?_
     refine RL.s 1 [(60, .slice A5 t4.1.length c5), (7, .bool t1), (8, .slice A4 x2.length c4), (9, .slice A5 t4.1.length c5), (10, i6 t4.2.1)] ?_
     refine RL.freeze (e := 25) (sz := 3) (S := A5) (n := t4.1.length) (cap := c5) 0 (by kernel_rfl) (Reps.ext hi7 hp3) rfl (fun I8 hi8 hl2 hr2 => ?_)
     skip
     obtain ⟨t5, hA5, H⟩ := bnd H
     refine RL.callP 24 [.slice none 0 0, .slice A5 t4.1.length c5] (some 61) (fun w => armillarylaw28_build.Post I8 w t5) (by kernel_rfl) (by kernel_rfl) (fun w hs => armillarylaw28_build.calls k I8 [] none 0 t4.1 A5 c5 w hs.im (Nat.le_refl _) (Rd.nil _ _ _) hl2 hr2 t5 hA5) ?_
     rintro w v w' hs ⟨I9, A6, c6, rfl, hg, hl3, hr3⟩
     have hi9 := hg.le
     refine RL.resume (X' := []) rfl (hs.call hg) ?_
     clear hs hg
     generalize w'.heap.size = nx8
     clear w w'
     refine RL.st 5 [(13, .bool t5.2), (12, .slice A6 t5.1.length c6), (7, .bool t1), (8, .slice A4 x2.length c4), (9, .slice A5 t4.1.length c5), (10, i6 t4.2.1)] ?_
     refine OK.sr ?_
     refine RL.s 2 [(66, i6 t4.2.1), (65, .slice A4 x2.length c4), (13, .bool t5.2), (12, .slice A6 t5.1.length c6), (7, .bool t1), (8, .slice A4 x2.length c4), (9, .slice A5 t4.1.length c5), (10, i6 t4.2.1)] ?_
     obtain ⟨hs1_2, H⟩ := ifs H
     obtain ⟨hs2_2, H⟩ := ifs H
     refine RL.subH (T := 22) (e := 5) (l := x2) (S := A4) (cap := c4) (hi := t4.2.1) 1 .i64 (some 67) (by kernel_rfl) (by kernel_rfl) (by kernel_rfl) (by kernel_rfl) hl1 hs1_2 hs2_2 (K' := [(67, .slice (slA A4 (0 : Int).toNat c4 1) ((rpart x2 0 t4.2.1).length) (c4 - (0 : Int).toNat)), (66, i6 t4.2.1), (65, .slice A4 x2.length c4), (13, .bool t5.2), (12, .slice A6 t5.1.length c6), (7, .bool t1), (8, .slice A4 x2.length c4), (9, .slice A5 t4.1.length c5), (10, i6 t4.2.1)]) (by kernel_rfl) ?_
     obtain ⟨t6, hA6, H⟩ := bnd H
     refine RL.callP 16 [.slice (slA A4 (0 : Int).toNat c4 1) ((rpart x2 0 t4.2.1).length) (c4 - (0 : Int).toNat)] (some 68) (fun w => ledger_Scan.Post I9 w t6) (by kernel_rfl) (by kernel_rfl) (fun w hs => ledger_Scan.calls k I9 (rpart x2 0 t4.2.1) (slA A4 (0 : Int).toNat c4 1) (c4 - (0 : Int).toNat) w hs.im (Glob.ext (Imm.le_trans (Imm.le_trans (Imm.le_trans (Imm.le_trans (Imm.le_trans (Imm.le_trans (Imm.le_trans (Imm.le_trans hi1 hi2) hi3) hi4) hi5) hi6) hi7) hi8) hi9) hG) (part_le hl1 (Int.le_refl 0) hs1_2 hs2_2) (rd_sub (Rd.ext (Imm.le_trans (Imm.le_trans (Imm.le_trans hi6 hi7) hi8) hi9) hr1) hl1 (Int.le_refl 0) hs1_2 hs2_2) t6 hA6) ?_
     rintro w v w' hs ⟨I10, A7, c7, cs6, rfl, hg, hp4⟩
     have hi10 := hg.le
     refine RL.resume (X' := [orow 25 3 A7 t6.1.length c7 cs6]) rfl (hs.call hg) ?_
     clear hs hg
     generalize w'.heap.size = nx9
     clear w w'
     refine RL.st 7 [(16, i6 t6.2.2), (15, i6 t6.2.1), (14, .slice A7 t6.1.length c7), (13, .bool t5.2), (12, .slice A6 t5.1.length c6), (7, .bool t1), (8, .slice A4 x2.length c4), (9, .slice A5 t4.1.length c5), (10, i6 t4.2.1)] ?_
     refine OK.sq ?_
     refine OK.join (fun K' I' _ L' X' => ∃ (x4 : Bool), K' = [(6, .bool x4)] ∧ L' = [] ∧ X' = [] ∧ Imm.le I10 I' ∧ armillarylaw28_LedgerCanonical.k1 x4 = some r) ?_ ?_
     ·rintro _ I11 nx10 _ _ ⟨x4, rfl, rfl, rfl, hi11, H⟩
      rw [armillarylaw28_LedgerCanonical.k1] at H
      refine QN.then_ ?_
      refine OK.re ?_
      obtain rfl := Option.some.inj H
      refine QN.body rfl [] (RFacts.nil _ _ _) (.no) (.bool x4) (by kernel_rfl) (by kernel_rfl) (by kernel_rfl) ?_ _ (.inr rfl)
      exact fun w' hs' => ⟨_, rfl, I11, rfl, hs'.got _ .slnil⟩
     ·intro Q_1 hJ4 hQ4
      obtain ⟨y4, H, HK4⟩ := bnd H
      refine OK.rg ?_
      refine RL.s 2 [(73, .bool t5.2), (16, i6 t6.2.2), (15, i6 t6.2.1), (14, .slice A7 t6.1.length c7), (12, .slice A6 t5.1.length c6), (7, .bool t1), (8, .slice A4 x2.length c4), (9, .slice A5 t4.1.length c5), (10, i6 t4.2.1)] ?_
      refine RL.cases t5.2 (fun hb => ?_) (fun hb => ?_)
      ·have hc := hb
       rw [hb]
       rw [if_pos hc] at H; clear hb
       refine RL.s 3 [(76, i6 t4.2.1), (75, .slice A4 x2.length c4), (74, .slice A6 t5.1.length c6), (73, .bool true), (16, i6 t6.2.2), (15, i6 t6.2.1), (14, .slice A7 t6.1.length c7), (7, .bool t1), (9, .slice A5 t4.1.length c5), (10, i6 t4.2.1)] ?_
       obtain ⟨hs1_3, H⟩ := ifs H
       obtain ⟨hs2_3, H⟩ := ifs H
       refine RL.subH (T := 22) (e := 5) (l := x2) (S := A4) (cap := c4) (hi := t4.2.1) 1 .i64 (some 77) (by kernel_rfl) (by kernel_rfl) (by kernel_rfl) (by kernel_rfl) hl1 hs1_3 hs2_3 (K' := [(77, .slice (slA A4 (0 : Int).toNat c4 1) ((rpart x2 0 t4.2.1).length) (c4 - (0 : Int).toNat)), (76, i6 t4.2.1), (75, .slice A4 x2.length c4), (74, .slice A6 t5.1.length c6), (73, .bool true), (16, i6 t6.2.2), (15, i6 t6.2.1), (14, .slice A7 t6.1.length c7), (7, .bool t1), (9, .slice A5 t4.1.length c5), (10, i6 t4.2.1)]) (by kernel_rfl) ?_
       obtain ⟨t7, hA7, H⟩ := bnd H
       refine RL.callP 18 [.slice A6 t5.1.length c6, .slice (slA A4 (0 : Int).toNat c4 1) ((rpart x2 0 t4.2.1).length) (c4 - (0 : Int).toNat)] (some 78) (fun w => armillaryref28_SameBytes.Post I10 w t7) (by kernel_rfl) (by kernel_rfl) (fun w hs => armillaryref28_SameBytes.calls k I10 t5.1 A6 c6 (rpart x2 0 t4.2.1) (slA A4 (0 : Int).toNat c4 1) (c4 - (0 : Int).toNat) w hs.im hl3 (Rd.ext hi10 hr3) (part_le hl1 (Int.le_refl 0) hs1_3 hs2_3) (rd_sub (Rd.ext (Imm.le_trans (Imm.le_trans (Imm.le_trans (Imm.le_trans hi6 hi7) hi8) hi9) hi10) hr1) hl1 (Int.le_refl 0) hs1_3 hs2_3) t7 hA7) ?_
       rintro w v w' hs ⟨I12, rfl, hg⟩
       have hi12 := hg.le
       refine RL.resume (X' := [orow 25 3 A7 t6.1.length c7 cs6]) rfl (hs.call hg) ?_
       clear hs hg
       generalize w'.heap.size = nx11
       clear w w'
       refine RL.s 2 [(80, .bool t7), (16, i6 t6.2.2), (15, i6 t6.2.1), (14, .slice A7 t6.1.length c7), (7, .bool t1), (9, .slice A5 t4.1.length c5), (10, i6 t4.2.1)] ?_
       refine RL.cases t7 (fun hb => ?_) (fun hb => ?_)
       ·have hc := hb
        rw [hb]
        rw [if_pos hc] at H; clear hb
        refine RL.s 5 [(85, .bool (t6.2.1 == t4.2.1)), (16, i6 t6.2.2), (14, .slice A7 t6.1.length c7), (7, .bool t1), (9, .slice A5 t4.1.length c5)] ?_
        refine RL.cases (t6.2.1 == t4.2.1) (fun hb => ?_) (fun hb => ?_)
        ·have hc := (beq_iff_eq.1 hb)
         rw [hb]
         rw [if_pos hc] at H; clear hb
         refine RL.s 4 [(89, .bool (t6.2.2 == 0)), (14, .slice A7 t6.1.length c7), (7, .bool t1), (9, .slice A5 t4.1.length c5)] ?_
         refine RL.cases (t6.2.2 == 0) (fun hb => ?_) (fun hb => ?_)
         ·have hc := (beq_iff_eq.1 hb)
          rw [hb]
          rw [if_pos hc] at H; clear hb
          refine RL.s 2 [(91, .slice A5 t4.1.length c5), (90, .slice A7 t6.1.length c7), (89, .bool true), (7, .bool t1)] ?_
          obtain ⟨t8, hA8, H⟩ := bnd H
          refine RL.callP 19 [.slice A7 t6.1.length c7, .slice A5 t4.1.length c5] (some 92) (fun w v w' => ∃ I', Imm.le I12 I' ∧ armillaryref28_Same.Post I' w t8 v w') (by kernel_rfl) (by kernel_rfl) (fun w hs => ?_) ?_
          ·skip
           obtain ⟨JL1, hj1, hn1, hw1, hs⟩ := Sat.freeze (e := 25) (sz := 3) (S := A7) (n := t6.1.length) (cap := c7) (m := 0) hs (by kernel_rfl) (Reps.ext hi12 hp4) rfl
           exact (armillaryref28_Same.calls k JL1 t6.1 A7 c7 t4.1 A5 c5 _ hs.im hn1 hw1 hl2 (Rd.ext hj1 (Rd.ext (Imm.le_trans (Imm.le_trans hi9 hi10) hi12) hr2)) t8 hA8).mono (fun e w' ⟨v, hv, hp⟩ => ⟨v, hv, JL1, hj1, hp⟩)
          rintro w v w' hs ⟨I', hle, J, rfl, hg⟩
          refine RL.resume (X' := [orow 25 3 A7 t6.1.length c7 cs6]) rfl (hs.call (hg.back hle)) ?_
          clear hs hg hle I' J
          generalize w'.heap.size = nx12
          clear w w'
          refine RL.s 2 [(94, .bool t8), (7, .bool t1)] ?_
          refine RL.cases t8 (fun hb => ?_) (fun hb => ?_)
          ·have hc := hb
           rw [hb]
           rw [if_pos hc] at H; clear hb
           refine RL.s 3 [(6, .bool t1)] ?_
           refine RL.nil (by kernel_rfl) ?_
           obtain rfl := Option.some.inj H
           refine QN.sel (K' := [(6, .bool t1)]) (L' := []) [] (by kernel_rfl) (by kernel_rfl) .slnil ?_
           refine QN.norm (X' := []) rfl rfl rfl (by kernel_rfl) ?_
           exact hJ4 _ _ _ _ _ ⟨t1, rfl, rfl, rfl, hi12, HK4⟩
          ·have hc := (Bool.eq_false_iff.1 hb)
           rw [hb]
           rw [if_neg hc] at H; clear hb
           refine RL.s 3 [(6, .bool false)] ?_
           refine RL.nil (by kernel_rfl) ?_
           obtain rfl := Option.some.inj H
           refine QN.sel (K' := [(6, .bool false)]) (L' := []) [] (by kernel_rfl) (by kernel_rfl) .slnil ?_
           refine QN.norm (X' := []) rfl rfl rfl (by kernel_rfl) ?_
           exact hJ4 _ _ _ _ _ ⟨false, rfl, rfl, rfl, hi12, HK4⟩
         ·have hc := (beq_eq_false_iff_ne.1 hb)
          rw [hb]
          rw [if_neg hc] at H; clear hb
          refine RL.s 8 [(6, .bool false)] ?_
          refine RL.nil (by kernel_rfl) ?_
          obtain rfl := Option.some.inj H
          refine QN.sel (K' := [(6, .bool false)]) (L' := []) [] (by kernel_rfl) (by kernel_rfl) .slnil ?_
          refine QN.norm (X' := []) rfl rfl rfl (by kernel_rfl) ?_
          exact hJ4 _ _ _ _ _ ⟨false, rfl, rfl, rfl, hi12, HK4⟩
        ·have hc := (beq_eq_false_iff_ne.1 hb)
         rw [hb]
         rw [if_neg hc] at H; clear hb
         refine RL.s 12 [(6, .bool false)] ?_
         refine RL.nil (by kernel_rfl) ?_
         obtain rfl := Option.some.inj H
         refine QN.sel (K' := [(6, .bool false)]) (L' := []) [] (by kernel_rfl) (by kernel_rfl) .slnil ?_
         refine QN.norm (X' := []) rfl rfl rfl (by kernel_rfl) ?_
         exact hJ4 _ _ _ _ _ ⟨false, rfl, rfl, rfl, hi12, HK4⟩
       ·have hc := (Bool.eq_false_iff.1 hb)
        rw [hb]
        rw [if_neg hc] at H; clear hb
        refine RL.s 17 [(6, .bool false)] ?_
        refine RL.nil (by kernel_rfl) ?_
        obtain rfl := Option.some.inj H
        refine QN.sel (K' := [(6, .bool false)]) (L' := []) [] (by kernel_rfl) (by kernel_rfl) .slnil ?_
        refine QN.norm (X' := []) rfl rfl rfl (by kernel_rfl) ?_
        exact hJ4 _ _ _ _ _ ⟨false, rfl, rfl, rfl, hi12, HK4⟩
      ·have hc := (Bool.eq_false_iff.1 hb)
       rw [hb]
       rw [if_neg hc] at H; clear hb
       refine RL.s 24 [(6, .bool false)] ?_
       refine RL.nil (by kernel_rfl) ?_
       obtain rfl := Option.some.inj H
       refine QN.sel (K' := [(6, .bool false)]) (L' := []) [] (by kernel_rfl) (by kernel_rfl) .slnil ?_
       refine QN.norm (X' := []) rfl rfl rfl (by kernel_rfl) ?_
       exact hJ4 _ _ _ _ _ ⟨false, rfl, rfl, rfl, (Imm.le_refl _), HK4⟩
   ·intro Q_2 hJ3 hQ3
    obtain ⟨y3, H, HK3⟩ := bnd H
    refine OK.rg ?_
    refine RL.s 3 [(53, .bool (decide (t4.2.1 < 0))), (10, i6 t4.2.1), (9, .slice A5 t4.1.length c5), (7, .bool t1), (8, .slice A4 x2.length c4)] ?_
    refine RL.cases (decide (t4.2.1 < 0)) (fun hb => ?_) (fun hb => ?_)
    ·have hc := (of_decide_eq_true hb)
     rw [hb]
     rw [if_pos hc] at H; clear hb
     refine RL.s 5 [(58, .bool true), (10, i6 t4.2.1), (9, .slice A5 t4.1.length c5), (7, .bool t1), (8, .slice A4 x2.length c4)] ?_
     refine RL.nil (by kernel_rfl) ?_
     obtain rfl := Option.some.inj H
     exact QN.sb (hJ3 _ _ _ _ _ ⟨true, rfl, rfl, rfl, (Imm.le_refl _), HK3⟩) .slnil (.refl _)
    ·have hc := (of_decide_eq_false hb)
     rw [hb]
     rw [if_neg hc] at H; clear hb
     refine RL.s 5 [(58, .bool (decide (t4.2.1 > (x2.length : Int)))), (10, i6 t4.2.1), (9, .slice A5 t4.1.length c5), (7, .bool t1), (8, .slice A4 x2.length c4)] ?_
     refine RL.nil (by kernel_rfl) ?_
     obtain rfl := Option.some.inj H
     exact QN.sb (hJ3 _ _ _ _ _ ⟨(decide (t4.2.1 > (x2.length : Int))), rfl, rfl, rfl, (Imm.le_refl _), HK3⟩) .slnil (.refl _)
  ·intro Q_3 hJ2 hQ2
   obtain ⟨y2, H, HK2⟩ := bnd H
   refine OK.cd x1 (fun hb => ?_) (fun hb => ?_)
   ·skip
    have hc := hb
    rw [if_pos hc] at H
    clear hb
    refine OK.rg ?_
    refine RL.s 5 [(39, i6 ((t3 ++ (rpart a0 0 (iMin (a0.length : Int) 400))).length : Int)), (37, i6 (W .i64 (a2))), (35, .slice A3 ((t3 ++ (rpart a0 0 (iMin (a0.length : Int) 400))).length) c3), (2, .int .u16 a2), (7, .bool t1), (8, .slice A3 ((t3 ++ (rpart a0 0 (iMin (a0.length : Int) 400))).length) c3)] ?_
    by_cases hc : ((t3 ++ (rpart a0 0 (iMin (a0.length : Int) 400))).length : Int) = 0
    ·rw [if_pos hc] at H; cases H
    rw [if_neg hc] at H
    refine RL.rem .i64 (W .i64 (a2)) ((t3 ++ (rpart a0 0 (iMin (a0.length : Int) 400))).length : Int) (some 40) (by kernel_rfl) (by kernel_rfl) hc (K' := [(40, i6 ((W .i64 (a2)).tmod ((t3 ++ (rpart a0 0 (iMin (a0.length : Int) 400))).length : Int))), (39, i6 ((t3 ++ (rpart a0 0 (iMin (a0.length : Int) 400))).length : Int)), (37, i6 (W .i64 (a2))), (35, .slice A3 ((t3 ++ (rpart a0 0 (iMin (a0.length : Int) 400))).length) c3), (2, .int .u16 a2), (7, .bool t1), (8, .slice A3 ((t3 ++ (rpart a0 0 (iMin (a0.length : Int) 400))).length) c3)]) (by kernel_rfl) ?_
    refine RL.s 3 [(43, .int .u8 (W .u8 (Int.fdiv a2 256))), (40, i6 ((W .i64 (a2)).tmod ((t3 ++ (rpart a0 0 (iMin (a0.length : Int) 400))).length : Int))), (35, .slice A3 ((t3 ++ (rpart a0 0 (iMin (a0.length : Int) 400))).length) c3), (7, .bool t1), (8, .slice A3 ((t3 ++ (rpart a0 0 (iMin (a0.length : Int) 400))).length) c3)] ?_
    obtain ⟨hib0, H⟩ := ifs H
    obtain ⟨hib1, H⟩ := ifs H
    have hx01_ := hib0; have hx11_ := hib1
    refine RL.ownAddr (e := 5) (sz := 1) (S := A3) (n := (t3 ++ (rpart a0 0 (iMin (a0.length : Int) 400))).length) (cap := c3) (cs := cs3) 0 (by kernel_rfl) (by omega) (fun g1_ hA1_ => ?_)
    have hc1_ := Ty.int_own (Reps.ext hi3 hp1) ((W .i64 (a2)).tmod ((t3 ++ (rpart a0 0 (iMin (a0.length : Int) 400))).length : Int)) hib0 hib1
    refine RL.idx 1 .i64 ((W .i64 (a2)).tmod ((t3 ++ (rpart a0 0 (iMin (a0.length : Int) 400))).length : Int)) hA1_ ((t3 ++ (rpart a0 0 (iMin (a0.length : Int) 400))).length) c3 (some 44) (by kernel_rfl) (by kernel_rfl) (T := 22) (e := 5) (by kernel_rfl) (by kernel_rfl) hib0 hib1 (K' := [(44, pt g1_ (0 + ((W .i64 (a2)).tmod ((t3 ++ (rpart a0 0 (iMin (a0.length : Int) 400))).length : Int)).toNat * 1)), (43, .int .u8 (W .u8 (Int.fdiv a2 256))), (40, i6 ((W .i64 (a2)).tmod ((t3 ++ (rpart a0 0 (iMin (a0.length : Int) 400))).length : Int))), (35, .slice A3 ((t3 ++ (rpart a0 0 (iMin (a0.length : Int) 400))).length) c3), (7, .bool t1), (8, .slice A3 ((t3 ++ (rpart a0 0 (iMin (a0.length : Int) 400))).length) c3)]) (by kernel_rfl) ?_
    refine RL.storeL (T := 5) (e := 5) 1 0 hA1_ c3 ((W .i64 (a2)).tmod ((t3 ++ (rpart a0 0 (iMin (a0.length : Int) 400))).length : Int)) cs3 [.int .u8 (W .u8 (Int.fdiv a2 256))] (.int .u8 (W .u8 (Int.fdiv a2 256))) (Ty.int .u8) (t3 ++ (rpart a0 0 (iMin (a0.length : Int) 400))) (W .u8 (Int.fdiv a2 256)) (by kernel_rfl) (by kernel_rfl) (by kernel_rfl) (by kernel_rfl) (by kernel_rfl) rfl (by kernel_rfl) (Reps.ext hi3 hp1) hx01_ hx11_ (fun cs7 hp5 => ?_)
    refine RL.sub (K' := [(43, .int .u8 (W .u8 (Int.fdiv a2 256))), (40, i6 ((W .i64 (a2)).tmod ((t3 ++ (rpart a0 0 (iMin (a0.length : Int) 400))).length : Int))), (35, .slice A3 ((t3 ++ (rpart a0 0 (iMin (a0.length : Int) 400))).length) c3), (7, .bool t1), (8, .slice A3 ((t3 ++ (rpart a0 0 (iMin (a0.length : Int) 400))).length) c3)]) (L' := []) (X' := [orow 5 1 A3 (((t3 ++ (rpart a0 0 (iMin (a0.length : Int) 400))).set ((W .i64 (a2)).tmod ((t3 ++ (rpart a0 0 (iMin (a0.length : Int) 400))).length : Int)).toNat (W .u8 (Int.fdiv a2 256))).length) c3 cs7]) (by kernel_rfl) (.refl _) (.refl _) ?_
    refine RL.norm (K' := [(43, .int .u8 (W .u8 (Int.fdiv a2 256))), (40, i6 ((W .i64 (a2)).tmod ((t3 ++ (rpart a0 0 (iMin (a0.length : Int) 400))).length : Int))), (35, .slice A3 (((t3 ++ (rpart a0 0 (iMin (a0.length : Int) 400))).set ((W .i64 (a2)).tmod ((t3 ++ (rpart a0 0 (iMin (a0.length : Int) 400))).length : Int)).toNat (W .u8 (Int.fdiv a2 256))).length) c3), (7, .bool t1), (8, .slice A3 (((t3 ++ (rpart a0 0 (iMin (a0.length : Int) 400))).set ((W .i64 (a2)).tmod ((t3 ++ (rpart a0 0 (iMin (a0.length : Int) 400))).length : Int)).toNat (W .u8 (Int.fdiv a2 256))).length) c3)]) (L' := []) (by simp only [List.length_set]) rfl (by first | rfl | simp only [List.length_set]) rfl ?_
    refine RL.nil (by kernel_rfl) ?_
    refine QN.sub (K' := [(7, .bool t1), (8, .slice A3 (((t3 ++ (rpart a0 0 (iMin (a0.length : Int) 400))).set ((W .i64 (a2)).tmod ((t3 ++ (rpart a0 0 (iMin (a0.length : Int) 400))).length : Int)).toNat (W .u8 (Int.fdiv a2 256))).length) c3)]) (L' := []) (by kernel_rfl) .slnil (.refl _) ?_
    obtain rfl := Option.some.inj H
    exact QN.sb (hJ2 _ _ _ _ _ ⟨(t3 ++ (rpart a0 0 (iMin (a0.length : Int) 400))).set ((W .i64 (a2)).tmod ((t3 ++ (rpart a0 0 (iMin (a0.length : Int) 400))).length : Int)).toNat (W .u8 (Int.fdiv a2 256)), A3, c3, cs7, rfl, rfl, rfl, (Imm.le_refl _), hp5, HK2⟩) .slnil (.refl _)
   ·skip
    have hc := (Bool.eq_false_iff.1 hb)
    rw [if_neg hc] at H
    clear hb
    refine OK.sk ?_
    obtain rfl := Option.some.inj H
    exact QN.sb (hJ2 _ _ _ _ _ ⟨(t3 ++ (rpart a0 0 (iMin (a0.length : Int) 400))), A3, c3, cs3, rfl, rfl, rfl, (Imm.le_refl _), (Reps.ext hi3 hp1), HK2⟩) .slnil (.refl _)
 ·intro Q_4 hJ1 hQ1
  obtain ⟨y1, H, HK1⟩ := bnd H
  refine OK.rg ?_
  refine RL.s 4 [(30, .bool (decide (((t3 ++ (rpart a0 0 (iMin (a0.length : Int) 400))).length : Int) > 0))), (8, .slice A3 ((t3 ++ (rpart a0 0 (iMin (a0.length : Int) 400))).length) c3), (7, .bool t1), (2, .int .u16 a2)] ?_
  refine RL.cases (decide (((t3 ++ (rpart a0 0 (iMin (a0.length : Int) 400))).length : Int) > 0)) (fun hb => ?_) (fun hb => ?_)
  ·have hc := (of_decide_eq_true hb)
   rw [hb]
   rw [if_pos hc] at H; clear hb
   refine RL.s 4 [(34, .bool (decide ((a2.tmod 4) > 0))), (8, .slice A3 ((t3 ++ (rpart a0 0 (iMin (a0.length : Int) 400))).length) c3), (7, .bool t1), (2, .int .u16 a2)] ?_
   refine RL.nil (by kernel_rfl) ?_
   obtain rfl := Option.some.inj H
   exact QN.sb (hJ1 _ _ _ _ _ ⟨(decide ((a2.tmod 4) > 0)), rfl, rfl, rfl, (Imm.le_refl _), HK1⟩) .slnil (.refl _)
  ·have hc := (of_decide_eq_false hb)
   rw [hb]
   rw [if_neg hc] at H; clear hb
   refine RL.s 4 [(34, .bool false), (8, .slice A3 ((t3 ++ (rpart a0 0 (iMin (a0.length : Int) 400))).length) c3), (7, .bool t1), (2, .int .u16 a2)] ?_
   refine RL.nil (by kernel_rfl) ?_
   obtain rfl := Option.some.inj H
   exact QN.sb (hJ1 _ _ _ _ _ ⟨false, rfl, rfl, rfl, (Imm.le_refl _), HK1⟩) .slnil (.refl _)

end Go.Proofs.YtiomeaoeegikkaaDoor
namespace Go.Proofs.YtiomeaoeegikkaaDoor
open Go Go.Proofs.YtiomeaoeegikkaaDoor.RW Go.Proofs.YtiomeaoeegikkaaDoor.led
set_option linter.unusedVariables false
theorem canon_k3 {l : List Int} (hb : isBytes l) (hl : l.length ≤ 9000) : Ev (fun k => armillarylaw28_LedgerCanonical.k3 k true l) true := by
  obtain ⟨gs, r, hok, hge, hr⟩ := split_any l.length l (Nat.le_refl _) hb (by omega)
  subst hge
  obtain ⟨x, sc1⟩ := scan_any hok hb hl hr
  rw [List.length_append] at hl
  have hge := logOf_ge hok
  have b1 := build_ev gs hok (by omega) [] (by decide)
  rw [List.nil_append] at b1
  have sc2 := scan_log hok (by omega)
  have hle : ((logOf gs).length : Int) ≤ ((logOf gs ++ r).length : Int) := by rw [List.length_append]; omega
  refine Ev.bind sc1 ?_
  refine Ev.bind1 (r := false) ?_ ?_
  · show (if ((logOf gs).length : Int) < 0 then some true else some (decide (((logOf gs).length : Int) > ((logOf gs ++ r).length : Int)))) = _
    rw [if_neg (by omega), decide_eq_false (by omega)]
  refine Ev.congr (fun k => if_neg (by decide)) ?_
  refine Ev.bind b1 ?_
  refine Ev.congr (fun k => if_pos (by show (0 : Int) ≤ ((logOf gs).length : Int); omega)) ?_
  refine Ev.congr (fun k => if_pos (by show ((logOf gs).length : Int) ≤ _; exact hle)) ?_
  simp only [rpart_take, List.take_left]
  refine Ev.bind sc2 ?_
  refine Ev.bind (r := true) ?_ (Ev.const rfl)
  refine Ev.congr (fun k => if_pos trivial) ?_
  refine Ev.congr (fun k => if_pos (by omega)) ?_
  refine Ev.congr (fun k => if_pos hle) ?_
  refine Ev.bind (same_bytes (a := logOf gs) (by omega)) ?_
  refine Ev.congr (fun k => if_pos rfl) ?_
  refine Ev.congr (fun k => if_pos rfl) ?_
  refine Ev.congr (fun k => if_pos rfl) ?_
  refine Ev.bind (same_ev (a := gs) (by omega)) ?_
  exact Ev.congr (fun k => if_pos rfl) (Ev.const rfl)
theorem armillarylaw28_LedgerCanonical_holds (a0 : List Int) (a1 : List S25) (a2 : Int) (hp0 : ∀ x ∈ a0, (Lit.int .u8 x).wf = true) (h0 : a0.length ≤ 9223372036854775807) (hp1 : ∀ x ∈ a1, p25 x) (h1 : a1.length ≤ 9223372036854775807) (w2 : (Lit.int .u16 a2).wf = true) :
    ∃ k, armillarylaw28_LedgerCanonical.f k a0 a1 a2 = some true := by
  obtain ⟨es, e2, hok, hn, h60⟩ := made_ev a1 hp1 (by omega) 6 (by decide)
  have hl := logOf_small hok h60
  have e3 := rlog_ev es hok (by omega)
  have ha2 : 0 ≤ a2 ∧ a2 < 65536 := by
    simp [Lit.wf, IntKind.min, IntKind.max, IntKind.signed, IntKind.bits] at w2
    omega
  have hm : iMin (a0.length : Int) 400 = ((min a0.length 400 : Nat) : Int) := by rw [iMin_eq]; omega
  obtain ⟨g, hg⟩ : ∃ g, rpart a0 0 (iMin (a0.length : Int) 400) = g := ⟨_, rfl⟩
  have hg2 : a0.take (min a0.length 400) = g := by rw [← hg, hm, rpart_take]
  have hgl : g.length ≤ 400 := by rw [← hg2, List.length_take]; omega
  have hgb : isBytes g := by rw [← hg2]; exact fun x hx => u8_wf (hp0 x (List.mem_of_mem_take hx))
  have hb : isBytes (logOf es ++ g) := (logOf_bytes hok).app hgb
  have hlen : (logOf es ++ g).length ≤ 2000 := by rw [List.length_append]; omega
  refine Ev.get (Ev.bind sanity_ev (Ev.bind e2 (Ev.bind e3 ?_)))
  refine Ev.congr (fun k => if_pos (by omega)) ?_
  refine Ev.congr (fun k => if_pos (by omega)) ?_
  refine Ev.congr (fun k => if_pos (by rw [hg]; omega)) ?_
  have h4 : Ev (fun k => armillarylaw28_LedgerCanonical.k4 k a0 a2 true (logOf es) false) true := by
    unfold armillarylaw28_LedgerCanonical.k4
    rw [hg]
    exact Ev.bind1 (if_neg (by decide)) (canon_k3 hb (by omega))
  rw [hg]
  by_cases hz : (logOf es ++ g).length = 0
  · refine Ev.bind1 (r := false) (if_neg (by omega)) h4
  by_cases h4b : a2.tmod 4 > 0
  · refine Ev.bind1 (r := true) (by rw [if_pos (by omega), decide_eq_true h4b]) ?_
    unfold armillarylaw28_LedgerCanonical.k4
    rw [hg]
    obtain ⟨p, hp, hpl⟩ : ∃ p : Nat, (W .i64 a2).tmod ((logOf es ++ g).length : Int) = (p : Int) ∧ p < (logOf es ++ g).length := by
      rw [W64 (by omega) (by omega), Int.tmod_eq_emod_of_nonneg (by omega)]
      have h1 := Int.emod_nonneg a2 (b := ((logOf es ++ g).length : Int)) (by omega)
      have h2 := Int.emod_lt_of_pos a2 (b := ((logOf es ++ g).length : Int)) (by omega)
      exact ⟨(a2 % ((logOf es ++ g).length : Int)).toNat, by omega, by omega⟩
    rw [hp, tn]
    refine Ev.bind1 (r := (logOf es ++ g).set p (W .u8 (Int.fdiv a2 256))) ?_ ?_
    · rw [if_pos rfl, if_neg (by omega), if_pos (by omega), if_pos (by omega)]
    · refine canon_k3 (set_bytes hb ?_) (by rw [List.length_set]; omega)
      rw [W8]; omega
  · exact Ev.bind1 (r := false) (by rw [if_pos (by omega), decide_eq_false h4b]) h4
end Go.Proofs.YtiomeaoeegikkaaDoor
namespace Go.Proofs.YtiomeaoeegikkaaDoor.ledgerCanonical
open Go.ChangeShapes Go.WideShapes Go.ChangeAt Go.RowKit Go.Proofs.YtiomeaoeegikkaaDoor Go.Proofs.YtiomeaoeegikkaaDoor.RW
open Go.ChangeMaps (open_string shut_string)
set_option linter.unusedVariables false
set_option maxRecDepth 1000000
set_option maxHeartbeats 8000000

theorem own : ownKnob Tryd.prog.godebug = none := by kernel_rfl
theorem laidOut : laidOutB Tryd.prog = true := by kernel_rfl
theorem lifted (os : Os) (started : os.Started) (H : Type) (enc : TypeId × Value → H) :
  ReturnsInHanded {} Tryd.checked os 5 .any (fun w args => (Rows.ledgerCanonicalSpec.pre enc Tryd.prog Tryd.f5 [] false w args ∧ laidMetH Tryd.prog lh.laid w) ∧ sizedMet enc Tryd.prog Tryd.f5 (OpenSpec.ofChange Rows.ledgerCanonicalSpec) false w args) (Rows.ledgerCanonicalSpec.post enc Tryd.prog Tryd.f5 false true false false) := by
 refine returnsInHanded_of_change_and (C := Tryd.checked) (X := fun w _ => laidMetH Tryd.prog lh.laid w) (fun _ _ _ hh h => h.of_heap hh) own started (by kernel_rfl) Tryd.func5
  (ChangeSpec.witness_at (enc := enc) (C := Tryd.checked) (os := os) (X := fun w _ => laidMetH Tryd.prog lh.laid w) false (lh.laidWorld os) #[.slice none 0 0, .slice none 0 0, .int .u16 0] 8 rfl (by kernel_rfl) (by kernel_rfl) (by kernel_rfl) (by kernel_rfl) (by kernel_rfl) (lh.laidWorld_met os _)) ?_
 intro W base args ds gs before hval0 hW hcnd _ hL _
 have hval : ∀ (j : Nat) t v, Tryd.f5.params[j]? = some t → args[j]? = some v → Value.okWide Tryd.prog W .any base t v := hval0
 have hW' := hW
 obtain ⟨p, q, hA0, hV, rfl, hfz, hnd⟩ := hW
 have hA : DataW.TrodAll enc Tryd.prog W 0 (fun _ => true) true Tryd.f5.params.toList args.toList ds p := hA0
 rw [Tryd.params5] at hA hval
 obtain ⟨v0, vs0, d0, ds0, p0, q0, hargs, rfl, rfl, h0, z0⟩ := trodAll_cons hA
 obtain ⟨v1, vs1, d1, ds1, p1, q1, rfl, rfl, rfl, h1, z1⟩ := trodAll_cons z0
 obtain ⟨v2, vs2, d2, ds2, p2, q2, rfl, rfl, rfl, h2, z2⟩ := trodAll_cons z1
 obtain ⟨rfl, rfl, rfl⟩ := trodAll_nil z2
 obtain rfl : args = #[v0, v1, v2] := by cases args; simp_all
 obtain ⟨rfl, rfl⟩ := trodVars_none hV
 have k0 := h0
 have lt0 : ∀ x ∈ p0, x.block < W.heap.size := by obtain ⟨m, hm⟩ := k0; exact DataW.trod_lt m _ _ _ hm
 obtain ⟨b0, len0, cap0, rfl⟩ := okWide_slice Tryd.underlying22 (hval 0 22 v0 rfl rfl)
 obtain ⟨fuel0, hf0⟩ := h0
 obtain ⟨a0, ⟨A0, c0, e0, l0, r0⟩, hp0⟩ := (opens_slice (e := 5) (opens_int (by kernel_rfl)) (by kernel_rfl) (by kernel_rfl) (Nat.le_of_ble_eq_true (by kernel_rfl)) : Opens Tryd.prog (Ty.slice (Ty.int .u8)) 22 (fun l => ∀ x ∈ l, (fun n => (Lit.int .u8 n).wf = true) x)) W 0 _ _ _ _ _ hf0
 obtain ⟨rfl, rfl, rfl⟩ : b0 = A0 ∧ len0 = a0.length ∧ cap0 = c0 := by simpa [Value.cells] using e0
 have k1 := h1
 have lt1 : ∀ x ∈ p1, x.block < W.heap.size := by obtain ⟨m, hm⟩ := k1; exact DataW.trod_lt m _ _ _ hm
 obtain ⟨b1, len1, cap1, rfl⟩ := okWide_slice Tryd.underlying23 (hval 1 23 v1 rfl rfl)
 obtain ⟨fuel1, hf1⟩ := h1
 obtain ⟨a1, ⟨A1, c1, e1, l1, r1⟩, hp1⟩ := (opens_slice (e := 25) o25 (by kernel_rfl) (by kernel_rfl) (Nat.le_of_ble_eq_true (by kernel_rfl)) : Opens Tryd.prog (Ty.slice t25) 23 (fun l => ∀ x ∈ l, p25 x)) W 0 _ _ _ _ _ hf1
 obtain ⟨rfl, rfl, rfl⟩ : b1 = A1 ∧ len1 = a1.length ∧ cap1 = c1 := by simpa [Value.cells] using e1
 obtain ⟨a2, rfl, rfl, rfl, w2⟩ := open_int Tryd.underlying44 (hval 2 44 v2 rfl rfl) h2
 clear hA0 hval0
 obtain ⟨k, hk⟩ := armillarylaw28_LedgerCanonical_holds a0 a1 a2 hp0 r0.1 hp1 r1.1 w2
 refine (armillarylaw28_LedgerCanonical.calls k (wImm W) a0 b0 cap0 a1 b1 cap1 a2 W (wImm_at W) (lh.glob_of_laid hL) l0 r0 l1 r1 true hk).mono ?_
 rintro e W' ⟨v, rfl, J, rfl, hg⟩
 have bel : Below W.heap.size W W' := ⟨hg.evo.os, hg.evo.tape, hg.evo.output, hg.evo.size, fun k hk => hg.evo.blk k hk (fun h => h)⟩
 exact ⟨_, rfl, _, _, _, [], _, [], hW', trodAll_mk1 (shut_bool Tryd.underlying4 _), (trodAll_cons_mk (Below.trod laidOut (by kernel_rfl) (of_decide_eq_true (by kernel_rfl)) k0 bel lt0) (trodAll_cons_mk (Below.trod laidOut (by kernel_rfl) (of_decide_eq_true (by kernel_rfl)) k1 bel lt1) (trodAll_cons_mk (shut_int Tryd.underlying44 w2) trodAll_mk0))), rfl, bel.frame _, fun h => by cases h⟩

theorem over : Rows.ledgerCanonicalRow.holds Tryd.pinned (OpenSpec.ofChange Rows.ledgerCanonicalSpec) :=
 OpenClaim.holds_of_wide 5 Tryd.f5 rfl rfl rfl rfl rfl rfl rfl ⟨rfl, rfl, rfl, rfl, rfl⟩ rfl rfl rfl rfl rfl (by kernel_rfl) Tryd.func5 (by kernel_rfl)
  (of_decide_eq_true (by kernel_rfl)) (by unfold Func.isWrapper; first | (rw [if_pos (by decide +kernel)]; kernel_rfl) | (rw [if_neg (by decide +kernel)]; exact ⟨rfl, rfl⟩))
  (fun os started H enc _ => lifted os started H enc)
theorem tied : Rows.LedgerCanonicalCardSaid :=
  Claim7.holds_tied_plain_at .later [] [.handle] true (true, "fef0f658d46f2b31548aceb5a193b059c844c18693a0855299c2bac37f2f0ac5") true
    over (fun _ h => by cases h) (by kernel_rfl) (fun _ h => by cases h) ledgerCanonical_row_tie rfl ⟨rfl, rfl⟩ (by kernel_rfl) rfl
    (fun f fn hf hfn => by
      obtain rfl : f = 5 := Option.some.inj ((show Tryd.prog.funcNamed "armillary/armillarylaw28.LedgerCanonical" = some 5 by kernel_rfl).symm.trans hf) |>.symm
      obtain rfl : fn = Tryd.f5 := (Option.some.inj (Tryd.func5.symm.trans hfn)).symm
      refine ⟨by kernel_rfl, fun j t ht => ?_⟩
      have hm := Array.mem_of_getElem? ht
      rw [Tryd.params5] at hm
      simp only [List.mem_toArray, List.mem_cons, List.not_mem_nil, or_false] at hm
      first
        | (obtain rfl := hm; show Tryd.prog.wantsStandIn _ = false; kernel_rfl)
        | (rcases hm with rfl | rfl <;> show Tryd.prog.wantsStandIn _ = false <;> kernel_rfl)
        | (rcases hm with rfl | rfl | rfl <;> show Tryd.prog.wantsStandIn _ = false <;> kernel_rfl))
    (by kernel_rfl)
theorem proved : Rows.LedgerCanonicalCardSaid := tied
#print axioms proved
end Go.Proofs.YtiomeaoeegikkaaDoor.ledgerCanonical
