/- Words of the walk, the functions' walks and plain laws, joined; no conditions beyond those that the theorems name. -/
import Derived.Test.YtihmbmeelheinaaV2
namespace Go.Proofs.Ytihmbmeelheinaa
open Go Go.Proofs.Ytihmbmeelheinaa.RW
set_option linter.unusedVariables false
set_option maxRecDepth 100000
set_option maxHeartbeats 8000000

/-! ### auction_Tabulate: function 17, armillary/auction.Tabulate -/
noncomputable def K17_0 : Code := cBody Try.f17
noncomputable def O17_47 : List Oper := cOps (cR (cL (cL (cR (cR (cL (cL (cR (cR (cR (cL (cL (cR (cR (cL (cL (cR (cL (cR (cR (cR K17_0)))))))))))))))))))))
def auction_Tabulate.k1 (t1 : List Int) (t2 : List Int) (x1 : List (List Int)) : Option (List Int × List Int × List (List Int)) := (some (t1, t2, x1))
def auction_Tabulate.k3 (x2 : List (List Int)) (x3 : Int) (x5 : List Int) : Option (List (List Int)) := (some (x2.set (x3).toNat x5))
def auction_Tabulate.l2 (t1 : List Int) (t2 : List Int) (t3 : (List ((Int × Int) × Int))) (x2 : List (List Int)) (x3 : Int) : Nat → Int → (List Int) → Option (List Int)
 | 0, _, _ => none
 | k + 1, x6, x7 => (if x6 < (t2.length : Int) then (if 0 ≤ x6 then (if x6 < (t2.length : Int) then (if 0 ≤ x3 then (if x3 < (x2.length : Int) then (if 0 ≤ x6 then (if x6 < (x7.length : Int) then (auction_Tabulate.l2 t1 t2 t3 x2 x3 k (W .i64 (x6 + 1)) (x7.set (x6).toNat ((mget t3 ((t1.getD (x3).toNat 0), (t2.getD (x6).toNat 0))).getD 0))) else none) else none) else none) else none) else none) else none) else (some x7))
def auction_Tabulate.l1 (t1 : List Int) (t2 : List Int) (t3 : (List ((Int × Int) × Int))) : Nat → (List (List Int)) → Int → Option (List (List Int))
 | 0, _, _ => none
 | k + 1, x2, x3 => (if x3 < (t1.length : Int) then ((if 0 ≤ x3 then (if x3 < (t1.length : Int) then (if 0 ≤ (t2.length : Int) then (if (t2.length : Int) ≤ 35184372088832 then (if 0 ≤ x3 then (if x3 < (x2.length : Int) then ((auction_Tabulate.l2 t1 t2 t3 x2 x3 k 0 (List.replicate ((t2.length : Int)).toNat (0 : Int))).bind (auction_Tabulate.k3 x2 x3)) else none) else none) else none) else none) else none) else none).bind (fun x4 => (auction_Tabulate.l1 t1 t2 t3 k x4 (W .i64 (x3 + 1))))) else (some x2))
def auction_Tabulate.f (k : Nat) (a0 : List S48) : Option (List Int × List Int × List (List Int)) := ((auction_distincts0.f k a0).bind fun t1 => ((auction_distincts1.f k a0).bind fun t2 => ((auction_values.f k a0).bind fun t3 => (if 0 ≤ (t1.length : Int) then (if (t1.length : Int) ≤ 11728124029610 then ((auction_Tabulate.l1 t1 t2 t3 k (List.replicate ((t1.length : Int)).toNat ([] : List Int)) 0).bind (auction_Tabulate.k1 t1 t2)) else none) else none))))
def auction_Tabulate.Post (I : Imm) (w : World) (r : List Int × List Int × List (List Int)) (v : Value) (w' : World) : Prop :=
 ∃ (J : Imm) (A0 : Option Addr) (c0 : Nat) (cs0 : List Value) (A1 : Option Addr) (c1 : Nat) (cs1 : List Value) (A2 : Option Addr) (c2 : Nat) (cs2 : List Value), v = .tuple #[.slice A0 r.1.length c0, .slice A1 r.2.1.length c1, .slice A2 r.2.2.length c2] ∧ Got w w' I J [orow 3 1 A0 r.1.length c0 cs0, orow 3 1 A1 r.2.1.length c1 cs1, orow 27 1 A2 r.2.2.length c2 cs2] ∧ Reps (Ty.int .i64) J r.1 cs0 ∧ Reps (Ty.int .i64) J r.2.1 cs1 ∧ Reps (Ty.slice (Ty.int .i64)) J r.2.2 cs2
noncomputable def a17_47n : List Nat := [0, 0, 3, 7, 0, 0, 0, 0, 192, 480, 1023, 2047]
theorem a17_47 : ancs O17_47 [] = a17_47n := by kernel_rfl
theorem a17_47o : drawOk O17_47 a17_47n 10 = true := by kernel_rfl
noncomputable def u17d1l  : List Ld :=
 []
noncomputable def u17d1g (t1 : List Int) (t2 : List Int) (t3 : (List ((Int × Int) × Int))) (x3 : Int) (x6 : Int) (g4_ : Nat) : List (Nat × ((Nat → Wt) → Value)) := [(2, fun u => pt g4_ (0 + (x3).toNat * 1)), (9, fun u => i6 ((mget t3 ((t1.getD (x3).toNat 0), (t2.getD (x6).toNat 0))).getD 0))]
noncomputable def u17d1q (t1 : List Int) (A1 : Option Addr) (c1 : Nat) (t2 : List Int) (A2 : Option Addr) (c2 : Nat) (t3 : (List ((Int × Int) × Int))) (g1 : Nat) (x2 : List (List Int)) (A4 : Option Addr) (c4 : Nat) (x3 : Int) (nx6 : Nat) (x6 : Int) (g4_ : Nat) (u : Nat → Wt) : Option (List Value × List (Nat × Value) × List (Nat × Nat)) := qSim Try.prog [(⟨g4_, 0 + (x3).toNat * 1, none⟩, .slice (some ⟨nx6, 0, none⟩) ((List.replicate ((t2.length : Int)).toNat (0 : Int)).length) ((List.replicate ((t2.length : Int)).toNat (0 : Int)).length))] [] O17_47 ⟨58, []⟩ (Ld.vl u17d1l) (u17d1g t1 t2 t3 x3 x6 g4_) u [.no, .no, .no, .r 0, .no, .no, .no, .no, .no, .no] 0 (O17_47.take 10) [(12, i6 (t2.getD (x6).toNat 0)), (11, i6 x6), (5, .slice A1 t1.length c1), (6, .slice A2 t2.length c2), (7, .map (some g1)), (8, .slice A4 x2.length c4), (9, i6 x3), (10, i6 (t1.getD (x3).toNat 0)), (22, .slice A1 t1.length c1), (23, i6 (t1.length : Int)), (24, i6 x3), (35, .slice A2 t2.length c2), (36, i6 (t2.length : Int)), (37, i6 x6)]
noncomputable def u17d1s (t1 : List Int) (t2 : List Int) (t3 : (List ((Int × Int) × Int))) (g1 : Nat) (x2 : List (List Int)) (A4 : Option Addr) (c4 : Nat) (x3 : Int) (nx6 : Nat) (x6 : Int) (g4_ : Nat) (u : Nat → Wt) : List Value := [.slice A4 x2.length c4, i6 x3, pt g4_ (0 + (x3).toNat * 1), .slice (some ⟨nx6, 0, none⟩) ((List.replicate ((t2.length : Int)).toNat (0 : Int)).length) ((List.replicate ((t2.length : Int)).toNat (0 : Int)).length), i6 x6, .map (some g1), i6 (t1.getD (x3).toNat 0), i6 (t2.getD (x6).toNat 0), .agg #[i6 (t1.getD (x3).toNat 0), i6 (t2.getD (x6).toNat 0)], i6 ((mget t3 ((t1.getD (x3).toNat 0), (t2.getD (x6).toNat 0))).getD 0)]
noncomputable def u17d1f (t1 : List Int) (A1 : Option Addr) (c1 : Nat) (t2 : List Int) (A2 : Option Addr) (c2 : Nat) (t3 : (List ((Int × Int) × Int))) (g1 : Nat) (x2 : List (List Int)) (A4 : Option Addr) (c4 : Nat) (x3 : Int) (nx6 : Nat) (x6 : Int) (g4_ : Nat) (i : Nat) (u : Nat → Wt) : List (Nat × Value) := foldPut ⟨58, []⟩ [(12, i6 (t2.getD (x6).toNat 0)), (11, i6 x6), (5, .slice A1 t1.length c1), (6, .slice A2 t2.length c2), (7, .map (some g1)), (8, .slice A4 x2.length c4), (9, i6 x3), (10, i6 (t1.getD (x3).toNat 0)), (22, .slice A1 t1.length c1), (23, i6 (t1.length : Int)), (24, i6 x3), (35, .slice A2 t2.length c2), (36, i6 (t2.length : Int)), (37, i6 x6)] (O17_47.take i) (((u17d1s t1 t2 t3 g1 x2 A4 c4 x3 nx6 x6 g4_) u).take i)
theorem u17d1v (t1 : List Int) (A1 : Option Addr) (c1 : Nat) (t2 : List Int) (A2 : Option Addr) (c2 : Nat) (t3 : (List ((Int × Int) × Int))) (g1 : Nat) (x2 : List (List Int)) (A4 : Option Addr) (c4 : Nat) (x3 : Int) (nx6 : Nat) (x6 : Int) (g4_ : Nat) (u : Nat → Wt) : (u17d1q t1 A1 c1 t2 A2 c2 t3 g1 x2 A4 c4 x3 nx6 x6 g4_ u).map (fun x => (x.1, x.2.1)) = some ((u17d1s t1 t2 t3 g1 x2 A4 c4 x3 nx6 x6 g4_) u, (u17d1f t1 A1 c1 t2 A2 c2 t3 g1 x2 A4 c4 x3 nx6 x6 g4_ 10) u) := by kernel_rfl
theorem u17d1e (t1 : List Int) (A1 : Option Addr) (c1 : Nat) (t2 : List Int) (A2 : Option Addr) (c2 : Nat) (t3 : (List ((Int × Int) × Int))) (g1 : Nat) (x2 : List (List Int)) (A4 : Option Addr) (c4 : Nat) (x3 : Int) (nx6 : Nat) (x6 : Int) (g4_ : Nat) (u : Nat → Wt) : (u17d1q t1 A1 c1 t2 A2 c2 t3 g1 x2 A4 c4 x3 nx6 x6 g4_ u).map (fun x => x.2.2.map (·.1)) = (u17d1q t1 A1 c1 t2 A2 c2 t3 g1 x2 A4 c4 x3 nx6 x6 g4_ u).map (fun x => x.2.2.map (·.2)) := by kernel_rfl
theorem auction_Tabulate.calls (k : Nat) (I0 : Imm) (a0 : List S48) (Ap0 : Option Addr) (cp0 : Nat) (w : World) (hI : I0.at_ w) (hlp0 : a0.length ≤ cp0) (hrp0 : Rd t48 I0 Ap0 a0) (r : List Int × List Int × List (List Int)) (h : auction_Tabulate.f k a0 = some r) :
  Calls Try.prog 17 [.slice Ap0 a0.length cp0].toArray w fun e w' => ∃ v, e = .returned v ∧ auction_Tabulate.Post I0 w r v w' := by
 have H : ((auction_distincts0.f k a0).bind fun t1 => ((auction_distincts1.f k a0).bind fun t2 => ((auction_values.f k a0).bind fun t3 => (if 0 ≤ (t1.length : Int) then (if (t1.length : Int) ≤ 11728124029610 then ((auction_Tabulate.l1 t1 t2 t3 k (List.replicate ((t1.length : Int)).toNat ([] : List Int)) 0).bind (auction_Tabulate.k1 t1 t2)) else none) else none)))) = some r := h
 clear h
 refine calls_body Try.func17 (by kernel_rfl) 58 (by kernel_rfl) (by kernel_rfl) ⟨w, fun _ => False, I0⟩ I0 [] [(0, .slice Ap0 a0.length cp0)] (by kernel_rfl) (Sat.start w _ I0 hI) ?_
 generalize w.heap.size = nx0
 show OK _ K17_0 _ _ _ _ _ _ _ _
 refine OK.sr ?_
 refine RL.st 3 [(0, .slice Ap0 a0.length cp0)] ?_
 refine OK.sr ?_
 refine RL.s 1 [(13, .slice Ap0 a0.length cp0), (0, .slice Ap0 a0.length cp0)] ?_
 obtain ⟨t1, hA1, H⟩ := bnd H
 refine RL.callM (L1 := []) (L2 := []) (X1 := []) (X2 := []) rfl rfl 29 [.slice Ap0 a0.length cp0, .func (.func 30) #[] #[]] (some 14) (fun w => auction_distincts0.Post (SM [] []) a0 Ap0 cp0 I0 w t1) (by kernel_rfl) (by kernel_rfl) (fun w hs => auction_distincts0.calls k I0 a0 Ap0 cp0 w hs hlp0 hrp0 t1 hA1) ?_
 rintro w v w' hs ⟨I1, A1, c1, cs1, rfl, hg, hp1⟩
 have hi1 : Imm.le I0 I1 := hg.le
 refine RL.resume (L' := []) (X' := [orow 3 1 A1 t1.length c1 cs1]) rfl (hs.outof hg) ?_
 clear hs hg
 generalize w'.heap.size = nx1
 clear w w'
 refine RL.s 1 [(15, .slice Ap0 a0.length cp0), (14, .slice A1 t1.length c1), (0, .slice Ap0 a0.length cp0)] ?_
 obtain ⟨t2, hA2, H⟩ := bnd H
 refine RL.callM (L1 := []) (L2 := []) (X1 := []) (X2 := [orow 3 1 A1 t1.length c1 cs1]) rfl rfl 29 [.slice Ap0 a0.length cp0, .func (.func 31) #[] #[]] (some 16) (fun w => auction_distincts1.Post (SM [] []) a0 Ap0 cp0 I1 w t2) (by kernel_rfl) (by kernel_rfl) (fun w hs => auction_distincts1.calls k I1 a0 Ap0 cp0 w hs hlp0 (Rd.ext hi1 hrp0) t2 hA2) ?_
 rintro w v w' hs ⟨I2, A2, c2, cs2, rfl, hg, hp2⟩
 have hi2 : Imm.le I1 I2 := hg.le
 refine RL.resume (L' := []) (X' := [orow 3 1 A2 t2.length c2 cs2, orow 3 1 A1 t1.length c1 cs1]) rfl (hs.outof hg) ?_
 clear hs hg
 generalize w'.heap.size = nx2
 clear w w'
 refine RL.s 1 [(17, .slice Ap0 a0.length cp0), (16, .slice A2 t2.length c2), (14, .slice A1 t1.length c1)] ?_
 obtain ⟨t3, hA3, H⟩ := bnd H
 refine RL.callP 28 [.slice Ap0 a0.length cp0] (some 18) (fun w => auction_values.Post I2 w t3) (by kernel_rfl) (by kernel_rfl) (fun w hs => auction_values.calls k I2 a0 Ap0 cp0 w hs.im hlp0 (Rd.ext (Imm.le_trans hi1 hi2) hrp0) t3 hA3) ?_
 rintro w v w' hs ⟨I3, g1, rfl, hg, hm1⟩
 have hi3 := hg.le
 refine RL.resume (X' := [orow 3 1 A2 t2.length c2 cs2, orow 3 1 A1 t1.length c1 cs1]) rfl (hs.call hg) ?_
 clear hs hg
 generalize w'.heap.size = nx3
 clear w w'
 refine RL.st 3 [(7, .map (some g1)), (6, .slice A2 t2.length c2), (5, .slice A1 t1.length c1)] ?_
 refine OK.sr ?_
 refine RL.s 2 [(20, i6 (t1.length : Int)), (7, .map (some g1)), (6, .slice A2 t2.length c2), (5, .slice A1 t1.length c1)] ?_
 obtain ⟨hm2, H⟩ := ifs H
 obtain ⟨hm3, H⟩ := ifs H
 refine RL.makeL (T := 33) (e := 27) (t1.length : Int) .i64 .i64 (some 21) (.slice none 0 0) ([]) (Ty.slice (Ty.int .i64)) 24 (by kernel_rfl) (by kernel_rfl) (by kernel_rfl) (by kernel_rfl) (by kernel_rfl) ⟨none, 0, rfl, Nat.le_refl _, Rd.nil _ _ _⟩ hm2 (by omega) (by omega) (fun nx4 hp3 => ?_)
 refine RL.norm (K' := [(21, .slice (some ⟨nx3, 0, none⟩) ((List.replicate ((t1.length : Int)).toNat ([] : List Int)).length) ((List.replicate ((t1.length : Int)).toNat ([] : List Int)).length)), (20, i6 (t1.length : Int)), (7, .map (some g1)), (6, .slice A2 t2.length c2), (5, .slice A1 t1.length c1)]) (X' := [orow 3 1 A2 t2.length c2 cs2, orow 3 1 A1 t1.length c1 cs1, orow 27 1 (some ⟨nx3, 0, none⟩) ((List.replicate ((t1.length : Int)).toNat ([] : List Int)).length) ((List.replicate ((t1.length : Int)).toNat ([] : List Int)).length) (List.replicate ((t1.length : Int)).toNat (.slice none 0 0))]) (by kernel_rfl) rfl rfl (by kernel_rfl) ?_
 refine RL.st 1 [(8, .slice (some ⟨nx3, 0, none⟩) ((List.replicate ((t1.length : Int)).toNat ([] : List Int)).length) ((List.replicate ((t1.length : Int)).toNat ([] : List Int)).length)), (7, .map (some g1)), (6, .slice A2 t2.length c2), (5, .slice A1 t1.length c1)] ?_
 refine OK.sq ?_
 refine OK.sr ?_
 refine RL.st 3 [(24, i6 0), (23, i6 (t1.length : Int)), (22, .slice A1 t1.length c1), (8, .slice (some ⟨nx3, 0, none⟩) ((List.replicate ((t1.length : Int)).toNat ([] : List Int)).length) ((List.replicate ((t1.length : Int)).toNat ([] : List Int)).length)), (7, .map (some g1)), (6, .slice A2 t2.length c2), (5, .slice A1 t1.length c1)] ?_
 refine OK.join (fun K' I' _ L' X' => ∃ (x1 : List (List Int)) (A3 : Option Addr) (c3 : Nat) (cs3 : List Value), K' = [(5, .slice A1 t1.length c1), (6, .slice A2 t2.length c2), (8, .slice A3 x1.length c3)] ∧ L' = [] ∧ X' = [orow 3 1 A1 t1.length c1 cs1, orow 3 1 A2 t2.length c2 cs2, orow 27 1 A3 x1.length c3 cs3] ∧ Imm.le I3 I' ∧ Reps (Ty.slice (Ty.int .i64)) I' x1 cs3 ∧ auction_Tabulate.k1 t1 t2 x1 = some r) ?_ ?_
 ·rintro _ I4 nx5 _ _ ⟨x1, A3, c3, cs3, rfl, rfl, rfl, hi4, hp4, H⟩
  rw [auction_Tabulate.k1] at H
  refine QN.then_ ?_
  refine OK.sr ?_
  refine RL.st 6 [(4, .slice A3 x1.length c3), (3, .slice A2 t2.length c2), (2, .slice A1 t1.length c1)] ?_
  refine OK.re ?_
  obtain rfl := Option.some.inj H
  refine QN.body rfl [] (RFacts.nil _ _ _) (.no) (.tuple #[.slice A1 t1.length c1, .slice A2 t2.length c2, .slice A3 x1.length c3]) (by kernel_rfl) (by kernel_rfl) (by kernel_rfl) ?_ _ (.inr rfl)
  exact fun w' hs' => ⟨_, rfl, I4, A1, c1, cs1, A2, c2, cs2, A3, c3, cs3, rfl, hs'.got _ (.cons_cons _ (.cons_cons _ (.cons_cons _ .slnil))), (Reps.ext (Imm.le_trans (Imm.le_trans hi2 hi3) hi4) hp1), (Reps.ext (Imm.le_trans hi3 hi4) hp2), hp4⟩
 ·intro Q_1 hJ1 hQ1
  obtain ⟨y1, H, HK1⟩ := bnd H
  refine OK.bk 0 ?_
  refine OK.sel (K' := [(5, .slice A1 t1.length c1), (6, .slice A2 t2.length c2), (7, .map (some g1)), (8, .slice (some ⟨nx3, 0, none⟩) ((List.replicate ((t1.length : Int)).toNat ([] : List Int)).length) ((List.replicate ((t1.length : Int)).toNat ([] : List Int)).length)), (22, .slice A1 t1.length c1), (23, i6 (t1.length : Int)), (24, i6 0)]) (L' := []) [1, 0, 2] (by kernel_rfl) (by kernel_rfl) .slnil ?_
  refine OK.norm (X' := [orow 3 1 A1 t1.length c1 cs1, orow 3 1 A2 t2.length c2 cs2, orow 27 1 (some ⟨nx3, 0, none⟩) ((List.replicate ((t1.length : Int)).toNat ([] : List Int)).length) ((List.replicate ((t1.length : Int)).toNat ([] : List Int)).length) (List.replicate ((t1.length : Int)).toNat (.slice none 0 0))]) rfl rfl rfl (by kernel_rfl) ?_
  refine OK.lp (fun n_ K' I' _ L' X' => ∃ (x2 : List (List Int)) (x3 : Int) (A4 : Option Addr) (c4 : Nat) (cs4 : List Value), K' = [(5, .slice A1 t1.length c1), (6, .slice A2 t2.length c2), (7, .map (some g1)), (8, .slice A4 x2.length c4), (22, .slice A1 t1.length c1), (23, i6 (t1.length : Int)), (24, i6 x3)] ∧ L' = [] ∧ X' = [orow 3 1 A1 t1.length c1 cs1, orow 3 1 A2 t2.length c2 cs2, orow 27 1 A4 x2.length c4 cs4] ∧ Imm.le I3 I' ∧ Reps (Ty.slice (Ty.int .i64)) I' x2 cs4 ∧ auction_Tabulate.l1 t1 t2 t3 n_ x2 x3 = some y1) k ⟨List.replicate ((t1.length : Int)).toNat ([] : List Int), 0, (some ⟨nx3, 0, none⟩), (List.replicate ((t1.length : Int)).toNat ([] : List Int)).length, (List.replicate ((t1.length : Int)).toNat (.slice none 0 0)), rfl, rfl, rfl, (Imm.le_refl _), hp3, H⟩ ?_ ?_
  ·rintro _ _ _ _ _ ⟨x2, x3, A4, c4, cs4, rfl, rfl, rfl, _, hp5, H⟩
   cases H
  ·rintro kq1 _ I5 nx6 _ _ ⟨x2, x3, A4, c4, cs4, rfl, rfl, rfl, hi5, hp5, H⟩ Q_l1 hJ2 hQ2
   rw [auction_Tabulate.l1] at H
   refine OK.sr ?_
   refine RL.st 1 [(25, .bool (decide (x3 < (t1.length : Int)))), (5, .slice A1 t1.length c1), (6, .slice A2 t2.length c2), (7, .map (some g1)), (8, .slice A4 x2.length c4), (22, .slice A1 t1.length c1), (23, i6 (t1.length : Int)), (24, i6 x3)] ?_
   refine OK.sq ?_
   refine OK.cd (decide (x3 < (t1.length : Int))) (fun hb => ?_) (fun hb => ?_)
   ·skip
    have hc := (of_decide_eq_true hb)
    rw [if_pos hc] at H
    clear hb
    refine OK.skt ?_
    refine OK.sq ?_
    refine OK.join (fun K' I' _ L' X' => ∃ (x4 : List (List Int)) (A5 : Option Addr) (c5 : Nat) (cs5 : List Value), K' = [(5, .slice A1 t1.length c1), (6, .slice A2 t2.length c2), (7, .map (some g1)), (8, .slice A5 x4.length c5), (22, .slice A1 t1.length c1), (23, i6 (t1.length : Int)), (24, i6 x3)] ∧ L' = [] ∧ X' = [orow 3 1 A1 t1.length c1 cs1, orow 3 1 A2 t2.length c2 cs2, orow 27 1 A5 x4.length c5 cs5] ∧ Imm.le I5 I' ∧ Reps (Ty.slice (Ty.int .i64)) I' x4 cs5 ∧ (auction_Tabulate.l1 t1 t2 t3 kq1 x4 (W .i64 (x3 + 1))) = some y1) ?_ ?_
    ·rintro _ I6 nx7 _ _ ⟨x4, A5, c5, cs5, rfl, rfl, rfl, hi6, hp6, H⟩
     replace H : (auction_Tabulate.l1 t1 t2 t3 kq1 x4 (W .i64 (x3 + 1))) = some y1 := H
     refine QN.then_ ?_
     refine OK.rg ?_
     refine RL.s 2 [(24, i6 (W .i64 (x3 + 1))), (5, .slice A1 t1.length c1), (6, .slice A2 t2.length c2), (7, .map (some g1)), (8, .slice A5 x4.length c5), (22, .slice A1 t1.length c1), (23, i6 (t1.length : Int))] ?_
     refine RL.nil (by kernel_rfl) ?_
     exact QN.sb (hJ2 _ _ _ _ _ ⟨x4, W .i64 (x3 + 1), A5, c5, cs5, rfl, rfl, rfl, (Imm.le_trans hi5 hi6), hp6, H⟩) .slnil (.refl _)
    ·intro Q_2 hJ3 hQ3
     obtain ⟨y2, H, HK2⟩ := bnd H
     refine OK.bk 1 ?_
     refine OK.sr ?_
     refine RL.s 1 [(26, i6 x3), (5, .slice A1 t1.length c1), (6, .slice A2 t2.length c2), (7, .map (some g1)), (8, .slice A4 x2.length c4), (22, .slice A1 t1.length c1), (23, i6 (t1.length : Int)), (24, i6 x3)] ?_
     obtain ⟨hib0, H⟩ := ifs H
     obtain ⟨hib1, H⟩ := ifs H
     have hx01_ := hib0; have hx11_ := hib1
     refine RL.ownAddr (e := 3) (sz := 1) (S := A1) (n := t1.length) (cap := c1) (cs := cs1) 0 (by kernel_rfl) (by omega) (fun g1_ hA1_ => ?_)
     have hc1_ := Ty.int_own (Reps.ext (Imm.le_trans (Imm.le_trans hi2 hi3) hi5) hp1) x3 hib0 hib1
     refine RL.idx 1 .i64 x3 hA1_ t1.length c1 (some 27) (by kernel_rfl) (by kernel_rfl) (T := 26) (e := 3) (by kernel_rfl) (by kernel_rfl) hib0 hib1 (K' := [(27, pt g1_ (0 + (x3).toNat * 1)), (26, i6 x3), (5, .slice A1 t1.length c1), (6, .slice A2 t2.length c2), (7, .map (some g1)), (8, .slice A4 x2.length c4), (22, .slice A1 t1.length c1), (23, i6 (t1.length : Int)), (24, i6 x3)]) (by kernel_rfl) ?_
     refine RL.simK (K' := [(10, i6 (t1.getD (x3).toNat 0)), (9, i6 x3), (5, .slice A1 t1.length c1), (6, .slice A2 t2.length c2), (7, .map (some g1)), (8, .slice A4 x2.length c4), (22, .slice A1 t1.length c1), (23, i6 (t1.length : Int)), (24, i6 x3)]) [(⟨g1_, 0 + (x3).toNat * 1, none⟩, i6 (t1.getD (x3).toNat 0))] (RFacts.ownQ (e := 3) (sz := 1) (S := A1) (n := t1.length) (cap := c1) (cs := cs1) 0 (by kernel_rfl) hA1_ (0 + (x3).toNat * 1) ((x3).toNat * 1 + 0) (by omega) (hc1_ 0 _ rfl) (RFacts.nil _ _ _)) 3 [.r 0, .no, .no] (by kernel_rfl) (by kernel_rfl) ?_
     refine RL.nt ?_
     refine OK.sr ?_
     refine RL.s 4 [(32, i6 (t2.length : Int)), (30, i6 x3), (29, .slice A4 x2.length c4), (10, i6 (t1.getD (x3).toNat 0)), (9, i6 x3), (5, .slice A1 t1.length c1), (6, .slice A2 t2.length c2), (7, .map (some g1)), (8, .slice A4 x2.length c4), (22, .slice A1 t1.length c1), (23, i6 (t1.length : Int)), (24, i6 x3)] ?_
     obtain ⟨hm4, H⟩ := ifs H
     obtain ⟨hm5, H⟩ := ifs H
     refine RL.makeL (T := 27) (e := 2) (t2.length : Int) .i64 .i64 (some 33) (i6 0) (0) (Ty.int .i64) 8 (by kernel_rfl) (by kernel_rfl) (by kernel_rfl) (by kernel_rfl) (by kernel_rfl) rfl hm4 (by omega) (by omega) (fun nx8 hp7 => ?_)
     refine RL.norm (K' := [(33, .slice (some ⟨nx6, 0, none⟩) ((List.replicate ((t2.length : Int)).toNat (0 : Int)).length) ((List.replicate ((t2.length : Int)).toNat (0 : Int)).length)), (32, i6 (t2.length : Int)), (30, i6 x3), (29, .slice A4 x2.length c4), (10, i6 (t1.getD (x3).toNat 0)), (9, i6 x3), (5, .slice A1 t1.length c1), (6, .slice A2 t2.length c2), (7, .map (some g1)), (8, .slice A4 x2.length c4), (22, .slice A1 t1.length c1), (23, i6 (t1.length : Int)), (24, i6 x3)]) (X' := [orow 3 1 A1 t1.length c1 cs1, orow 3 1 A2 t2.length c2 cs2, orow 27 1 A4 x2.length c4 cs4, orow 2 1 (some ⟨nx6, 0, none⟩) ((List.replicate ((t2.length : Int)).toNat (0 : Int)).length) ((List.replicate ((t2.length : Int)).toNat (0 : Int)).length) (List.replicate ((t2.length : Int)).toNat (i6 0))]) (by kernel_rfl) rfl rfl (by kernel_rfl) ?_
     obtain ⟨hib0, H⟩ := ifs H
     obtain ⟨hib1, H⟩ := ifs H
     have hx02_ := hib0; have hx12_ := hib1
     refine RL.ownAddr (e := 27) (sz := 1) (S := A4) (n := x2.length) (cap := c4) (cs := cs4) 2 (by kernel_rfl) (by omega) (fun g2_ hA2_ => ?_)
     obtain ⟨A2_, c2_, hl2_, hr2_, hc2_⟩ := Ty.slice_own hp5 x3 hib0 hib1
     refine RL.idx 1 .i64 x3 hA2_ x2.length c4 (some 34) (by kernel_rfl) (by kernel_rfl) (T := 33) (e := 27) (by kernel_rfl) (by kernel_rfl) hib0 hib1 (K' := [(34, pt g2_ (0 + (x3).toNat * 1)), (33, .slice (some ⟨nx6, 0, none⟩) ((List.replicate ((t2.length : Int)).toNat (0 : Int)).length) ((List.replicate ((t2.length : Int)).toNat (0 : Int)).length)), (32, i6 (t2.length : Int)), (30, i6 x3), (29, .slice A4 x2.length c4), (10, i6 (t1.getD (x3).toNat 0)), (9, i6 x3), (5, .slice A1 t1.length c1), (6, .slice A2 t2.length c2), (7, .map (some g1)), (8, .slice A4 x2.length c4), (22, .slice A1 t1.length c1), (23, i6 (t1.length : Int)), (24, i6 x3)]) (by kernel_rfl) ?_
     refine RL.storeH (T := 27) (e := 27) 2 hA2_ c4 x3 cs4 (some ⟨nx6, 0, none⟩) ((List.replicate ((t2.length : Int)).toNat (0 : Int)).length) ((List.replicate ((t2.length : Int)).toNat (0 : Int)).length) (Ty.int .i64) x2 (by kernel_rfl) (by kernel_rfl) (by kernel_rfl) (by kernel_rfl) hp5 hx02_ hx12_ (fun cs6 hc1 hp8 => ?_)
     refine RL.sub (K' := [(33, .slice (some ⟨nx6, 0, none⟩) ((List.replicate ((t2.length : Int)).toNat (0 : Int)).length) ((List.replicate ((t2.length : Int)).toNat (0 : Int)).length)), (32, i6 (t2.length : Int)), (30, i6 x3), (29, .slice A4 x2.length c4), (10, i6 (t1.getD (x3).toNat 0)), (9, i6 x3), (5, .slice A1 t1.length c1), (6, .slice A2 t2.length c2), (7, .map (some g1)), (8, .slice A4 x2.length c4), (22, .slice A1 t1.length c1), (23, i6 (t1.length : Int)), (24, i6 x3)]) (L' := []) (X' := [orow 3 1 A1 t1.length c1 cs1, orow 3 1 A2 t2.length c2 cs2, orow 27 1 A4 x2.length c4 cs6, orow 2 1 (some ⟨nx6, 0, none⟩) ((List.replicate ((t2.length : Int)).toNat (0 : Int)).length) ((List.replicate ((t2.length : Int)).toNat (0 : Int)).length) (List.replicate ((t2.length : Int)).toNat (i6 0))]) (by kernel_rfl) (.refl _) (.refl _) ?_
     refine RL.nil (by kernel_rfl) ?_
     refine QN.sub (K' := [(10, i6 (t1.getD (x3).toNat 0)), (9, i6 x3), (5, .slice A1 t1.length c1), (6, .slice A2 t2.length c2), (7, .map (some g1)), (8, .slice A4 x2.length c4), (22, .slice A1 t1.length c1), (23, i6 (t1.length : Int)), (24, i6 x3)]) (L' := []) (by kernel_rfl) .slnil (.refl _) ?_
     refine QN.then_ ?_
     refine OK.sr ?_
     refine RL.st 3 [(37, i6 0), (36, i6 (t2.length : Int)), (35, .slice A2 t2.length c2), (10, i6 (t1.getD (x3).toNat 0)), (9, i6 x3), (5, .slice A1 t1.length c1), (6, .slice A2 t2.length c2), (7, .map (some g1)), (8, .slice A4 x2.length c4), (22, .slice A1 t1.length c1), (23, i6 (t1.length : Int)), (24, i6 x3)] ?_
     refine OK.join (fun K' I' _ L' X' => ∃ (x5 : List Int) (cs7 : List Value), K' = [(5, .slice A1 t1.length c1), (6, .slice A2 t2.length c2), (7, .map (some g1)), (8, .slice A4 x2.length c4), (22, .slice A1 t1.length c1), (23, i6 (t1.length : Int)), (24, i6 x3)] ∧ L' = [] ∧ X' = [orow 3 1 A1 t1.length c1 cs1, orow 3 1 A2 t2.length c2 cs2, orow 27 1 A4 x2.length c4 cs6, orow 2 1 (some ⟨nx6, 0, none⟩) x5.length ((List.replicate ((t2.length : Int)).toNat (0 : Int)).length) cs7] ∧ Imm.le I5 I' ∧ Reps (Ty.int .i64) I' x5 cs7 ∧ x5.length = (List.replicate ((t2.length : Int)).toNat (0 : Int)).length ∧ auction_Tabulate.k3 x2 x3 x5 = some y2) ?_ ?_
     ·rintro _ I7 nx9 _ _ ⟨x5, cs7, rfl, rfl, rfl, hi7, hp9, hz1, H⟩
      rw [auction_Tabulate.k3] at H
      refine QN.blkN ?_
      refine QN.freeze (e := 2) (sz := 1) (S := (some ⟨nx6, 0, none⟩)) (n := x5.length) (cap := (List.replicate ((t2.length : Int)).toNat (0 : Int)).length) 3 (by kernel_rfl) hp9 rfl (fun I8 hi8 hl1 hr1 => ?_)
      skip
      have hp10 := hp8 _ x5 (Imm.le_trans hi7 hi8) (by first | rfl | assumption | (simp only [List.length_set]; done) | (simp only [List.length_set]; assumption)) hl1 hr1
      refine QN.norm (K' := [(5, .slice A1 t1.length c1), (6, .slice A2 t2.length c2), (7, .map (some g1)), (8, .slice A4 ((x2.set (x3).toNat x5).length) c4), (22, .slice A1 t1.length c1), (23, i6 (t1.length : Int)), (24, i6 x3)]) (L' := []) (X' := [orow 3 1 A1 t1.length c1 cs1, orow 3 1 A2 t2.length c2 cs2, orow 27 1 A4 ((x2.set (x3).toNat x5).length) c4 cs6]) (by first | (simp only [List.length_set]; done) | (simp only [List.length_set]; rfl)) rfl (by first | rfl | simp only [List.length_set]) (by first | (simp only [List.length_set]; done) | (simp only [List.length_set]; rfl)) ?_
      obtain rfl := Option.some.inj H
      exact QN.sb (hJ3 _ _ _ _ _ ⟨x2.set (x3).toNat x5, A4, c4, cs6, rfl, rfl, rfl, (Imm.le_trans hi7 hi8), hp10, HK2⟩) .slnil (.refl _)
     ·intro Q_3 hJ4 hQ4
      obtain ⟨y3, H, HK3⟩ := bnd H
      refine OK.bk 2 ?_
      refine OK.sub (K' := [(5, .slice A1 t1.length c1), (6, .slice A2 t2.length c2), (7, .map (some g1)), (8, .slice A4 x2.length c4), (9, i6 x3), (10, i6 (t1.getD (x3).toNat 0)), (22, .slice A1 t1.length c1), (23, i6 (t1.length : Int)), (24, i6 x3), (35, .slice A2 t2.length c2), (36, i6 (t2.length : Int)), (37, i6 0)]) (L' := []) (by kernel_rfl) .slnil (.refl _) ?_
      refine OK.lp (fun n_ K' I' _ L' X' => ∃ (x6 : Int) (x7 : List Int) (cs8 : List Value), K' = [(5, .slice A1 t1.length c1), (6, .slice A2 t2.length c2), (7, .map (some g1)), (8, .slice A4 x2.length c4), (9, i6 x3), (10, i6 (t1.getD (x3).toNat 0)), (22, .slice A1 t1.length c1), (23, i6 (t1.length : Int)), (24, i6 x3), (35, .slice A2 t2.length c2), (36, i6 (t2.length : Int)), (37, i6 x6)] ∧ L' = [] ∧ X' = [orow 3 1 A1 t1.length c1 cs1, orow 3 1 A2 t2.length c2 cs2, orow 27 1 A4 x2.length c4 cs6, orow 2 1 (some ⟨nx6, 0, none⟩) x7.length ((List.replicate ((t2.length : Int)).toNat (0 : Int)).length) cs8] ∧ Imm.le I5 I' ∧ Reps (Ty.int .i64) I' x7 cs8 ∧ x7.length = (List.replicate ((t2.length : Int)).toNat (0 : Int)).length ∧ auction_Tabulate.l2 t1 t2 t3 x2 x3 n_ x6 x7 = some y3) kq1 ⟨0, List.replicate ((t2.length : Int)).toNat (0 : Int), (List.replicate ((t2.length : Int)).toNat (i6 0)), rfl, rfl, rfl, (Imm.le_refl _), hp7, (by first | rfl | assumption | (simp only [List.length_set]; done) | (simp only [List.length_set]; assumption)), H⟩ ?_ ?_
      ·rintro _ _ _ _ _ ⟨x6, x7, cs8, rfl, rfl, rfl, _, hp11, hz2, H⟩
       cases H
      ·rintro kq2 _ I9 nx10 _ _ ⟨x6, x7, cs8, rfl, rfl, rfl, hi9, hp11, hz2, H⟩ Q_l2 hJ5 hQ5
       rw [auction_Tabulate.l2] at H
       refine OK.sr ?_
       refine RL.st 1 [(38, .bool (decide (x6 < (t2.length : Int)))), (5, .slice A1 t1.length c1), (6, .slice A2 t2.length c2), (7, .map (some g1)), (8, .slice A4 x2.length c4), (9, i6 x3), (10, i6 (t1.getD (x3).toNat 0)), (22, .slice A1 t1.length c1), (23, i6 (t1.length : Int)), (24, i6 x3), (35, .slice A2 t2.length c2), (36, i6 (t2.length : Int)), (37, i6 x6)] ?_
       refine OK.sq ?_
       refine OK.cd (decide (x6 < (t2.length : Int))) (fun hb => ?_) (fun hb => ?_)
       ·skip
        have hc := (of_decide_eq_true hb)
        rw [if_pos hc] at H
        clear hb
        refine OK.skt ?_
        refine OK.sq ?_
        refine OK.bk 3 ?_
        refine OK.sr ?_
        refine RL.s 1 [(39, i6 x6), (5, .slice A1 t1.length c1), (6, .slice A2 t2.length c2), (7, .map (some g1)), (8, .slice A4 x2.length c4), (9, i6 x3), (10, i6 (t1.getD (x3).toNat 0)), (22, .slice A1 t1.length c1), (23, i6 (t1.length : Int)), (24, i6 x3), (35, .slice A2 t2.length c2), (36, i6 (t2.length : Int)), (37, i6 x6)] ?_
        obtain ⟨hib0, H⟩ := ifs H
        obtain ⟨hib1, H⟩ := ifs H
        have hx03_ := hib0; have hx13_ := hib1
        refine RL.ownAddr (e := 3) (sz := 1) (S := A2) (n := t2.length) (cap := c2) (cs := cs2) 1 (by kernel_rfl) (by omega) (fun g3_ hA3_ => ?_)
        have hc3_ := Ty.int_own (Reps.ext (Imm.le_trans (Imm.le_trans hi3 hi5) hi9) hp2) x6 hib0 hib1
        refine RL.idx 1 .i64 x6 hA3_ t2.length c2 (some 40) (by kernel_rfl) (by kernel_rfl) (T := 26) (e := 3) (by kernel_rfl) (by kernel_rfl) hib0 hib1 (K' := [(40, pt g3_ (0 + (x6).toNat * 1)), (39, i6 x6), (5, .slice A1 t1.length c1), (6, .slice A2 t2.length c2), (7, .map (some g1)), (8, .slice A4 x2.length c4), (9, i6 x3), (10, i6 (t1.getD (x3).toNat 0)), (22, .slice A1 t1.length c1), (23, i6 (t1.length : Int)), (24, i6 x3), (35, .slice A2 t2.length c2), (36, i6 (t2.length : Int)), (37, i6 x6)]) (by kernel_rfl) ?_
        refine RL.simK (K' := [(12, i6 (t2.getD (x6).toNat 0)), (11, i6 x6), (5, .slice A1 t1.length c1), (6, .slice A2 t2.length c2), (7, .map (some g1)), (8, .slice A4 x2.length c4), (9, i6 x3), (10, i6 (t1.getD (x3).toNat 0)), (22, .slice A1 t1.length c1), (23, i6 (t1.length : Int)), (24, i6 x3), (35, .slice A2 t2.length c2), (36, i6 (t2.length : Int)), (37, i6 x6)]) [(⟨g3_, 0 + (x6).toNat * 1, none⟩, i6 (t2.getD (x6).toNat 0))] (RFacts.ownQ (e := 3) (sz := 1) (S := A2) (n := t2.length) (cap := c2) (cs := cs2) 1 (by kernel_rfl) hA3_ (0 + (x6).toNat * 1) ((x6).toNat * 1 + 0) (by omega) (hc3_ 0 _ rfl) (RFacts.nil _ _ _)) 3 [.r 0, .no, .no] (by kernel_rfl) (by kernel_rfl) ?_
        refine RL.nt ?_
        obtain ⟨hi0_1, H⟩ := ifs H
        obtain ⟨hi1_1, H⟩ := ifs H
        refine OK.ownAddr (e := 27) (sz := 1) (S := A4) (n := x2.length) (cap := c4) (cs := cs6) 2 (by kernel_rfl) (by omega) (fun g4_ hA4_ => ?_)
        refine OK.drawnC 10 10 O17_47 a17_47n (by kernel_rfl) (by kernel_rfl) u17d1l (u17d1g t1 t2 t3 x3 x6 g4_) [(⟨g4_, 0 + (x3).toNat * 1, none⟩, .slice (some ⟨nx6, 0, none⟩) ((List.replicate ((t2.length : Int)).toNat (0 : Int)).length) ((List.replicate ((t2.length : Int)).toNat (0 : Int)).length))] (RI.own (e := 27) (sz := 1) (S := A4) (n := x2.length) (cap := c4) (cs := cs6) 2 (by kernel_rfl) hA4_ (0 + (x3).toNat * 1) ((x3).toNat * 1 + 0) (by omega) hc1 (RI.nil _)) [.no, .no, .no, .r 0, .no, .no, .no, .no, .no, .no] a17_47 a17_47o (by kernel_rfl) (by kernel_rfl) (u17d1s t1 t2 t3 g1 x2 A4 c4 x3 nx6 x6 g4_) (u17d1f t1 A1 c1 t2 A2 c2 t3 g1 x2 A4 c4 x3 nx6 x6 g4_ 10) (u17d1v t1 A1 c1 t2 A2 c2 t3 g1 x2 A4 c4 x3 nx6 x6 g4_) (u17d1e t1 A1 c1 t2 A2 c2 t3 g1 x2 A4 c4 x3 nx6 x6 g4_) [] framesOk.nil ?_ [u17d1f t1 A1 c1 t2 A2 c2 t3 g1 x2 A4 c4 x3 nx6 x6 g4_ 2, u17d1f t1 A1 c1 t2 A2 c2 t3 g1 x2 A4 c4 x3 nx6 x6 g4_ 9] (framesOk.cons (fun u => rfl) (framesOk.cons (fun u => rfl) framesOk.nil)) ?_ ?_
        ·refine LoudsG.nil
        ·refine Givens.cons (fun u w =>  ?_) (fun _ _ _ => rfl) (Givens.consU (fun D u w hp hS =>  ?_) (fun _ _ _ => rfl) (Givens.nil))
         ·exact giv_idx (T := 33) (e := 27) 1 .i64 x3 hA4_ x2.length c4 (by kernel_rfl) (by kernel_rfl) (by kernel_rfl) hi0_1 hi1_1 w
         ·obtain ⟨J, hJ, hs, hF⟩ := hS
          exact giv_look2 mt54 ((t1.getD (x3).toNat 0), (t2.getD (x6).toNat 0)) ((Mp.ext (Imm.le_trans (Imm.le_trans hi5 hi9) hJ) hm1)) hs.im (by kernel_rfl)
        intro u I10 nx11 hi10 hF
        clear hF
        refine RL.norm (K' := [(51, i6 ((mget t3 ((t1.getD (x3).toNat 0), (t2.getD (x6).toNat 0))).getD 0)), (50, .agg #[i6 (t1.getD (x3).toNat 0), i6 (t2.getD (x6).toNat 0)]), (49, i6 (t2.getD (x6).toNat 0)), (48, i6 (t1.getD (x3).toNat 0)), (47, .map (some g1)), (46, i6 x6), (45, .slice (some ⟨nx6, 0, none⟩) ((List.replicate ((t2.length : Int)).toNat (0 : Int)).length) ((List.replicate ((t2.length : Int)).toNat (0 : Int)).length)), (44, pt g4_ (0 + (x3).toNat * 1)), (43, i6 x3), (42, .slice A4 x2.length c4), (12, i6 (t2.getD (x6).toNat 0)), (11, i6 x6), (5, .slice A1 t1.length c1), (6, .slice A2 t2.length c2), (7, .map (some g1)), (8, .slice A4 x2.length c4), (9, i6 x3), (10, i6 (t1.getD (x3).toNat 0)), (22, .slice A1 t1.length c1), (23, i6 (t1.length : Int)), (24, i6 x3), (35, .slice A2 t2.length c2), (36, i6 (t2.length : Int)), (37, i6 x6)]) (X' := [orow 3 1 A1 t1.length c1 cs1, orow 3 1 A2 t2.length c2 cs2, orow 27 1 A4 x2.length c4 cs6, orow 2 1 (some ⟨nx6, 0, none⟩) x7.length ((List.replicate ((t2.length : Int)).toNat (0 : Int)).length) cs8]) (by kernel_rfl) rfl rfl rfl ?_
        refine RL.norm (K' := [(51, i6 ((mget t3 ((t1.getD (x3).toNat 0), (t2.getD (x6).toNat 0))).getD 0)), (50, .agg #[i6 (t1.getD (x3).toNat 0), i6 (t2.getD (x6).toNat 0)]), (49, i6 (t2.getD (x6).toNat 0)), (48, i6 (t1.getD (x3).toNat 0)), (47, .map (some g1)), (46, i6 x6), (45, .slice (some ⟨nx6, 0, none⟩) x7.length ((List.replicate ((t2.length : Int)).toNat (0 : Int)).length)), (44, pt g4_ (0 + (x3).toNat * 1)), (43, i6 x3), (42, .slice A4 x2.length c4), (12, i6 (t2.getD (x6).toNat 0)), (11, i6 x6), (5, .slice A1 t1.length c1), (6, .slice A2 t2.length c2), (7, .map (some g1)), (8, .slice A4 x2.length c4), (9, i6 x3), (10, i6 (t1.getD (x3).toNat 0)), (22, .slice A1 t1.length c1), (23, i6 (t1.length : Int)), (24, i6 x3), (35, .slice A2 t2.length c2), (36, i6 (t2.length : Int)), (37, i6 x6)]) (by rw [show x7.length = (List.replicate ((t2.length : Int)).toNat (0 : Int)).length from by first | rfl | assumption | (simp only [List.length_set]; assumption)]) rfl rfl rfl ?_
        obtain ⟨hib0, H⟩ := ifs H
        obtain ⟨hib1, H⟩ := ifs H
        have hx05_ := hib0; have hx15_ := hib1
        refine RL.ownAddr (e := 2) (sz := 1) (S := (some ⟨nx6, 0, none⟩)) (n := x7.length) (cap := (List.replicate ((t2.length : Int)).toNat (0 : Int)).length) (cs := cs8) 3 (by kernel_rfl) (by omega) (fun g5_ hA5_ => ?_)
        have hc5_ := Ty.int_own (Reps.ext hi10 hp11) x6 hib0 hib1
        refine RL.idx 1 .i64 x6 hA5_ x7.length ((List.replicate ((t2.length : Int)).toNat (0 : Int)).length) (some 52) (by kernel_rfl) (by kernel_rfl) (T := 27) (e := 2) (by kernel_rfl) (by kernel_rfl) hib0 hib1 (K' := [(52, pt g5_ (0 + (x6).toNat * 1)), (51, i6 ((mget t3 ((t1.getD (x3).toNat 0), (t2.getD (x6).toNat 0))).getD 0)), (50, .agg #[i6 (t1.getD (x3).toNat 0), i6 (t2.getD (x6).toNat 0)]), (49, i6 (t2.getD (x6).toNat 0)), (48, i6 (t1.getD (x3).toNat 0)), (47, .map (some g1)), (46, i6 x6), (45, .slice (some ⟨nx6, 0, none⟩) x7.length ((List.replicate ((t2.length : Int)).toNat (0 : Int)).length)), (44, pt g4_ (0 + (x3).toNat * 1)), (43, i6 x3), (42, .slice A4 x2.length c4), (12, i6 (t2.getD (x6).toNat 0)), (11, i6 x6), (5, .slice A1 t1.length c1), (6, .slice A2 t2.length c2), (7, .map (some g1)), (8, .slice A4 x2.length c4), (9, i6 x3), (10, i6 (t1.getD (x3).toNat 0)), (22, .slice A1 t1.length c1), (23, i6 (t1.length : Int)), (24, i6 x3), (35, .slice A2 t2.length c2), (36, i6 (t2.length : Int)), (37, i6 x6)]) (by kernel_rfl) ?_
        refine RL.storeL (T := 2) (e := 2) 1 3 hA5_ ((List.replicate ((t2.length : Int)).toNat (0 : Int)).length) x6 cs8 [i6 ((mget t3 ((t1.getD (x3).toNat 0), (t2.getD (x6).toNat 0))).getD 0)] (i6 ((mget t3 ((t1.getD (x3).toNat 0), (t2.getD (x6).toNat 0))).getD 0)) (Ty.int .i64) x7 ((mget t3 ((t1.getD (x3).toNat 0), (t2.getD (x6).toNat 0))).getD 0) (by kernel_rfl) (by kernel_rfl) (by kernel_rfl) (by kernel_rfl) (by kernel_rfl) rfl (by kernel_rfl) (Reps.ext hi10 hp11) hx05_ hx15_ (fun cs9 hp12 => ?_)
        refine RL.sub (K' := [(51, i6 ((mget t3 ((t1.getD (x3).toNat 0), (t2.getD (x6).toNat 0))).getD 0)), (50, .agg #[i6 (t1.getD (x3).toNat 0), i6 (t2.getD (x6).toNat 0)]), (49, i6 (t2.getD (x6).toNat 0)), (48, i6 (t1.getD (x3).toNat 0)), (47, .map (some g1)), (46, i6 x6), (45, .slice (some ⟨nx6, 0, none⟩) x7.length ((List.replicate ((t2.length : Int)).toNat (0 : Int)).length)), (44, pt g4_ (0 + (x3).toNat * 1)), (43, i6 x3), (42, .slice A4 x2.length c4), (12, i6 (t2.getD (x6).toNat 0)), (11, i6 x6), (5, .slice A1 t1.length c1), (6, .slice A2 t2.length c2), (7, .map (some g1)), (8, .slice A4 x2.length c4), (9, i6 x3), (10, i6 (t1.getD (x3).toNat 0)), (22, .slice A1 t1.length c1), (23, i6 (t1.length : Int)), (24, i6 x3), (35, .slice A2 t2.length c2), (36, i6 (t2.length : Int)), (37, i6 x6)]) (L' := []) (X' := [orow 3 1 A1 t1.length c1 cs1, orow 3 1 A2 t2.length c2 cs2, orow 27 1 A4 x2.length c4 cs6, orow 2 1 (some ⟨nx6, 0, none⟩) ((x7.set (x6).toNat ((mget t3 ((t1.getD (x3).toNat 0), (t2.getD (x6).toNat 0))).getD 0)).length) ((List.replicate ((t2.length : Int)).toNat (0 : Int)).length) cs9]) (by kernel_rfl) (.refl _) (.refl _) ?_
        refine RL.norm (K' := [(51, i6 ((mget t3 ((t1.getD (x3).toNat 0), (t2.getD (x6).toNat 0))).getD 0)), (50, .agg #[i6 (t1.getD (x3).toNat 0), i6 (t2.getD (x6).toNat 0)]), (49, i6 (t2.getD (x6).toNat 0)), (48, i6 (t1.getD (x3).toNat 0)), (47, .map (some g1)), (46, i6 x6), (45, .slice (some ⟨nx6, 0, none⟩) ((x7.set (x6).toNat ((mget t3 ((t1.getD (x3).toNat 0), (t2.getD (x6).toNat 0))).getD 0)).length) ((List.replicate ((t2.length : Int)).toNat (0 : Int)).length)), (44, pt g4_ (0 + (x3).toNat * 1)), (43, i6 x3), (42, .slice A4 x2.length c4), (12, i6 (t2.getD (x6).toNat 0)), (11, i6 x6), (5, .slice A1 t1.length c1), (6, .slice A2 t2.length c2), (7, .map (some g1)), (8, .slice A4 x2.length c4), (9, i6 x3), (10, i6 (t1.getD (x3).toNat 0)), (22, .slice A1 t1.length c1), (23, i6 (t1.length : Int)), (24, i6 x3), (35, .slice A2 t2.length c2), (36, i6 (t2.length : Int)), (37, i6 x6)]) (L' := []) (by simp only [List.length_set]) rfl (by first | rfl | simp only [List.length_set]) rfl ?_
        refine RL.nil (by kernel_rfl) ?_
        refine QN.sub (K' := [(5, .slice A1 t1.length c1), (6, .slice A2 t2.length c2), (7, .map (some g1)), (8, .slice A4 x2.length c4), (9, i6 x3), (10, i6 (t1.getD (x3).toNat 0)), (22, .slice A1 t1.length c1), (23, i6 (t1.length : Int)), (24, i6 x3), (35, .slice A2 t2.length c2), (36, i6 (t2.length : Int)), (37, i6 x6)]) (L' := []) (by kernel_rfl) .slnil (.refl _) ?_
        refine QN.blkN ?_
        refine QN.then_ ?_
        refine OK.rg ?_
        refine RL.s 2 [(37, i6 (W .i64 (x6 + 1))), (5, .slice A1 t1.length c1), (6, .slice A2 t2.length c2), (7, .map (some g1)), (8, .slice A4 x2.length c4), (9, i6 x3), (10, i6 (t1.getD (x3).toNat 0)), (22, .slice A1 t1.length c1), (23, i6 (t1.length : Int)), (24, i6 x3), (35, .slice A2 t2.length c2), (36, i6 (t2.length : Int))] ?_
        refine RL.nil (by kernel_rfl) ?_
        exact QN.sb (hJ5 _ _ _ _ _ ⟨W .i64 (x6 + 1), x7.set (x6).toNat ((mget t3 ((t1.getD (x3).toNat 0), (t2.getD (x6).toNat 0))).getD 0), cs9, rfl, rfl, rfl, (Imm.le_trans hi9 hi10), hp12, (by first | rfl | assumption | (simp only [List.length_set]; done) | (simp only [List.length_set]; assumption)), H⟩) .slnil (.refl _)
       ·skip
        have hc := (of_decide_eq_false hb)
        rw [if_neg hc] at H
        clear hb
        refine OK.ex 2 ?_
        refine QN.thenE ?_
        refine QN.outE hQ5 ?_
        refine QN.blkE ?_
        obtain rfl := Option.some.inj H
        exact QN.sb (hJ4 _ _ _ _ _ ⟨x7, cs8, rfl, rfl, rfl, hi9, hp11, (by first | rfl | assumption | (simp only [List.length_set]; done) | (simp only [List.length_set]; assumption)), HK3⟩) .slnil (.refl _)
   ·skip
    have hc := (of_decide_eq_false hb)
    rw [if_neg hc] at H
    clear hb
    refine OK.ex 0 ?_
    refine QN.thenE ?_
    refine QN.outE hQ2 ?_
    refine QN.blkE ?_
    obtain rfl := Option.some.inj H
    exact QN.sb (hJ1 _ _ _ _ _ ⟨x2, A4, c4, cs4, rfl, rfl, rfl, hi5, hp5, HK1⟩) .slnil (.refl _)

end Go.Proofs.Ytihmbmeelheinaa
namespace Go.Proofs.Ytihmbmeelheinaa
open Go Go.Proofs.Ytihmbmeelheinaa.RW
set_option linter.unusedVariables false
set_option maxRecDepth 100000
set_option maxHeartbeats 8000000

/-! ### assign_columns: function 46, armillary/assign.columns -/
noncomputable def K46_0 : Code := cBody Try.f46
def assign_columns.f (a0 : List (List Int)) : Option (Int) := (if (a0.length : Int) = 0 then (some 0) else (if 0 < (a0.length : Int) then (some ((a0.getD (0 : Int).toNat []).length : Int)) else none))
def assign_columns.Post (I : Imm) (w : World) (r : Int) (v : Value) (w' : World) : Prop :=
 ∃ (J : Imm), v = .int .i64 r ∧ Got w w' I J []
theorem assign_columns.calls (I0 : Imm) (a0 : List (List Int)) (Ap0 : Option Addr) (cp0 : Nat) (w : World) (hI : I0.at_ w) (hlp0 : a0.length ≤ cp0) (hrp0 : Rd (Ty.slice (Ty.int .i64)) I0 Ap0 a0) (r : Int) (h : assign_columns.f a0 = some r) :
  Calls Try.prog 46 [.slice Ap0 a0.length cp0].toArray w fun e w' => ∃ v, e = .returned v ∧ assign_columns.Post I0 w r v w' := by
 have H : (if (a0.length : Int) = 0 then (some 0) else (if 0 < (a0.length : Int) then (some ((a0.getD (0 : Int).toNat []).length : Int)) else none)) = some r := h
 clear h
 refine calls_body Try.func46 (by kernel_rfl) 10 (by kernel_rfl) (by kernel_rfl) ⟨w, fun _ => False, I0⟩ I0 [] [(0, .slice Ap0 a0.length cp0)] (by kernel_rfl) (Sat.start w _ I0 hI) ?_
 generalize w.heap.size = nx0
 show OK _ K46_0 _ _ _ _ _ _ _ _
 refine OK.sr ?_
 refine RL.st 1 [(0, .slice Ap0 a0.length cp0)] ?_
 refine OK.sq ?_
 refine OK.sr ?_
 refine RL.st 3 [(5, .bool ((a0.length : Int) == 0)), (0, .slice Ap0 a0.length cp0)] ?_
 refine OK.cd ((a0.length : Int) == 0) (fun hb => ?_) (fun hb => ?_)
 ·skip
  have hc := (beq_iff_eq.1 hb)
  rw [if_pos hc] at H
  clear hb
  refine OK.sr ?_
  refine RL.st 1 [(2, i6 0)] ?_
  refine OK.re ?_
  refine QN.thenR ?_
  obtain rfl := Option.some.inj H
  refine QN.body rfl [] (RFacts.nil _ _ _) (.no) (i6 0) (by kernel_rfl) (by kernel_rfl) (by kernel_rfl) ?_ _ (.inr rfl)
  exact fun w' hs' => ⟨_, rfl, I0, rfl, hs'.got _ .slnil⟩
 ·skip
  have hc := (beq_eq_false_iff_ne.1 hb)
  rw [if_neg hc] at H
  clear hb
  refine OK.skt ?_
  refine OK.sr ?_
  refine RL.s 1 [(6, .slice Ap0 a0.length cp0)] ?_
  have hib0 : (0 : Int) ≤ 0 := by decide
  obtain ⟨hib1, H⟩ := ifs H
  obtain ⟨g1_, o1_, hA1_, A1_, c1_, hl1_, hr1_, hc1_⟩ := Ty.slice_at hrp0 0 hib0 hib1
  refine RL.idx 1 .i64 0 hA1_ a0.length cp0 (some 7) (by kernel_rfl) (by kernel_rfl) (T := 33) (e := 27) (by kernel_rfl) (by kernel_rfl) hib0 hib1 (K' := [(7, pt g1_ (o1_ + (0 : Int).toNat * 1)), (6, .slice Ap0 a0.length cp0)]) (by kernel_rfl) ?_
  refine RL.simK (K' := [(2, i6 ((a0.getD (0 : Int).toNat []).length : Int))]) [(⟨g1_, o1_ + (0 : Int).toNat * 1, none⟩, .slice A1_ ((a0.getD (0 : Int).toNat []).length) c1_)] (RFacts.imm (hc1_ 0 _ rfl) (RFacts.nil _ _ _)) 3 [.r 0, .no, .no] (by kernel_rfl) (by kernel_rfl) ?_
  refine RL.nt ?_
  refine OK.re ?_
  obtain rfl := Option.some.inj H
  refine QN.body rfl [] (RFacts.nil _ _ _) (.no) (i6 ((a0.getD (0 : Int).toNat []).length : Int)) (by kernel_rfl) (by kernel_rfl) (by kernel_rfl) ?_ _ (.inr rfl)
  exact fun w' hs' => ⟨_, rfl, I0, rfl, hs'.got _ .slnil⟩

end Go.Proofs.Ytihmbmeelheinaa
namespace Go.Proofs.Ytihmbmeelheinaa
open Go Go.Proofs.Ytihmbmeelheinaa.RW
set_option linter.unusedVariables false
set_option maxRecDepth 100000
set_option maxHeartbeats 8000000

/-! ### assign_pad: function 47, armillary/assign.pad -/
noncomputable def K47_0 : Code := cBody Try.f47
def assign_pad.k1  (x1 : List Int) : Option (List Int) := (some x1)
def assign_pad.k3  (x5 : List Int) : Option (List Int) := (some x5)
def assign_pad.l2 (a0 : List (List Int)) (a2 : List Bool) (x3 : Int) : Nat → (List Int) → Int → Option (List Int)
 | 0, _, _ => none
 | k + 1, x6, x7 => (if x7 < ((a0.getD (x3).toNat []).length : Int) then (if 0 ≤ x7 then (if x7 < ((a0.getD (x3).toNat []).length : Int) then (if 0 ≤ x7 then (if x7 < (a2.length : Int) then ((if (a2.getD (x7).toNat false) = true then (some x6) else (if 0 ≤ x3 then (if x3 < (12 : Int) then (if 0 ≤ x7 then (if x7 < (12 : Int) then (some (x6.set ((x3).toNat * 12 + (x7).toNat) ((a0.getD (x3).toNat []).getD (x7).toNat 0))) else none) else none) else none) else none)).bind (fun x8 => (assign_pad.l2 a0 a2 x3 k x8 (W .i64 (x7 + 1))))) else none) else none) else none) else none) else (some x6))
def assign_pad.l1 (a0 : List (List Int)) (a2 : List Bool) : Nat → (List Int) → Int → Option (List Int)
 | 0, _, _ => none
 | k + 1, x2, x3 => (if x3 < (a0.length : Int) then ((if 0 ≤ x3 then (if x3 < (a0.length : Int) then ((assign_pad.l2 a0 a2 x3 k x2 0).bind (assign_pad.k3)) else none) else none).bind (fun x4 => (assign_pad.l1 a0 a2 k x4 (W .i64 (x3 + 1))))) else (some x2))
def assign_pad.f (k : Nat) (a0 : List (List Int)) (a1 : Int) (a2 : List Bool) : Option (List Int) := ((assign_pad.l1 a0 a2 k (List.replicate 144 0) a1).bind (assign_pad.k1))
def assign_pad.Post (I : Imm) (w : World) (r : List Int) (v : Value) (w' : World) : Prop :=
 ∃ (J : Imm), v = .agg (arrV (Value.int .i64) 0 144 r).toArray ∧ Got w w' I J [] ∧ 144 ≤ r.length
theorem assign_pad.calls (k : Nat) (I0 : Imm) (a0 : List (List Int)) (Ap0 : Option Addr) (cp0 : Nat) (a1 : Int) (a2 : List Bool) (Ap2 : Option Addr) (cp2 : Nat) (w : World) (hI : I0.at_ w) (hlp0 : a0.length ≤ cp0) (hrp0 : Rd (Ty.slice (Ty.int .i64)) I0 Ap0 a0) (hlp2 : a2.length ≤ cp2) (hrp2 : Rd Ty.bool I0 Ap2 a2) (r : List Int) (h : assign_pad.f k a0 a1 a2 = some r) :
  Calls Try.prog 47 [.slice Ap0 a0.length cp0, i6 a1, .slice Ap2 a2.length cp2].toArray w fun e w' => ∃ v, e = .returned v ∧ assign_pad.Post I0 w r v w' := by
 have H : ((assign_pad.l1 a0 a2 k (List.replicate 144 0) a1).bind (assign_pad.k1)) = some r := h
 clear h
 refine calls_body Try.func47 (by kernel_rfl) 40 (by kernel_rfl) (by kernel_rfl) ⟨w, fun _ => False, I0⟩ I0 [] [(0, .slice Ap0 a0.length cp0), (1, i6 a1), (2, .slice Ap2 a2.length cp2)] (by kernel_rfl) (Sat.start w _ I0 hI) ?_
 generalize w.heap.size = nx0
 show OK _ K47_0 _ _ _ _ _ _ _ _
 refine OK.sr ?_
 refine RL.spt 1 [(6, pt nx0 0), (0, .slice Ap0 a0.length cp0), (1, i6 a1), (2, .slice Ap2 a2.length cp2)] (nx0 + 1) [⟨nx0, arrV (Value.int .i64) 0 144 (List.replicate 144 0), 85⟩] ?_
 refine OK.sr ?_
 refine RL.spt 1 [(7, pt (nx0 + 1) 0), (6, pt nx0 0), (0, .slice Ap0 a0.length cp0), (1, i6 a1), (2, .slice Ap2 a2.length cp2)] (nx0 + 2) [⟨nx0, arrV (Value.int .i64) 0 144 (List.replicate 144 0), 85⟩, ⟨nx0 + 1, arrV (Value.int .i64) 0 144 (List.replicate 144 0), 85⟩] ?_
 refine OK.sq ?_
 refine OK.sr ?_
 refine RL.st 2 [(8, i6 a1), (7, pt (nx0 + 1) 0), (6, pt nx0 0), (0, .slice Ap0 a0.length cp0), (2, .slice Ap2 a2.length cp2)] ?_
 refine OK.join (fun K' I' _ L' X' => ∃ (x1 : List Int), K' = [(6, pt nx0 0), (7, pt (nx0 + 1) 0)] ∧ L' = [⟨nx0, arrV (Value.int .i64) 0 144 (List.replicate 144 0), 85⟩, ⟨nx0 + 1, arrV (Value.int .i64) 0 144 x1, 85⟩] ∧ X' = [] ∧ Imm.le I0 I' ∧ 144 ≤ x1.length ∧ assign_pad.k1 x1 = some r) ?_ ?_
 ·rintro _ I1 nx1 _ _ ⟨x1, rfl, rfl, rfl, hi1, hz1, H⟩
  rw [assign_pad.k1] at H
  refine QN.then_ ?_
  refine OK.sr ?_
  refine RL.simP (K' := [(6, pt nx0 0)]) (nx' := nx1) (L' := [⟨nx0, arrV (Value.int .i64) 0 144 x1, 85⟩, ⟨nx0 + 1, arrV (Value.int .i64) 0 144 x1, 85⟩]) [] (RFacts.nil _ _ _) 2 [.l 1, .l 0] (by kernel_rfl) (by kernel_rfl) ?_
  refine RL.nt ?_
  refine OK.re ?_
  obtain rfl := Option.some.inj H
  refine QN.body rfl [] (RFacts.nil _ _ _) (.l 0) (.agg (arrV (Value.int .i64) 0 144 x1).toArray) (by kernel_rfl) (by kernel_rfl) (by kernel_rfl) ?_ _ (.inr rfl)
  exact fun w' hs' => ⟨_, rfl, I1, rfl, hs'.got _ .slnil, hz1⟩
 ·intro Q_1 hJ1 hQ1
  obtain ⟨y1, H, HK1⟩ := bnd H
  refine OK.bk 0 ?_
  refine OK.sub (K' := [(0, .slice Ap0 a0.length cp0), (2, .slice Ap2 a2.length cp2), (6, pt nx0 0), (7, pt (nx0 + 1) 0), (8, i6 a1)]) (L' := [⟨nx0, arrV (Value.int .i64) 0 144 (List.replicate 144 0), 85⟩, ⟨nx0 + 1, arrV (Value.int .i64) 0 144 (List.replicate 144 0), 85⟩]) (by kernel_rfl) (.cons_cons _ (.cons_cons _ .slnil)) (.refl _) ?_
  refine OK.lp (fun n_ K' I' _ L' X' => ∃ (x2 : List Int) (x3 : Int), K' = [(0, .slice Ap0 a0.length cp0), (2, .slice Ap2 a2.length cp2), (6, pt nx0 0), (7, pt (nx0 + 1) 0), (8, i6 x3)] ∧ L' = [⟨nx0, arrV (Value.int .i64) 0 144 (List.replicate 144 0), 85⟩, ⟨nx0 + 1, arrV (Value.int .i64) 0 144 x2, 85⟩] ∧ X' = [] ∧ Imm.le I0 I' ∧ 144 ≤ x2.length ∧ assign_pad.l1 a0 a2 n_ x2 x3 = some y1) k ⟨(List.replicate 144 0), a1, rfl, rfl, rfl, (Imm.le_refl _), (Nat.le_of_eq List.length_replicate.symm), H⟩ ?_ ?_
  ·rintro _ _ _ _ _ ⟨x2, x3, rfl, rfl, rfl, _, hz2, H⟩
   cases H
  ·rintro kq1 _ I2 nx2 _ _ ⟨x2, x3, rfl, rfl, rfl, hi2, hz2, H⟩ Q_l1 hJ2 hQ2
   rw [assign_pad.l1] at H
   refine OK.sq ?_
   refine OK.sr ?_
   refine RL.st 4 [(15, .bool (decide (x3 < (a0.length : Int)))), (0, .slice Ap0 a0.length cp0), (2, .slice Ap2 a2.length cp2), (6, pt nx0 0), (7, pt (nx0 + 1) 0), (8, i6 x3)] ?_
   refine OK.cd (decide (x3 < (a0.length : Int))) (fun hb => ?_) (fun hb => ?_)
   ·skip
    have hc := (of_decide_eq_true hb)
    rw [if_pos hc] at H
    clear hb
    refine OK.skt ?_
    refine OK.sq ?_
    refine OK.join (fun K' I' _ L' X' => ∃ (x4 : List Int), K' = [(0, .slice Ap0 a0.length cp0), (2, .slice Ap2 a2.length cp2), (6, pt nx0 0), (7, pt (nx0 + 1) 0), (8, i6 x3)] ∧ L' = [⟨nx0, arrV (Value.int .i64) 0 144 (List.replicate 144 0), 85⟩, ⟨nx0 + 1, arrV (Value.int .i64) 0 144 x4, 85⟩] ∧ X' = [] ∧ Imm.le I2 I' ∧ 144 ≤ x4.length ∧ (assign_pad.l1 a0 a2 kq1 x4 (W .i64 (x3 + 1))) = some y1) ?_ ?_
    ·rintro _ I3 nx3 _ _ ⟨x4, rfl, rfl, rfl, hi3, hz3, H⟩
     replace H : (assign_pad.l1 a0 a2 kq1 x4 (W .i64 (x3 + 1))) = some y1 := H
     refine QN.then_ ?_
     refine OK.rg ?_
     refine RL.s 3 [(8, i6 (W .i64 (x3 + 1))), (0, .slice Ap0 a0.length cp0), (2, .slice Ap2 a2.length cp2), (6, pt nx0 0), (7, pt (nx0 + 1) 0)] ?_
     refine RL.nil (by kernel_rfl) ?_
     exact QN.sb (hJ2 _ _ _ _ _ ⟨x4, W .i64 (x3 + 1), rfl, rfl, rfl, (Imm.le_trans hi2 hi3), hz3, H⟩) (.cons_cons _ (.cons_cons _ .slnil)) (.refl _)
    ·intro Q_2 hJ3 hQ3
     obtain ⟨y2, H, HK2⟩ := bnd H
     refine OK.bk 1 ?_
     refine OK.sr ?_
     refine RL.s 2 [(19, i6 x3), (18, .slice Ap0 a0.length cp0), (0, .slice Ap0 a0.length cp0), (2, .slice Ap2 a2.length cp2), (6, pt nx0 0), (7, pt (nx0 + 1) 0), (8, i6 x3)] ?_
     obtain ⟨hib0, H⟩ := ifs H
     obtain ⟨hib1, H⟩ := ifs H
     obtain ⟨g1_, o1_, hA1_, A1_, c1_, hl1_, hr1_, hc1_⟩ := Ty.slice_at (Rd.ext hi2 hrp0) x3 hib0 hib1
     refine RL.idx 1 .i64 x3 hA1_ a0.length cp0 (some 20) (by kernel_rfl) (by kernel_rfl) (T := 33) (e := 27) (by kernel_rfl) (by kernel_rfl) hib0 hib1 (K' := [(20, pt g1_ (o1_ + (x3).toNat * 1)), (19, i6 x3), (18, .slice Ap0 a0.length cp0), (0, .slice Ap0 a0.length cp0), (2, .slice Ap2 a2.length cp2), (6, pt nx0 0), (7, pt (nx0 + 1) 0), (8, i6 x3)]) (by kernel_rfl) ?_
     refine RL.simK (K' := [(23, i6 0), (22, i6 ((a0.getD (x3).toNat []).length : Int)), (21, .slice A1_ ((a0.getD (x3).toNat []).length) c1_), (0, .slice Ap0 a0.length cp0), (2, .slice Ap2 a2.length cp2), (6, pt nx0 0), (7, pt (nx0 + 1) 0), (8, i6 x3)]) [(⟨g1_, o1_ + (x3).toNat * 1, none⟩, .slice A1_ ((a0.getD (x3).toNat []).length) c1_)] (RFacts.imm (hc1_ 0 _ rfl) (RFacts.nil _ _ _)) 3 [.r 0, .no, .no] (by kernel_rfl) (by kernel_rfl) ?_
     refine RL.nt ?_
     refine OK.join (fun K' I' _ L' X' => ∃ (x5 : List Int), K' = [(0, .slice Ap0 a0.length cp0), (2, .slice Ap2 a2.length cp2), (6, pt nx0 0), (7, pt (nx0 + 1) 0), (8, i6 x3)] ∧ L' = [⟨nx0, arrV (Value.int .i64) 0 144 (List.replicate 144 0), 85⟩, ⟨nx0 + 1, arrV (Value.int .i64) 0 144 x5, 85⟩] ∧ X' = [] ∧ Imm.le I2 I' ∧ 144 ≤ x5.length ∧ assign_pad.k3 x5 = some y2) ?_ ?_
     ·rintro _ I4 nx4 _ _ ⟨x5, rfl, rfl, rfl, hi4, hz4, H⟩
      rw [assign_pad.k3] at H
      refine QN.blkN ?_
      obtain rfl := Option.some.inj H
      exact QN.sb (hJ3 _ _ _ _ _ ⟨x5, rfl, rfl, rfl, hi4, hz4, HK2⟩) (.cons_cons _ (.cons_cons _ .slnil)) (.refl _)
     ·intro Q_3 hJ4 hQ4
      obtain ⟨y3, H, HK3⟩ := bnd H
      refine OK.bk 2 ?_
      refine OK.sub (K' := [(0, .slice Ap0 a0.length cp0), (2, .slice Ap2 a2.length cp2), (6, pt nx0 0), (7, pt (nx0 + 1) 0), (8, i6 x3), (21, .slice A1_ ((a0.getD (x3).toNat []).length) c1_), (22, i6 ((a0.getD (x3).toNat []).length : Int)), (23, i6 0)]) (L' := [⟨nx0, arrV (Value.int .i64) 0 144 (List.replicate 144 0), 85⟩, ⟨nx0 + 1, arrV (Value.int .i64) 0 144 x2, 85⟩]) (by kernel_rfl) (.cons_cons _ (.cons_cons _ .slnil)) (.refl _) ?_
      refine OK.lp (fun n_ K' I' _ L' X' => ∃ (x6 : List Int) (x7 : Int), K' = [(0, .slice Ap0 a0.length cp0), (2, .slice Ap2 a2.length cp2), (6, pt nx0 0), (7, pt (nx0 + 1) 0), (8, i6 x3), (21, .slice A1_ ((a0.getD (x3).toNat []).length) c1_), (22, i6 ((a0.getD (x3).toNat []).length : Int)), (23, i6 x7)] ∧ L' = [⟨nx0, arrV (Value.int .i64) 0 144 (List.replicate 144 0), 85⟩, ⟨nx0 + 1, arrV (Value.int .i64) 0 144 x6, 85⟩] ∧ X' = [] ∧ Imm.le I2 I' ∧ 144 ≤ x6.length ∧ assign_pad.l2 a0 a2 x3 n_ x6 x7 = some y3) kq1 ⟨x2, 0, rfl, rfl, rfl, (Imm.le_refl _), hz2, H⟩ ?_ ?_
      ·rintro _ _ _ _ _ ⟨x6, x7, rfl, rfl, rfl, _, hz5, H⟩
       cases H
      ·rintro kq2 _ I5 nx5 _ _ ⟨x6, x7, rfl, rfl, rfl, hi5, hz5, H⟩ Q_l2 hJ5 hQ5
       rw [assign_pad.l2] at H
       refine OK.sr ?_
       refine RL.st 1 [(24, .bool (decide (x7 < ((a0.getD (x3).toNat []).length : Int)))), (0, .slice Ap0 a0.length cp0), (2, .slice Ap2 a2.length cp2), (6, pt nx0 0), (7, pt (nx0 + 1) 0), (8, i6 x3), (21, .slice A1_ ((a0.getD (x3).toNat []).length) c1_), (22, i6 ((a0.getD (x3).toNat []).length : Int)), (23, i6 x7)] ?_
       refine OK.sq ?_
       refine OK.cd (decide (x7 < ((a0.getD (x3).toNat []).length : Int))) (fun hb => ?_) (fun hb => ?_)
       ·skip
        have hc := (of_decide_eq_true hb)
        rw [if_pos hc] at H
        clear hb
        refine OK.skt ?_
        refine OK.sq ?_
        refine OK.bk 3 ?_
        refine OK.sr ?_
        refine RL.s 1 [(25, i6 x7), (0, .slice Ap0 a0.length cp0), (2, .slice Ap2 a2.length cp2), (6, pt nx0 0), (7, pt (nx0 + 1) 0), (8, i6 x3), (21, .slice A1_ ((a0.getD (x3).toNat []).length) c1_), (22, i6 ((a0.getD (x3).toNat []).length : Int)), (23, i6 x7)] ?_
        obtain ⟨hib0, H⟩ := ifs H
        obtain ⟨hib1, H⟩ := ifs H
        obtain ⟨g2_, o2_, hA2_, hc2_⟩ := Ty.int_at (Rd.ext hi5 hr1_) x7 hib0 hib1
        refine RL.idx 1 .i64 x7 hA2_ ((a0.getD (x3).toNat []).length) c1_ (some 26) (by kernel_rfl) (by kernel_rfl) (T := 27) (e := 2) (by kernel_rfl) (by kernel_rfl) hib0 hib1 (K' := [(26, pt g2_ (o2_ + (x7).toNat * 1)), (25, i6 x7), (0, .slice Ap0 a0.length cp0), (2, .slice Ap2 a2.length cp2), (6, pt nx0 0), (7, pt (nx0 + 1) 0), (8, i6 x3), (21, .slice A1_ ((a0.getD (x3).toNat []).length) c1_), (22, i6 ((a0.getD (x3).toNat []).length : Int)), (23, i6 x7)]) (by kernel_rfl) ?_
        refine RL.simK (K' := [(10, i6 ((a0.getD (x3).toNat []).getD (x7).toNat 0)), (9, i6 x7), (0, .slice Ap0 a0.length cp0), (2, .slice Ap2 a2.length cp2), (6, pt nx0 0), (7, pt (nx0 + 1) 0), (8, i6 x3), (21, .slice A1_ ((a0.getD (x3).toNat []).length) c1_), (22, i6 ((a0.getD (x3).toNat []).length : Int)), (23, i6 x7)]) [(⟨g2_, o2_ + (x7).toNat * 1, none⟩, i6 ((a0.getD (x3).toNat []).getD (x7).toNat 0))] (RFacts.imm (hc2_ 0 _ rfl) (RFacts.nil _ _ _)) 3 [.r 0, .no, .no] (by kernel_rfl) (by kernel_rfl) ?_
        refine RL.nt ?_
        refine OK.sr ?_
        refine RL.s 2 [(29, i6 x7), (28, .slice Ap2 a2.length cp2), (10, i6 ((a0.getD (x3).toNat []).getD (x7).toNat 0)), (9, i6 x7), (0, .slice Ap0 a0.length cp0), (2, .slice Ap2 a2.length cp2), (6, pt nx0 0), (7, pt (nx0 + 1) 0), (8, i6 x3), (21, .slice A1_ ((a0.getD (x3).toNat []).length) c1_), (22, i6 ((a0.getD (x3).toNat []).length : Int)), (23, i6 x7)] ?_
        obtain ⟨hib0, H⟩ := ifs H
        obtain ⟨hib1, H⟩ := ifs H
        obtain ⟨g3_, o3_, hA3_, hc3_⟩ := Ty.bool_at (Rd.ext (Imm.le_trans hi2 hi5) hrp2) x7 hib0 hib1
        refine RL.idx 1 .i64 x7 hA3_ a2.length cp2 (some 30) (by kernel_rfl) (by kernel_rfl) (T := 44) (e := 4) (by kernel_rfl) (by kernel_rfl) hib0 hib1 (K' := [(30, pt g3_ (o3_ + (x7).toNat * 1)), (29, i6 x7), (28, .slice Ap2 a2.length cp2), (10, i6 ((a0.getD (x3).toNat []).getD (x7).toNat 0)), (9, i6 x7), (0, .slice Ap0 a0.length cp0), (2, .slice Ap2 a2.length cp2), (6, pt nx0 0), (7, pt (nx0 + 1) 0), (8, i6 x3), (21, .slice A1_ ((a0.getD (x3).toNat []).length) c1_), (22, i6 ((a0.getD (x3).toNat []).length : Int)), (23, i6 x7)]) (by kernel_rfl) ?_
        refine RL.simK (K' := [(32, .bool (!(a2.getD (x7).toNat false))), (10, i6 ((a0.getD (x3).toNat []).getD (x7).toNat 0)), (9, i6 x7), (0, .slice Ap0 a0.length cp0), (2, .slice Ap2 a2.length cp2), (6, pt nx0 0), (7, pt (nx0 + 1) 0), (8, i6 x3), (21, .slice A1_ ((a0.getD (x3).toNat []).length) c1_), (22, i6 ((a0.getD (x3).toNat []).length : Int)), (23, i6 x7)]) [(⟨g3_, o3_ + (x7).toNat * 1, none⟩, .bool (a2.getD (x7).toNat false))] (RFacts.imm (hc3_ 0 _ rfl) (RFacts.nil _ _ _)) 2 [.r 0, .no] (by kernel_rfl) (by kernel_rfl) ?_
        refine RL.nt ?_
        refine OK.join (fun K' I' _ L' X' => ∃ (x8 : List Int), K' = [(0, .slice Ap0 a0.length cp0), (2, .slice Ap2 a2.length cp2), (6, pt nx0 0), (7, pt (nx0 + 1) 0), (8, i6 x3), (21, .slice A1_ ((a0.getD (x3).toNat []).length) c1_), (22, i6 ((a0.getD (x3).toNat []).length : Int)), (23, i6 x7)] ∧ L' = [⟨nx0, arrV (Value.int .i64) 0 144 (List.replicate 144 0), 85⟩, ⟨nx0 + 1, arrV (Value.int .i64) 0 144 x8, 85⟩] ∧ X' = [] ∧ Imm.le I5 I' ∧ 144 ≤ x8.length ∧ (assign_pad.l2 a0 a2 x3 kq2 x8 (W .i64 (x7 + 1))) = some y3) ?_ ?_
        ·rintro _ I6 nx6 _ _ ⟨x8, rfl, rfl, rfl, hi6, hz6, H⟩
         replace H : (assign_pad.l2 a0 a2 x3 kq2 x8 (W .i64 (x7 + 1))) = some y3 := H
         refine QN.blkN ?_
         refine QN.then_ ?_
         refine OK.rg ?_
         refine RL.s 2 [(23, i6 (W .i64 (x7 + 1))), (0, .slice Ap0 a0.length cp0), (2, .slice Ap2 a2.length cp2), (6, pt nx0 0), (7, pt (nx0 + 1) 0), (8, i6 x3), (21, .slice A1_ ((a0.getD (x3).toNat []).length) c1_), (22, i6 ((a0.getD (x3).toNat []).length : Int))] ?_
         refine RL.nil (by kernel_rfl) ?_
         exact QN.sb (hJ5 _ _ _ _ _ ⟨x8, W .i64 (x7 + 1), rfl, rfl, rfl, (Imm.le_trans hi5 hi6), hz6, H⟩) (.cons_cons _ (.cons_cons _ .slnil)) (.refl _)
        ·intro Q_4 hJ6 hQ6
         obtain ⟨y4, H, HK4⟩ := bnd H
         refine OK.cd (!(a2.getD (x7).toNat false)) (fun hb => ?_) (fun hb => ?_)
         ·have hb : (a2.getD (x7).toNat false) = false := by simpa using hb
          have hc := (Bool.eq_false_iff.1 hb)
          rw [if_neg hc] at H
          clear hb
          refine OK.rg ?_
          refine RL.s 3 [(35, i6 ((a0.getD (x3).toNat []).getD (x7).toNat 0)), (34, i6 x7), (33, i6 x3), (0, .slice Ap0 a0.length cp0), (2, .slice Ap2 a2.length cp2), (6, pt nx0 0), (7, pt (nx0 + 1) 0), (8, i6 x3), (21, .slice A1_ ((a0.getD (x3).toNat []).length) c1_), (22, i6 ((a0.getD (x3).toNat []).length : Int)), (23, i6 x7)] ?_
          obtain ⟨hib0, H⟩ := ifs H
          obtain ⟨hib1, H⟩ := ifs H
          have ha04 := hib0; have ha14 := hib1
          refine RL.idxArr (T := 85) (e := 83) 12 .i64 x3 (nx0 + 1) (0) 12 (some 36) (by kernel_rfl) (by kernel_rfl) (by kernel_rfl) (by kernel_rfl) hib0 hib1 (K' := [(36, pt (nx0 + 1) (0 + (x3).toNat * 12)), (35, i6 ((a0.getD (x3).toNat []).getD (x7).toNat 0)), (34, i6 x7), (33, i6 x3), (0, .slice Ap0 a0.length cp0), (2, .slice Ap2 a2.length cp2), (6, pt nx0 0), (7, pt (nx0 + 1) 0), (8, i6 x3), (21, .slice A1_ ((a0.getD (x3).toNat []).length) c1_), (22, i6 ((a0.getD (x3).toNat []).length : Int)), (23, i6 x7)]) (by kernel_rfl) ?_
          obtain ⟨hib0, H⟩ := ifs H
          obtain ⟨hib1, H⟩ := ifs H
          have ha05 := hib0; have ha15 := hib1
          refine RL.idxArr (T := 83) (e := 2) 1 .i64 x7 (nx0 + 1) (0 + (x3).toNat * 12) 12 (some 37) (by kernel_rfl) (by kernel_rfl) (by kernel_rfl) (by kernel_rfl) hib0 hib1 (K' := [(37, pt (nx0 + 1) (0 + (x3).toNat * 12 + (x7).toNat * 1)), (36, pt (nx0 + 1) (0 + (x3).toNat * 12)), (35, i6 ((a0.getD (x3).toNat []).getD (x7).toNat 0)), (34, i6 x7), (33, i6 x3), (0, .slice Ap0 a0.length cp0), (2, .slice Ap2 a2.length cp2), (6, pt nx0 0), (7, pt (nx0 + 1) 0), (8, i6 x3), (21, .slice A1_ ((a0.getD (x3).toNat []).length) c1_), (22, i6 ((a0.getD (x3).toNat []).length : Int)), (23, i6 x7)]) (by kernel_rfl) ?_
          refine RL.stA (g := nx0 + 1) (ty := 85) (cs := arrV (Value.int .i64) 0 144 x6) (Value.int .i64) 0 144 x6 ((a0.getD (x3).toNat []).getD (x7).toNat 0) [] [] 0 ((x3).toNat * 12 + (x7).toNat) 1 (by kernel_rfl) (by kernel_rfl) (by kernel_rfl) (by omega) hz5 (0 + (x3).toNat * 12 + (x7).toNat * 1) (by omega) 2 (by kernel_rfl) (by kernel_rfl) (by kernel_rfl) (by rfl) (fun _ h => by cases h) (fun _ h => by cases h) (cs' := arrV (Value.int .i64) 0 144 (x6.set ((x3).toNat * 12 + (x7).toNat) ((a0.getD (x3).toNat []).getD (x7).toNat 0))) (by kernel_rfl) ?_
          refine RL.nil (by kernel_rfl) ?_
          refine QN.sub (K' := [(0, .slice Ap0 a0.length cp0), (2, .slice Ap2 a2.length cp2), (6, pt nx0 0), (7, pt (nx0 + 1) 0), (8, i6 x3), (21, .slice A1_ ((a0.getD (x3).toNat []).length) c1_), (22, i6 ((a0.getD (x3).toNat []).length : Int)), (23, i6 x7)]) (L' := [⟨nx0, arrV (Value.int .i64) 0 144 (List.replicate 144 0), 85⟩, ⟨nx0 + 1, arrV (Value.int .i64) 0 144 (x6.set ((x3).toNat * 12 + (x7).toNat) ((a0.getD (x3).toNat []).getD (x7).toNat 0)), 85⟩]) (by kernel_rfl) (.cons_cons _ (.cons_cons _ .slnil)) (.refl _) ?_
          obtain rfl := Option.some.inj H
          exact QN.sb (hJ6 _ _ _ _ _ ⟨(x6.set ((x3).toNat * 12 + (x7).toNat) ((a0.getD (x3).toNat []).getD (x7).toNat 0)), rfl, rfl, rfl, (Imm.le_refl _), (le_set hz5), HK4⟩) (.cons_cons _ (.cons_cons _ .slnil)) (.refl _)
         ·have hb : (a2.getD (x7).toNat false) = true := by simpa using hb
          have hc := hb
          rw [if_pos hc] at H
          clear hb
          refine OK.sk ?_
          obtain rfl := Option.some.inj H
          exact QN.sb (hJ6 _ _ _ _ _ ⟨x6, rfl, rfl, rfl, (Imm.le_refl _), hz5, HK4⟩) (.cons_cons _ (.cons_cons _ .slnil)) (.refl _)
       ·skip
        have hc := (of_decide_eq_false hb)
        rw [if_neg hc] at H
        clear hb
        refine OK.ex 2 ?_
        refine QN.thenE ?_
        refine QN.outE hQ5 ?_
        refine QN.blkE ?_
        obtain rfl := Option.some.inj H
        exact QN.sb (hJ4 _ _ _ _ _ ⟨x6, rfl, rfl, rfl, hi5, hz5, HK3⟩) (.cons_cons _ (.cons_cons _ .slnil)) (.refl _)
   ·skip
    have hc := (of_decide_eq_false hb)
    rw [if_neg hc] at H
    clear hb
    refine OK.ex 0 ?_
    refine QN.thenE ?_
    refine QN.outE hQ2 ?_
    refine QN.blkE ?_
    obtain rfl := Option.some.inj H
    exact QN.sb (hJ1 _ _ _ _ _ ⟨x2, rfl, rfl, rfl, hi2, hz2, HK1⟩) (.cons_cons _ (.cons_cons _ .slnil)) (.refl _)

end Go.Proofs.Ytihmbmeelheinaa
namespace Go.Proofs.Ytihmbmeelheinaa
open Go Go.Proofs.Ytihmbmeelheinaa.RW
set_option linter.unusedVariables false
set_option maxRecDepth 100000
set_option maxHeartbeats 8000000

/-! ### assign_solution_augment_1s0: function 60, (*armillary/assign.solution).augment$1 -/
noncomputable def K60s0_0 : Code := cBody Try.f60
noncomputable def O60s0_18 : List Oper := cOps (cR (cL (cL (cR (cR (cL (cL (cR (cL K60s0_0)))))))))
noncomputable def O60s0_43 : List Oper := cOps (cL (cR (cR (cL (cL (cR (cR (cL (cL (cR (cR K60s0_0)))))))))))
def assign_solution_augment_1s0.k1 (b2 : S89) (x1 : List Int) : List Int × List Int → Option (S89 × List Int)
 | (x2, x3) => (some ((⟨b2.f0, x1, x2⟩ : S89), x3))
def assign_solution_augment_1s0.l1 (a0 : Int) (b3 : List Bool) : Nat → (List Int) → (List Int) → Int → Option (List Int × List Int)
 | 0, _, _, _ => none
 | k + 1, x4, x5, x6 => (if x6 < 12 then (if 0 ≤ x6 then (if x6 < (12 : Int) then ((if (b3.getD ((x6).toNat) false) = true then (if 0 ≤ x6 then (if x6 < (12 : Int) then (if 0 ≤ x6 then (if x6 < (12 : Int) then (some ((x4.set ((x6).toNat) (W .i64 ((x4.getD ((x6).toNat) 0) + a0))), x5)) else none) else none) else none) else none) else (if 0 ≤ x6 then (if x6 < (12 : Int) then (if 0 ≤ x6 then (if x6 < (12 : Int) then (some (x4, (x5.set ((x6).toNat) (W .i64 ((x5.getD ((x6).toNat) 0) - a0))))) else none) else none) else none) else none)).bind (fun (x7, x8) => (assign_solution_augment_1s0.l1 a0 b3 k x7 x8 (W .i64 (x6 + 1))))) else none) else none) else (some (x4, x5)))
def assign_solution_augment_1s0.k3 (k : Nat) (a0 : Int) (b2 : S89) (b3 : List Bool) (b4 : List Int) (x1 : List Int) : Option (S89 × List Int) := ((assign_solution_augment_1s0.l1 a0 b3 k b2.f2 b4 0).bind (assign_solution_augment_1s0.k1 b2 x1))
def assign_solution_augment_1s0.l2 (a0 : Int) (b0_0 : List Int) : Nat → (List Int) → Int → Option (List Int)
 | 0, _, _ => none
 | k + 1, x9, x10 => (if x10 < (b0_0.length : Int) then (if 0 ≤ x10 then (if x10 < (b0_0.length : Int) then (if 0 ≤ (b0_0.getD (x10).toNat 0) then (if (b0_0.getD (x10).toNat 0) < (12 : Int) then (if 0 ≤ (b0_0.getD (x10).toNat 0) then (if (b0_0.getD (x10).toNat 0) < (12 : Int) then (assign_solution_augment_1s0.l2 a0 b0_0 k (x9.set (((b0_0.getD (x10).toNat 0)).toNat) (W .i64 ((x9.getD (((b0_0.getD (x10).toNat 0)).toNat) 0) - a0))) (W .i64 (x10 + 1))) else none) else none) else none) else none) else none) else none) else (some x9))
def assign_solution_augment_1s0.f (k : Nat) (a0 : Int) (b0_0 : List Int) (b2 : S89) (b3 : List Bool) (b4 : List Int) : Option (S89 × List Int) := ((assign_solution_augment_1s0.l2 a0 b0_0 k b2.f1 0).bind (assign_solution_augment_1s0.k3 k a0 b2 b3 b4))
def assign_solution_augment_1s0.Post (S : Nat → Prop) (gb0 : Nat) (gb1 : Nat) (gb2 : Nat) (gb3 : Nat) (gb4 : Nat) (a0 : Int) (b0_0 : List Int) (Ab0_0 : Option Addr) (cb0_0 : Nat) (csb0_0 : List Value) (b2 : S89) (b3 : List Bool) (b4 : List Int) (I : Imm) (w : World) (r : S89 × List Int) (v : Value) (w' : World) : Prop :=
 ∃ (J : Imm), v = .tuple #[] ∧ Sat ⟨w, S, I⟩ J w'.heap.size [⟨gb0, [.slice Ab0_0 b0_0.length cb0_0], 26⟩, ⟨gb1, [.pointer (some ⟨gb2, 0, none⟩)], 95⟩, ⟨gb2, ((arrV (Value.int .i64) 0 12 r.1.f0) ++ ((arrV (Value.int .i64) 0 12 r.1.f1) ++ (arrV (Value.int .i64) 0 12 r.1.f2))), 89⟩, ⟨gb3, arrV Value.bool false 12 b3, 104⟩, ⟨gb4, arrV (Value.int .i64) 0 12 r.2, 83⟩] [orow 3 1 Ab0_0 b0_0.length cb0_0 csb0_0] w' ∧ 12 ≤ r.1.f0.length ∧ 12 ≤ r.1.f1.length ∧ 12 ≤ r.1.f2.length ∧ 12 ≤ r.2.length
noncomputable def a60s0_43n : List Nat := [0, 0, 1, 5, 15, 31, 0, 127, 1, 257, 1023, 2047]
theorem a60s0_43 : ancs O60s0_43 [] = a60s0_43n := by kernel_rfl
theorem a60s0_43o : drawOk O60s0_43 a60s0_43n 10 = true := by kernel_rfl
noncomputable def u60d1l  : List Ld :=
 []
noncomputable def u60d1g (gb2 : Nat) (x6 : Int) : List (Nat × ((Nat → Wt) → Value)) := [(4, fun u => pt gb2 (24 + (x6).toNat * 1))]
noncomputable def u60d1q (gb0 : Nat) (gb1 : Nat) (gb2 : Nat) (gb3 : Nat) (gb4 : Nat) (a0 : Int) (b0_0 : List Int) (Ab0_0 : Option Addr) (cb0_0 : Nat) (b2 : S89) (b3 : List Bool) (x1 : List Int) (x4 : List Int) (x5 : List Int) (x6 : Int) (u : Nat → Wt) : Option (List Value × List (Nat × Value) × List (Nat × Nat)) := qSim Try.prog [(⟨gb2, 24 + (x6).toNat * 1, none⟩, i6 (x4.getD ((x6).toNat) 0))] [⟨gb0, [.slice Ab0_0 b0_0.length cb0_0], 26⟩, ⟨gb1, [pt gb2 0], 95⟩, ⟨gb2, ((arrV (Value.int .i64) 0 12 b2.f0) ++ ((arrV (Value.int .i64) 0 12 x1) ++ (arrV (Value.int .i64) 0 12 x4))), 89⟩, ⟨gb3, arrV Value.bool false 12 b3, 104⟩, ⟨gb4, arrV (Value.int .i64) 0 12 x5, 83⟩] O60s0_43 ⟨51, []⟩ (Ld.vl u60d1l) (u60d1g gb2 x6) u [.l 1, .no, .no, .no, .no, .r 0, .no, .no, .no, .no] 0 (O60s0_43.take 10) [(32, .bool (b3.getD ((x6).toNat) false)), (8, i6 x6), (0, i6 a0), (2, pt gb1 0), (3, pt gb3 0), (4, pt gb4 0), (27, i6 x6)]
noncomputable def u60d1s (gb2 : Nat) (a0 : Int) (x4 : List Int) (x6 : Int) (u : Nat → Wt) : List Value := [pt gb2 0, i6 x6, pt gb2 0, pt gb2 24, pt gb2 (24 + (x6).toNat * 1), i6 (x4.getD ((x6).toNat) 0), i6 a0, i6 (W .i64 ((x4.getD ((x6).toNat) 0) + a0)), pt gb2 0, pt gb2 24]
noncomputable def u60d1f (gb1 : Nat) (gb2 : Nat) (gb3 : Nat) (gb4 : Nat) (a0 : Int) (b3 : List Bool) (x4 : List Int) (x6 : Int) (i : Nat) (u : Nat → Wt) : List (Nat × Value) := foldPut ⟨51, []⟩ [(32, .bool (b3.getD ((x6).toNat) false)), (8, i6 x6), (0, i6 a0), (2, pt gb1 0), (3, pt gb3 0), (4, pt gb4 0), (27, i6 x6)] (O60s0_43.take i) (((u60d1s gb2 a0 x4 x6) u).take i)
theorem u60d1v (gb0 : Nat) (gb1 : Nat) (gb2 : Nat) (gb3 : Nat) (gb4 : Nat) (a0 : Int) (b0_0 : List Int) (Ab0_0 : Option Addr) (cb0_0 : Nat) (b2 : S89) (b3 : List Bool) (x1 : List Int) (x4 : List Int) (x5 : List Int) (x6 : Int) (u : Nat → Wt) : (u60d1q gb0 gb1 gb2 gb3 gb4 a0 b0_0 Ab0_0 cb0_0 b2 b3 x1 x4 x5 x6 u).map (fun x => (x.1, x.2.1)) = some ((u60d1s gb2 a0 x4 x6) u, (u60d1f gb1 gb2 gb3 gb4 a0 b3 x4 x6 10) u) := by kernel_rfl
theorem u60d1e (gb0 : Nat) (gb1 : Nat) (gb2 : Nat) (gb3 : Nat) (gb4 : Nat) (a0 : Int) (b0_0 : List Int) (Ab0_0 : Option Addr) (cb0_0 : Nat) (b2 : S89) (b3 : List Bool) (x1 : List Int) (x4 : List Int) (x5 : List Int) (x6 : Int) (u : Nat → Wt) : (u60d1q gb0 gb1 gb2 gb3 gb4 a0 b0_0 Ab0_0 cb0_0 b2 b3 x1 x4 x5 x6 u).map (fun x => x.2.2.map (·.1)) = (u60d1q gb0 gb1 gb2 gb3 gb4 a0 b0_0 Ab0_0 cb0_0 b2 b3 x1 x4 x5 x6 u).map (fun x => x.2.2.map (·.2)) := by kernel_rfl
noncomputable def a60s0_18n : List Nat := [0, 0, 1, 5, 15, 31, 0, 127, 1, 257, 1023, 2047]
theorem a60s0_18 : ancs O60s0_18 [] = a60s0_18n := by kernel_rfl
theorem a60s0_18o : drawOk O60s0_18 a60s0_18n 10 = true := by kernel_rfl
noncomputable def u60d2l  : List Ld :=
 []
noncomputable def u60d2g (gb2 : Nat) (b0_0 : List Int) (x10 : Int) : List (Nat × ((Nat → Wt) → Value)) := [(4, fun u => pt gb2 (12 + ((b0_0.getD (x10).toNat 0)).toNat * 1))]
noncomputable def u60d2q (gb0 : Nat) (gb1 : Nat) (gb2 : Nat) (gb3 : Nat) (gb4 : Nat) (a0 : Int) (b0_0 : List Int) (Ab0_0 : Option Addr) (cb0_0 : Nat) (b2 : S89) (b3 : List Bool) (b4 : List Int) (x9 : List Int) (x10 : Int) (u : Nat → Wt) : Option (List Value × List (Nat × Value) × List (Nat × Nat)) := qSim Try.prog [(⟨gb2, 12 + ((b0_0.getD (x10).toNat 0)).toNat * 1, none⟩, i6 (x9.getD (((b0_0.getD (x10).toNat 0)).toNat) 0))] [⟨gb0, [.slice Ab0_0 b0_0.length cb0_0], 26⟩, ⟨gb1, [pt gb2 0], 95⟩, ⟨gb2, ((arrV (Value.int .i64) 0 12 b2.f0) ++ ((arrV (Value.int .i64) 0 12 x9) ++ (arrV (Value.int .i64) 0 12 b2.f2))), 89⟩, ⟨gb3, arrV Value.bool false 12 b3, 104⟩, ⟨gb4, arrV (Value.int .i64) 0 12 b4, 83⟩] O60s0_18 ⟨51, []⟩ (Ld.vl u60d2l) (u60d2g gb2 b0_0 x10) u [.l 1, .no, .no, .no, .no, .r 0, .no, .no, .no, .no] 0 (O60s0_18.take 10) [(7, i6 (b0_0.getD (x10).toNat 0)), (0, i6 a0), (2, pt gb1 0), (3, pt gb3 0), (4, pt gb4 0), (9, .slice Ab0_0 b0_0.length cb0_0), (10, i6 (b0_0.length : Int)), (11, i6 x10)]
noncomputable def u60d2s (gb2 : Nat) (a0 : Int) (b0_0 : List Int) (x9 : List Int) (x10 : Int) (u : Nat → Wt) : List Value := [pt gb2 0, i6 (b0_0.getD (x10).toNat 0), pt gb2 0, pt gb2 12, pt gb2 (12 + ((b0_0.getD (x10).toNat 0)).toNat * 1), i6 (x9.getD (((b0_0.getD (x10).toNat 0)).toNat) 0), i6 a0, i6 (W .i64 ((x9.getD (((b0_0.getD (x10).toNat 0)).toNat) 0) - a0)), pt gb2 0, pt gb2 12]
noncomputable def u60d2f (gb1 : Nat) (gb2 : Nat) (gb3 : Nat) (gb4 : Nat) (a0 : Int) (b0_0 : List Int) (Ab0_0 : Option Addr) (cb0_0 : Nat) (x9 : List Int) (x10 : Int) (i : Nat) (u : Nat → Wt) : List (Nat × Value) := foldPut ⟨51, []⟩ [(7, i6 (b0_0.getD (x10).toNat 0)), (0, i6 a0), (2, pt gb1 0), (3, pt gb3 0), (4, pt gb4 0), (9, .slice Ab0_0 b0_0.length cb0_0), (10, i6 (b0_0.length : Int)), (11, i6 x10)] (O60s0_18.take i) (((u60d2s gb2 a0 b0_0 x9 x10) u).take i)
theorem u60d2v (gb0 : Nat) (gb1 : Nat) (gb2 : Nat) (gb3 : Nat) (gb4 : Nat) (a0 : Int) (b0_0 : List Int) (Ab0_0 : Option Addr) (cb0_0 : Nat) (b2 : S89) (b3 : List Bool) (b4 : List Int) (x9 : List Int) (x10 : Int) (u : Nat → Wt) : (u60d2q gb0 gb1 gb2 gb3 gb4 a0 b0_0 Ab0_0 cb0_0 b2 b3 b4 x9 x10 u).map (fun x => (x.1, x.2.1)) = some ((u60d2s gb2 a0 b0_0 x9 x10) u, (u60d2f gb1 gb2 gb3 gb4 a0 b0_0 Ab0_0 cb0_0 x9 x10 10) u) := by kernel_rfl
theorem u60d2e (gb0 : Nat) (gb1 : Nat) (gb2 : Nat) (gb3 : Nat) (gb4 : Nat) (a0 : Int) (b0_0 : List Int) (Ab0_0 : Option Addr) (cb0_0 : Nat) (b2 : S89) (b3 : List Bool) (b4 : List Int) (x9 : List Int) (x10 : Int) (u : Nat → Wt) : (u60d2q gb0 gb1 gb2 gb3 gb4 a0 b0_0 Ab0_0 cb0_0 b2 b3 b4 x9 x10 u).map (fun x => x.2.2.map (·.1)) = (u60d2q gb0 gb1 gb2 gb3 gb4 a0 b0_0 Ab0_0 cb0_0 b2 b3 b4 x9 x10 u).map (fun x => x.2.2.map (·.2)) := by kernel_rfl
theorem assign_solution_augment_1s0.calls (k : Nat) (I0 : Imm) (gb0 : Nat) (gb1 : Nat) (gb2 : Nat) (gb3 : Nat) (gb4 : Nat) (a0 : Int) (b0_0 : List Int) (Ab0_0 : Option Addr) (cb0_0 : Nat) (csb0_0 : List Value) (b2 : S89) (b3 : List Bool) (b4 : List Int) (w : World) (hs : Sat ⟨w, SM [⟨gb0, [.slice Ab0_0 b0_0.length cb0_0], 26⟩, ⟨gb1, [pt gb2 0], 95⟩, ⟨gb2, ((arrV (Value.int .i64) 0 12 b2.f0) ++ ((arrV (Value.int .i64) 0 12 b2.f1) ++ (arrV (Value.int .i64) 0 12 b2.f2))), 89⟩, ⟨gb3, arrV Value.bool false 12 b3, 104⟩, ⟨gb4, arrV (Value.int .i64) 0 12 b4, 83⟩] [orow 3 1 Ab0_0 b0_0.length cb0_0 csb0_0], I0⟩ I0 w.heap.size [⟨gb0, [.slice Ab0_0 b0_0.length cb0_0], 26⟩, ⟨gb1, [pt gb2 0], 95⟩, ⟨gb2, ((arrV (Value.int .i64) 0 12 b2.f0) ++ ((arrV (Value.int .i64) 0 12 b2.f1) ++ (arrV (Value.int .i64) 0 12 b2.f2))), 89⟩, ⟨gb3, arrV Value.bool false 12 b3, 104⟩, ⟨gb4, arrV (Value.int .i64) 0 12 b4, 83⟩] [orow 3 1 Ab0_0 b0_0.length cb0_0 csb0_0] w) (hpb0_0 : Reps (Ty.int .i64) I0 b0_0 csb0_0) (hzb2_0 : 12 ≤ b2.f0.length) (hzb2_1 : 12 ≤ b2.f1.length) (hzb2_2 : 12 ≤ b2.f2.length) (hzb3 : 12 ≤ b3.length) (hzb4 : 12 ≤ b4.length) (r : S89 × List Int) (h : assign_solution_augment_1s0.f k a0 b0_0 b2 b3 b4 = some r) :
  Calls Try.prog 60 [i6 a0, pt gb0 0, pt gb1 0, pt gb3 0, pt gb4 0].toArray w fun e w' => ∃ v, e = .returned v ∧ assign_solution_augment_1s0.Post (SM [⟨gb0, [.slice Ab0_0 b0_0.length cb0_0], 26⟩, ⟨gb1, [pt gb2 0], 95⟩, ⟨gb2, ((arrV (Value.int .i64) 0 12 b2.f0) ++ ((arrV (Value.int .i64) 0 12 b2.f1) ++ (arrV (Value.int .i64) 0 12 b2.f2))), 89⟩, ⟨gb3, arrV Value.bool false 12 b3, 104⟩, ⟨gb4, arrV (Value.int .i64) 0 12 b4, 83⟩] [orow 3 1 Ab0_0 b0_0.length cb0_0 csb0_0]) gb0 gb1 gb2 gb3 gb4 a0 b0_0 Ab0_0 cb0_0 csb0_0 b2 b3 b4 I0 w r v w' := by
 have H : ((assign_solution_augment_1s0.l2 a0 b0_0 k b2.f1 0).bind (assign_solution_augment_1s0.k3 k a0 b2 b3 b4)) = some r := h
 clear h
 refine calls_bodyL Try.func60 (by kernel_rfl) 51 (by kernel_rfl) (by kernel_rfl) ⟨w, SM [⟨gb0, [.slice Ab0_0 b0_0.length cb0_0], 26⟩, ⟨gb1, [pt gb2 0], 95⟩, ⟨gb2, ((arrV (Value.int .i64) 0 12 b2.f0) ++ ((arrV (Value.int .i64) 0 12 b2.f1) ++ (arrV (Value.int .i64) 0 12 b2.f2))), 89⟩, ⟨gb3, arrV Value.bool false 12 b3, 104⟩, ⟨gb4, arrV (Value.int .i64) 0 12 b4, 83⟩] [orow 3 1 Ab0_0 b0_0.length cb0_0 csb0_0], I0⟩ I0 [⟨gb0, [.slice Ab0_0 b0_0.length cb0_0], 26⟩, ⟨gb1, [pt gb2 0], 95⟩, ⟨gb2, ((arrV (Value.int .i64) 0 12 b2.f0) ++ ((arrV (Value.int .i64) 0 12 b2.f1) ++ (arrV (Value.int .i64) 0 12 b2.f2))), 89⟩, ⟨gb3, arrV Value.bool false 12 b3, 104⟩, ⟨gb4, arrV (Value.int .i64) 0 12 b4, 83⟩] [orow 3 1 Ab0_0 b0_0.length cb0_0 csb0_0] [(0, i6 a0), (1, pt gb0 0), (2, pt gb1 0), (3, pt gb3 0), (4, pt gb4 0)] (by kernel_rfl) hs ?_
 generalize w.heap.size = nx0
 show OK _ K60s0_0 _ _ _ _ _ _ _ _
 refine OK.sq ?_
 refine OK.sr ?_
 refine RL.simK (K' := [(11, i6 0), (10, i6 (b0_0.length : Int)), (9, .slice Ab0_0 b0_0.length cb0_0), (0, i6 a0), (2, pt gb1 0), (3, pt gb3 0), (4, pt gb4 0)]) [] (RFacts.nil _ _ _) 3 [.l 0, .no, .no] (by kernel_rfl) (by kernel_rfl) ?_
 refine RL.nt ?_
 refine OK.join (fun K' I' _ L' X' => ∃ (x1 : List Int), K' = [(0, i6 a0), (2, pt gb1 0), (3, pt gb3 0), (4, pt gb4 0)] ∧ L' = [⟨gb0, [.slice Ab0_0 b0_0.length cb0_0], 26⟩, ⟨gb1, [pt gb2 0], 95⟩, ⟨gb2, ((arrV (Value.int .i64) 0 12 b2.f0) ++ ((arrV (Value.int .i64) 0 12 x1) ++ (arrV (Value.int .i64) 0 12 b2.f2))), 89⟩, ⟨gb3, arrV Value.bool false 12 b3, 104⟩, ⟨gb4, arrV (Value.int .i64) 0 12 b4, 83⟩] ∧ X' = [orow 3 1 Ab0_0 b0_0.length cb0_0 csb0_0] ∧ Imm.le I0 I' ∧ 12 ≤ x1.length ∧ assign_solution_augment_1s0.k3 k a0 b2 b3 b4 x1 = some r) ?_ ?_
 ·rintro _ I1 nx1 _ _ ⟨x1, rfl, rfl, rfl, hi1, hz1, H⟩
  rw [assign_solution_augment_1s0.k3] at H
  refine QN.then_ ?_
  refine OK.sr ?_
  refine RL.st 1 [(27, i6 0), (0, i6 a0), (2, pt gb1 0), (3, pt gb3 0), (4, pt gb4 0)] ?_
  refine OK.join (fun K' I' _ L' X' => ∃ (x2 : List Int) (x3 : List Int), K' = [] ∧ L' = [⟨gb0, [.slice Ab0_0 b0_0.length cb0_0], 26⟩, ⟨gb1, [pt gb2 0], 95⟩, ⟨gb2, ((arrV (Value.int .i64) 0 12 b2.f0) ++ ((arrV (Value.int .i64) 0 12 x1) ++ (arrV (Value.int .i64) 0 12 x2))), 89⟩, ⟨gb3, arrV Value.bool false 12 b3, 104⟩, ⟨gb4, arrV (Value.int .i64) 0 12 x3, 83⟩] ∧ X' = [orow 3 1 Ab0_0 b0_0.length cb0_0 csb0_0] ∧ Imm.le I1 I' ∧ 12 ≤ x2.length ∧ 12 ≤ x3.length ∧ assign_solution_augment_1s0.k1 b2 x1 (x2, x3) = some r) ?_ ?_
  ·rintro _ I2 nx2 _ _ ⟨x2, x3, rfl, rfl, rfl, hi2, hz2, hz3, H⟩
   rw [assign_solution_augment_1s0.k1] at H
   obtain rfl := Option.some.inj H
   refine QN.body rfl [] (RFacts.nil _ _ _) (.no) (.tuple #[]) (by kernel_rfl) (by kernel_rfl) (by kernel_rfl) ?_ _ (.inl rfl)
   exact fun w' hs' => ⟨_, rfl, I2, rfl, ((hs'.fin.selB [0, 1, 2, 3, 4] (by kernel_rfl)).sel [0] (by kernel_rfl)), hzb2_0, hz1, hz2, hz3⟩
  ·intro Q_1 hJ2 hQ2
   obtain ⟨y2, H, HK2⟩ := bnd H
   refine OK.bk 2 ?_
   refine OK.sub (K' := [(0, i6 a0), (2, pt gb1 0), (3, pt gb3 0), (4, pt gb4 0), (27, i6 0)]) (L' := [⟨gb0, [.slice Ab0_0 b0_0.length cb0_0], 26⟩, ⟨gb1, [pt gb2 0], 95⟩, ⟨gb2, ((arrV (Value.int .i64) 0 12 b2.f0) ++ ((arrV (Value.int .i64) 0 12 x1) ++ (arrV (Value.int .i64) 0 12 b2.f2))), 89⟩, ⟨gb3, arrV Value.bool false 12 b3, 104⟩, ⟨gb4, arrV (Value.int .i64) 0 12 b4, 83⟩]) (by kernel_rfl) (.cons_cons _ (.cons_cons _ (.cons_cons _ (.cons_cons _ (.cons_cons _ .slnil))))) (.refl _) ?_
   refine OK.lp (fun n_ K' I' _ L' X' => ∃ (x4 : List Int) (x5 : List Int) (x6 : Int), K' = [(0, i6 a0), (2, pt gb1 0), (3, pt gb3 0), (4, pt gb4 0), (27, i6 x6)] ∧ L' = [⟨gb0, [.slice Ab0_0 b0_0.length cb0_0], 26⟩, ⟨gb1, [pt gb2 0], 95⟩, ⟨gb2, ((arrV (Value.int .i64) 0 12 b2.f0) ++ ((arrV (Value.int .i64) 0 12 x1) ++ (arrV (Value.int .i64) 0 12 x4))), 89⟩, ⟨gb3, arrV Value.bool false 12 b3, 104⟩, ⟨gb4, arrV (Value.int .i64) 0 12 x5, 83⟩] ∧ X' = [orow 3 1 Ab0_0 b0_0.length cb0_0 csb0_0] ∧ Imm.le I1 I' ∧ 12 ≤ x4.length ∧ 12 ≤ x5.length ∧ assign_solution_augment_1s0.l1 a0 b3 n_ x4 x5 x6 = some y2) k ⟨b2.f2, b4, 0, rfl, rfl, rfl, (Imm.le_refl _), hzb2_2, hzb4, H⟩ ?_ ?_
   ·rintro _ _ _ _ _ ⟨x4, x5, x6, rfl, rfl, rfl, _, hz4, hz5, H⟩
    cases H
   ·rintro kq1 _ I3 nx3 _ _ ⟨x4, x5, x6, rfl, rfl, rfl, hi3, hz4, hz5, H⟩ Q_l1 hJ3 hQ3
    rw [assign_solution_augment_1s0.l1] at H
    refine OK.sr ?_
    refine RL.st 1 [(28, .bool (decide (x6 < 12))), (0, i6 a0), (2, pt gb1 0), (3, pt gb3 0), (4, pt gb4 0), (27, i6 x6)] ?_
    refine OK.sq ?_
    refine OK.cd (decide (x6 < 12)) (fun hb => ?_) (fun hb => ?_)
    ·skip
     have hc := (of_decide_eq_true hb)
     rw [if_pos hc] at H
     clear hb
     refine OK.skt ?_
     refine OK.sq ?_
     refine OK.bk 3 ?_
     refine OK.sr ?_
     refine RL.st 2 [(8, i6 x6), (0, i6 a0), (2, pt gb1 0), (3, pt gb3 0), (4, pt gb4 0), (27, i6 x6)] ?_
     refine OK.sr ?_
     refine RL.s 1 [(30, i6 x6), (8, i6 x6), (0, i6 a0), (2, pt gb1 0), (3, pt gb3 0), (4, pt gb4 0), (27, i6 x6)] ?_
     obtain ⟨hib0, H⟩ := ifs H
     obtain ⟨hib1, H⟩ := ifs H
     have ha01 := hib0; have ha11 := hib1
     refine RL.idxArr (T := 104) (e := 4) 1 .i64 x6 gb3 (0) 12 (some 31) (by kernel_rfl) (by kernel_rfl) (by kernel_rfl) (by kernel_rfl) hib0 hib1 (K' := [(31, pt gb3 (0 + (x6).toNat * 1)), (30, i6 x6), (8, i6 x6), (0, i6 a0), (2, pt gb1 0), (3, pt gb3 0), (4, pt gb4 0), (27, i6 x6)]) (by kernel_rfl) ?_
     refine RL.ldA (g := gb3) (ty := 104) (cs := arrV Value.bool false 12 b3) Value.bool false 12 b3 [] [] 0 ((x6).toNat) 3 (by kernel_rfl) (by kernel_rfl) (by kernel_rfl) (by omega) (0 + (x6).toNat * 1) (by omega) (some 32) (by kernel_rfl) (by kernel_rfl) (by kernel_rfl) (K' := [(32, .bool (b3.getD ((x6).toNat) false)), (31, pt gb3 (0 + (x6).toNat * 1)), (30, i6 x6), (8, i6 x6), (0, i6 a0), (2, pt gb1 0), (3, pt gb3 0), (4, pt gb4 0), (27, i6 x6)]) (by kernel_rfl) ?_
     refine RL.nil (by kernel_rfl) ?_
     refine QN.sub (K' := [(32, .bool (b3.getD ((x6).toNat) false)), (8, i6 x6), (0, i6 a0), (2, pt gb1 0), (3, pt gb3 0), (4, pt gb4 0), (27, i6 x6)]) (L' := [⟨gb0, [.slice Ab0_0 b0_0.length cb0_0], 26⟩, ⟨gb1, [pt gb2 0], 95⟩, ⟨gb2, ((arrV (Value.int .i64) 0 12 b2.f0) ++ ((arrV (Value.int .i64) 0 12 x1) ++ (arrV (Value.int .i64) 0 12 x4))), 89⟩, ⟨gb3, arrV Value.bool false 12 b3, 104⟩, ⟨gb4, arrV (Value.int .i64) 0 12 x5, 83⟩]) (by kernel_rfl) (.cons_cons _ (.cons_cons _ (.cons_cons _ (.cons_cons _ (.cons_cons _ .slnil))))) (.refl _) ?_
     refine QN.then_ ?_
     refine OK.join (fun K' I' _ L' X' => ∃ (x7 : List Int) (x8 : List Int), K' = [(0, i6 a0), (2, pt gb1 0), (3, pt gb3 0), (4, pt gb4 0), (27, i6 x6)] ∧ L' = [⟨gb0, [.slice Ab0_0 b0_0.length cb0_0], 26⟩, ⟨gb1, [pt gb2 0], 95⟩, ⟨gb2, ((arrV (Value.int .i64) 0 12 b2.f0) ++ ((arrV (Value.int .i64) 0 12 x1) ++ (arrV (Value.int .i64) 0 12 x7))), 89⟩, ⟨gb3, arrV Value.bool false 12 b3, 104⟩, ⟨gb4, arrV (Value.int .i64) 0 12 x8, 83⟩] ∧ X' = [orow 3 1 Ab0_0 b0_0.length cb0_0 csb0_0] ∧ Imm.le I3 I' ∧ 12 ≤ x7.length ∧ 12 ≤ x8.length ∧ (assign_solution_augment_1s0.l1 a0 b3 kq1 x7 x8 (W .i64 (x6 + 1))) = some y2) ?_ ?_
     ·rintro _ I4 nx4 _ _ ⟨x7, x8, rfl, rfl, rfl, hi4, hz6, hz7, H⟩
      replace H : (assign_solution_augment_1s0.l1 a0 b3 kq1 x7 x8 (W .i64 (x6 + 1))) = some y2 := H
      refine QN.blkN ?_
      refine QN.then_ ?_
      refine OK.rg ?_
      refine RL.s 2 [(27, i6 (W .i64 (x6 + 1))), (0, i6 a0), (2, pt gb1 0), (3, pt gb3 0), (4, pt gb4 0)] ?_
      refine RL.nil (by kernel_rfl) ?_
      exact QN.sb (hJ3 _ _ _ _ _ ⟨x7, x8, W .i64 (x6 + 1), rfl, rfl, rfl, (Imm.le_trans hi3 hi4), hz6, hz7, H⟩) (.cons_cons _ (.cons_cons _ (.cons_cons _ (.cons_cons _ (.cons_cons _ .slnil))))) (.refl _)
     ·intro Q_2 hJ4 hQ4
      obtain ⟨y3, H, HK3⟩ := bnd H
      refine OK.cd (b3.getD ((x6).toNat) false) (fun hb => ?_) (fun hb => ?_)
      ·skip
       have hc := hb
       rw [if_pos hc] at H
       clear hb
       obtain ⟨hi0_1, H⟩ := ifs H
       obtain ⟨hi1_1, H⟩ := ifs H
       refine OK.drawnC 9 10 O60s0_43 a60s0_43n (by kernel_rfl) (by kernel_rfl) u60d1l (u60d1g gb2 x6) [(⟨gb2, 24 + (x6).toNat * 1, none⟩, i6 (x4.getD ((x6).toNat) 0))] (RI.arr (g := gb2) (ty := 89) (cs := ((arrV (Value.int .i64) 0 12 b2.f0) ++ ((arrV (Value.int .i64) 0 12 x1) ++ (arrV (Value.int .i64) 0 12 x4)))) (Value.int .i64) 0 12 x4 ((arrV (Value.int .i64) 0 12 b2.f0) ++ (arrV (Value.int .i64) 0 12 x1)) [] 24 ((x6).toNat) 2 (by kernel_rfl) (by kernel_rfl) (by kernel_rfl) (by omega) (24 + (x6).toNat * 1) (by omega) (RI.nil _)) [.l 1, .no, .no, .no, .no, .r 0, .no, .no, .no, .no] a60s0_43 a60s0_43o (by kernel_rfl) (by kernel_rfl) (u60d1s gb2 a0 x4 x6) (u60d1f gb1 gb2 gb3 gb4 a0 b3 x4 x6 10) (u60d1v gb0 gb1 gb2 gb3 gb4 a0 b0_0 Ab0_0 cb0_0 b2 b3 x1 x4 x5 x6) (u60d1e gb0 gb1 gb2 gb3 gb4 a0 b0_0 Ab0_0 cb0_0 b2 b3 x1 x4 x5 x6) [] framesOk.nil ?_ [u60d1f gb1 gb2 gb3 gb4 a0 b3 x4 x6 4] (framesOk.cons (fun u => rfl) framesOk.nil) ?_ ?_
       ·refine LoudsG.nil
       ·refine Givens.cons (fun u w =>  ?_) (fun _ _ _ => rfl) (Givens.nil)
        ·exact giv_idxArr (T := 83) (e := 2) 1 .i64 x6 gb2 (24) 12 (by kernel_rfl) (by kernel_rfl) (by kernel_rfl) hi0_1 hi1_1 w
       intro u I5 nx5 hi5 hF
       clear hF
       refine RL.norm (K' := [(42, pt gb2 24), (41, pt gb2 0), (40, i6 (W .i64 ((x4.getD ((x6).toNat) 0) + a0))), (39, i6 a0), (38, i6 (x4.getD ((x6).toNat) 0)), (37, pt gb2 (24 + (x6).toNat * 1)), (36, pt gb2 24), (35, pt gb2 0), (34, i6 x6), (33, pt gb2 0), (32, .bool (b3.getD ((x6).toNat) false)), (8, i6 x6), (0, i6 a0), (2, pt gb1 0), (3, pt gb3 0), (4, pt gb4 0), (27, i6 x6)]) (X' := [orow 3 1 Ab0_0 b0_0.length cb0_0 csb0_0]) (by kernel_rfl) rfl rfl rfl ?_
       obtain ⟨hib0, H⟩ := ifs H
       obtain ⟨hib1, H⟩ := ifs H
       have ha02 := hib0; have ha12 := hib1
       refine RL.idxArr (T := 83) (e := 2) 1 .i64 x6 gb2 (24) 12 (some 43) (by kernel_rfl) (by kernel_rfl) (by kernel_rfl) (by kernel_rfl) hib0 hib1 (K' := [(43, pt gb2 (24 + (x6).toNat * 1)), (42, pt gb2 24), (41, pt gb2 0), (40, i6 (W .i64 ((x4.getD ((x6).toNat) 0) + a0))), (39, i6 a0), (38, i6 (x4.getD ((x6).toNat) 0)), (37, pt gb2 (24 + (x6).toNat * 1)), (36, pt gb2 24), (35, pt gb2 0), (34, i6 x6), (33, pt gb2 0), (32, .bool (b3.getD ((x6).toNat) false)), (8, i6 x6), (0, i6 a0), (2, pt gb1 0), (3, pt gb3 0), (4, pt gb4 0), (27, i6 x6)]) (by kernel_rfl) ?_
       refine RL.stA (g := gb2) (ty := 89) (cs := ((arrV (Value.int .i64) 0 12 b2.f0) ++ ((arrV (Value.int .i64) 0 12 x1) ++ (arrV (Value.int .i64) 0 12 x4)))) (Value.int .i64) 0 12 x4 (W .i64 ((x4.getD ((x6).toNat) 0) + a0)) ((arrV (Value.int .i64) 0 12 b2.f0) ++ (arrV (Value.int .i64) 0 12 x1)) [] 24 ((x6).toNat) 2 (by kernel_rfl) (by kernel_rfl) (by kernel_rfl) (by omega) hz4 (24 + (x6).toNat * 1) (by omega) 2 (by kernel_rfl) (by kernel_rfl) (by kernel_rfl) (by rfl) (fun _ h => by cases h) (fun _ h => by cases h) (cs' := ((arrV (Value.int .i64) 0 12 b2.f0) ++ ((arrV (Value.int .i64) 0 12 x1) ++ (arrV (Value.int .i64) 0 12 (x4.set ((x6).toNat) (W .i64 ((x4.getD ((x6).toNat) 0) + a0))))))) (by kernel_rfl) ?_
       refine RL.nil (by kernel_rfl) ?_
       refine QN.sub (K' := [(0, i6 a0), (2, pt gb1 0), (3, pt gb3 0), (4, pt gb4 0), (27, i6 x6)]) (L' := [⟨gb0, [.slice Ab0_0 b0_0.length cb0_0], 26⟩, ⟨gb1, [pt gb2 0], 95⟩, ⟨gb2, ((arrV (Value.int .i64) 0 12 b2.f0) ++ ((arrV (Value.int .i64) 0 12 x1) ++ (arrV (Value.int .i64) 0 12 (x4.set ((x6).toNat) (W .i64 ((x4.getD ((x6).toNat) 0) + a0)))))), 89⟩, ⟨gb3, arrV Value.bool false 12 b3, 104⟩, ⟨gb4, arrV (Value.int .i64) 0 12 x5, 83⟩]) (by kernel_rfl) (.cons_cons _ (.cons_cons _ (.cons_cons _ (.cons_cons _ (.cons_cons _ .slnil))))) (.refl _) ?_
       obtain rfl := Option.some.inj H
       exact QN.sb (hJ4 _ _ _ _ _ ⟨(x4.set ((x6).toNat) (W .i64 ((x4.getD ((x6).toNat) 0) + a0))), x5, rfl, rfl, rfl, hi5, (le_set hz4), hz5, HK3⟩) (.cons_cons _ (.cons_cons _ (.cons_cons _ (.cons_cons _ (.cons_cons _ .slnil))))) (.refl _)
      ·skip
       have hc := (Bool.eq_false_iff.1 hb)
       rw [if_neg hc] at H
       clear hb
       refine OK.rg ?_
       refine RL.s 1 [(44, i6 x6), (0, i6 a0), (2, pt gb1 0), (3, pt gb3 0), (4, pt gb4 0), (27, i6 x6)] ?_
       obtain ⟨hib0, H⟩ := ifs H
       obtain ⟨hib1, H⟩ := ifs H
       have ha03 := hib0; have ha13 := hib1
       refine RL.idxArr (T := 83) (e := 2) 1 .i64 x6 gb4 (0) 12 (some 45) (by kernel_rfl) (by kernel_rfl) (by kernel_rfl) (by kernel_rfl) hib0 hib1 (K' := [(45, pt gb4 (0 + (x6).toNat * 1)), (44, i6 x6), (0, i6 a0), (2, pt gb1 0), (3, pt gb3 0), (4, pt gb4 0), (27, i6 x6)]) (by kernel_rfl) ?_
       refine RL.ldA (g := gb4) (ty := 83) (cs := arrV (Value.int .i64) 0 12 x5) (Value.int .i64) 0 12 x5 [] [] 0 ((x6).toNat) 4 (by kernel_rfl) (by kernel_rfl) (by kernel_rfl) (by omega) (0 + (x6).toNat * 1) (by omega) (some 46) (by kernel_rfl) (by kernel_rfl) (by kernel_rfl) (K' := [(46, i6 (x5.getD ((x6).toNat) 0)), (45, pt gb4 (0 + (x6).toNat * 1)), (44, i6 x6), (0, i6 a0), (2, pt gb1 0), (3, pt gb3 0), (4, pt gb4 0), (27, i6 x6)]) (by kernel_rfl) ?_
       refine RL.s 2 [(48, i6 (W .i64 ((x5.getD ((x6).toNat) 0) - a0))), (44, i6 x6), (0, i6 a0), (2, pt gb1 0), (3, pt gb3 0), (4, pt gb4 0), (27, i6 x6)] ?_
       obtain ⟨hib0, H⟩ := ifs H
       obtain ⟨hib1, H⟩ := ifs H
       have ha04 := hib0; have ha14 := hib1
       refine RL.idxArr (T := 83) (e := 2) 1 .i64 x6 gb4 (0) 12 (some 49) (by kernel_rfl) (by kernel_rfl) (by kernel_rfl) (by kernel_rfl) hib0 hib1 (K' := [(49, pt gb4 (0 + (x6).toNat * 1)), (48, i6 (W .i64 ((x5.getD ((x6).toNat) 0) - a0))), (44, i6 x6), (0, i6 a0), (2, pt gb1 0), (3, pt gb3 0), (4, pt gb4 0), (27, i6 x6)]) (by kernel_rfl) ?_
       refine RL.stA (g := gb4) (ty := 83) (cs := arrV (Value.int .i64) 0 12 x5) (Value.int .i64) 0 12 x5 (W .i64 ((x5.getD ((x6).toNat) 0) - a0)) [] [] 0 ((x6).toNat) 4 (by kernel_rfl) (by kernel_rfl) (by kernel_rfl) (by omega) hz5 (0 + (x6).toNat * 1) (by omega) 2 (by kernel_rfl) (by kernel_rfl) (by kernel_rfl) (by rfl) (fun _ h => by cases h) (fun _ h => by cases h) (cs' := arrV (Value.int .i64) 0 12 (x5.set ((x6).toNat) (W .i64 ((x5.getD ((x6).toNat) 0) - a0)))) (by kernel_rfl) ?_
       refine RL.nil (by kernel_rfl) ?_
       refine QN.sub (K' := [(0, i6 a0), (2, pt gb1 0), (3, pt gb3 0), (4, pt gb4 0), (27, i6 x6)]) (L' := [⟨gb0, [.slice Ab0_0 b0_0.length cb0_0], 26⟩, ⟨gb1, [pt gb2 0], 95⟩, ⟨gb2, ((arrV (Value.int .i64) 0 12 b2.f0) ++ ((arrV (Value.int .i64) 0 12 x1) ++ (arrV (Value.int .i64) 0 12 x4))), 89⟩, ⟨gb3, arrV Value.bool false 12 b3, 104⟩, ⟨gb4, arrV (Value.int .i64) 0 12 (x5.set ((x6).toNat) (W .i64 ((x5.getD ((x6).toNat) 0) - a0))), 83⟩]) (by kernel_rfl) (.cons_cons _ (.cons_cons _ (.cons_cons _ (.cons_cons _ (.cons_cons _ .slnil))))) (.refl _) ?_
       obtain rfl := Option.some.inj H
       exact QN.sb (hJ4 _ _ _ _ _ ⟨x4, (x5.set ((x6).toNat) (W .i64 ((x5.getD ((x6).toNat) 0) - a0))), rfl, rfl, rfl, (Imm.le_refl _), hz4, (le_set hz5), HK3⟩) (.cons_cons _ (.cons_cons _ (.cons_cons _ (.cons_cons _ (.cons_cons _ .slnil))))) (.refl _)
    ·skip
     have hc := (of_decide_eq_false hb)
     rw [if_neg hc] at H
     clear hb
     refine OK.ex 2 ?_
     refine QN.thenE ?_
     refine QN.outE hQ3 ?_
     refine QN.blkE ?_
     obtain rfl := Option.some.inj H
     exact QN.sb (hJ2 _ _ _ _ _ ⟨x4, x5, rfl, rfl, rfl, hi3, hz4, hz5, HK2⟩) (.cons_cons _ (.cons_cons _ (.cons_cons _ (.cons_cons _ (.cons_cons _ .slnil))))) (.refl _)
 ·intro Q_3 hJ1 hQ1
  obtain ⟨y1, H, HK1⟩ := bnd H
  refine OK.bk 0 ?_
  refine OK.sub (K' := [(0, i6 a0), (2, pt gb1 0), (3, pt gb3 0), (4, pt gb4 0), (9, .slice Ab0_0 b0_0.length cb0_0), (10, i6 (b0_0.length : Int)), (11, i6 0)]) (L' := [⟨gb0, [.slice Ab0_0 b0_0.length cb0_0], 26⟩, ⟨gb1, [pt gb2 0], 95⟩, ⟨gb2, ((arrV (Value.int .i64) 0 12 b2.f0) ++ ((arrV (Value.int .i64) 0 12 b2.f1) ++ (arrV (Value.int .i64) 0 12 b2.f2))), 89⟩, ⟨gb3, arrV Value.bool false 12 b3, 104⟩, ⟨gb4, arrV (Value.int .i64) 0 12 b4, 83⟩]) (by kernel_rfl) (.cons_cons _ (.cons_cons _ (.cons_cons _ (.cons_cons _ (.cons_cons _ .slnil))))) (.refl _) ?_
  refine OK.lp (fun n_ K' I' _ L' X' => ∃ (x9 : List Int) (x10 : Int), K' = [(0, i6 a0), (2, pt gb1 0), (3, pt gb3 0), (4, pt gb4 0), (9, .slice Ab0_0 b0_0.length cb0_0), (10, i6 (b0_0.length : Int)), (11, i6 x10)] ∧ L' = [⟨gb0, [.slice Ab0_0 b0_0.length cb0_0], 26⟩, ⟨gb1, [pt gb2 0], 95⟩, ⟨gb2, ((arrV (Value.int .i64) 0 12 b2.f0) ++ ((arrV (Value.int .i64) 0 12 x9) ++ (arrV (Value.int .i64) 0 12 b2.f2))), 89⟩, ⟨gb3, arrV Value.bool false 12 b3, 104⟩, ⟨gb4, arrV (Value.int .i64) 0 12 b4, 83⟩] ∧ X' = [orow 3 1 Ab0_0 b0_0.length cb0_0 csb0_0] ∧ Imm.le I0 I' ∧ 12 ≤ x9.length ∧ assign_solution_augment_1s0.l2 a0 b0_0 n_ x9 x10 = some y1) k ⟨b2.f1, 0, rfl, rfl, rfl, (Imm.le_refl _), hzb2_1, H⟩ ?_ ?_
  ·rintro _ _ _ _ _ ⟨x9, x10, rfl, rfl, rfl, _, hz8, H⟩
   cases H
  ·rintro kq2 _ I6 nx6 _ _ ⟨x9, x10, rfl, rfl, rfl, hi6, hz8, H⟩ Q_l2 hJ5 hQ5
   rw [assign_solution_augment_1s0.l2] at H
   refine OK.sr ?_
   refine RL.st 1 [(12, .bool (decide (x10 < (b0_0.length : Int)))), (0, i6 a0), (2, pt gb1 0), (3, pt gb3 0), (4, pt gb4 0), (9, .slice Ab0_0 b0_0.length cb0_0), (10, i6 (b0_0.length : Int)), (11, i6 x10)] ?_
   refine OK.sq ?_
   refine OK.cd (decide (x10 < (b0_0.length : Int))) (fun hb => ?_) (fun hb => ?_)
   ·skip
    have hc := (of_decide_eq_true hb)
    rw [if_pos hc] at H
    clear hb
    refine OK.skt ?_
    refine OK.sq ?_
    refine OK.bk 1 ?_
    refine OK.sr ?_
    obtain ⟨hib0, H⟩ := ifs H
    obtain ⟨hib1, H⟩ := ifs H
    have hx05_ := hib0; have hx15_ := hib1
    refine RL.ownAddr (e := 3) (sz := 1) (S := Ab0_0) (n := b0_0.length) (cap := cb0_0) (cs := csb0_0) 0 (by kernel_rfl) (by omega) (fun g5_ hA5_ => ?_)
    have hc5_ := Ty.int_own (Reps.ext hi6 hpb0_0) x10 hib0 hib1
    refine RL.idx 1 .i64 x10 hA5_ b0_0.length cb0_0 (some 13) (by kernel_rfl) (by kernel_rfl) (T := 26) (e := 3) (by kernel_rfl) (by kernel_rfl) hib0 hib1 (K' := [(13, pt g5_ (0 + (x10).toNat * 1)), (12, .bool (decide (x10 < (b0_0.length : Int)))), (0, i6 a0), (2, pt gb1 0), (3, pt gb3 0), (4, pt gb4 0), (9, .slice Ab0_0 b0_0.length cb0_0), (10, i6 (b0_0.length : Int)), (11, i6 x10)]) (by kernel_rfl) ?_
    refine RL.simK (K' := [(7, i6 (b0_0.getD (x10).toNat 0)), (0, i6 a0), (2, pt gb1 0), (3, pt gb3 0), (4, pt gb4 0), (9, .slice Ab0_0 b0_0.length cb0_0), (10, i6 (b0_0.length : Int)), (11, i6 x10)]) [(⟨g5_, 0 + (x10).toNat * 1, none⟩, i6 (b0_0.getD (x10).toNat 0))] (RFacts.ownQ (e := 3) (sz := 1) (S := Ab0_0) (n := b0_0.length) (cap := cb0_0) (cs := csb0_0) 0 (by kernel_rfl) hA5_ (0 + (x10).toNat * 1) ((x10).toNat * 1 + 0) (by omega) (hc5_ 0 _ rfl) (RFacts.nil _ _ _)) 2 [.r 0, .no] (by kernel_rfl) (by kernel_rfl) ?_
    refine RL.nt ?_
    obtain ⟨hi0_2, H⟩ := ifs H
    obtain ⟨hi1_2, H⟩ := ifs H
    refine OK.drawnC 3 10 O60s0_18 a60s0_18n (by kernel_rfl) (by kernel_rfl) u60d2l (u60d2g gb2 b0_0 x10) [(⟨gb2, 12 + ((b0_0.getD (x10).toNat 0)).toNat * 1, none⟩, i6 (x9.getD (((b0_0.getD (x10).toNat 0)).toNat) 0))] (RI.arr (g := gb2) (ty := 89) (cs := ((arrV (Value.int .i64) 0 12 b2.f0) ++ ((arrV (Value.int .i64) 0 12 x9) ++ (arrV (Value.int .i64) 0 12 b2.f2)))) (Value.int .i64) 0 12 x9 (arrV (Value.int .i64) 0 12 b2.f0) (arrV (Value.int .i64) 0 12 b2.f2) 12 (((b0_0.getD (x10).toNat 0)).toNat) 2 (by kernel_rfl) (by kernel_rfl) (by kernel_rfl) (by omega) (12 + ((b0_0.getD (x10).toNat 0)).toNat * 1) (by omega) (RI.nil _)) [.l 1, .no, .no, .no, .no, .r 0, .no, .no, .no, .no] a60s0_18 a60s0_18o (by kernel_rfl) (by kernel_rfl) (u60d2s gb2 a0 b0_0 x9 x10) (u60d2f gb1 gb2 gb3 gb4 a0 b0_0 Ab0_0 cb0_0 x9 x10 10) (u60d2v gb0 gb1 gb2 gb3 gb4 a0 b0_0 Ab0_0 cb0_0 b2 b3 b4 x9 x10) (u60d2e gb0 gb1 gb2 gb3 gb4 a0 b0_0 Ab0_0 cb0_0 b2 b3 b4 x9 x10) [] framesOk.nil ?_ [u60d2f gb1 gb2 gb3 gb4 a0 b0_0 Ab0_0 cb0_0 x9 x10 4] (framesOk.cons (fun u => rfl) framesOk.nil) ?_ ?_
    ·refine LoudsG.nil
    ·refine Givens.cons (fun u w =>  ?_) (fun _ _ _ => rfl) (Givens.nil)
     ·exact giv_idxArr (T := 83) (e := 2) 1 .i64 (b0_0.getD (x10).toNat 0) gb2 (12) 12 (by kernel_rfl) (by kernel_rfl) (by kernel_rfl) hi0_2 hi1_2 w
    intro u I7 nx7 hi7 hF
    clear hF
    refine RL.norm (K' := [(24, pt gb2 12), (23, pt gb2 0), (22, i6 (W .i64 ((x9.getD (((b0_0.getD (x10).toNat 0)).toNat) 0) - a0))), (21, i6 a0), (20, i6 (x9.getD (((b0_0.getD (x10).toNat 0)).toNat) 0)), (19, pt gb2 (12 + ((b0_0.getD (x10).toNat 0)).toNat * 1)), (18, pt gb2 12), (17, pt gb2 0), (16, i6 (b0_0.getD (x10).toNat 0)), (15, pt gb2 0), (7, i6 (b0_0.getD (x10).toNat 0)), (0, i6 a0), (2, pt gb1 0), (3, pt gb3 0), (4, pt gb4 0), (9, .slice Ab0_0 b0_0.length cb0_0), (10, i6 (b0_0.length : Int)), (11, i6 x10)]) (X' := [orow 3 1 Ab0_0 b0_0.length cb0_0 csb0_0]) (by kernel_rfl) rfl rfl rfl ?_
    obtain ⟨hib0, H⟩ := ifs H
    obtain ⟨hib1, H⟩ := ifs H
    have ha06 := hib0; have ha16 := hib1
    refine RL.idxArr (T := 83) (e := 2) 1 .i64 (b0_0.getD (x10).toNat 0) gb2 (12) 12 (some 25) (by kernel_rfl) (by kernel_rfl) (by kernel_rfl) (by kernel_rfl) hib0 hib1 (K' := [(25, pt gb2 (12 + ((b0_0.getD (x10).toNat 0)).toNat * 1)), (24, pt gb2 12), (23, pt gb2 0), (22, i6 (W .i64 ((x9.getD (((b0_0.getD (x10).toNat 0)).toNat) 0) - a0))), (21, i6 a0), (20, i6 (x9.getD (((b0_0.getD (x10).toNat 0)).toNat) 0)), (19, pt gb2 (12 + ((b0_0.getD (x10).toNat 0)).toNat * 1)), (18, pt gb2 12), (17, pt gb2 0), (16, i6 (b0_0.getD (x10).toNat 0)), (15, pt gb2 0), (7, i6 (b0_0.getD (x10).toNat 0)), (0, i6 a0), (2, pt gb1 0), (3, pt gb3 0), (4, pt gb4 0), (9, .slice Ab0_0 b0_0.length cb0_0), (10, i6 (b0_0.length : Int)), (11, i6 x10)]) (by kernel_rfl) ?_
    refine RL.stA (g := gb2) (ty := 89) (cs := ((arrV (Value.int .i64) 0 12 b2.f0) ++ ((arrV (Value.int .i64) 0 12 x9) ++ (arrV (Value.int .i64) 0 12 b2.f2)))) (Value.int .i64) 0 12 x9 (W .i64 ((x9.getD (((b0_0.getD (x10).toNat 0)).toNat) 0) - a0)) (arrV (Value.int .i64) 0 12 b2.f0) (arrV (Value.int .i64) 0 12 b2.f2) 12 (((b0_0.getD (x10).toNat 0)).toNat) 2 (by kernel_rfl) (by kernel_rfl) (by kernel_rfl) (by omega) hz8 (12 + ((b0_0.getD (x10).toNat 0)).toNat * 1) (by omega) 2 (by kernel_rfl) (by kernel_rfl) (by kernel_rfl) (by rfl) (fun _ h => by cases h) (fun _ h => by cases h) (cs' := ((arrV (Value.int .i64) 0 12 b2.f0) ++ ((arrV (Value.int .i64) 0 12 (x9.set (((b0_0.getD (x10).toNat 0)).toNat) (W .i64 ((x9.getD (((b0_0.getD (x10).toNat 0)).toNat) 0) - a0)))) ++ (arrV (Value.int .i64) 0 12 b2.f2)))) (by kernel_rfl) ?_
    refine RL.nil (by kernel_rfl) ?_
    refine QN.sub (K' := [(0, i6 a0), (2, pt gb1 0), (3, pt gb3 0), (4, pt gb4 0), (9, .slice Ab0_0 b0_0.length cb0_0), (10, i6 (b0_0.length : Int)), (11, i6 x10)]) (L' := [⟨gb0, [.slice Ab0_0 b0_0.length cb0_0], 26⟩, ⟨gb1, [pt gb2 0], 95⟩, ⟨gb2, ((arrV (Value.int .i64) 0 12 b2.f0) ++ ((arrV (Value.int .i64) 0 12 (x9.set (((b0_0.getD (x10).toNat 0)).toNat) (W .i64 ((x9.getD (((b0_0.getD (x10).toNat 0)).toNat) 0) - a0)))) ++ (arrV (Value.int .i64) 0 12 b2.f2))), 89⟩, ⟨gb3, arrV Value.bool false 12 b3, 104⟩, ⟨gb4, arrV (Value.int .i64) 0 12 b4, 83⟩]) (by kernel_rfl) (.cons_cons _ (.cons_cons _ (.cons_cons _ (.cons_cons _ (.cons_cons _ .slnil))))) (.refl _) ?_
    refine QN.blkN ?_
    refine QN.then_ ?_
    refine OK.rg ?_
    refine RL.s 2 [(11, i6 (W .i64 (x10 + 1))), (0, i6 a0), (2, pt gb1 0), (3, pt gb3 0), (4, pt gb4 0), (9, .slice Ab0_0 b0_0.length cb0_0), (10, i6 (b0_0.length : Int))] ?_
    refine RL.nil (by kernel_rfl) ?_
    exact QN.sb (hJ5 _ _ _ _ _ ⟨(x9.set (((b0_0.getD (x10).toNat 0)).toNat) (W .i64 ((x9.getD (((b0_0.getD (x10).toNat 0)).toNat) 0) - a0))), W .i64 (x10 + 1), rfl, rfl, rfl, (Imm.le_trans hi6 hi7), (le_set hz8), H⟩) (.cons_cons _ (.cons_cons _ (.cons_cons _ (.cons_cons _ (.cons_cons _ .slnil))))) (.refl _)
   ·skip
    have hc := (of_decide_eq_false hb)
    rw [if_neg hc] at H
    clear hb
    refine OK.ex 0 ?_
    refine QN.thenE ?_
    refine QN.outE hQ5 ?_
    refine QN.blkE ?_
    obtain rfl := Option.some.inj H
    exact QN.sb (hJ1 _ _ _ _ _ ⟨x9, rfl, rfl, rfl, hi6, hz8, HK1⟩) (.cons_cons _ (.cons_cons _ (.cons_cons _ (.cons_cons _ (.cons_cons _ .slnil))))) (.refl _)

end Go.Proofs.Ytihmbmeelheinaa
namespace Go.Proofs.Ytihmbmeelheinaa
open Go Go.Proofs.Ytihmbmeelheinaa.RW
set_option linter.unusedVariables false
set_option maxRecDepth 100000
set_option maxHeartbeats 8000000

/-! ### assign_solution_augments0: function 55, (*armillary/assign.solution).augment -/
noncomputable def K55s0_0 : Code := cBody Try.f55
noncomputable def K55s0_4 : Code := cL (cR K55s0_0)
noncomputable def O55s0_53 : List Oper := cOps (cR (cL (cL (cR (cR (cL (cL (cR (cL (cR (cR (cR (cR (cL (cR K55s0_0)))))))))))))))
noncomputable def O55s0_99 : List Oper := cOps (cL (cL (cR (cR (cL (cL (cR (cR (cL (cL (cR (cL (cR (cL (cL (cL (cL (cR (cR (cR (cR (cR (cR (cR (cR (cL (cR K55s0_0)))))))))))))))))))))))))))
noncomputable def O55s0_109 : List Oper := cOps (cL (cR (cR (cR (cL (cL (cR (cR (cL (cL (cR (cL (cR (cL (cL (cL (cL (cR (cR (cR (cR (cR (cR (cR (cR (cL (cR K55s0_0)))))))))))))))))))))))))))
noncomputable def O55s0_161 : List Oper := cOps (cR (cR (cL (cR (cL (cR (cL (cL (cR (cR (cR (cR (cR (cR (cR (cR (cR (cR (cL (cR K55s0_0))))))))))))))))))))
def assign_solution_augments0.k1 (x5 : List Int) (x6 : List Int) (x12 : List Int) : Option (S89) := (some (⟨x12, x5, x6⟩ : S89))
def assign_solution_augments0.l1 (a2 : Int) (x8 : List Int) : Nat → (List Int) → Int → Option (List Int)
 | 0, _, _ => none
 | k + 1, x13, x14 => (if x14 ≠ (-1) then (if 0 ≤ x14 then (if x14 < (12 : Int) then ((if (x8.getD ((x14).toNat) 0) = (-1) then (if 0 ≤ x14 then (if x14 < (12 : Int) then (some (x13.set ((x14).toNat) a2)) else none) else none) else (if 0 ≤ (x8.getD ((x14).toNat) 0) then (if (x8.getD ((x14).toNat) 0) < (12 : Int) then (if 0 ≤ x14 then (if x14 < (12 : Int) then (some (x13.set ((x14).toNat) (x13.getD (((x8.getD ((x14).toNat) 0)).toNat) 0))) else none) else none) else none) else none)).bind (fun x15 => (assign_solution_augments0.l1 a2 x8 k x15 (x8.getD ((x14).toNat) 0)))) else none) else none) else (some x13))
def assign_solution_augments0.k3 (k : Nat) (a2 : Int) : List Int × List Int × List Int × List Int × List Int × List Bool × List Int × Int → Option (S89)
 | (x4, x5, x6, x7, x8, x9, x10, x11) => ((assign_solution_augments0.l1 a2 x8 k x4 x11).bind (assign_solution_augments0.k1 x5 x6))
def assign_solution_augments0.k6 (x35 : List Int) (x36 : List Int) (x38 : Int) : Option (List Int × List Int × Int) := (some (x35, x36, x38))
def assign_solution_augments0.k7 (x30 : Int) (x31 : Int) (x35 : List Int) (x36 : List Int) (x37 : Bool) : Option (List Int × List Int × Int) := ((if x37 = true then (some x31) else (some x30)).bind (assign_solution_augments0.k6 x35 x36))
def assign_solution_augments0.k8 (x30 : Int) (x31 : Int) : List Int × List Int → Option (List Int × List Int × Int)
 | (x35, x36) => ((if x30 = (-1) then (some true) else (if 0 ≤ x31 then (if x31 < (12 : Int) then (if 0 ≤ x30 then (if x30 < (12 : Int) then (some (decide ((x35.getD ((x31).toNat) 0) < (x35.getD ((x30).toNat) 0)))) else none) else none) else none) else none)).bind (assign_solution_augments0.k7 x30 x31 x35 x36))
def assign_solution_augments0.l3 (b1 : List Int) (x17 : List Int) (x18 : List Int) (x21 : List Bool) (x23 : Int) (x24 : Int) : Nat → (List Int) → (List Int) → Int → Int → Option (List Int × List Int × Int)
 | 0, _, _, _, _ => none
 | k + 1, x28, x29, x30, x31 => (if x31 < 12 then ((if 0 ≤ x31 then (if x31 < (12 : Int) then (if (x21.getD ((x31).toNat) false) = true then (some (x28, x29, x30)) else (if 0 ≤ x24 then (if x24 < (12 : Int) then (if 0 ≤ x31 then (if x31 < (12 : Int) then (if 0 ≤ x24 then (if x24 < (12 : Int) then (if 0 ≤ x31 then (if x31 < (12 : Int) then (if 0 ≤ x31 then (if x31 < (12 : Int) then ((if (W .i64 ((W .i64 ((x17.getD ((x24).toNat) 0) + (x18.getD ((x31).toNat) 0))) - (b1.getD ((x24).toNat * 12 + (x31).toNat) 0))) < (x28.getD ((x31).toNat) 0) then (if 0 ≤ x31 then (if x31 < (12 : Int) then (if 0 ≤ x31 then (if x31 < (12 : Int) then (some ((x28.set ((x31).toNat) (W .i64 ((W .i64 ((x17.getD ((x24).toNat) 0) + (x18.getD ((x31).toNat) 0))) - (b1.getD ((x24).toNat * 12 + (x31).toNat) 0)))), (x29.set ((x31).toNat) x23))) else none) else none) else none) else none) else (some (x28, x29))).bind (assign_solution_augments0.k8 x30 x31)) else none) else none) else none) else none) else none) else none) else none) else none) else none) else none)) else none) else none).bind (fun (x32, x33, x34) => (assign_solution_augments0.l3 b1 x17 x18 x21 x23 x24 k x32 x33 x34 (W .i64 (x31 + 1))))) else (some (x28, x29, x30)))
def assign_solution_augments0.l2 (b1 : List Int) : Nat → (List Int) → (List Int) → (List Int) → (List Int) → (List Int) → (List Bool) → (List Int) → Int → Int → Option (List Int × List Int × List Int × List Int × List Int × List Bool × List Int × Int)
 | 0, _, _, _, _, _, _, _, _, _ => none
 | k + 1, x16, x17, x18, x19, x20, x21, x22, x23, x24 => ((assign_solution_augments0.l3 b1 x17 x18 x21 x23 x24 k x19 x20 (-1) 0).bind (fun (x25, x26, x27) => (if 0 ≤ x27 then (if x27 < (12 : Int) then ((assign_solution_augment_1s0.f k (x25.getD ((x27).toNat) 0) x22 (⟨x16, x17, x18⟩ : S89) x21 x25).bind fun t1 => (if 0 ≤ x27 then (if x27 < (12 : Int) then (if 0 ≤ x27 then (if x27 < (12 : Int) then (if (t1.1.f0.getD ((x27).toNat) 0) = (-1) then (some (t1.1.f0, t1.1.f1, t1.1.f2, t1.2, x26, (x21.set ((x27).toNat) true), x22, x27)) else (if 0 ≤ x27 then (if x27 < (12 : Int) then (if (x22.length + [(t1.1.f0.getD ((x27).toNat) 0)].length) * 8 ≤ 140737488355328 then (assign_solution_augments0.l2 b1 k t1.1.f0 t1.1.f1 t1.1.f2 t1.2 x26 (x21.set ((x27).toNat) true) (x22 ++ [(t1.1.f0.getD ((x27).toNat) 0)]) x27 (t1.1.f0.getD ((x27).toNat) 0)) else none) else none) else none)) else none) else none) else none) else none)) else none) else none)))
def assign_solution_augments0.k9 (k : Nat) (a2 : Int) (b0 : S89) (b1 : List Int) (x1 : List Int) (x2 : List Int) (x3 : List Int) : Option (S89) := ((assign_solution_augments0.l2 b1 k b0.f0 x3 b0.f2 x1 x2 (List.replicate 12 false) [a2] (-1) a2).bind (assign_solution_augments0.k3 k a2))
def assign_solution_augments0.l4 (a2 : Int) (b0 : S89) (b1 : List Int) : Nat → (List Int) → Int → Option (List Int)
 | 0, _, _ => none
 | k + 1, x39, x40 => (if x40 < 12 then (if 0 ≤ a2 then (if a2 < (12 : Int) then (if 0 ≤ a2 then (if a2 < (12 : Int) then (if 0 ≤ x40 then (if x40 < (12 : Int) then (if 0 ≤ x40 then (if x40 < (12 : Int) then (if 0 ≤ a2 then (if a2 < (12 : Int) then (assign_solution_augments0.l4 a2 b0 b1 k (x39.set ((a2).toNat) (iMax (x39.getD ((a2).toNat) 0) (W .i64 ((b1.getD ((a2).toNat * 12 + (x40).toNat) 0) - (b0.f2.getD ((x40).toNat) 0))))) (W .i64 (x40 + 1))) else none) else none) else none) else none) else none) else none) else none) else none) else none) else none) else (some x39))
def assign_solution_augments0.k10 (k : Nat) (a2 : Int) (b0 : S89) (b1 : List Int) : List Int × List Int → Option (S89)
 | (x1, x2) => ((assign_solution_augments0.l4 a2 b0 b1 k b0.f1 0).bind (assign_solution_augments0.k9 k a2 b0 b1 x1 x2))
def assign_solution_augments0.l5 : Nat → (List Int) → (List Int) → Int → Option (List Int × List Int)
 | 0, _, _, _ => none
 | k + 1, x41, x42, x43 => (if x43 < 12 then (if 0 ≤ x43 then (if x43 < (12 : Int) then (if 0 ≤ x43 then (if x43 < (12 : Int) then (assign_solution_augments0.l5 k (x41.set ((x43).toNat) 1152921504606846976) (x42.set ((x43).toNat) (-1)) (W .i64 (x43 + 1))) else none) else none) else none) else none) else (some (x41, x42)))
def assign_solution_augments0.f (k : Nat) (a2 : Int) (b0 : S89) (b1 : List Int) : Option (S89) := ((assign_solution_augments0.l5 k (List.replicate 12 0) (List.replicate 12 0) 0).bind (assign_solution_augments0.k10 k a2 b0 b1))
def assign_solution_augments0.Post (S : Nat → Prop) (gb0 : Nat) (gb1 : Nat) (a2 : Int) (b0 : S89) (b1 : List Int) (I : Imm) (w : World) (r : S89) (v : Value) (w' : World) : Prop :=
 ∃ (J : Imm), v = .tuple #[] ∧ Sat ⟨w, S, I⟩ J w'.heap.size [⟨gb0, ((arrV (Value.int .i64) 0 12 r.f0) ++ ((arrV (Value.int .i64) 0 12 r.f1) ++ (arrV (Value.int .i64) 0 12 r.f2))), 89⟩, ⟨gb1, arrV (Value.int .i64) 0 144 b1, 85⟩] [] w' ∧ 12 ≤ r.f0.length ∧ 12 ≤ r.f1.length ∧ 12 ≤ r.f2.length
noncomputable def a55s0_161n : List Nat := [0, 0, 0, 0, 4, 20, 60, 124, 1, 257, 1023, 2047]
theorem a55s0_161 : ancs O55s0_161 [] = a55s0_161n := by kernel_rfl
theorem a55s0_161o : drawOk O55s0_161 a55s0_161n 10 = true := by kernel_rfl
noncomputable def u55d1l  : List Ld :=
 []
noncomputable def u55d1g (gb0 : Nat) (x8 : List Int) (x14 : Int) : List (Nat × ((Nat → Wt) → Value)) := [(6, fun u => pt gb0 (0 + ((x8.getD ((x14).toNat) 0)).toNat * 1))]
noncomputable def u55d1q (nx0 : Nat) (gb0 : Nat) (gb1 : Nat) (a2 : Int) (b1 : List Int) (nx2 : Nat) (x5 : List Int) (x6 : List Int) (x7 : List Int) (x8 : List Int) (x9 : List Bool) (x10 : List Int) (A1 : Option Addr) (c1 : Nat) (x13 : List Int) (x14 : Int) (u : Nat → Wt) : Option (List Value × List (Nat × Value) × List (Nat × Nat)) := qSim Try.prog [(⟨gb0, 0 + ((x8.getD ((x14).toNat) 0)).toNat * 1, none⟩, i6 (x13.getD (((x8.getD ((x14).toNat) 0)).toNat) 0))] [⟨gb0, ((arrV (Value.int .i64) 0 12 x13) ++ ((arrV (Value.int .i64) 0 12 x5) ++ (arrV (Value.int .i64) 0 12 x6))), 89⟩, ⟨gb1, arrV (Value.int .i64) 0 144 b1, 85⟩, ⟨nx0, [pt gb0 0], 95⟩, ⟨nx0 + 1, arrV (Value.int .i64) 0 12 x7, 83⟩, ⟨nx0 + 2, arrV (Value.int .i64) 0 12 x8, 87⟩, ⟨nx0 + 3, arrV Value.bool false 12 x9, 104⟩, ⟨nx2 + 1, [.slice A1 x10.length c1], 26⟩] O55s0_161 ⟨164, []⟩ (Ld.vl u55d1l) (u55d1g gb0 x8 x14) u [.l 2, .no, .l 2, .no, .no, .no, .no, .r 0, .no, .no] 0 (O55s0_161.take 10) [(145, .bool ((x8.getD ((x14).toNat) 0) == (-1))), (19, i6 (x8.getD ((x14).toNat) 0)), (2, i6 a2), (3, pt nx0 0), (7, pt (nx0 + 2) 0), (18, i6 x14)]
noncomputable def u55d1s (gb0 : Nat) (x8 : List Int) (x13 : List Int) (x14 : Int) (u : Nat → Wt) : List Value := [pt gb0 0, i6 x14, pt gb0 0, i6 (x8.getD ((x14).toNat) 0), pt gb0 0, pt gb0 0, pt gb0 (0 + ((x8.getD ((x14).toNat) 0)).toNat * 1), i6 (x13.getD (((x8.getD ((x14).toNat) 0)).toNat) 0), pt gb0 0, pt gb0 0]
noncomputable def u55d1f (nx0 : Nat) (gb0 : Nat) (a2 : Int) (x8 : List Int) (x13 : List Int) (x14 : Int) (i : Nat) (u : Nat → Wt) : List (Nat × Value) := foldPut ⟨164, []⟩ [(145, .bool ((x8.getD ((x14).toNat) 0) == (-1))), (19, i6 (x8.getD ((x14).toNat) 0)), (2, i6 a2), (3, pt nx0 0), (7, pt (nx0 + 2) 0), (18, i6 x14)] (O55s0_161.take i) (((u55d1s gb0 x8 x13 x14) u).take i)
theorem u55d1v (nx0 : Nat) (gb0 : Nat) (gb1 : Nat) (a2 : Int) (b1 : List Int) (nx2 : Nat) (x5 : List Int) (x6 : List Int) (x7 : List Int) (x8 : List Int) (x9 : List Bool) (x10 : List Int) (A1 : Option Addr) (c1 : Nat) (x13 : List Int) (x14 : Int) (u : Nat → Wt) : (u55d1q nx0 gb0 gb1 a2 b1 nx2 x5 x6 x7 x8 x9 x10 A1 c1 x13 x14 u).map (fun x => (x.1, x.2.1)) = some ((u55d1s gb0 x8 x13 x14) u, (u55d1f nx0 gb0 a2 x8 x13 x14 10) u) := by kernel_rfl
theorem u55d1e (nx0 : Nat) (gb0 : Nat) (gb1 : Nat) (a2 : Int) (b1 : List Int) (nx2 : Nat) (x5 : List Int) (x6 : List Int) (x7 : List Int) (x8 : List Int) (x9 : List Bool) (x10 : List Int) (A1 : Option Addr) (c1 : Nat) (x13 : List Int) (x14 : Int) (u : Nat → Wt) : (u55d1q nx0 gb0 gb1 a2 b1 nx2 x5 x6 x7 x8 x9 x10 A1 c1 x13 x14 u).map (fun x => x.2.2.map (·.1)) = (u55d1q nx0 gb0 gb1 a2 b1 nx2 x5 x6 x7 x8 x9 x10 A1 c1 x13 x14 u).map (fun x => x.2.2.map (·.2)) := by kernel_rfl
noncomputable def a55s0_99n : List Nat := [0, 0, 1, 5, 15, 31, 0, 0, 64, 320, 960, 1984, 4095, 0, 0, 0, 8192, 90112, 253952, 516096, 1048575, 2097151]
theorem a55s0_99 : ancs O55s0_99 [] = a55s0_99n := by kernel_rfl
theorem a55s0_99o : drawOk O55s0_99 a55s0_99n 20 = true := by kernel_rfl
noncomputable def u55d2l  : List Ld :=
 []
noncomputable def u55d2g (gb0 : Nat) (gb1 : Nat) (x24 : Int) (x31 : Int) : List (Nat × ((Nat → Wt) → Value)) := [(4, fun u => pt gb0 (12 + (x24).toNat * 1)), (10, fun u => pt gb0 (24 + (x31).toNat * 1)), (17, fun u => pt gb1 (0 + (x24).toNat * 12)), (18, fun u => pt gb1 (0 + (x24).toNat * 12 + (x31).toNat * 1))]
noncomputable def u55d2q (nx0 : Nat) (gb0 : Nat) (gb1 : Nat) (a2 : Int) (b1 : List Int) (nx2 : Nat) (x16 : List Int) (x17 : List Int) (x18 : List Int) (x21 : List Bool) (x22 : List Int) (A2 : Option Addr) (c2 : Nat) (x23 : Int) (x24 : Int) (x28 : List Int) (x29 : List Int) (x30 : Int) (x31 : Int) (u : Nat → Wt) : Option (List Value × List (Nat × Value) × List (Nat × Nat)) := qSim Try.prog [(⟨gb0, 12 + (x24).toNat * 1, none⟩, i6 (x17.getD ((x24).toNat) 0)), (⟨gb0, 24 + (x31).toNat * 1, none⟩, i6 (x18.getD ((x31).toNat) 0)), (⟨gb1, 0 + (x24).toNat * 12 + (x31).toNat * 1, none⟩, i6 (b1.getD ((x24).toNat * 12 + (x31).toNat) 0))] [⟨gb0, ((arrV (Value.int .i64) 0 12 x16) ++ ((arrV (Value.int .i64) 0 12 x17) ++ (arrV (Value.int .i64) 0 12 x18))), 89⟩, ⟨gb1, arrV (Value.int .i64) 0 144 b1, 85⟩, ⟨nx0, [pt gb0 0], 95⟩, ⟨nx0 + 1, arrV (Value.int .i64) 0 12 x28, 83⟩, ⟨nx0 + 2, arrV (Value.int .i64) 0 12 x29, 87⟩, ⟨nx0 + 3, arrV Value.bool false 12 x21, 104⟩, ⟨nx2 + 1, [.slice A2 x22.length c2], 26⟩] O55s0_99 ⟨164, []⟩ (Ld.vl u55d2l) (u55d2g gb0 gb1 x24 x31) u [.l 2, .no, .no, .no, .no, .r 0, .l 2, .no, .no, .no, .no, .r 1, .no, .no, .no, .no, .no, .no, .no, .r 2] 0 (O55s0_99.take 20) [(66, .bool (x21.getD ((x31).toNat) false)), (15, i6 x31), (1, pt gb1 0), (2, i6 a2), (3, pt nx0 0), (6, pt (nx0 + 1) 0), (7, pt (nx0 + 2) 0), (8, pt (nx0 + 3) 0), (11, pt (nx2 + 1) 0), (12, i6 x23), (13, i6 x24), (14, i6 x30), (61, i6 x31)]
noncomputable def u55d2s (gb0 : Nat) (gb1 : Nat) (b1 : List Int) (x17 : List Int) (x18 : List Int) (x24 : Int) (x31 : Int) (u : Nat → Wt) : List Value := [pt gb0 0, i6 x24, pt gb0 0, pt gb0 12, pt gb0 (12 + (x24).toNat * 1), i6 (x17.getD ((x24).toNat) 0), pt gb0 0, i6 x31, pt gb0 0, pt gb0 24, pt gb0 (24 + (x31).toNat * 1), i6 (x18.getD ((x31).toNat) 0), i6 (W .i64 ((x17.getD ((x24).toNat) 0) + (x18.getD ((x31).toNat) 0))), pt gb1 0, i6 x24, i6 x31, pt gb1 0, pt gb1 (0 + (x24).toNat * 12), pt gb1 (0 + (x24).toNat * 12 + (x31).toNat * 1), i6 (b1.getD ((x24).toNat * 12 + (x31).toNat) 0)]
noncomputable def u55d2f (nx0 : Nat) (gb0 : Nat) (gb1 : Nat) (a2 : Int) (b1 : List Int) (nx2 : Nat) (x17 : List Int) (x18 : List Int) (x21 : List Bool) (x23 : Int) (x24 : Int) (x30 : Int) (x31 : Int) (i : Nat) (u : Nat → Wt) : List (Nat × Value) := foldPut ⟨164, []⟩ [(66, .bool (x21.getD ((x31).toNat) false)), (15, i6 x31), (1, pt gb1 0), (2, i6 a2), (3, pt nx0 0), (6, pt (nx0 + 1) 0), (7, pt (nx0 + 2) 0), (8, pt (nx0 + 3) 0), (11, pt (nx2 + 1) 0), (12, i6 x23), (13, i6 x24), (14, i6 x30), (61, i6 x31)] (O55s0_99.take i) (((u55d2s gb0 gb1 b1 x17 x18 x24 x31) u).take i)
theorem u55d2v (nx0 : Nat) (gb0 : Nat) (gb1 : Nat) (a2 : Int) (b1 : List Int) (nx2 : Nat) (x16 : List Int) (x17 : List Int) (x18 : List Int) (x21 : List Bool) (x22 : List Int) (A2 : Option Addr) (c2 : Nat) (x23 : Int) (x24 : Int) (x28 : List Int) (x29 : List Int) (x30 : Int) (x31 : Int) (u : Nat → Wt) : (u55d2q nx0 gb0 gb1 a2 b1 nx2 x16 x17 x18 x21 x22 A2 c2 x23 x24 x28 x29 x30 x31 u).map (fun x => (x.1, x.2.1)) = some ((u55d2s gb0 gb1 b1 x17 x18 x24 x31) u, (u55d2f nx0 gb0 gb1 a2 b1 nx2 x17 x18 x21 x23 x24 x30 x31 20) u) := by kernel_rfl
theorem u55d2e (nx0 : Nat) (gb0 : Nat) (gb1 : Nat) (a2 : Int) (b1 : List Int) (nx2 : Nat) (x16 : List Int) (x17 : List Int) (x18 : List Int) (x21 : List Bool) (x22 : List Int) (A2 : Option Addr) (c2 : Nat) (x23 : Int) (x24 : Int) (x28 : List Int) (x29 : List Int) (x30 : Int) (x31 : Int) (u : Nat → Wt) : (u55d2q nx0 gb0 gb1 a2 b1 nx2 x16 x17 x18 x21 x22 A2 c2 x23 x24 x28 x29 x30 x31 u).map (fun x => x.2.2.map (·.1)) = (u55d2q nx0 gb0 gb1 a2 b1 nx2 x16 x17 x18 x21 x22 A2 c2 x23 x24 x28 x29 x30 x31 u).map (fun x => x.2.2.map (·.2)) := by kernel_rfl
noncomputable def a55s0_109n : List Nat := [0, 1, 3, 7, 15, 31, 7, 71, 199, 511, 1023]
theorem a55s0_109 : ancs O55s0_109 [] = a55s0_109n := by kernel_rfl
theorem a55s0_109o : drawOk O55s0_109 a55s0_109n 9 = true := by kernel_rfl
noncomputable def u55d3l  : List Ld :=
 []
noncomputable def u55d3g  : List (Nat × ((Nat → Wt) → Value)) := [(2, fun u => .bool true)]
noncomputable def u55d3q (nx0 : Nat) (gb0 : Nat) (gb1 : Nat) (a2 : Int) (b1 : List Int) (nx2 : Nat) (x16 : List Int) (x17 : List Int) (x18 : List Int) (x21 : List Bool) (x22 : List Int) (A2 : Option Addr) (c2 : Nat) (x23 : Int) (x24 : Int) (x30 : Int) (x31 : Int) (x35 : List Int) (x36 : List Int) (u : Nat → Wt) : Option (List Value × List (Nat × Value) × List (Nat × Nat)) := qSim Try.prog [] [⟨gb0, ((arrV (Value.int .i64) 0 12 x16) ++ ((arrV (Value.int .i64) 0 12 x17) ++ (arrV (Value.int .i64) 0 12 x18))), 89⟩, ⟨gb1, arrV (Value.int .i64) 0 144 b1, 85⟩, ⟨nx0, [pt gb0 0], 95⟩, ⟨nx0 + 1, arrV (Value.int .i64) 0 12 x35, 83⟩, ⟨nx0 + 2, arrV (Value.int .i64) 0 12 x36, 87⟩, ⟨nx0 + 3, arrV Value.bool false 12 x21, 104⟩, ⟨nx2 + 1, [.slice A2 x22.length c2], 26⟩] O55s0_109 ⟨164, []⟩ (Ld.vl u55d3l) u55d3g u [.no, .no, .no, .no, .no, .no, .no, .no, .no] 0 (O55s0_109.take 9) [(1, pt gb1 0), (2, i6 a2), (3, pt nx0 0), (6, pt (nx0 + 1) 0), (7, pt (nx0 + 2) 0), (8, pt (nx0 + 3) 0), (11, pt (nx2 + 1) 0), (12, i6 x23), (13, i6 x24), (14, i6 x30), (15, i6 x31), (61, i6 x31)]
noncomputable def u55d3s (x30 : Int) (u : Nat → Wt) : List Value := [i6 x30, .bool (x30 == (-1)), .bool true, undef, undef, undef, undef, undef, undef]
noncomputable def u55d3f (nx0 : Nat) (gb1 : Nat) (a2 : Int) (nx2 : Nat) (x23 : Int) (x24 : Int) (x30 : Int) (x31 : Int) (i : Nat) (u : Nat → Wt) : List (Nat × Value) := foldPut ⟨164, []⟩ [(1, pt gb1 0), (2, i6 a2), (3, pt nx0 0), (6, pt (nx0 + 1) 0), (7, pt (nx0 + 2) 0), (8, pt (nx0 + 3) 0), (11, pt (nx2 + 1) 0), (12, i6 x23), (13, i6 x24), (14, i6 x30), (15, i6 x31), (61, i6 x31)] (O55s0_109.take i) (((u55d3s x30) u).take i)
theorem u55d3v (nx0 : Nat) (gb0 : Nat) (gb1 : Nat) (a2 : Int) (b1 : List Int) (nx2 : Nat) (x16 : List Int) (x17 : List Int) (x18 : List Int) (x21 : List Bool) (x22 : List Int) (A2 : Option Addr) (c2 : Nat) (x23 : Int) (x24 : Int) (x30 : Int) (x31 : Int) (x35 : List Int) (x36 : List Int) (u : Nat → Wt) : (u55d3q nx0 gb0 gb1 a2 b1 nx2 x16 x17 x18 x21 x22 A2 c2 x23 x24 x30 x31 x35 x36 u).map (fun x => (x.1, x.2.1)) = some ((u55d3s x30) u, (u55d3f nx0 gb1 a2 nx2 x23 x24 x30 x31 9) u) := by kernel_rfl
theorem u55d3e (nx0 : Nat) (gb0 : Nat) (gb1 : Nat) (a2 : Int) (b1 : List Int) (nx2 : Nat) (x16 : List Int) (x17 : List Int) (x18 : List Int) (x21 : List Bool) (x22 : List Int) (A2 : Option Addr) (c2 : Nat) (x23 : Int) (x24 : Int) (x30 : Int) (x31 : Int) (x35 : List Int) (x36 : List Int) (u : Nat → Wt) : (u55d3q nx0 gb0 gb1 a2 b1 nx2 x16 x17 x18 x21 x22 A2 c2 x23 x24 x30 x31 x35 x36 u).map (fun x => x.2.2.map (·.1)) = (u55d3q nx0 gb0 gb1 a2 b1 nx2 x16 x17 x18 x21 x22 A2 c2 x23 x24 x30 x31 x35 x36 u).map (fun x => x.2.2.map (·.2)) := by kernel_rfl
noncomputable def u55d4l  : List Ld :=
 []
noncomputable def u55d4g (nx0 : Nat) (x30 : Int) (x31 : Int) : List (Nat × ((Nat → Wt) → Value)) := [(2, fun u => .bool false), (4, fun u => pt (nx0 + 1) (0 + (x31).toNat * 1)), (7, fun u => pt (nx0 + 1) (0 + (x30).toNat * 1))]
noncomputable def u55d4q (nx0 : Nat) (gb0 : Nat) (gb1 : Nat) (a2 : Int) (b1 : List Int) (nx2 : Nat) (x16 : List Int) (x17 : List Int) (x18 : List Int) (x21 : List Bool) (x22 : List Int) (A2 : Option Addr) (c2 : Nat) (x23 : Int) (x24 : Int) (x30 : Int) (x31 : Int) (x35 : List Int) (x36 : List Int) (u : Nat → Wt) : Option (List Value × List (Nat × Value) × List (Nat × Nat)) := qSim Try.prog [(⟨nx0 + 1, 0 + (x31).toNat * 1, none⟩, i6 (x35.getD ((x31).toNat) 0)), (⟨nx0 + 1, 0 + (x30).toNat * 1, none⟩, i6 (x35.getD ((x30).toNat) 0))] [⟨gb0, ((arrV (Value.int .i64) 0 12 x16) ++ ((arrV (Value.int .i64) 0 12 x17) ++ (arrV (Value.int .i64) 0 12 x18))), 89⟩, ⟨gb1, arrV (Value.int .i64) 0 144 b1, 85⟩, ⟨nx0, [pt gb0 0], 95⟩, ⟨nx0 + 1, arrV (Value.int .i64) 0 12 x35, 83⟩, ⟨nx0 + 2, arrV (Value.int .i64) 0 12 x36, 87⟩, ⟨nx0 + 3, arrV Value.bool false 12 x21, 104⟩, ⟨nx2 + 1, [.slice A2 x22.length c2], 26⟩] O55s0_109 ⟨164, []⟩ (Ld.vl u55d4l) (u55d4g nx0 x30 x31) u [.no, .no, .no, .no, .no, .r 0, .no, .no, .r 1] 0 (O55s0_109.take 9) [(1, pt gb1 0), (2, i6 a2), (3, pt nx0 0), (6, pt (nx0 + 1) 0), (7, pt (nx0 + 2) 0), (8, pt (nx0 + 3) 0), (11, pt (nx2 + 1) 0), (12, i6 x23), (13, i6 x24), (14, i6 x30), (15, i6 x31), (61, i6 x31)]
noncomputable def u55d4s (nx0 : Nat) (x30 : Int) (x31 : Int) (x35 : List Int) (u : Nat → Wt) : List Value := [i6 x30, .bool (x30 == (-1)), .bool false, i6 x31, pt (nx0 + 1) (0 + (x31).toNat * 1), i6 (x35.getD ((x31).toNat) 0), i6 x30, pt (nx0 + 1) (0 + (x30).toNat * 1), i6 (x35.getD ((x30).toNat) 0)]
noncomputable def u55d4f (nx0 : Nat) (gb1 : Nat) (a2 : Int) (nx2 : Nat) (x23 : Int) (x24 : Int) (x30 : Int) (x31 : Int) (x35 : List Int) (i : Nat) (u : Nat → Wt) : List (Nat × Value) := foldPut ⟨164, []⟩ [(1, pt gb1 0), (2, i6 a2), (3, pt nx0 0), (6, pt (nx0 + 1) 0), (7, pt (nx0 + 2) 0), (8, pt (nx0 + 3) 0), (11, pt (nx2 + 1) 0), (12, i6 x23), (13, i6 x24), (14, i6 x30), (15, i6 x31), (61, i6 x31)] (O55s0_109.take i) (((u55d4s nx0 x30 x31 x35) u).take i)
theorem u55d4v (nx0 : Nat) (gb0 : Nat) (gb1 : Nat) (a2 : Int) (b1 : List Int) (nx2 : Nat) (x16 : List Int) (x17 : List Int) (x18 : List Int) (x21 : List Bool) (x22 : List Int) (A2 : Option Addr) (c2 : Nat) (x23 : Int) (x24 : Int) (x30 : Int) (x31 : Int) (x35 : List Int) (x36 : List Int) (u : Nat → Wt) : (u55d4q nx0 gb0 gb1 a2 b1 nx2 x16 x17 x18 x21 x22 A2 c2 x23 x24 x30 x31 x35 x36 u).map (fun x => (x.1, x.2.1)) = some ((u55d4s nx0 x30 x31 x35) u, (u55d4f nx0 gb1 a2 nx2 x23 x24 x30 x31 x35 9) u) := by kernel_rfl
theorem u55d4e (nx0 : Nat) (gb0 : Nat) (gb1 : Nat) (a2 : Int) (b1 : List Int) (nx2 : Nat) (x16 : List Int) (x17 : List Int) (x18 : List Int) (x21 : List Bool) (x22 : List Int) (A2 : Option Addr) (c2 : Nat) (x23 : Int) (x24 : Int) (x30 : Int) (x31 : Int) (x35 : List Int) (x36 : List Int) (u : Nat → Wt) : (u55d4q nx0 gb0 gb1 a2 b1 nx2 x16 x17 x18 x21 x22 A2 c2 x23 x24 x30 x31 x35 x36 u).map (fun x => x.2.2.map (·.1)) = (u55d4q nx0 gb0 gb1 a2 b1 nx2 x16 x17 x18 x21 x22 A2 c2 x23 x24 x30 x31 x35 x36 u).map (fun x => x.2.2.map (·.2)) := by kernel_rfl
noncomputable def a55s0_53n : List Nat := [0, 0, 0, 0, 4, 20, 60, 124, 0, 0, 0, 256, 2816, 7936, 16128, 0, 0, 32768, 163840, 491520, 1015808, 2096896, 4194300, 1, 8388609, 33554431, 67108863]
theorem a55s0_53 : ancs O55s0_53 [] = a55s0_53n := by kernel_rfl
theorem a55s0_53o : drawOk O55s0_53 a55s0_53n 25 = true := by kernel_rfl
noncomputable def u55d5l  : List Ld :=
 []
noncomputable def u55d5g (gb0 : Nat) (gb1 : Nat) (a2 : Int) (x40 : Int) : List (Nat × ((Nat → Wt) → Value)) := [(6, fun u => pt gb0 (12 + (a2).toNat * 1)), (12, fun u => pt gb1 (0 + (a2).toNat * 12)), (13, fun u => pt gb1 (0 + (a2).toNat * 12 + (x40).toNat * 1)), (19, fun u => pt gb0 (24 + (x40).toNat * 1))]
noncomputable def u55d5q (nx0 : Nat) (gb0 : Nat) (gb1 : Nat) (a2 : Int) (b0 : S89) (b1 : List Int) (x1 : List Int) (x2 : List Int) (x39 : List Int) (x40 : Int) (u : Nat → Wt) : Option (List Value × List (Nat × Value) × List (Nat × Nat)) := qSim Try.prog [(⟨gb0, 12 + (a2).toNat * 1, none⟩, i6 (x39.getD ((a2).toNat) 0)), (⟨gb1, 0 + (a2).toNat * 12 + (x40).toNat * 1, none⟩, i6 (b1.getD ((a2).toNat * 12 + (x40).toNat) 0)), (⟨gb0, 24 + (x40).toNat * 1, none⟩, i6 (b0.f2.getD ((x40).toNat) 0))] [⟨gb0, ((arrV (Value.int .i64) 0 12 b0.f0) ++ ((arrV (Value.int .i64) 0 12 x39) ++ (arrV (Value.int .i64) 0 12 b0.f2))), 89⟩, ⟨gb1, arrV (Value.int .i64) 0 144 b1, 85⟩, ⟨nx0, [pt gb0 0], 95⟩, ⟨nx0 + 1, arrV (Value.int .i64) 0 12 x1, 83⟩, ⟨nx0 + 2, arrV (Value.int .i64) 0 12 x2, 87⟩, ⟨nx0 + 3, arrV Value.bool false 12 (List.replicate 12 false), 104⟩] O55s0_53 ⟨164, []⟩ (Ld.vl u55d5l) (u55d5g gb0 gb1 a2 x40) u [.l 2, .no, .l 2, .no, .no, .no, .no, .r 0, .no, .no, .no, .no, .no, .no, .r 1, .l 2, .no, .no, .no, .no, .r 2, .no, .no, .no, .no] 0 (O55s0_53.take 25) [(10, i6 x40), (1, pt gb1 0), (2, i6 a2), (3, pt nx0 0), (6, pt (nx0 + 1) 0), (7, pt (nx0 + 2) 0), (8, pt (nx0 + 3) 0), (28, i6 x40)]
noncomputable def u55d5s (gb0 : Nat) (gb1 : Nat) (a2 : Int) (b0 : S89) (b1 : List Int) (x39 : List Int) (x40 : Int) (u : Nat → Wt) : List Value := [pt gb0 0, i6 a2, pt gb0 0, i6 a2, pt gb0 0, pt gb0 12, pt gb0 (12 + (a2).toNat * 1), i6 (x39.getD ((a2).toNat) 0), pt gb1 0, i6 a2, i6 x40, pt gb1 0, pt gb1 (0 + (a2).toNat * 12), pt gb1 (0 + (a2).toNat * 12 + (x40).toNat * 1), i6 (b1.getD ((a2).toNat * 12 + (x40).toNat) 0), pt gb0 0, i6 x40, pt gb0 0, pt gb0 24, pt gb0 (24 + (x40).toNat * 1), i6 (b0.f2.getD ((x40).toNat) 0), i6 (W .i64 ((b1.getD ((a2).toNat * 12 + (x40).toNat) 0) - (b0.f2.getD ((x40).toNat) 0))), i6 (iMax (x39.getD ((a2).toNat) 0) (W .i64 ((b1.getD ((a2).toNat * 12 + (x40).toNat) 0) - (b0.f2.getD ((x40).toNat) 0)))), pt gb0 0, pt gb0 12]
noncomputable def u55d5f (nx0 : Nat) (gb0 : Nat) (gb1 : Nat) (a2 : Int) (b0 : S89) (b1 : List Int) (x39 : List Int) (x40 : Int) (i : Nat) (u : Nat → Wt) : List (Nat × Value) := foldPut ⟨164, []⟩ [(10, i6 x40), (1, pt gb1 0), (2, i6 a2), (3, pt nx0 0), (6, pt (nx0 + 1) 0), (7, pt (nx0 + 2) 0), (8, pt (nx0 + 3) 0), (28, i6 x40)] (O55s0_53.take i) (((u55d5s gb0 gb1 a2 b0 b1 x39 x40) u).take i)
theorem u55d5v (nx0 : Nat) (gb0 : Nat) (gb1 : Nat) (a2 : Int) (b0 : S89) (b1 : List Int) (x1 : List Int) (x2 : List Int) (x39 : List Int) (x40 : Int) (u : Nat → Wt) : (u55d5q nx0 gb0 gb1 a2 b0 b1 x1 x2 x39 x40 u).map (fun x => (x.1, x.2.1)) = some ((u55d5s gb0 gb1 a2 b0 b1 x39 x40) u, (u55d5f nx0 gb0 gb1 a2 b0 b1 x39 x40 25) u) := by kernel_rfl
theorem u55d5e (nx0 : Nat) (gb0 : Nat) (gb1 : Nat) (a2 : Int) (b0 : S89) (b1 : List Int) (x1 : List Int) (x2 : List Int) (x39 : List Int) (x40 : Int) (u : Nat → Wt) : (u55d5q nx0 gb0 gb1 a2 b0 b1 x1 x2 x39 x40 u).map (fun x => x.2.2.map (·.1)) = (u55d5q nx0 gb0 gb1 a2 b0 b1 x1 x2 x39 x40 u).map (fun x => x.2.2.map (·.2)) := by kernel_rfl
theorem assign_solution_augments0.calls (k : Nat) (I0 : Imm) (gb0 : Nat) (gb1 : Nat) (a2 : Int) (b0 : S89) (b1 : List Int) (w : World) (hs : Sat ⟨w, SM [⟨gb0, ((arrV (Value.int .i64) 0 12 b0.f0) ++ ((arrV (Value.int .i64) 0 12 b0.f1) ++ (arrV (Value.int .i64) 0 12 b0.f2))), 89⟩, ⟨gb1, arrV (Value.int .i64) 0 144 b1, 85⟩] [], I0⟩ I0 w.heap.size [⟨gb0, ((arrV (Value.int .i64) 0 12 b0.f0) ++ ((arrV (Value.int .i64) 0 12 b0.f1) ++ (arrV (Value.int .i64) 0 12 b0.f2))), 89⟩, ⟨gb1, arrV (Value.int .i64) 0 144 b1, 85⟩] [] w) (hzb0_0 : 12 ≤ b0.f0.length) (hzb0_1 : 12 ≤ b0.f1.length) (hzb0_2 : 12 ≤ b0.f2.length) (hzb1 : 144 ≤ b1.length) (r : S89) (h : assign_solution_augments0.f k a2 b0 b1 = some r) :
  Calls Try.prog 55 [pt gb0 0, pt gb1 0, i6 a2].toArray w fun e w' => ∃ v, e = .returned v ∧ assign_solution_augments0.Post (SM [⟨gb0, ((arrV (Value.int .i64) 0 12 b0.f0) ++ ((arrV (Value.int .i64) 0 12 b0.f1) ++ (arrV (Value.int .i64) 0 12 b0.f2))), 89⟩, ⟨gb1, arrV (Value.int .i64) 0 144 b1, 85⟩] []) gb0 gb1 a2 b0 b1 I0 w r v w' := by
 have H : ((assign_solution_augments0.l5 k (List.replicate 12 0) (List.replicate 12 0) 0).bind (assign_solution_augments0.k10 k a2 b0 b1)) = some r := h
 clear h
 refine calls_bodyL Try.func55 (by kernel_rfl) 164 (by kernel_rfl) (by kernel_rfl) ⟨w, SM [⟨gb0, ((arrV (Value.int .i64) 0 12 b0.f0) ++ ((arrV (Value.int .i64) 0 12 b0.f1) ++ (arrV (Value.int .i64) 0 12 b0.f2))), 89⟩, ⟨gb1, arrV (Value.int .i64) 0 144 b1, 85⟩] [], I0⟩ I0 [⟨gb0, ((arrV (Value.int .i64) 0 12 b0.f0) ++ ((arrV (Value.int .i64) 0 12 b0.f1) ++ (arrV (Value.int .i64) 0 12 b0.f2))), 89⟩, ⟨gb1, arrV (Value.int .i64) 0 144 b1, 85⟩] [] [(0, pt gb0 0), (1, pt gb1 0), (2, i6 a2)] (by kernel_rfl) hs ?_
 generalize w.heap.size = nx0
 show OK _ K55s0_0 _ _ _ _ _ _ _ _
 refine OK.sr ?_
 refine RL.spt 1 [(3, pt nx0 0), (1, pt gb1 0), (2, i6 a2)] (nx0 + 1) [⟨gb0, ((arrV (Value.int .i64) 0 12 b0.f0) ++ ((arrV (Value.int .i64) 0 12 b0.f1) ++ (arrV (Value.int .i64) 0 12 b0.f2))), 89⟩, ⟨gb1, arrV (Value.int .i64) 0 144 b1, 85⟩, ⟨nx0, [pt gb0 0], 95⟩] ?_
 refine OK.scope K55s0_4 (by kernel_rfl) ?_
 refine OK.sr ?_
 refine RL.spt 1 [(6, pt (nx0 + 1) 0), (3, pt nx0 0), (1, pt gb1 0), (2, i6 a2)] (nx0 + 2) [⟨gb0, ((arrV (Value.int .i64) 0 12 b0.f0) ++ ((arrV (Value.int .i64) 0 12 b0.f1) ++ (arrV (Value.int .i64) 0 12 b0.f2))), 89⟩, ⟨gb1, arrV (Value.int .i64) 0 144 b1, 85⟩, ⟨nx0, [pt gb0 0], 95⟩, ⟨nx0 + 1, arrV (Value.int .i64) 0 12 (List.replicate 12 0), 83⟩] ?_
 refine OK.sr ?_
 refine RL.spt 1 [(7, pt (nx0 + 2) 0), (6, pt (nx0 + 1) 0), (3, pt nx0 0), (1, pt gb1 0), (2, i6 a2)] (nx0 + 3) [⟨gb0, ((arrV (Value.int .i64) 0 12 b0.f0) ++ ((arrV (Value.int .i64) 0 12 b0.f1) ++ (arrV (Value.int .i64) 0 12 b0.f2))), 89⟩, ⟨gb1, arrV (Value.int .i64) 0 144 b1, 85⟩, ⟨nx0, [pt gb0 0], 95⟩, ⟨nx0 + 1, arrV (Value.int .i64) 0 12 (List.replicate 12 0), 83⟩, ⟨nx0 + 2, arrV (Value.int .i64) 0 12 (List.replicate 12 0), 87⟩] ?_
 refine OK.sr ?_
 refine RL.spt 1 [(8, pt (nx0 + 3) 0), (7, pt (nx0 + 2) 0), (6, pt (nx0 + 1) 0), (3, pt nx0 0), (1, pt gb1 0), (2, i6 a2)] (nx0 + 4) [⟨gb0, ((arrV (Value.int .i64) 0 12 b0.f0) ++ ((arrV (Value.int .i64) 0 12 b0.f1) ++ (arrV (Value.int .i64) 0 12 b0.f2))), 89⟩, ⟨gb1, arrV (Value.int .i64) 0 144 b1, 85⟩, ⟨nx0, [pt gb0 0], 95⟩, ⟨nx0 + 1, arrV (Value.int .i64) 0 12 (List.replicate 12 0), 83⟩, ⟨nx0 + 2, arrV (Value.int .i64) 0 12 (List.replicate 12 0), 87⟩, ⟨nx0 + 3, arrV Value.bool false 12 (List.replicate 12 false), 104⟩] ?_
 refine OK.sq ?_
 refine OK.sr ?_
 refine RL.st 1 [(20, i6 0), (8, pt (nx0 + 3) 0), (7, pt (nx0 + 2) 0), (6, pt (nx0 + 1) 0), (3, pt nx0 0), (1, pt gb1 0), (2, i6 a2)] ?_
 refine OK.join (fun K' I' _ L' X' => ∃ (x1 : List Int) (x2 : List Int), K' = [(1, pt gb1 0), (2, i6 a2), (3, pt nx0 0), (6, pt (nx0 + 1) 0), (7, pt (nx0 + 2) 0), (8, pt (nx0 + 3) 0)] ∧ L' = [⟨gb0, ((arrV (Value.int .i64) 0 12 b0.f0) ++ ((arrV (Value.int .i64) 0 12 b0.f1) ++ (arrV (Value.int .i64) 0 12 b0.f2))), 89⟩, ⟨gb1, arrV (Value.int .i64) 0 144 b1, 85⟩, ⟨nx0, [pt gb0 0], 95⟩, ⟨nx0 + 1, arrV (Value.int .i64) 0 12 x1, 83⟩, ⟨nx0 + 2, arrV (Value.int .i64) 0 12 x2, 87⟩, ⟨nx0 + 3, arrV Value.bool false 12 (List.replicate 12 false), 104⟩] ∧ X' = [] ∧ Imm.le I0 I' ∧ 12 ≤ x1.length ∧ 12 ≤ x2.length ∧ assign_solution_augments0.k10 k a2 b0 b1 (x1, x2) = some r) ?_ ?_
 ·rintro _ I1 nx1 _ _ ⟨x1, x2, rfl, rfl, rfl, hi1, hz1, hz2, H⟩
  rw [assign_solution_augments0.k10] at H
  refine QN.then_ ?_
  refine OK.sq ?_
  refine OK.sr ?_
  refine RL.st 1 [(28, i6 0), (1, pt gb1 0), (2, i6 a2), (3, pt nx0 0), (6, pt (nx0 + 1) 0), (7, pt (nx0 + 2) 0), (8, pt (nx0 + 3) 0)] ?_
  refine OK.join (fun K' I' _ L' X' => ∃ (x3 : List Int), K' = [(1, pt gb1 0), (2, i6 a2), (3, pt nx0 0), (6, pt (nx0 + 1) 0), (7, pt (nx0 + 2) 0), (8, pt (nx0 + 3) 0)] ∧ L' = [⟨gb0, ((arrV (Value.int .i64) 0 12 b0.f0) ++ ((arrV (Value.int .i64) 0 12 x3) ++ (arrV (Value.int .i64) 0 12 b0.f2))), 89⟩, ⟨gb1, arrV (Value.int .i64) 0 144 b1, 85⟩, ⟨nx0, [pt gb0 0], 95⟩, ⟨nx0 + 1, arrV (Value.int .i64) 0 12 x1, 83⟩, ⟨nx0 + 2, arrV (Value.int .i64) 0 12 x2, 87⟩, ⟨nx0 + 3, arrV Value.bool false 12 (List.replicate 12 false), 104⟩] ∧ X' = [] ∧ Imm.le I1 I' ∧ 12 ≤ x3.length ∧ assign_solution_augments0.k9 k a2 b0 b1 x1 x2 x3 = some r) ?_ ?_
  ·rintro _ I2 nx2 _ _ ⟨x3, rfl, rfl, rfl, hi2, hz3, H⟩
   rw [assign_solution_augments0.k9] at H
   refine QN.then_ ?_
   refine OK.sr ?_
   refine RL.simP (K' := [(12, i6 (-1)), (11, pt (nx2 + 1) 0), (1, pt gb1 0), (2, i6 a2), (3, pt nx0 0), (6, pt (nx0 + 1) 0), (7, pt (nx0 + 2) 0), (8, pt (nx0 + 3) 0)]) (nx' := nx2 + 2) (L' := [⟨gb0, ((arrV (Value.int .i64) 0 12 b0.f0) ++ ((arrV (Value.int .i64) 0 12 x3) ++ (arrV (Value.int .i64) 0 12 b0.f2))), 89⟩, ⟨gb1, arrV (Value.int .i64) 0 144 b1, 85⟩, ⟨nx0, [pt gb0 0], 95⟩, ⟨nx0 + 1, arrV (Value.int .i64) 0 12 x1, 83⟩, ⟨nx0 + 2, arrV (Value.int .i64) 0 12 x2, 87⟩, ⟨nx0 + 3, arrV Value.bool false 12 (List.replicate 12 false), 104⟩, ⟨nx2, [i6 a2], 3⟩, ⟨nx2 + 1, [.slice (some ⟨nx2, 0, none⟩) 1 1], 26⟩]) [] (RFacts.nil _ _ _) 5 [.no, .no, .no, .l 7, .no] (by kernel_rfl) (by kernel_rfl) ?_
   refine RL.nt ?_
   refine OK.sr ?_
   refine RL.st 2 [(13, i6 a2), (12, i6 (-1)), (11, pt (nx2 + 1) 0), (1, pt gb1 0), (2, i6 a2), (3, pt nx0 0), (6, pt (nx0 + 1) 0), (7, pt (nx0 + 2) 0), (8, pt (nx0 + 3) 0)] ?_
   refine OK.sq ?_
   refine OK.label 0 (by kernel_rfl) ?_
   refine QN.then_ ?_
   refine OK.sq ?_
   refine OK.join (fun K' I' _ L' X' => ∃ (x4 : List Int) (x5 : List Int) (x6 : List Int) (x7 : List Int) (x8 : List Int) (x9 : List Bool) (x10 : List Int) (x11 : Int) (A1 : Option Addr) (c1 : Nat) (cs1 : List Value), K' = [(2, i6 a2), (3, pt nx0 0), (7, pt (nx0 + 2) 0), (12, i6 x11)] ∧ L' = [⟨gb0, ((arrV (Value.int .i64) 0 12 x4) ++ ((arrV (Value.int .i64) 0 12 x5) ++ (arrV (Value.int .i64) 0 12 x6))), 89⟩, ⟨gb1, arrV (Value.int .i64) 0 144 b1, 85⟩, ⟨nx0, [pt gb0 0], 95⟩, ⟨nx0 + 1, arrV (Value.int .i64) 0 12 x7, 83⟩, ⟨nx0 + 2, arrV (Value.int .i64) 0 12 x8, 87⟩, ⟨nx0 + 3, arrV Value.bool false 12 x9, 104⟩, ⟨nx2 + 1, [.slice A1 x10.length c1], 26⟩] ∧ X' = [orow 3 1 A1 x10.length c1 cs1] ∧ Imm.le I2 I' ∧ 12 ≤ x4.length ∧ 12 ≤ x5.length ∧ 12 ≤ x6.length ∧ 12 ≤ x7.length ∧ 12 ≤ x8.length ∧ 12 ≤ x9.length ∧ Reps (Ty.int .i64) I' x10 cs1 ∧ assign_solution_augments0.k3 k a2 (x4, x5, x6, x7, x8, x9, x10, x11) = some r) ?_ ?_
   ·rintro _ I3 nx3 _ _ ⟨x4, x5, x6, x7, x8, x9, x10, x11, A1, c1, cs1, rfl, rfl, rfl, hi3, hz4, hz5, hz6, hz7, hz8, hz9, hp1, H⟩
    rw [assign_solution_augments0.k3] at H
    refine QN.then_ ?_
    refine OK.sr ?_
    refine RL.st 2 [(18, i6 x11), (2, i6 a2), (3, pt nx0 0), (7, pt (nx0 + 2) 0)] ?_
    refine OK.join (fun K' I' _ L' X' => ∃ (x12 : List Int), K' = [] ∧ L' = [⟨gb0, ((arrV (Value.int .i64) 0 12 x12) ++ ((arrV (Value.int .i64) 0 12 x5) ++ (arrV (Value.int .i64) 0 12 x6))), 89⟩, ⟨gb1, arrV (Value.int .i64) 0 144 b1, 85⟩, ⟨nx0, [pt gb0 0], 95⟩, ⟨nx0 + 1, arrV (Value.int .i64) 0 12 x7, 83⟩, ⟨nx0 + 2, arrV (Value.int .i64) 0 12 x8, 87⟩, ⟨nx0 + 3, arrV Value.bool false 12 x9, 104⟩, ⟨nx2 + 1, [.slice A1 x10.length c1], 26⟩] ∧ X' = [orow 3 1 A1 x10.length c1 cs1] ∧ Imm.le I3 I' ∧ 12 ≤ x12.length ∧ assign_solution_augments0.k1 x5 x6 x12 = some r) ?_ ?_
    ·rintro _ I4 nx4 _ _ ⟨x12, rfl, rfl, rfl, hi4, hz10, H⟩
     rw [assign_solution_augments0.k1] at H
     refine QN.scN ?_
     obtain rfl := Option.some.inj H
     refine QN.body rfl [] (RFacts.nil _ _ _) (.no) (.tuple #[]) (by kernel_rfl) (by kernel_rfl) (by kernel_rfl) ?_ _ (.inl rfl)
     exact fun w' hs' => ⟨_, rfl, I4, rfl, ((hs'.fin.selB [0, 1] (by kernel_rfl)).sel [] (by kernel_rfl)), hz10, hz5, hz6⟩
    ·intro Q_1 hJ4 hQ4
     obtain ⟨y4, H, HK4⟩ := bnd H
     refine OK.bk 8 ?_
     refine OK.sub (K' := [(2, i6 a2), (3, pt nx0 0), (7, pt (nx0 + 2) 0), (18, i6 x11)]) (L' := [⟨gb0, ((arrV (Value.int .i64) 0 12 x4) ++ ((arrV (Value.int .i64) 0 12 x5) ++ (arrV (Value.int .i64) 0 12 x6))), 89⟩, ⟨gb1, arrV (Value.int .i64) 0 144 b1, 85⟩, ⟨nx0, [pt gb0 0], 95⟩, ⟨nx0 + 1, arrV (Value.int .i64) 0 12 x7, 83⟩, ⟨nx0 + 2, arrV (Value.int .i64) 0 12 x8, 87⟩, ⟨nx0 + 3, arrV Value.bool false 12 x9, 104⟩, ⟨nx2 + 1, [.slice A1 x10.length c1], 26⟩]) (by kernel_rfl) (.cons_cons _ (.cons_cons _ (.cons_cons _ (.cons_cons _ (.cons_cons _ (.cons_cons _ (.cons_cons _ .slnil))))))) (.refl _) ?_
     refine OK.lp (fun n_ K' I' _ L' X' => ∃ (x13 : List Int) (x14 : Int), K' = [(2, i6 a2), (3, pt nx0 0), (7, pt (nx0 + 2) 0), (18, i6 x14)] ∧ L' = [⟨gb0, ((arrV (Value.int .i64) 0 12 x13) ++ ((arrV (Value.int .i64) 0 12 x5) ++ (arrV (Value.int .i64) 0 12 x6))), 89⟩, ⟨gb1, arrV (Value.int .i64) 0 144 b1, 85⟩, ⟨nx0, [pt gb0 0], 95⟩, ⟨nx0 + 1, arrV (Value.int .i64) 0 12 x7, 83⟩, ⟨nx0 + 2, arrV (Value.int .i64) 0 12 x8, 87⟩, ⟨nx0 + 3, arrV Value.bool false 12 x9, 104⟩, ⟨nx2 + 1, [.slice A1 x10.length c1], 26⟩] ∧ X' = [orow 3 1 A1 x10.length c1 cs1] ∧ Imm.le I3 I' ∧ 12 ≤ x13.length ∧ assign_solution_augments0.l1 a2 x8 n_ x13 x14 = some y4) k ⟨x4, x11, rfl, rfl, rfl, (Imm.le_refl _), hz4, H⟩ ?_ ?_
     ·rintro _ _ _ _ _ ⟨x13, x14, rfl, rfl, rfl, _, hz11, H⟩
      cases H
     ·rintro kq1 _ I5 nx5 _ _ ⟨x13, x14, rfl, rfl, rfl, hi5, hz11, H⟩ Q_l1 hJ5 hQ5
      rw [assign_solution_augments0.l1] at H
      refine OK.sq ?_
      refine OK.sr ?_
      refine RL.st 2 [(140, .bool (x14 != (-1))), (2, i6 a2), (3, pt nx0 0), (7, pt (nx0 + 2) 0), (18, i6 x14)] ?_
      refine OK.cd (x14 != (-1)) (fun hb => ?_) (fun hb => ?_)
      ·skip
       have hc := (bne_iff_ne.1 hb)
       rw [if_pos hc] at H
       clear hb
       refine OK.skt ?_
       refine OK.bk 9 ?_
       refine OK.sr ?_
       refine RL.s 1 [(141, i6 x14), (2, i6 a2), (3, pt nx0 0), (7, pt (nx0 + 2) 0), (18, i6 x14)] ?_
       obtain ⟨hib0, H⟩ := ifs H
       obtain ⟨hib1, H⟩ := ifs H
       have ha01 := hib0; have ha11 := hib1
       refine RL.idxArr (T := 87) (e := 3) 1 .i64 x14 (nx0 + 2) (0) 12 (some 142) (by kernel_rfl) (by kernel_rfl) (by kernel_rfl) (by kernel_rfl) hib0 hib1 (K' := [(142, pt (nx0 + 2) (0 + (x14).toNat * 1)), (141, i6 x14), (2, i6 a2), (3, pt nx0 0), (7, pt (nx0 + 2) 0), (18, i6 x14)]) (by kernel_rfl) ?_
       refine RL.ldA (g := nx0 + 2) (ty := 87) (cs := arrV (Value.int .i64) 0 12 x8) (Value.int .i64) 0 12 x8 [] [] 0 ((x14).toNat) 4 (by kernel_rfl) (by kernel_rfl) (by kernel_rfl) (by omega) (0 + (x14).toNat * 1) (by omega) (some 143) (by kernel_rfl) (by kernel_rfl) (by kernel_rfl) (K' := [(143, i6 (x8.getD ((x14).toNat) 0)), (142, pt (nx0 + 2) (0 + (x14).toNat * 1)), (141, i6 x14), (2, i6 a2), (3, pt nx0 0), (7, pt (nx0 + 2) 0), (18, i6 x14)]) (by kernel_rfl) ?_
       refine RL.st 1 [(19, i6 (x8.getD ((x14).toNat) 0)), (2, i6 a2), (3, pt nx0 0), (7, pt (nx0 + 2) 0), (18, i6 x14)] ?_
       refine OK.sq ?_
       refine OK.sr ?_
       refine RL.st 2 [(145, .bool ((x8.getD ((x14).toNat) 0) == (-1))), (19, i6 (x8.getD ((x14).toNat) 0)), (2, i6 a2), (3, pt nx0 0), (7, pt (nx0 + 2) 0), (18, i6 x14)] ?_
       refine OK.join (fun K' I' _ L' X' => ∃ (x15 : List Int), K' = [(2, i6 a2), (3, pt nx0 0), (7, pt (nx0 + 2) 0), (19, i6 (x8.getD ((x14).toNat) 0))] ∧ L' = [⟨gb0, ((arrV (Value.int .i64) 0 12 x15) ++ ((arrV (Value.int .i64) 0 12 x5) ++ (arrV (Value.int .i64) 0 12 x6))), 89⟩, ⟨gb1, arrV (Value.int .i64) 0 144 b1, 85⟩, ⟨nx0, [pt gb0 0], 95⟩, ⟨nx0 + 1, arrV (Value.int .i64) 0 12 x7, 83⟩, ⟨nx0 + 2, arrV (Value.int .i64) 0 12 x8, 87⟩, ⟨nx0 + 3, arrV Value.bool false 12 x9, 104⟩, ⟨nx2 + 1, [.slice A1 x10.length c1], 26⟩] ∧ X' = [orow 3 1 A1 x10.length c1 cs1] ∧ Imm.le I5 I' ∧ 12 ≤ x15.length ∧ (assign_solution_augments0.l1 a2 x8 kq1 x15 (x8.getD ((x14).toNat) 0)) = some y4) ?_ ?_
       ·rintro _ I6 nx6 _ _ ⟨x15, rfl, rfl, rfl, hi6, hz12, H⟩
        replace H : (assign_solution_augments0.l1 a2 x8 kq1 x15 (x8.getD ((x14).toNat) 0)) = some y4 := H
        refine QN.then_ ?_
        refine OK.rg ?_
        refine RL.s 2 [(18, i6 (x8.getD ((x14).toNat) 0)), (2, i6 a2), (3, pt nx0 0), (7, pt (nx0 + 2) 0)] ?_
        refine RL.nil (by kernel_rfl) ?_
        refine QN.blkN ?_
        exact QN.sb (hJ5 _ _ _ _ _ ⟨x15, (x8.getD ((x14).toNat) 0), rfl, rfl, rfl, (Imm.le_trans hi5 hi6), hz12, H⟩) (.cons_cons _ (.cons_cons _ (.cons_cons _ (.cons_cons _ (.cons_cons _ (.cons_cons _ (.cons_cons _ .slnil))))))) (.refl _)
       ·intro Q_2 hJ6 hQ6
        obtain ⟨y5, H, HK5⟩ := bnd H
        refine OK.cd ((x8.getD ((x14).toNat) 0) == (-1)) (fun hb => ?_) (fun hb => ?_)
        ·skip
         have hc := (beq_iff_eq.1 hb)
         rw [if_pos hc] at H
         clear hb
         refine OK.rg ?_
         refine RL.simK (K' := [(150, pt gb0 0), (148, i6 a2), (147, i6 x14), (19, i6 (x8.getD ((x14).toNat) 0)), (2, i6 a2), (3, pt nx0 0), (7, pt (nx0 + 2) 0)]) [] (RFacts.nil _ _ _) 5 [.l 2, .no, .no, .no, .no] (by kernel_rfl) (by kernel_rfl) ?_
         obtain ⟨hib0, H⟩ := ifs H
         obtain ⟨hib1, H⟩ := ifs H
         have ha02 := hib0; have ha12 := hib1
         refine RL.idxArr (T := 87) (e := 3) 1 .i64 x14 gb0 (0) 12 (some 151) (by kernel_rfl) (by kernel_rfl) (by kernel_rfl) (by kernel_rfl) hib0 hib1 (K' := [(151, pt gb0 (0 + (x14).toNat * 1)), (150, pt gb0 0), (148, i6 a2), (147, i6 x14), (19, i6 (x8.getD ((x14).toNat) 0)), (2, i6 a2), (3, pt nx0 0), (7, pt (nx0 + 2) 0)]) (by kernel_rfl) ?_
         refine RL.stA (g := gb0) (ty := 89) (cs := ((arrV (Value.int .i64) 0 12 x13) ++ ((arrV (Value.int .i64) 0 12 x5) ++ (arrV (Value.int .i64) 0 12 x6)))) (Value.int .i64) 0 12 x13 a2 [] ((arrV (Value.int .i64) 0 12 x5) ++ (arrV (Value.int .i64) 0 12 x6)) 0 ((x14).toNat) 0 (by kernel_rfl) (by kernel_rfl) (by kernel_rfl) (by omega) hz11 (0 + (x14).toNat * 1) (by omega) 3 (by kernel_rfl) (by kernel_rfl) (by kernel_rfl) (by rfl) (fun _ h => by cases h) (fun _ h => by cases h) (cs' := ((arrV (Value.int .i64) 0 12 (x13.set ((x14).toNat) a2)) ++ ((arrV (Value.int .i64) 0 12 x5) ++ (arrV (Value.int .i64) 0 12 x6)))) (by kernel_rfl) ?_
         refine RL.nil (by kernel_rfl) ?_
         refine QN.sub (K' := [(19, i6 (x8.getD ((x14).toNat) 0)), (2, i6 a2), (3, pt nx0 0), (7, pt (nx0 + 2) 0)]) (L' := [⟨gb0, ((arrV (Value.int .i64) 0 12 (x13.set ((x14).toNat) a2)) ++ ((arrV (Value.int .i64) 0 12 x5) ++ (arrV (Value.int .i64) 0 12 x6))), 89⟩, ⟨gb1, arrV (Value.int .i64) 0 144 b1, 85⟩, ⟨nx0, [pt gb0 0], 95⟩, ⟨nx0 + 1, arrV (Value.int .i64) 0 12 x7, 83⟩, ⟨nx0 + 2, arrV (Value.int .i64) 0 12 x8, 87⟩, ⟨nx0 + 3, arrV Value.bool false 12 x9, 104⟩, ⟨nx2 + 1, [.slice A1 x10.length c1], 26⟩]) (by kernel_rfl) (.cons_cons _ (.cons_cons _ (.cons_cons _ (.cons_cons _ (.cons_cons _ (.cons_cons _ (.cons_cons _ .slnil))))))) (.refl _) ?_
         obtain rfl := Option.some.inj H
         exact QN.sb (hJ6 _ _ _ _ _ ⟨(x13.set ((x14).toNat) a2), rfl, rfl, rfl, (Imm.le_refl _), (le_set hz11), HK5⟩) (.cons_cons _ (.cons_cons _ (.cons_cons _ (.cons_cons _ (.cons_cons _ (.cons_cons _ (.cons_cons _ .slnil))))))) (.refl _)
        ·skip
         have hc := (beq_eq_false_iff_ne.1 hb)
         rw [if_neg hc] at H
         clear hb
         obtain ⟨hi0_1, H⟩ := ifs H
         obtain ⟨hi1_1, H⟩ := ifs H
         refine OK.drawnC 38 10 O55s0_161 a55s0_161n (by kernel_rfl) (by kernel_rfl) u55d1l (u55d1g gb0 x8 x14) [(⟨gb0, 0 + ((x8.getD ((x14).toNat) 0)).toNat * 1, none⟩, i6 (x13.getD (((x8.getD ((x14).toNat) 0)).toNat) 0))] (RI.arr (g := gb0) (ty := 89) (cs := ((arrV (Value.int .i64) 0 12 x13) ++ ((arrV (Value.int .i64) 0 12 x5) ++ (arrV (Value.int .i64) 0 12 x6)))) (Value.int .i64) 0 12 x13 [] ((arrV (Value.int .i64) 0 12 x5) ++ (arrV (Value.int .i64) 0 12 x6)) 0 (((x8.getD ((x14).toNat) 0)).toNat) 0 (by kernel_rfl) (by kernel_rfl) (by kernel_rfl) (by omega) (0 + ((x8.getD ((x14).toNat) 0)).toNat * 1) (by omega) (RI.nil _)) [.l 2, .no, .l 2, .no, .no, .no, .no, .r 0, .no, .no] a55s0_161 a55s0_161o (by kernel_rfl) (by kernel_rfl) (u55d1s gb0 x8 x13 x14) (u55d1f nx0 gb0 a2 x8 x13 x14 10) (u55d1v nx0 gb0 gb1 a2 b1 nx2 x5 x6 x7 x8 x9 x10 A1 c1 x13 x14) (u55d1e nx0 gb0 gb1 a2 b1 nx2 x5 x6 x7 x8 x9 x10 A1 c1 x13 x14) [] framesOk.nil ?_ [u55d1f nx0 gb0 a2 x8 x13 x14 6] (framesOk.cons (fun u => rfl) framesOk.nil) ?_ ?_
         ·refine LoudsG.nil
         ·refine Givens.cons (fun u w =>  ?_) (fun _ _ _ => rfl) (Givens.nil)
          ·exact giv_idxArr (T := 87) (e := 3) 1 .i64 (x8.getD ((x14).toNat) 0) gb0 (0) 12 (by kernel_rfl) (by kernel_rfl) (by kernel_rfl) hi0_1 hi1_1 w
         intro u I7 nx7 hi7 hF
         clear hF
         refine RL.norm (K' := [(161, pt gb0 0), (160, pt gb0 0), (159, i6 (x13.getD (((x8.getD ((x14).toNat) 0)).toNat) 0)), (158, pt gb0 (0 + ((x8.getD ((x14).toNat) 0)).toNat * 1)), (157, pt gb0 0), (156, pt gb0 0), (155, i6 (x8.getD ((x14).toNat) 0)), (154, pt gb0 0), (153, i6 x14), (152, pt gb0 0), (145, .bool ((x8.getD ((x14).toNat) 0) == (-1))), (19, i6 (x8.getD ((x14).toNat) 0)), (2, i6 a2), (3, pt nx0 0), (7, pt (nx0 + 2) 0), (18, i6 x14)]) (X' := [orow 3 1 A1 x10.length c1 cs1]) (by kernel_rfl) rfl rfl rfl ?_
         obtain ⟨hib0, H⟩ := ifs H
         obtain ⟨hib1, H⟩ := ifs H
         have ha03 := hib0; have ha13 := hib1
         refine RL.idxArr (T := 87) (e := 3) 1 .i64 x14 gb0 (0) 12 (some 162) (by kernel_rfl) (by kernel_rfl) (by kernel_rfl) (by kernel_rfl) hib0 hib1 (K' := [(162, pt gb0 (0 + (x14).toNat * 1)), (161, pt gb0 0), (160, pt gb0 0), (159, i6 (x13.getD (((x8.getD ((x14).toNat) 0)).toNat) 0)), (158, pt gb0 (0 + ((x8.getD ((x14).toNat) 0)).toNat * 1)), (157, pt gb0 0), (156, pt gb0 0), (155, i6 (x8.getD ((x14).toNat) 0)), (154, pt gb0 0), (153, i6 x14), (152, pt gb0 0), (145, .bool ((x8.getD ((x14).toNat) 0) == (-1))), (19, i6 (x8.getD ((x14).toNat) 0)), (2, i6 a2), (3, pt nx0 0), (7, pt (nx0 + 2) 0), (18, i6 x14)]) (by kernel_rfl) ?_
         refine RL.stA (g := gb0) (ty := 89) (cs := ((arrV (Value.int .i64) 0 12 x13) ++ ((arrV (Value.int .i64) 0 12 x5) ++ (arrV (Value.int .i64) 0 12 x6)))) (Value.int .i64) 0 12 x13 (x13.getD (((x8.getD ((x14).toNat) 0)).toNat) 0) [] ((arrV (Value.int .i64) 0 12 x5) ++ (arrV (Value.int .i64) 0 12 x6)) 0 ((x14).toNat) 0 (by kernel_rfl) (by kernel_rfl) (by kernel_rfl) (by omega) hz11 (0 + (x14).toNat * 1) (by omega) 3 (by kernel_rfl) (by kernel_rfl) (by kernel_rfl) (by rfl) (fun _ h => by cases h) (fun _ h => by cases h) (cs' := ((arrV (Value.int .i64) 0 12 (x13.set ((x14).toNat) (x13.getD (((x8.getD ((x14).toNat) 0)).toNat) 0))) ++ ((arrV (Value.int .i64) 0 12 x5) ++ (arrV (Value.int .i64) 0 12 x6)))) (by kernel_rfl) ?_
         refine RL.nil (by kernel_rfl) ?_
         refine QN.sub (K' := [(19, i6 (x8.getD ((x14).toNat) 0)), (2, i6 a2), (3, pt nx0 0), (7, pt (nx0 + 2) 0)]) (L' := [⟨gb0, ((arrV (Value.int .i64) 0 12 (x13.set ((x14).toNat) (x13.getD (((x8.getD ((x14).toNat) 0)).toNat) 0))) ++ ((arrV (Value.int .i64) 0 12 x5) ++ (arrV (Value.int .i64) 0 12 x6))), 89⟩, ⟨gb1, arrV (Value.int .i64) 0 144 b1, 85⟩, ⟨nx0, [pt gb0 0], 95⟩, ⟨nx0 + 1, arrV (Value.int .i64) 0 12 x7, 83⟩, ⟨nx0 + 2, arrV (Value.int .i64) 0 12 x8, 87⟩, ⟨nx0 + 3, arrV Value.bool false 12 x9, 104⟩, ⟨nx2 + 1, [.slice A1 x10.length c1], 26⟩]) (by kernel_rfl) (.cons_cons _ (.cons_cons _ (.cons_cons _ (.cons_cons _ (.cons_cons _ (.cons_cons _ (.cons_cons _ .slnil))))))) (.refl _) ?_
         obtain rfl := Option.some.inj H
         exact QN.sb (hJ6 _ _ _ _ _ ⟨(x13.set ((x14).toNat) (x13.getD (((x8.getD ((x14).toNat) 0)).toNat) 0)), rfl, rfl, rfl, hi7, (le_set hz11), HK5⟩) (.cons_cons _ (.cons_cons _ (.cons_cons _ (.cons_cons _ (.cons_cons _ (.cons_cons _ (.cons_cons _ .slnil))))))) (.refl _)
      ·skip
       have hc := (not_not_intro (bne_eq_false_iff_eq.1 hb))
       rw [if_neg hc] at H
       clear hb
       refine OK.ex 8 ?_
       refine QN.thenE ?_
       refine QN.outE hQ5 ?_
       refine QN.blkE ?_
       obtain rfl := Option.some.inj H
       exact QN.sb (hJ4 _ _ _ _ _ ⟨x13, rfl, rfl, rfl, hi5, hz11, HK4⟩) (.cons_cons _ (.cons_cons _ (.cons_cons _ (.cons_cons _ (.cons_cons _ (.cons_cons _ (.cons_cons _ .slnil))))))) (.refl _)
   ·intro Q_3 hJ3 hQ3
    obtain ⟨y3, H, HK3⟩ := bnd H
    refine OK.bk 4 ?_
    refine OK.toRow (b := ⟨nx2, [i6 a2], 3⟩) 6 1 1 (by kernel_rfl) (by kernel_rfl) (by decide) ?_
    have hp4 : Reps (Ty.int .i64) I2 [a2] [i6 a2] := ⟨_, _, rfl, rfl, rfl⟩
    refine OK.norm (L' := [⟨gb0, ((arrV (Value.int .i64) 0 12 b0.f0) ++ ((arrV (Value.int .i64) 0 12 x3) ++ (arrV (Value.int .i64) 0 12 b0.f2))), 89⟩, ⟨gb1, arrV (Value.int .i64) 0 144 b1, 85⟩, ⟨nx0, [pt gb0 0], 95⟩, ⟨nx0 + 1, arrV (Value.int .i64) 0 12 x1, 83⟩, ⟨nx0 + 2, arrV (Value.int .i64) 0 12 x2, 87⟩, ⟨nx0 + 3, arrV Value.bool false 12 (List.replicate 12 false), 104⟩, ⟨nx2 + 1, [.slice (some ⟨nx2, 0, none⟩) 1 1], 26⟩]) (X' := [orow 3 1 (some ⟨nx2, 0, none⟩) ([a2].length) 1 [i6 a2]]) rfl rfl (by kernel_rfl) (by kernel_rfl) ?_
    refine OK.sub (K' := [(1, pt gb1 0), (2, i6 a2), (3, pt nx0 0), (6, pt (nx0 + 1) 0), (7, pt (nx0 + 2) 0), (8, pt (nx0 + 3) 0), (11, pt (nx2 + 1) 0), (12, i6 (-1)), (13, i6 a2)]) (L' := [⟨gb0, ((arrV (Value.int .i64) 0 12 b0.f0) ++ ((arrV (Value.int .i64) 0 12 x3) ++ (arrV (Value.int .i64) 0 12 b0.f2))), 89⟩, ⟨gb1, arrV (Value.int .i64) 0 144 b1, 85⟩, ⟨nx0, [pt gb0 0], 95⟩, ⟨nx0 + 1, arrV (Value.int .i64) 0 12 x1, 83⟩, ⟨nx0 + 2, arrV (Value.int .i64) 0 12 x2, 87⟩, ⟨nx0 + 3, arrV Value.bool false 12 (List.replicate 12 false), 104⟩, ⟨nx2 + 1, [.slice (some ⟨nx2, 0, none⟩) 1 1], 26⟩]) (by kernel_rfl) (.cons_cons _ (.cons_cons _ (.cons_cons _ (.cons_cons _ (.cons_cons _ (.cons_cons _ (.cons_cons _ .slnil))))))) (.refl _) ?_
    refine OK.lp (fun n_ K' I' _ L' X' => ∃ (x16 : List Int) (x17 : List Int) (x18 : List Int) (x19 : List Int) (x20 : List Int) (x21 : List Bool) (x22 : List Int) (x23 : Int) (x24 : Int) (A2 : Option Addr) (c2 : Nat) (cs2 : List Value), K' = [(1, pt gb1 0), (2, i6 a2), (3, pt nx0 0), (6, pt (nx0 + 1) 0), (7, pt (nx0 + 2) 0), (8, pt (nx0 + 3) 0), (11, pt (nx2 + 1) 0), (12, i6 x23), (13, i6 x24)] ∧ L' = [⟨gb0, ((arrV (Value.int .i64) 0 12 x16) ++ ((arrV (Value.int .i64) 0 12 x17) ++ (arrV (Value.int .i64) 0 12 x18))), 89⟩, ⟨gb1, arrV (Value.int .i64) 0 144 b1, 85⟩, ⟨nx0, [pt gb0 0], 95⟩, ⟨nx0 + 1, arrV (Value.int .i64) 0 12 x19, 83⟩, ⟨nx0 + 2, arrV (Value.int .i64) 0 12 x20, 87⟩, ⟨nx0 + 3, arrV Value.bool false 12 x21, 104⟩, ⟨nx2 + 1, [.slice A2 x22.length c2], 26⟩] ∧ X' = [orow 3 1 A2 x22.length c2 cs2] ∧ Imm.le I2 I' ∧ 12 ≤ x16.length ∧ 12 ≤ x17.length ∧ 12 ≤ x18.length ∧ 12 ≤ x19.length ∧ 12 ≤ x20.length ∧ 12 ≤ x21.length ∧ Reps (Ty.int .i64) I' x22 cs2 ∧ assign_solution_augments0.l2 b1 n_ x16 x17 x18 x19 x20 x21 x22 x23 x24 = some y3) k ⟨b0.f0, x3, b0.f2, x1, x2, (List.replicate 12 false), [a2], (-1), a2, (some ⟨nx2, 0, none⟩), 1, [i6 a2], rfl, rfl, rfl, (Imm.le_refl _), hzb0_0, hz3, hzb0_2, hz1, hz2, (Nat.le_of_eq List.length_replicate.symm), hp4, H⟩ ?_ ?_
    ·rintro _ _ _ _ _ ⟨x16, x17, x18, x19, x20, x21, x22, x23, x24, A2, c2, cs2, rfl, rfl, rfl, _, hz13, hz14, hz15, hz16, hz17, hz18, hp2, H⟩
     cases H
    ·rintro kq2 _ I8 nx8 _ _ ⟨x16, x17, x18, x19, x20, x21, x22, x23, x24, A2, c2, cs2, rfl, rfl, rfl, hi8, hz13, hz14, hz15, hz16, hz17, hz18, hp2, H⟩ Q_l2 hJ7 hQ7
     rw [assign_solution_augments0.l2] at H
     refine OK.bk 5 ?_
     refine OK.sr ?_
     refine RL.st 1 [(14, i6 (-1)), (1, pt gb1 0), (2, i6 a2), (3, pt nx0 0), (6, pt (nx0 + 1) 0), (7, pt (nx0 + 2) 0), (8, pt (nx0 + 3) 0), (11, pt (nx2 + 1) 0), (12, i6 x23), (13, i6 x24)] ?_
     refine OK.sq ?_
     refine OK.sr ?_
     refine RL.st 1 [(61, i6 0), (14, i6 (-1)), (1, pt gb1 0), (2, i6 a2), (3, pt nx0 0), (6, pt (nx0 + 1) 0), (7, pt (nx0 + 2) 0), (8, pt (nx0 + 3) 0), (11, pt (nx2 + 1) 0), (12, i6 x23), (13, i6 x24)] ?_
     refine OK.join (fun K' I' _ L' X' => ∃ (x25 : List Int) (x26 : List Int) (x27 : Int), K' = [(1, pt gb1 0), (2, i6 a2), (3, pt nx0 0), (6, pt (nx0 + 1) 0), (7, pt (nx0 + 2) 0), (8, pt (nx0 + 3) 0), (11, pt (nx2 + 1) 0), (14, i6 x27)] ∧ L' = [⟨gb0, ((arrV (Value.int .i64) 0 12 x16) ++ ((arrV (Value.int .i64) 0 12 x17) ++ (arrV (Value.int .i64) 0 12 x18))), 89⟩, ⟨gb1, arrV (Value.int .i64) 0 144 b1, 85⟩, ⟨nx0, [pt gb0 0], 95⟩, ⟨nx0 + 1, arrV (Value.int .i64) 0 12 x25, 83⟩, ⟨nx0 + 2, arrV (Value.int .i64) 0 12 x26, 87⟩, ⟨nx0 + 3, arrV Value.bool false 12 x21, 104⟩, ⟨nx2 + 1, [.slice A2 x22.length c2], 26⟩] ∧ X' = [orow 3 1 A2 x22.length c2 cs2] ∧ Imm.le I8 I' ∧ 12 ≤ x25.length ∧ 12 ≤ x26.length ∧ (if 0 ≤ x27 then (if x27 < (12 : Int) then ((assign_solution_augment_1s0.f kq2 (x25.getD ((x27).toNat) 0) x22 (⟨x16, x17, x18⟩ : S89) x21 x25).bind fun t1 => (if 0 ≤ x27 then (if x27 < (12 : Int) then (if 0 ≤ x27 then (if x27 < (12 : Int) then (if (t1.1.f0.getD ((x27).toNat) 0) = (-1) then (some (t1.1.f0, t1.1.f1, t1.1.f2, t1.2, x26, (x21.set ((x27).toNat) true), x22, x27)) else (if 0 ≤ x27 then (if x27 < (12 : Int) then (if (x22.length + [(t1.1.f0.getD ((x27).toNat) 0)].length) * 8 ≤ 140737488355328 then (assign_solution_augments0.l2 b1 kq2 t1.1.f0 t1.1.f1 t1.1.f2 t1.2 x26 (x21.set ((x27).toNat) true) (x22 ++ [(t1.1.f0.getD ((x27).toNat) 0)]) x27 (t1.1.f0.getD ((x27).toNat) 0)) else none) else none) else none)) else none) else none) else none) else none)) else none) else none) = some y3) ?_ ?_
     ·rintro _ I9 nx9 _ _ ⟨x25, x26, x27, rfl, rfl, rfl, hi9, hz19, hz20, H⟩
      replace H : (if 0 ≤ x27 then (if x27 < (12 : Int) then ((assign_solution_augment_1s0.f kq2 (x25.getD ((x27).toNat) 0) x22 (⟨x16, x17, x18⟩ : S89) x21 x25).bind fun t1 => (if 0 ≤ x27 then (if x27 < (12 : Int) then (if 0 ≤ x27 then (if x27 < (12 : Int) then (if (t1.1.f0.getD ((x27).toNat) 0) = (-1) then (some (t1.1.f0, t1.1.f1, t1.1.f2, t1.2, x26, (x21.set ((x27).toNat) true), x22, x27)) else (if 0 ≤ x27 then (if x27 < (12 : Int) then (if (x22.length + [(t1.1.f0.getD ((x27).toNat) 0)].length) * 8 ≤ 140737488355328 then (assign_solution_augments0.l2 b1 kq2 t1.1.f0 t1.1.f1 t1.1.f2 t1.2 x26 (x21.set ((x27).toNat) true) (x22 ++ [(t1.1.f0.getD ((x27).toNat) 0)]) x27 (t1.1.f0.getD ((x27).toNat) 0)) else none) else none) else none)) else none) else none) else none) else none)) else none) else none) = some y3 := H
      refine QN.then_ ?_
      refine OK.sr ?_
      refine RL.st 2 [(17, .func (.func 60) #[] #[pt (nx2 + 1) 0, pt nx0 0, pt (nx0 + 3) 0, pt (nx0 + 1) 0]), (1, pt gb1 0), (2, i6 a2), (3, pt nx0 0), (6, pt (nx0 + 1) 0), (7, pt (nx0 + 2) 0), (8, pt (nx0 + 3) 0), (11, pt (nx2 + 1) 0), (14, i6 x27)] ?_
      refine OK.sr ?_
      refine RL.s 2 [(114, i6 x27), (113, .func (.func 60) #[] #[pt (nx2 + 1) 0, pt nx0 0, pt (nx0 + 3) 0, pt (nx0 + 1) 0]), (1, pt gb1 0), (2, i6 a2), (3, pt nx0 0), (6, pt (nx0 + 1) 0), (7, pt (nx0 + 2) 0), (8, pt (nx0 + 3) 0), (11, pt (nx2 + 1) 0), (14, i6 x27)] ?_
      obtain ⟨hib0, H⟩ := ifs H
      obtain ⟨hib1, H⟩ := ifs H
      have ha04 := hib0; have ha14 := hib1
      refine RL.idxArr (T := 83) (e := 2) 1 .i64 x27 (nx0 + 1) (0) 12 (some 115) (by kernel_rfl) (by kernel_rfl) (by kernel_rfl) (by kernel_rfl) hib0 hib1 (K' := [(115, pt (nx0 + 1) (0 + (x27).toNat * 1)), (114, i6 x27), (113, .func (.func 60) #[] #[pt (nx2 + 1) 0, pt nx0 0, pt (nx0 + 3) 0, pt (nx0 + 1) 0]), (1, pt gb1 0), (2, i6 a2), (3, pt nx0 0), (6, pt (nx0 + 1) 0), (7, pt (nx0 + 2) 0), (8, pt (nx0 + 3) 0), (11, pt (nx2 + 1) 0), (14, i6 x27)]) (by kernel_rfl) ?_
      refine RL.ldA (g := nx0 + 1) (ty := 83) (cs := arrV (Value.int .i64) 0 12 x25) (Value.int .i64) 0 12 x25 [] [] 0 ((x27).toNat) 3 (by kernel_rfl) (by kernel_rfl) (by kernel_rfl) (by omega) (0 + (x27).toNat * 1) (by omega) (some 116) (by kernel_rfl) (by kernel_rfl) (by kernel_rfl) (K' := [(116, i6 (x25.getD ((x27).toNat) 0)), (115, pt (nx0 + 1) (0 + (x27).toNat * 1)), (114, i6 x27), (113, .func (.func 60) #[] #[pt (nx2 + 1) 0, pt nx0 0, pt (nx0 + 3) 0, pt (nx0 + 1) 0]), (1, pt gb1 0), (2, i6 a2), (3, pt nx0 0), (6, pt (nx0 + 1) 0), (7, pt (nx0 + 2) 0), (8, pt (nx0 + 3) 0), (11, pt (nx2 + 1) 0), (14, i6 x27)]) (by kernel_rfl) ?_
      refine RL.arrange (L' := [⟨nx2 + 1, [.slice A2 x22.length c2], 26⟩, ⟨nx0, [pt gb0 0], 95⟩, ⟨gb0, ((arrV (Value.int .i64) 0 12 x16) ++ ((arrV (Value.int .i64) 0 12 x17) ++ (arrV (Value.int .i64) 0 12 x18))), 89⟩, ⟨nx0 + 3, arrV Value.bool false 12 x21, 104⟩, ⟨nx0 + 1, arrV (Value.int .i64) 0 12 x25, 83⟩, ⟨gb1, arrV (Value.int .i64) 0 144 b1, 85⟩, ⟨nx0 + 2, arrV (Value.int .i64) 0 12 x26, 87⟩]) (X' := [orow 3 1 A2 x22.length c2 cs2]) [6, 2, 0, 5, 3, 1, 4] [0] (by kernel_rfl) (by kernel_rfl) (by kernel_rfl) (by kernel_rfl) ?_
      obtain ⟨t1, hA1, H⟩ := bnd H
      refine RL.callM (L1 := [⟨nx2 + 1, [.slice A2 x22.length c2], 26⟩, ⟨nx0, [pt gb0 0], 95⟩, ⟨gb0, ((arrV (Value.int .i64) 0 12 x16) ++ ((arrV (Value.int .i64) 0 12 x17) ++ (arrV (Value.int .i64) 0 12 x18))), 89⟩, ⟨nx0 + 3, arrV Value.bool false 12 x21, 104⟩, ⟨nx0 + 1, arrV (Value.int .i64) 0 12 x25, 83⟩]) (L2 := [⟨gb1, arrV (Value.int .i64) 0 144 b1, 85⟩, ⟨nx0 + 2, arrV (Value.int .i64) 0 12 x26, 87⟩]) (X1 := [orow 3 1 A2 x22.length c2 cs2]) (X2 := []) rfl rfl 60 [i6 (x25.getD ((x27).toNat) 0), pt (nx2 + 1) 0, pt nx0 0, pt (nx0 + 3) 0, pt (nx0 + 1) 0] (some 117) (fun w => assign_solution_augment_1s0.Post (SM [⟨nx2 + 1, [.slice A2 x22.length c2], 26⟩, ⟨nx0, [pt gb0 0], 95⟩, ⟨gb0, ((arrV (Value.int .i64) 0 12 x16) ++ ((arrV (Value.int .i64) 0 12 x17) ++ (arrV (Value.int .i64) 0 12 x18))), 89⟩, ⟨nx0 + 3, arrV Value.bool false 12 x21, 104⟩, ⟨nx0 + 1, arrV (Value.int .i64) 0 12 x25, 83⟩] [orow 3 1 A2 x22.length c2 cs2]) (nx2 + 1) nx0 gb0 (nx0 + 3) (nx0 + 1) (x25.getD ((x27).toNat) 0) x22 A2 c2 cs2 (⟨x16, x17, x18⟩ : S89) x21 x25 I9 w t1) (by kernel_rfl) (by kernel_rfl) (fun w hs => assign_solution_augment_1s0.calls kq2 I9 (nx2 + 1) nx0 gb0 (nx0 + 3) (nx0 + 1) (x25.getD ((x27).toNat) 0) x22 A2 c2 cs2 (⟨x16, x17, x18⟩ : S89) x21 x25 w hs (Reps.ext hi9 hp2) hz13 hz14 hz15 hz18 hz19 t1 hA1) ?_
      rintro w v w' hs ⟨I10, rfl, hg, hz21, hz22, hz23, hz24⟩
      have hi10 : Imm.le I9 I10 := hg.le
      refine RL.resume (L' := [⟨nx2 + 1, [.slice A2 x22.length c2], 26⟩, ⟨nx0, [pt gb0 0], 95⟩, ⟨gb0, ((arrV (Value.int .i64) 0 12 t1.1.f0) ++ ((arrV (Value.int .i64) 0 12 t1.1.f1) ++ (arrV (Value.int .i64) 0 12 t1.1.f2))), 89⟩, ⟨nx0 + 3, arrV Value.bool false 12 x21, 104⟩, ⟨nx0 + 1, arrV (Value.int .i64) 0 12 t1.2, 83⟩, ⟨gb1, arrV (Value.int .i64) 0 144 b1, 85⟩, ⟨nx0 + 2, arrV (Value.int .i64) 0 12 x26, 87⟩]) (X' := [orow 3 1 A2 x22.length c2 cs2]) rfl (hs.outof hg) ?_
      clear hs hg
      generalize w'.heap.size = nx10
      clear w w'
      refine RL.nil (by kernel_rfl) ?_
      refine QN.sub (K' := [(1, pt gb1 0), (2, i6 a2), (3, pt nx0 0), (6, pt (nx0 + 1) 0), (7, pt (nx0 + 2) 0), (8, pt (nx0 + 3) 0), (11, pt (nx2 + 1) 0), (14, i6 x27)]) (L' := [⟨nx2 + 1, [.slice A2 x22.length c2], 26⟩, ⟨nx0, [pt gb0 0], 95⟩, ⟨gb0, ((arrV (Value.int .i64) 0 12 t1.1.f0) ++ ((arrV (Value.int .i64) 0 12 t1.1.f1) ++ (arrV (Value.int .i64) 0 12 t1.1.f2))), 89⟩, ⟨nx0 + 3, arrV Value.bool false 12 x21, 104⟩, ⟨nx0 + 1, arrV (Value.int .i64) 0 12 t1.2, 83⟩, ⟨gb1, arrV (Value.int .i64) 0 144 b1, 85⟩, ⟨nx0 + 2, arrV (Value.int .i64) 0 12 x26, 87⟩]) (by kernel_rfl) (.cons_cons _ (.cons_cons _ (.cons_cons _ (.cons_cons _ (.cons_cons _ (.cons_cons _ (.cons_cons _ .slnil))))))) (.refl _) ?_
      refine QN.then_ ?_
      refine OK.sr ?_
      refine RL.s 2 [(119, i6 x27), (118, i6 x27), (1, pt gb1 0), (2, i6 a2), (3, pt nx0 0), (6, pt (nx0 + 1) 0), (7, pt (nx0 + 2) 0), (8, pt (nx0 + 3) 0), (11, pt (nx2 + 1) 0), (14, i6 x27)] ?_
      obtain ⟨hib0, H⟩ := ifs H
      obtain ⟨hib1, H⟩ := ifs H
      have ha05 := hib0; have ha15 := hib1
      refine RL.idxArr (T := 104) (e := 4) 1 .i64 x27 (nx0 + 3) (0) 12 (some 120) (by kernel_rfl) (by kernel_rfl) (by kernel_rfl) (by kernel_rfl) hib0 hib1 (K' := [(120, pt (nx0 + 3) (0 + (x27).toNat * 1)), (119, i6 x27), (118, i6 x27), (1, pt gb1 0), (2, i6 a2), (3, pt nx0 0), (6, pt (nx0 + 1) 0), (7, pt (nx0 + 2) 0), (8, pt (nx0 + 3) 0), (11, pt (nx2 + 1) 0), (14, i6 x27)]) (by kernel_rfl) ?_
      refine RL.stA (g := nx0 + 3) (ty := 104) (cs := arrV Value.bool false 12 x21) Value.bool false 12 x21 true [] [] 0 ((x27).toNat) 3 (by kernel_rfl) (by kernel_rfl) (by kernel_rfl) (by omega) hz18 (0 + (x27).toNat * 1) (by omega) 4 (by kernel_rfl) (by kernel_rfl) (by kernel_rfl) (by rfl) (fun _ h => by cases h) (fun _ h => by cases h) (cs' := arrV Value.bool false 12 (x21.set ((x27).toNat) true)) (by kernel_rfl) ?_
      refine RL.st 1 [(12, i6 x27), (1, pt gb1 0), (2, i6 a2), (3, pt nx0 0), (6, pt (nx0 + 1) 0), (7, pt (nx0 + 2) 0), (8, pt (nx0 + 3) 0), (11, pt (nx2 + 1) 0), (14, i6 x27)] ?_
      refine OK.sq ?_
      refine OK.sr ?_
      refine RL.simK (K' := [(124, pt gb0 0), (122, i6 x27), (12, i6 x27), (1, pt gb1 0), (2, i6 a2), (3, pt nx0 0), (6, pt (nx0 + 1) 0), (7, pt (nx0 + 2) 0), (8, pt (nx0 + 3) 0), (11, pt (nx2 + 1) 0), (14, i6 x27)]) [] (RFacts.nil _ _ _) 4 [.l 1, .no, .no, .no] (by kernel_rfl) (by kernel_rfl) ?_
      obtain ⟨hib0, H⟩ := ifs H
      obtain ⟨hib1, H⟩ := ifs H
      have ha06 := hib0; have ha16 := hib1
      refine RL.idxArr (T := 87) (e := 3) 1 .i64 x27 gb0 (0) 12 (some 125) (by kernel_rfl) (by kernel_rfl) (by kernel_rfl) (by kernel_rfl) hib0 hib1 (K' := [(125, pt gb0 (0 + (x27).toNat * 1)), (124, pt gb0 0), (122, i6 x27), (12, i6 x27), (1, pt gb1 0), (2, i6 a2), (3, pt nx0 0), (6, pt (nx0 + 1) 0), (7, pt (nx0 + 2) 0), (8, pt (nx0 + 3) 0), (11, pt (nx2 + 1) 0), (14, i6 x27)]) (by kernel_rfl) ?_
      refine RL.ldA (g := gb0) (ty := 89) (cs := ((arrV (Value.int .i64) 0 12 t1.1.f0) ++ ((arrV (Value.int .i64) 0 12 t1.1.f1) ++ (arrV (Value.int .i64) 0 12 t1.1.f2)))) (Value.int .i64) 0 12 t1.1.f0 [] ((arrV (Value.int .i64) 0 12 t1.1.f1) ++ (arrV (Value.int .i64) 0 12 t1.1.f2)) 0 ((x27).toNat) 2 (by kernel_rfl) (by kernel_rfl) (by kernel_rfl) (by omega) (0 + (x27).toNat * 1) (by omega) (some 126) (by kernel_rfl) (by kernel_rfl) (by kernel_rfl) (K' := [(126, i6 (t1.1.f0.getD ((x27).toNat) 0)), (125, pt gb0 (0 + (x27).toNat * 1)), (124, pt gb0 0), (122, i6 x27), (12, i6 x27), (1, pt gb1 0), (2, i6 a2), (3, pt nx0 0), (6, pt (nx0 + 1) 0), (7, pt (nx0 + 2) 0), (8, pt (nx0 + 3) 0), (11, pt (nx2 + 1) 0), (14, i6 x27)]) (by kernel_rfl) ?_
      refine RL.st 1 [(127, .bool ((t1.1.f0.getD ((x27).toNat) 0) == (-1))), (12, i6 x27), (1, pt gb1 0), (2, i6 a2), (3, pt nx0 0), (6, pt (nx0 + 1) 0), (7, pt (nx0 + 2) 0), (8, pt (nx0 + 3) 0), (11, pt (nx2 + 1) 0), (14, i6 x27)] ?_
      refine OK.cd ((t1.1.f0.getD ((x27).toNat) 0) == (-1)) (fun hb => ?_) (fun hb => ?_)
      ·skip
       have hc := (beq_iff_eq.1 hb)
       rw [if_pos hc] at H
       clear hb
       refine OK.ex 4 ?_
       refine QN.thenE ?_
       refine QN.blkX (by decide) ?_
       refine QN.outE hQ7 ?_
       refine QN.blkE ?_
       obtain rfl := Option.some.inj H
       refine QN.arrange (L' := [⟨gb0, ((arrV (Value.int .i64) 0 12 t1.1.f0) ++ ((arrV (Value.int .i64) 0 12 t1.1.f1) ++ (arrV (Value.int .i64) 0 12 t1.1.f2))), 89⟩, ⟨gb1, arrV (Value.int .i64) 0 144 b1, 85⟩, ⟨nx0, [pt gb0 0], 95⟩, ⟨nx0 + 1, arrV (Value.int .i64) 0 12 t1.2, 83⟩, ⟨nx0 + 2, arrV (Value.int .i64) 0 12 x26, 87⟩, ⟨nx0 + 3, arrV Value.bool false 12 (x21.set ((x27).toNat) true), 104⟩, ⟨nx2 + 1, [.slice A2 x22.length c2], 26⟩]) (X' := [orow 3 1 A2 x22.length c2 cs2]) [2, 5, 1, 4, 6, 3, 0] [0] (by kernel_rfl) (by kernel_rfl) (by kernel_rfl) (by kernel_rfl) ?_
       exact QN.sb (hJ3 _ _ _ _ _ ⟨t1.1.f0, t1.1.f1, t1.1.f2, t1.2, x26, (x21.set ((x27).toNat) true), x22, x27, A2, c2, cs2, rfl, rfl, rfl, (Imm.le_trans (Imm.le_trans hi8 hi9) hi10), hz21, hz22, hz23, hz24, hz20, (le_set hz18), (Reps.ext (Imm.le_trans hi9 hi10) hp2), HK3⟩) (.cons_cons _ (.cons_cons _ (.cons_cons _ (.cons_cons _ (.cons_cons _ (.cons_cons _ (.cons_cons _ .slnil))))))) (.refl _)
      ·skip
       have hc := (beq_eq_false_iff_ne.1 hb)
       rw [if_neg hc] at H
       clear hb
       refine OK.skt ?_
       refine OK.sr ?_
       refine RL.simK (K' := [(131, pt gb0 0), (129, i6 x27), (12, i6 x27), (1, pt gb1 0), (2, i6 a2), (3, pt nx0 0), (6, pt (nx0 + 1) 0), (7, pt (nx0 + 2) 0), (8, pt (nx0 + 3) 0), (11, pt (nx2 + 1) 0)]) [] (RFacts.nil _ _ _) 4 [.l 1, .no, .no, .no] (by kernel_rfl) (by kernel_rfl) ?_
       obtain ⟨hib0, H⟩ := ifs H
       obtain ⟨hib1, H⟩ := ifs H
       have ha07 := hib0; have ha17 := hib1
       refine RL.idxArr (T := 87) (e := 3) 1 .i64 x27 gb0 (0) 12 (some 132) (by kernel_rfl) (by kernel_rfl) (by kernel_rfl) (by kernel_rfl) hib0 hib1 (K' := [(132, pt gb0 (0 + (x27).toNat * 1)), (131, pt gb0 0), (129, i6 x27), (12, i6 x27), (1, pt gb1 0), (2, i6 a2), (3, pt nx0 0), (6, pt (nx0 + 1) 0), (7, pt (nx0 + 2) 0), (8, pt (nx0 + 3) 0), (11, pt (nx2 + 1) 0)]) (by kernel_rfl) ?_
       refine RL.ldA (g := gb0) (ty := 89) (cs := ((arrV (Value.int .i64) 0 12 t1.1.f0) ++ ((arrV (Value.int .i64) 0 12 t1.1.f1) ++ (arrV (Value.int .i64) 0 12 t1.1.f2)))) (Value.int .i64) 0 12 t1.1.f0 [] ((arrV (Value.int .i64) 0 12 t1.1.f1) ++ (arrV (Value.int .i64) 0 12 t1.1.f2)) 0 ((x27).toNat) 2 (by kernel_rfl) (by kernel_rfl) (by kernel_rfl) (by omega) (0 + (x27).toNat * 1) (by omega) (some 133) (by kernel_rfl) (by kernel_rfl) (by kernel_rfl) (K' := [(133, i6 (t1.1.f0.getD ((x27).toNat) 0)), (132, pt gb0 (0 + (x27).toNat * 1)), (131, pt gb0 0), (129, i6 x27), (12, i6 x27), (1, pt gb1 0), (2, i6 a2), (3, pt nx0 0), (6, pt (nx0 + 1) 0), (7, pt (nx0 + 2) 0), (8, pt (nx0 + 3) 0), (11, pt (nx2 + 1) 0)]) (by kernel_rfl) ?_
       refine RL.st 1 [(13, i6 (t1.1.f0.getD ((x27).toNat) 0)), (12, i6 x27), (1, pt gb1 0), (2, i6 a2), (3, pt nx0 0), (6, pt (nx0 + 1) 0), (7, pt (nx0 + 2) 0), (8, pt (nx0 + 3) 0), (11, pt (nx2 + 1) 0)] ?_
       refine OK.rg ?_
       refine RL.simP (K' := [(136, .slice (some ⟨nx10, 0, none⟩) 1 1), (134, .slice A2 x22.length c2), (13, i6 (t1.1.f0.getD ((x27).toNat) 0)), (12, i6 x27), (1, pt gb1 0), (2, i6 a2), (3, pt nx0 0), (6, pt (nx0 + 1) 0), (7, pt (nx0 + 2) 0), (8, pt (nx0 + 3) 0), (11, pt (nx2 + 1) 0)]) (nx' := nx10 + 1) (L' := [⟨nx2 + 1, [.slice A2 x22.length c2], 26⟩, ⟨nx0, [pt gb0 0], 95⟩, ⟨gb0, ((arrV (Value.int .i64) 0 12 t1.1.f0) ++ ((arrV (Value.int .i64) 0 12 t1.1.f1) ++ (arrV (Value.int .i64) 0 12 t1.1.f2))), 89⟩, ⟨nx0 + 3, arrV Value.bool false 12 (x21.set ((x27).toNat) true), 104⟩, ⟨nx0 + 1, arrV (Value.int .i64) 0 12 t1.2, 83⟩, ⟨gb1, arrV (Value.int .i64) 0 144 b1, 85⟩, ⟨nx0 + 2, arrV (Value.int .i64) 0 12 x26, 87⟩, ⟨nx10, [i6 (t1.1.f0.getD ((x27).toNat) 0)], 3⟩]) [] (RFacts.nil _ _ _) 3 [.l 0, .no, .no] (by kernel_rfl) (by kernel_rfl) ?_
       obtain ⟨hz25, H⟩ := ifs H
       refine RL.appendB (T := 26) (e := 3) (S := A2) 1 8 26 c2 7 1 nx10 3 cs2 [i6 (t1.1.f0.getD ((x27).toNat) 0)] (Ty.int .i64) x22 [(t1.1.f0.getD ((x27).toNat) 0)] 0 (some 137) (by kernel_rfl) (by kernel_rfl) (by kernel_rfl) (by kernel_rfl) (by kernel_rfl) (by decide) (by kernel_rfl) (Reps.ext (Imm.le_trans hi9 hi10) hp2) (by kernel_rfl) ⟨_, _, rfl, rfl, rfl⟩ hz25 (by omega) (fun A3 c3 nx11 cs3 hp3 => ?_)
       refine RL.sub (K' := [(137, .slice A3 ((x22 ++ [(t1.1.f0.getD ((x27).toNat) 0)]).length) c3), (136, .slice (some ⟨nx10, 0, none⟩) 1 1), (13, i6 (t1.1.f0.getD ((x27).toNat) 0)), (12, i6 x27), (1, pt gb1 0), (2, i6 a2), (3, pt nx0 0), (6, pt (nx0 + 1) 0), (7, pt (nx0 + 2) 0), (8, pt (nx0 + 3) 0), (11, pt (nx2 + 1) 0)]) (L' := [⟨nx2 + 1, [.slice A2 x22.length c2], 26⟩, ⟨nx0, [pt gb0 0], 95⟩, ⟨gb0, ((arrV (Value.int .i64) 0 12 t1.1.f0) ++ ((arrV (Value.int .i64) 0 12 t1.1.f1) ++ (arrV (Value.int .i64) 0 12 t1.1.f2))), 89⟩, ⟨nx0 + 3, arrV Value.bool false 12 (x21.set ((x27).toNat) true), 104⟩, ⟨nx0 + 1, arrV (Value.int .i64) 0 12 t1.2, 83⟩, ⟨gb1, arrV (Value.int .i64) 0 144 b1, 85⟩, ⟨nx0 + 2, arrV (Value.int .i64) 0 12 x26, 87⟩, ⟨nx10, [i6 (t1.1.f0.getD ((x27).toNat) 0)], 3⟩]) (X' := [orow 3 1 A3 ((x22 ++ [(t1.1.f0.getD ((x27).toNat) 0)]).length) c3 cs3]) (by kernel_rfl) (.refl _) (.refl _) ?_
       refine RL.simP (K' := [(13, i6 (t1.1.f0.getD ((x27).toNat) 0)), (12, i6 x27), (1, pt gb1 0), (2, i6 a2), (3, pt nx0 0), (6, pt (nx0 + 1) 0), (7, pt (nx0 + 2) 0), (8, pt (nx0 + 3) 0), (11, pt (nx2 + 1) 0)]) (nx' := nx11) (L' := [⟨nx2 + 1, [.slice A3 ((x22 ++ [(t1.1.f0.getD ((x27).toNat) 0)]).length) c3], 26⟩, ⟨nx0, [pt gb0 0], 95⟩, ⟨gb0, ((arrV (Value.int .i64) 0 12 t1.1.f0) ++ ((arrV (Value.int .i64) 0 12 t1.1.f1) ++ (arrV (Value.int .i64) 0 12 t1.1.f2))), 89⟩, ⟨nx0 + 3, arrV Value.bool false 12 (x21.set ((x27).toNat) true), 104⟩, ⟨nx0 + 1, arrV (Value.int .i64) 0 12 t1.2, 83⟩, ⟨gb1, arrV (Value.int .i64) 0 144 b1, 85⟩, ⟨nx0 + 2, arrV (Value.int .i64) 0 12 x26, 87⟩, ⟨nx10, [i6 (t1.1.f0.getD ((x27).toNat) 0)], 3⟩]) [] (RFacts.nil _ _ _) 1 [.l 0] (by kernel_rfl) (by kernel_rfl) ?_
       refine RL.nil (by kernel_rfl) ?_
       refine QN.blkN ?_
       refine QN.arrange (L' := [⟨gb0, ((arrV (Value.int .i64) 0 12 t1.1.f0) ++ ((arrV (Value.int .i64) 0 12 t1.1.f1) ++ (arrV (Value.int .i64) 0 12 t1.1.f2))), 89⟩, ⟨gb1, arrV (Value.int .i64) 0 144 b1, 85⟩, ⟨nx0, [pt gb0 0], 95⟩, ⟨nx0 + 1, arrV (Value.int .i64) 0 12 t1.2, 83⟩, ⟨nx0 + 2, arrV (Value.int .i64) 0 12 x26, 87⟩, ⟨nx0 + 3, arrV Value.bool false 12 (x21.set ((x27).toNat) true), 104⟩, ⟨nx2 + 1, [.slice A3 ((x22 ++ [(t1.1.f0.getD ((x27).toNat) 0)]).length) c3], 26⟩]) (X' := [orow 3 1 A3 ((x22 ++ [(t1.1.f0.getD ((x27).toNat) 0)]).length) c3 cs3]) [2, 5, 1, 4, 6, 3, 0] [0] (by kernel_rfl) (by kernel_rfl) (by kernel_rfl) (by kernel_rfl) ?_
       exact QN.sb (hJ7 _ _ _ _ _ ⟨t1.1.f0, t1.1.f1, t1.1.f2, t1.2, x26, (x21.set ((x27).toNat) true), (x22 ++ [(t1.1.f0.getD ((x27).toNat) 0)]), x27, (t1.1.f0.getD ((x27).toNat) 0), A3, c3, cs3, rfl, rfl, rfl, (Imm.le_trans (Imm.le_trans hi8 hi9) hi10), hz21, hz22, hz23, hz24, hz20, (le_set hz18), hp3, H⟩) (.cons_cons _ (.cons_cons _ (.cons_cons _ (.cons_cons _ (.cons_cons _ (.cons_cons _ (.cons_cons _ .slnil))))))) (.refl _)
     ·intro Q_4 hJ8 hQ8
      obtain ⟨y6, H, HK6⟩ := bnd H
      refine OK.bk 6 ?_
      refine OK.sub (K' := [(1, pt gb1 0), (2, i6 a2), (3, pt nx0 0), (6, pt (nx0 + 1) 0), (7, pt (nx0 + 2) 0), (8, pt (nx0 + 3) 0), (11, pt (nx2 + 1) 0), (12, i6 x23), (13, i6 x24), (14, i6 (-1)), (61, i6 0)]) (L' := [⟨gb0, ((arrV (Value.int .i64) 0 12 x16) ++ ((arrV (Value.int .i64) 0 12 x17) ++ (arrV (Value.int .i64) 0 12 x18))), 89⟩, ⟨gb1, arrV (Value.int .i64) 0 144 b1, 85⟩, ⟨nx0, [pt gb0 0], 95⟩, ⟨nx0 + 1, arrV (Value.int .i64) 0 12 x19, 83⟩, ⟨nx0 + 2, arrV (Value.int .i64) 0 12 x20, 87⟩, ⟨nx0 + 3, arrV Value.bool false 12 x21, 104⟩, ⟨nx2 + 1, [.slice A2 x22.length c2], 26⟩]) (by kernel_rfl) (.cons_cons _ (.cons_cons _ (.cons_cons _ (.cons_cons _ (.cons_cons _ (.cons_cons _ (.cons_cons _ .slnil))))))) (.refl _) ?_
      refine OK.lp (fun n_ K' I' _ L' X' => ∃ (x28 : List Int) (x29 : List Int) (x30 : Int) (x31 : Int), K' = [(1, pt gb1 0), (2, i6 a2), (3, pt nx0 0), (6, pt (nx0 + 1) 0), (7, pt (nx0 + 2) 0), (8, pt (nx0 + 3) 0), (11, pt (nx2 + 1) 0), (12, i6 x23), (13, i6 x24), (14, i6 x30), (61, i6 x31)] ∧ L' = [⟨gb0, ((arrV (Value.int .i64) 0 12 x16) ++ ((arrV (Value.int .i64) 0 12 x17) ++ (arrV (Value.int .i64) 0 12 x18))), 89⟩, ⟨gb1, arrV (Value.int .i64) 0 144 b1, 85⟩, ⟨nx0, [pt gb0 0], 95⟩, ⟨nx0 + 1, arrV (Value.int .i64) 0 12 x28, 83⟩, ⟨nx0 + 2, arrV (Value.int .i64) 0 12 x29, 87⟩, ⟨nx0 + 3, arrV Value.bool false 12 x21, 104⟩, ⟨nx2 + 1, [.slice A2 x22.length c2], 26⟩] ∧ X' = [orow 3 1 A2 x22.length c2 cs2] ∧ Imm.le I8 I' ∧ 12 ≤ x28.length ∧ 12 ≤ x29.length ∧ assign_solution_augments0.l3 b1 x17 x18 x21 x23 x24 n_ x28 x29 x30 x31 = some y6) kq2 ⟨x19, x20, (-1), 0, rfl, rfl, rfl, (Imm.le_refl _), hz16, hz17, H⟩ ?_ ?_
      ·rintro _ _ _ _ _ ⟨x28, x29, x30, x31, rfl, rfl, rfl, _, hz26, hz27, H⟩
       cases H
      ·rintro kq3 _ I11 nx12 _ _ ⟨x28, x29, x30, x31, rfl, rfl, rfl, hi11, hz26, hz27, H⟩ Q_l3 hJ9 hQ9
       rw [assign_solution_augments0.l3] at H
       refine OK.sr ?_
       refine RL.st 1 [(62, .bool (decide (x31 < 12))), (1, pt gb1 0), (2, i6 a2), (3, pt nx0 0), (6, pt (nx0 + 1) 0), (7, pt (nx0 + 2) 0), (8, pt (nx0 + 3) 0), (11, pt (nx2 + 1) 0), (12, i6 x23), (13, i6 x24), (14, i6 x30), (61, i6 x31)] ?_
       refine OK.sq ?_
       refine OK.cd (decide (x31 < 12)) (fun hb => ?_) (fun hb => ?_)
       ·skip
        have hc := (of_decide_eq_true hb)
        rw [if_pos hc] at H
        clear hb
        refine OK.skt ?_
        refine OK.sq ?_
        refine OK.join (fun K' I' _ L' X' => ∃ (x32 : List Int) (x33 : List Int) (x34 : Int), K' = [(1, pt gb1 0), (2, i6 a2), (3, pt nx0 0), (6, pt (nx0 + 1) 0), (7, pt (nx0 + 2) 0), (8, pt (nx0 + 3) 0), (11, pt (nx2 + 1) 0), (12, i6 x23), (13, i6 x24), (14, i6 x34), (61, i6 x31)] ∧ L' = [⟨gb0, ((arrV (Value.int .i64) 0 12 x16) ++ ((arrV (Value.int .i64) 0 12 x17) ++ (arrV (Value.int .i64) 0 12 x18))), 89⟩, ⟨gb1, arrV (Value.int .i64) 0 144 b1, 85⟩, ⟨nx0, [pt gb0 0], 95⟩, ⟨nx0 + 1, arrV (Value.int .i64) 0 12 x32, 83⟩, ⟨nx0 + 2, arrV (Value.int .i64) 0 12 x33, 87⟩, ⟨nx0 + 3, arrV Value.bool false 12 x21, 104⟩, ⟨nx2 + 1, [.slice A2 x22.length c2], 26⟩] ∧ X' = [orow 3 1 A2 x22.length c2 cs2] ∧ Imm.le I11 I' ∧ 12 ≤ x32.length ∧ 12 ≤ x33.length ∧ (assign_solution_augments0.l3 b1 x17 x18 x21 x23 x24 kq3 x32 x33 x34 (W .i64 (x31 + 1))) = some y6) ?_ ?_
        ·rintro _ I12 nx13 _ _ ⟨x32, x33, x34, rfl, rfl, rfl, hi12, hz28, hz29, H⟩
         replace H : (assign_solution_augments0.l3 b1 x17 x18 x21 x23 x24 kq3 x32 x33 x34 (W .i64 (x31 + 1))) = some y6 := H
         refine QN.then_ ?_
         refine OK.rg ?_
         refine RL.s 2 [(61, i6 (W .i64 (x31 + 1))), (1, pt gb1 0), (2, i6 a2), (3, pt nx0 0), (6, pt (nx0 + 1) 0), (7, pt (nx0 + 2) 0), (8, pt (nx0 + 3) 0), (11, pt (nx2 + 1) 0), (12, i6 x23), (13, i6 x24), (14, i6 x34)] ?_
         refine RL.nil (by kernel_rfl) ?_
         exact QN.sb (hJ9 _ _ _ _ _ ⟨x32, x33, x34, W .i64 (x31 + 1), rfl, rfl, rfl, (Imm.le_trans hi11 hi12), hz28, hz29, H⟩) (.cons_cons _ (.cons_cons _ (.cons_cons _ (.cons_cons _ (.cons_cons _ (.cons_cons _ (.cons_cons _ .slnil))))))) (.refl _)
        ·intro Q_5 hJ10 hQ10
         obtain ⟨y7, H, HK7⟩ := bnd H
         refine OK.bk 7 ?_
         refine OK.sr ?_
         refine RL.st 2 [(15, i6 x31), (1, pt gb1 0), (2, i6 a2), (3, pt nx0 0), (6, pt (nx0 + 1) 0), (7, pt (nx0 + 2) 0), (8, pt (nx0 + 3) 0), (11, pt (nx2 + 1) 0), (12, i6 x23), (13, i6 x24), (14, i6 x30), (61, i6 x31)] ?_
         refine OK.sq ?_
         refine OK.sr ?_
         refine RL.s 1 [(64, i6 x31), (15, i6 x31), (1, pt gb1 0), (2, i6 a2), (3, pt nx0 0), (6, pt (nx0 + 1) 0), (7, pt (nx0 + 2) 0), (8, pt (nx0 + 3) 0), (11, pt (nx2 + 1) 0), (12, i6 x23), (13, i6 x24), (14, i6 x30), (61, i6 x31)] ?_
         obtain ⟨hib0, H⟩ := ifs H
         obtain ⟨hib1, H⟩ := ifs H
         have ha08 := hib0; have ha18 := hib1
         refine RL.idxArr (T := 104) (e := 4) 1 .i64 x31 (nx0 + 3) (0) 12 (some 65) (by kernel_rfl) (by kernel_rfl) (by kernel_rfl) (by kernel_rfl) hib0 hib1 (K' := [(65, pt (nx0 + 3) (0 + (x31).toNat * 1)), (64, i6 x31), (15, i6 x31), (1, pt gb1 0), (2, i6 a2), (3, pt nx0 0), (6, pt (nx0 + 1) 0), (7, pt (nx0 + 2) 0), (8, pt (nx0 + 3) 0), (11, pt (nx2 + 1) 0), (12, i6 x23), (13, i6 x24), (14, i6 x30), (61, i6 x31)]) (by kernel_rfl) ?_
         refine RL.ldA (g := nx0 + 3) (ty := 104) (cs := arrV Value.bool false 12 x21) Value.bool false 12 x21 [] [] 0 ((x31).toNat) 5 (by kernel_rfl) (by kernel_rfl) (by kernel_rfl) (by omega) (0 + (x31).toNat * 1) (by omega) (some 66) (by kernel_rfl) (by kernel_rfl) (by kernel_rfl) (K' := [(66, .bool (x21.getD ((x31).toNat) false)), (65, pt (nx0 + 3) (0 + (x31).toNat * 1)), (64, i6 x31), (15, i6 x31), (1, pt gb1 0), (2, i6 a2), (3, pt nx0 0), (6, pt (nx0 + 1) 0), (7, pt (nx0 + 2) 0), (8, pt (nx0 + 3) 0), (11, pt (nx2 + 1) 0), (12, i6 x23), (13, i6 x24), (14, i6 x30), (61, i6 x31)]) (by kernel_rfl) ?_
         refine RL.nil (by kernel_rfl) ?_
         refine QN.sub (K' := [(66, .bool (x21.getD ((x31).toNat) false)), (15, i6 x31), (1, pt gb1 0), (2, i6 a2), (3, pt nx0 0), (6, pt (nx0 + 1) 0), (7, pt (nx0 + 2) 0), (8, pt (nx0 + 3) 0), (11, pt (nx2 + 1) 0), (12, i6 x23), (13, i6 x24), (14, i6 x30), (61, i6 x31)]) (L' := [⟨gb0, ((arrV (Value.int .i64) 0 12 x16) ++ ((arrV (Value.int .i64) 0 12 x17) ++ (arrV (Value.int .i64) 0 12 x18))), 89⟩, ⟨gb1, arrV (Value.int .i64) 0 144 b1, 85⟩, ⟨nx0, [pt gb0 0], 95⟩, ⟨nx0 + 1, arrV (Value.int .i64) 0 12 x28, 83⟩, ⟨nx0 + 2, arrV (Value.int .i64) 0 12 x29, 87⟩, ⟨nx0 + 3, arrV Value.bool false 12 x21, 104⟩, ⟨nx2 + 1, [.slice A2 x22.length c2], 26⟩]) (by kernel_rfl) (.cons_cons _ (.cons_cons _ (.cons_cons _ (.cons_cons _ (.cons_cons _ (.cons_cons _ (.cons_cons _ .slnil))))))) (.refl _) ?_
         refine QN.then_ ?_
         refine OK.cd (x21.getD ((x31).toNat) false) (fun hb => ?_) (fun hb => ?_)
         ·skip
          have hc := hb
          rw [if_pos hc] at H
          clear hb
          refine OK.ex 7 ?_
          refine QN.thenE ?_
          refine QN.blkE ?_
          obtain rfl := Option.some.inj H
          exact QN.sb (hJ10 _ _ _ _ _ ⟨x28, x29, x30, rfl, rfl, rfl, (Imm.le_refl _), hz26, hz27, HK7⟩) (.cons_cons _ (.cons_cons _ (.cons_cons _ (.cons_cons _ (.cons_cons _ (.cons_cons _ (.cons_cons _ .slnil))))))) (.refl _)
         ·skip
          have hc := (Bool.eq_false_iff.1 hb)
          rw [if_neg hc] at H
          clear hb
          refine OK.skt ?_
          refine OK.sq ?_
          refine OK.sq ?_
          obtain ⟨hi0_2, H⟩ := ifs H
          obtain ⟨hi1_2, H⟩ := ifs H
          obtain ⟨hi0_3, H⟩ := ifs H
          obtain ⟨hi1_3, H⟩ := ifs H
          obtain ⟨hi0_4, H⟩ := ifs H
          obtain ⟨hi1_4, H⟩ := ifs H
          obtain ⟨hi0_5, H⟩ := ifs H
          obtain ⟨hi1_5, H⟩ := ifs H
          refine OK.drawnC 21 20 O55s0_99 a55s0_99n (by kernel_rfl) (by kernel_rfl) u55d2l (u55d2g gb0 gb1 x24 x31) [(⟨gb0, 12 + (x24).toNat * 1, none⟩, i6 (x17.getD ((x24).toNat) 0)), (⟨gb0, 24 + (x31).toNat * 1, none⟩, i6 (x18.getD ((x31).toNat) 0)), (⟨gb1, 0 + (x24).toNat * 12 + (x31).toNat * 1, none⟩, i6 (b1.getD ((x24).toNat * 12 + (x31).toNat) 0))] (RI.arr (g := gb0) (ty := 89) (cs := ((arrV (Value.int .i64) 0 12 x16) ++ ((arrV (Value.int .i64) 0 12 x17) ++ (arrV (Value.int .i64) 0 12 x18)))) (Value.int .i64) 0 12 x17 (arrV (Value.int .i64) 0 12 x16) (arrV (Value.int .i64) 0 12 x18) 12 ((x24).toNat) 0 (by kernel_rfl) (by kernel_rfl) (by kernel_rfl) (by omega) (12 + (x24).toNat * 1) (by omega) (RI.arr (g := gb0) (ty := 89) (cs := ((arrV (Value.int .i64) 0 12 x16) ++ ((arrV (Value.int .i64) 0 12 x17) ++ (arrV (Value.int .i64) 0 12 x18)))) (Value.int .i64) 0 12 x18 ((arrV (Value.int .i64) 0 12 x16) ++ (arrV (Value.int .i64) 0 12 x17)) [] 24 ((x31).toNat) 0 (by kernel_rfl) (by kernel_rfl) (by kernel_rfl) (by omega) (24 + (x31).toNat * 1) (by omega) (RI.arr (g := gb1) (ty := 85) (cs := arrV (Value.int .i64) 0 144 b1) (Value.int .i64) 0 144 b1 [] [] 0 ((x24).toNat * 12 + (x31).toNat) 1 (by kernel_rfl) (by kernel_rfl) (by kernel_rfl) (by omega) (0 + (x24).toNat * 12 + (x31).toNat * 1) (by omega) (RI.nil _)))) [.l 2, .no, .no, .no, .no, .r 0, .l 2, .no, .no, .no, .no, .r 1, .no, .no, .no, .no, .no, .no, .no, .r 2] a55s0_99 a55s0_99o (by kernel_rfl) (by kernel_rfl) (u55d2s gb0 gb1 b1 x17 x18 x24 x31) (u55d2f nx0 gb0 gb1 a2 b1 nx2 x17 x18 x21 x23 x24 x30 x31 20) (u55d2v nx0 gb0 gb1 a2 b1 nx2 x16 x17 x18 x21 x22 A2 c2 x23 x24 x28 x29 x30 x31) (u55d2e nx0 gb0 gb1 a2 b1 nx2 x16 x17 x18 x21 x22 A2 c2 x23 x24 x28 x29 x30 x31) [] framesOk.nil ?_ [u55d2f nx0 gb0 gb1 a2 b1 nx2 x17 x18 x21 x23 x24 x30 x31 4, u55d2f nx0 gb0 gb1 a2 b1 nx2 x17 x18 x21 x23 x24 x30 x31 10, u55d2f nx0 gb0 gb1 a2 b1 nx2 x17 x18 x21 x23 x24 x30 x31 17, u55d2f nx0 gb0 gb1 a2 b1 nx2 x17 x18 x21 x23 x24 x30 x31 18] (framesOk.cons (fun u => rfl) (framesOk.cons (fun u => rfl) (framesOk.cons (fun u => rfl) (framesOk.cons (fun u => rfl) framesOk.nil)))) ?_ ?_
          ·refine LoudsG.nil
          ·refine Givens.cons (fun u w =>  ?_) (fun _ _ _ => rfl) (Givens.cons (fun u w =>  ?_) (fun _ _ _ => rfl) (Givens.cons (fun u w =>  ?_) (fun _ _ _ => rfl) (Givens.cons (fun u w =>  ?_) (fun _ _ _ => rfl) (Givens.nil))))
           ·exact giv_idxArr (T := 83) (e := 2) 1 .i64 x24 gb0 (12) 12 (by kernel_rfl) (by kernel_rfl) (by kernel_rfl) hi0_2 hi1_2 w
           ·exact giv_idxArr (T := 83) (e := 2) 1 .i64 x31 gb0 (24) 12 (by kernel_rfl) (by kernel_rfl) (by kernel_rfl) hi0_3 hi1_3 w
           ·exact giv_idxArr (T := 85) (e := 83) 12 .i64 x24 gb1 (0) 12 (by kernel_rfl) (by kernel_rfl) (by kernel_rfl) hi0_4 hi1_4 w
           ·exact giv_idxArr (T := 83) (e := 2) 1 .i64 x31 gb1 (0 + (x24).toNat * 12) 12 (by kernel_rfl) (by kernel_rfl) (by kernel_rfl) hi0_5 hi1_5 w
          intro u I13 nx14 hi13 hF
          clear hF
          refine RL.norm (K' := ((86, i6 (b1.getD ((x24).toNat * 12 + (x31).toNat) 0)) :: (85, pt gb1 (0 + (x24).toNat * 12 + (x31).toNat * 1)) :: (84, pt gb1 (0 + (x24).toNat * 12)) :: (83, pt gb1 0) :: (82, i6 x31) :: (81, i6 x24) :: (80, pt gb1 0) :: (79, i6 (W .i64 ((x17.getD ((x24).toNat) 0) + (x18.getD ((x31).toNat) 0)))) :: (78, i6 (x18.getD ((x31).toNat) 0)) :: (77, pt gb0 (24 + (x31).toNat * 1)) :: (76, pt gb0 24) :: (75, pt gb0 0) :: (74, i6 x31) :: (73, pt gb0 0) :: (72, i6 (x17.getD ((x24).toNat) 0)) :: (71, pt gb0 (12 + (x24).toNat * 1)) :: (70, pt gb0 12) :: (69, pt gb0 0) :: (68, i6 x24) :: (67, pt gb0 0) :: (66, .bool (x21.getD ((x31).toNat) false)) :: (15, i6 x31) :: (1, pt gb1 0) :: (2, i6 a2) :: (3, pt nx0 0) :: (6, pt (nx0 + 1) 0) :: (7, pt (nx0 + 2) 0) :: (8, pt (nx0 + 3) 0) :: (11, pt (nx2 + 1) 0) :: (12, i6 x23) :: (13, i6 x24) :: (14, i6 x30) :: (61, i6 x31) :: [])) (X' := [orow 3 1 A2 x22.length c2 cs2]) (by kernel_rfl) rfl rfl rfl ?_
          refine RL.st 2 [(16, i6 (W .i64 ((W .i64 ((x17.getD ((x24).toNat) 0) + (x18.getD ((x31).toNat) 0))) - (b1.getD ((x24).toNat * 12 + (x31).toNat) 0)))), (15, i6 x31), (1, pt gb1 0), (2, i6 a2), (3, pt nx0 0), (6, pt (nx0 + 1) 0), (7, pt (nx0 + 2) 0), (8, pt (nx0 + 3) 0), (11, pt (nx2 + 1) 0), (12, i6 x23), (13, i6 x24), (14, i6 x30), (61, i6 x31)] ?_
          refine OK.sr ?_
          refine RL.s 2 [(89, i6 x31), (88, i6 (W .i64 ((W .i64 ((x17.getD ((x24).toNat) 0) + (x18.getD ((x31).toNat) 0))) - (b1.getD ((x24).toNat * 12 + (x31).toNat) 0)))), (16, i6 (W .i64 ((W .i64 ((x17.getD ((x24).toNat) 0) + (x18.getD ((x31).toNat) 0))) - (b1.getD ((x24).toNat * 12 + (x31).toNat) 0)))), (15, i6 x31), (1, pt gb1 0), (2, i6 a2), (3, pt nx0 0), (6, pt (nx0 + 1) 0), (7, pt (nx0 + 2) 0), (8, pt (nx0 + 3) 0), (11, pt (nx2 + 1) 0), (12, i6 x23), (13, i6 x24), (14, i6 x30), (61, i6 x31)] ?_
          obtain ⟨hib0, H⟩ := ifs H
          obtain ⟨hib1, H⟩ := ifs H
          have ha09 := hib0; have ha19 := hib1
          refine RL.idxArr (T := 83) (e := 2) 1 .i64 x31 (nx0 + 1) (0) 12 (some 90) (by kernel_rfl) (by kernel_rfl) (by kernel_rfl) (by kernel_rfl) hib0 hib1 (K' := [(90, pt (nx0 + 1) (0 + (x31).toNat * 1)), (89, i6 x31), (88, i6 (W .i64 ((W .i64 ((x17.getD ((x24).toNat) 0) + (x18.getD ((x31).toNat) 0))) - (b1.getD ((x24).toNat * 12 + (x31).toNat) 0)))), (16, i6 (W .i64 ((W .i64 ((x17.getD ((x24).toNat) 0) + (x18.getD ((x31).toNat) 0))) - (b1.getD ((x24).toNat * 12 + (x31).toNat) 0)))), (15, i6 x31), (1, pt gb1 0), (2, i6 a2), (3, pt nx0 0), (6, pt (nx0 + 1) 0), (7, pt (nx0 + 2) 0), (8, pt (nx0 + 3) 0), (11, pt (nx2 + 1) 0), (12, i6 x23), (13, i6 x24), (14, i6 x30), (61, i6 x31)]) (by kernel_rfl) ?_
          refine RL.ldA (g := nx0 + 1) (ty := 83) (cs := arrV (Value.int .i64) 0 12 x28) (Value.int .i64) 0 12 x28 [] [] 0 ((x31).toNat) 3 (by kernel_rfl) (by kernel_rfl) (by kernel_rfl) (by omega) (0 + (x31).toNat * 1) (by omega) (some 91) (by kernel_rfl) (by kernel_rfl) (by kernel_rfl) (K' := [(91, i6 (x28.getD ((x31).toNat) 0)), (90, pt (nx0 + 1) (0 + (x31).toNat * 1)), (89, i6 x31), (88, i6 (W .i64 ((W .i64 ((x17.getD ((x24).toNat) 0) + (x18.getD ((x31).toNat) 0))) - (b1.getD ((x24).toNat * 12 + (x31).toNat) 0)))), (16, i6 (W .i64 ((W .i64 ((x17.getD ((x24).toNat) 0) + (x18.getD ((x31).toNat) 0))) - (b1.getD ((x24).toNat * 12 + (x31).toNat) 0)))), (15, i6 x31), (1, pt gb1 0), (2, i6 a2), (3, pt nx0 0), (6, pt (nx0 + 1) 0), (7, pt (nx0 + 2) 0), (8, pt (nx0 + 3) 0), (11, pt (nx2 + 1) 0), (12, i6 x23), (13, i6 x24), (14, i6 x30), (61, i6 x31)]) (by kernel_rfl) ?_
          refine RL.st 1 [(92, .bool (decide ((W .i64 ((W .i64 ((x17.getD ((x24).toNat) 0) + (x18.getD ((x31).toNat) 0))) - (b1.getD ((x24).toNat * 12 + (x31).toNat) 0))) < (x28.getD ((x31).toNat) 0)))), (16, i6 (W .i64 ((W .i64 ((x17.getD ((x24).toNat) 0) + (x18.getD ((x31).toNat) 0))) - (b1.getD ((x24).toNat * 12 + (x31).toNat) 0)))), (15, i6 x31), (1, pt gb1 0), (2, i6 a2), (3, pt nx0 0), (6, pt (nx0 + 1) 0), (7, pt (nx0 + 2) 0), (8, pt (nx0 + 3) 0), (11, pt (nx2 + 1) 0), (12, i6 x23), (13, i6 x24), (14, i6 x30), (61, i6 x31)] ?_
          refine OK.join (fun K' I' _ L' X' => ∃ (x35 : List Int) (x36 : List Int), K' = [(1, pt gb1 0), (2, i6 a2), (3, pt nx0 0), (6, pt (nx0 + 1) 0), (7, pt (nx0 + 2) 0), (8, pt (nx0 + 3) 0), (11, pt (nx2 + 1) 0), (12, i6 x23), (13, i6 x24), (14, i6 x30), (15, i6 x31), (61, i6 x31)] ∧ L' = [⟨gb0, ((arrV (Value.int .i64) 0 12 x16) ++ ((arrV (Value.int .i64) 0 12 x17) ++ (arrV (Value.int .i64) 0 12 x18))), 89⟩, ⟨gb1, arrV (Value.int .i64) 0 144 b1, 85⟩, ⟨nx0, [pt gb0 0], 95⟩, ⟨nx0 + 1, arrV (Value.int .i64) 0 12 x35, 83⟩, ⟨nx0 + 2, arrV (Value.int .i64) 0 12 x36, 87⟩, ⟨nx0 + 3, arrV Value.bool false 12 x21, 104⟩, ⟨nx2 + 1, [.slice A2 x22.length c2], 26⟩] ∧ X' = [orow 3 1 A2 x22.length c2 cs2] ∧ Imm.le I13 I' ∧ 12 ≤ x35.length ∧ 12 ≤ x36.length ∧ assign_solution_augments0.k8 x30 x31 (x35, x36) = some y7) ?_ ?_
          ·rintro _ I14 nx15 _ _ ⟨x35, x36, rfl, rfl, rfl, hi14, hz30, hz31, H⟩
           rw [assign_solution_augments0.k8] at H
           refine QN.then_ ?_
           refine OK.sq ?_
           refine OK.join (fun K' I' _ L' X' => ∃ (x37 : Bool), K' = [(1, pt gb1 0), (2, i6 a2), (3, pt nx0 0), (6, pt (nx0 + 1) 0), (7, pt (nx0 + 2) 0), (8, pt (nx0 + 3) 0), (11, pt (nx2 + 1) 0), (12, i6 x23), (13, i6 x24), (14, i6 x30), (15, i6 x31), (61, i6 x31), (109, .bool x37)] ∧ L' = [⟨gb0, ((arrV (Value.int .i64) 0 12 x16) ++ ((arrV (Value.int .i64) 0 12 x17) ++ (arrV (Value.int .i64) 0 12 x18))), 89⟩, ⟨gb1, arrV (Value.int .i64) 0 144 b1, 85⟩, ⟨nx0, [pt gb0 0], 95⟩, ⟨nx0 + 1, arrV (Value.int .i64) 0 12 x35, 83⟩, ⟨nx0 + 2, arrV (Value.int .i64) 0 12 x36, 87⟩, ⟨nx0 + 3, arrV Value.bool false 12 x21, 104⟩, ⟨nx2 + 1, [.slice A2 x22.length c2], 26⟩] ∧ X' = [orow 3 1 A2 x22.length c2 cs2] ∧ Imm.le I14 I' ∧ assign_solution_augments0.k7 x30 x31 x35 x36 x37 = some y7) ?_ ?_
           ·rintro _ I15 nx16 _ _ ⟨x37, rfl, rfl, rfl, hi15, H⟩
            rw [assign_solution_augments0.k7] at H
            refine QN.then_ ?_
            refine OK.join (fun K' I' _ L' X' => ∃ (x38 : Int), K' = [(1, pt gb1 0), (2, i6 a2), (3, pt nx0 0), (6, pt (nx0 + 1) 0), (7, pt (nx0 + 2) 0), (8, pt (nx0 + 3) 0), (11, pt (nx2 + 1) 0), (12, i6 x23), (13, i6 x24), (14, i6 x38), (61, i6 x31)] ∧ L' = [⟨gb0, ((arrV (Value.int .i64) 0 12 x16) ++ ((arrV (Value.int .i64) 0 12 x17) ++ (arrV (Value.int .i64) 0 12 x18))), 89⟩, ⟨gb1, arrV (Value.int .i64) 0 144 b1, 85⟩, ⟨nx0, [pt gb0 0], 95⟩, ⟨nx0 + 1, arrV (Value.int .i64) 0 12 x35, 83⟩, ⟨nx0 + 2, arrV (Value.int .i64) 0 12 x36, 87⟩, ⟨nx0 + 3, arrV Value.bool false 12 x21, 104⟩, ⟨nx2 + 1, [.slice A2 x22.length c2], 26⟩] ∧ X' = [orow 3 1 A2 x22.length c2 cs2] ∧ Imm.le I15 I' ∧ assign_solution_augments0.k6 x35 x36 x38 = some y7) ?_ ?_
            ·rintro _ I16 nx17 _ _ ⟨x38, rfl, rfl, rfl, hi16, H⟩
             rw [assign_solution_augments0.k6] at H
             refine QN.blkN ?_
             obtain rfl := Option.some.inj H
             exact QN.sb (hJ10 _ _ _ _ _ ⟨x35, x36, x38, rfl, rfl, rfl, (Imm.le_trans (Imm.le_trans (Imm.le_trans hi13 hi14) hi15) hi16), hz30, hz31, HK7⟩) (.cons_cons _ (.cons_cons _ (.cons_cons _ (.cons_cons _ (.cons_cons _ (.cons_cons _ (.cons_cons _ .slnil))))))) (.refl _)
            ·intro Q_6 hJ13 hQ13
             obtain ⟨y10, H, HK10⟩ := bnd H
             refine OK.cd x37 (fun hb => ?_) (fun hb => ?_)
             ·skip
              have hc := hb
              rw [if_pos hc] at H
              clear hb
              refine OK.rg ?_
              refine RL.s 2 [(14, i6 x31), (1, pt gb1 0), (2, i6 a2), (3, pt nx0 0), (6, pt (nx0 + 1) 0), (7, pt (nx0 + 2) 0), (8, pt (nx0 + 3) 0), (11, pt (nx2 + 1) 0), (12, i6 x23), (13, i6 x24), (61, i6 x31)] ?_
              refine RL.nil (by kernel_rfl) ?_
              obtain rfl := Option.some.inj H
              exact QN.sb (hJ13 _ _ _ _ _ ⟨x31, rfl, rfl, rfl, (Imm.le_refl _), HK10⟩) (.cons_cons _ (.cons_cons _ (.cons_cons _ (.cons_cons _ (.cons_cons _ (.cons_cons _ (.cons_cons _ .slnil))))))) (.refl _)
             ·skip
              have hc := (Bool.eq_false_iff.1 hb)
              rw [if_neg hc] at H
              clear hb
              refine OK.sk ?_
              obtain rfl := Option.some.inj H
              exact QN.sb (hJ13 _ _ _ _ _ ⟨x30, rfl, rfl, rfl, (Imm.le_refl _), HK10⟩) (.cons_cons _ (.cons_cons _ (.cons_cons _ (.cons_cons _ (.cons_cons _ (.cons_cons _ (.cons_cons _ .slnil))))))) (.refl _)
           ·intro Q_7 hJ12 hQ12
            obtain ⟨y9, H, HK9⟩ := bnd H
            refine OK.cases (x30 == (-1)) (fun hb1 => ?_) (fun hb1 => ?_)
            ·have hc1 := (beq_iff_eq.1 hb1)
             rw [if_pos hc1] at H
             refine OK.drawnC 24 9 O55s0_109 a55s0_109n (by kernel_rfl) (by kernel_rfl) u55d3l u55d3g [] (RI.nil _) [.no, .no, .no, .no, .no, .no, .no, .no, .no] a55s0_109 a55s0_109o (by kernel_rfl) (by kernel_rfl) (u55d3s x30) (u55d3f nx0 gb1 a2 nx2 x23 x24 x30 x31 9) (u55d3v nx0 gb0 gb1 a2 b1 nx2 x16 x17 x18 x21 x22 A2 c2 x23 x24 x30 x31 x35 x36) (u55d3e nx0 gb0 gb1 a2 b1 nx2 x16 x17 x18 x21 x22 A2 c2 x23 x24 x30 x31 x35 x36) [] framesOk.nil ?_ [u55d3f nx0 gb1 a2 nx2 x23 x24 x30 x31 2] (framesOk.cons (fun u => rfl) framesOk.nil) ?_ ?_
             ·refine LoudsG.nil
             ·refine Givens.cons (fun u w =>  ?_) (fun _ _ _ => rfl) (Givens.nil)
              ·exact giv_run (v := .bool (x30 == (-1))) (by kernel_rfl) (by rw [hb1]; try rfl) w
             intro u I17 nx18 hi17 hF
             clear hF
             refine RL.norm (K' := [(107, undef), (106, undef), (105, undef), (104, undef), (103, undef), (102, undef), (101, .bool true), (100, .bool (x30 == (-1))), (99, i6 x30), (1, pt gb1 0), (2, i6 a2), (3, pt nx0 0), (6, pt (nx0 + 1) 0), (7, pt (nx0 + 2) 0), (8, pt (nx0 + 3) 0), (11, pt (nx2 + 1) 0), (12, i6 x23), (13, i6 x24), (14, i6 x30), (15, i6 x31), (61, i6 x31)]) (X' := [orow 3 1 A2 x22.length c2 cs2]) (by kernel_rfl) rfl rfl rfl ?_
             refine RL.s 2 [(109, .bool true), (1, pt gb1 0), (2, i6 a2), (3, pt nx0 0), (6, pt (nx0 + 1) 0), (7, pt (nx0 + 2) 0), (8, pt (nx0 + 3) 0), (11, pt (nx2 + 1) 0), (12, i6 x23), (13, i6 x24), (14, i6 x30), (15, i6 x31), (61, i6 x31)] ?_
             refine RL.nil (by kernel_rfl) ?_
             obtain rfl := Option.some.inj H
             exact QN.sb (hJ12 _ _ _ _ _ ⟨true, rfl, rfl, rfl, hi17, HK9⟩) (.cons_cons _ (.cons_cons _ (.cons_cons _ (.cons_cons _ (.cons_cons _ (.cons_cons _ (.cons_cons _ .slnil))))))) (.refl _)
            ·have hc1 := (beq_eq_false_iff_ne.1 hb1)
             rw [if_neg hc1] at H
             obtain ⟨hi0_6, H⟩ := ifs H
             obtain ⟨hi1_6, H⟩ := ifs H
             obtain ⟨hi0_7, H⟩ := ifs H
             obtain ⟨hi1_7, H⟩ := ifs H
             refine OK.drawnC 24 9 O55s0_109 a55s0_109n (by kernel_rfl) (by kernel_rfl) u55d4l (u55d4g nx0 x30 x31) [(⟨nx0 + 1, 0 + (x31).toNat * 1, none⟩, i6 (x35.getD ((x31).toNat) 0)), (⟨nx0 + 1, 0 + (x30).toNat * 1, none⟩, i6 (x35.getD ((x30).toNat) 0))] (RI.arr (g := nx0 + 1) (ty := 83) (cs := arrV (Value.int .i64) 0 12 x35) (Value.int .i64) 0 12 x35 [] [] 0 ((x31).toNat) 3 (by kernel_rfl) (by kernel_rfl) (by kernel_rfl) (by omega) (0 + (x31).toNat * 1) (by omega) (RI.arr (g := nx0 + 1) (ty := 83) (cs := arrV (Value.int .i64) 0 12 x35) (Value.int .i64) 0 12 x35 [] [] 0 ((x30).toNat) 3 (by kernel_rfl) (by kernel_rfl) (by kernel_rfl) (by omega) (0 + (x30).toNat * 1) (by omega) (RI.nil _))) [.no, .no, .no, .no, .no, .r 0, .no, .no, .r 1] a55s0_109 a55s0_109o (by kernel_rfl) (by kernel_rfl) (u55d4s nx0 x30 x31 x35) (u55d4f nx0 gb1 a2 nx2 x23 x24 x30 x31 x35 9) (u55d4v nx0 gb0 gb1 a2 b1 nx2 x16 x17 x18 x21 x22 A2 c2 x23 x24 x30 x31 x35 x36) (u55d4e nx0 gb0 gb1 a2 b1 nx2 x16 x17 x18 x21 x22 A2 c2 x23 x24 x30 x31 x35 x36) [] framesOk.nil ?_ [u55d4f nx0 gb1 a2 nx2 x23 x24 x30 x31 x35 2, u55d4f nx0 gb1 a2 nx2 x23 x24 x30 x31 x35 4, u55d4f nx0 gb1 a2 nx2 x23 x24 x30 x31 x35 7] (framesOk.cons (fun u => rfl) (framesOk.cons (fun u => rfl) (framesOk.cons (fun u => rfl) framesOk.nil))) ?_ ?_
             ·refine LoudsG.nil
             ·refine Givens.cons (fun u w =>  ?_) (fun _ _ _ => rfl) (Givens.cons (fun u w =>  ?_) (fun _ _ _ => rfl) (Givens.cons (fun u w =>  ?_) (fun _ _ _ => rfl) (Givens.nil)))
              ·exact giv_run (v := .bool (x30 == (-1))) (by kernel_rfl) (by rw [hb1]; try rfl) w
              ·exact giv_idxArr (T := 83) (e := 2) 1 .i64 x31 (nx0 + 1) (0) 12 (by kernel_rfl) (by kernel_rfl) (by kernel_rfl) hi0_6 hi1_6 w
              ·exact giv_idxArr (T := 83) (e := 2) 1 .i64 x30 (nx0 + 1) (0) 12 (by kernel_rfl) (by kernel_rfl) (by kernel_rfl) hi0_7 hi1_7 w
             intro u I18 nx19 hi18 hF
             clear hF
             refine RL.norm (K' := [(107, i6 (x35.getD ((x30).toNat) 0)), (106, pt (nx0 + 1) (0 + (x30).toNat * 1)), (105, i6 x30), (104, i6 (x35.getD ((x31).toNat) 0)), (103, pt (nx0 + 1) (0 + (x31).toNat * 1)), (102, i6 x31), (101, .bool false), (100, .bool (x30 == (-1))), (99, i6 x30), (1, pt gb1 0), (2, i6 a2), (3, pt nx0 0), (6, pt (nx0 + 1) 0), (7, pt (nx0 + 2) 0), (8, pt (nx0 + 3) 0), (11, pt (nx2 + 1) 0), (12, i6 x23), (13, i6 x24), (14, i6 x30), (15, i6 x31), (61, i6 x31)]) (X' := [orow 3 1 A2 x22.length c2 cs2]) (by kernel_rfl) rfl rfl rfl ?_
             refine RL.s 2 [(109, .bool (decide ((x35.getD ((x31).toNat) 0) < (x35.getD ((x30).toNat) 0)))), (1, pt gb1 0), (2, i6 a2), (3, pt nx0 0), (6, pt (nx0 + 1) 0), (7, pt (nx0 + 2) 0), (8, pt (nx0 + 3) 0), (11, pt (nx2 + 1) 0), (12, i6 x23), (13, i6 x24), (14, i6 x30), (15, i6 x31), (61, i6 x31)] ?_
             refine RL.nil (by kernel_rfl) ?_
             obtain rfl := Option.some.inj H
             exact QN.sb (hJ12 _ _ _ _ _ ⟨(decide ((x35.getD ((x31).toNat) 0) < (x35.getD ((x30).toNat) 0))), rfl, rfl, rfl, hi18, HK9⟩) (.cons_cons _ (.cons_cons _ (.cons_cons _ (.cons_cons _ (.cons_cons _ (.cons_cons _ (.cons_cons _ .slnil))))))) (.refl _)
          ·intro Q_8 hJ11 hQ11
           obtain ⟨y8, H, HK8⟩ := bnd H
           refine OK.cd (decide ((W .i64 ((W .i64 ((x17.getD ((x24).toNat) 0) + (x18.getD ((x31).toNat) 0))) - (b1.getD ((x24).toNat * 12 + (x31).toNat) 0))) < (x28.getD ((x31).toNat) 0))) (fun hb => ?_) (fun hb => ?_)
           ·skip
            have hc := (of_decide_eq_true hb)
            rw [if_pos hc] at H
            clear hb
            refine OK.rg ?_
            refine RL.s 4 [(96, i6 x23), (95, i6 (W .i64 ((W .i64 ((x17.getD ((x24).toNat) 0) + (x18.getD ((x31).toNat) 0))) - (b1.getD ((x24).toNat * 12 + (x31).toNat) 0)))), (94, i6 x31), (93, i6 x31), (15, i6 x31), (1, pt gb1 0), (2, i6 a2), (3, pt nx0 0), (6, pt (nx0 + 1) 0), (7, pt (nx0 + 2) 0), (8, pt (nx0 + 3) 0), (11, pt (nx2 + 1) 0), (12, i6 x23), (13, i6 x24), (14, i6 x30), (61, i6 x31)] ?_
            obtain ⟨hib0, H⟩ := ifs H
            obtain ⟨hib1, H⟩ := ifs H
            have ha010 := hib0; have ha110 := hib1
            refine RL.idxArr (T := 83) (e := 2) 1 .i64 x31 (nx0 + 1) (0) 12 (some 97) (by kernel_rfl) (by kernel_rfl) (by kernel_rfl) (by kernel_rfl) hib0 hib1 (K' := [(97, pt (nx0 + 1) (0 + (x31).toNat * 1)), (96, i6 x23), (95, i6 (W .i64 ((W .i64 ((x17.getD ((x24).toNat) 0) + (x18.getD ((x31).toNat) 0))) - (b1.getD ((x24).toNat * 12 + (x31).toNat) 0)))), (94, i6 x31), (93, i6 x31), (15, i6 x31), (1, pt gb1 0), (2, i6 a2), (3, pt nx0 0), (6, pt (nx0 + 1) 0), (7, pt (nx0 + 2) 0), (8, pt (nx0 + 3) 0), (11, pt (nx2 + 1) 0), (12, i6 x23), (13, i6 x24), (14, i6 x30), (61, i6 x31)]) (by kernel_rfl) ?_
            refine RL.stA (g := nx0 + 1) (ty := 83) (cs := arrV (Value.int .i64) 0 12 x28) (Value.int .i64) 0 12 x28 (W .i64 ((W .i64 ((x17.getD ((x24).toNat) 0) + (x18.getD ((x31).toNat) 0))) - (b1.getD ((x24).toNat * 12 + (x31).toNat) 0))) [] [] 0 ((x31).toNat) 3 (by kernel_rfl) (by kernel_rfl) (by kernel_rfl) (by omega) hz26 (0 + (x31).toNat * 1) (by omega) 2 (by kernel_rfl) (by kernel_rfl) (by kernel_rfl) (by rfl) (fun _ h => by cases h) (fun _ h => by cases h) (cs' := arrV (Value.int .i64) 0 12 (x28.set ((x31).toNat) (W .i64 ((W .i64 ((x17.getD ((x24).toNat) 0) + (x18.getD ((x31).toNat) 0))) - (b1.getD ((x24).toNat * 12 + (x31).toNat) 0))))) (by kernel_rfl) ?_
            obtain ⟨hib0, H⟩ := ifs H
            obtain ⟨hib1, H⟩ := ifs H
            have ha011 := hib0; have ha111 := hib1
            refine RL.idxArr (T := 87) (e := 3) 1 .i64 x31 (nx0 + 2) (0) 12 (some 98) (by kernel_rfl) (by kernel_rfl) (by kernel_rfl) (by kernel_rfl) hib0 hib1 (K' := [(98, pt (nx0 + 2) (0 + (x31).toNat * 1)), (97, pt (nx0 + 1) (0 + (x31).toNat * 1)), (96, i6 x23), (95, i6 (W .i64 ((W .i64 ((x17.getD ((x24).toNat) 0) + (x18.getD ((x31).toNat) 0))) - (b1.getD ((x24).toNat * 12 + (x31).toNat) 0)))), (94, i6 x31), (93, i6 x31), (15, i6 x31), (1, pt gb1 0), (2, i6 a2), (3, pt nx0 0), (6, pt (nx0 + 1) 0), (7, pt (nx0 + 2) 0), (8, pt (nx0 + 3) 0), (11, pt (nx2 + 1) 0), (12, i6 x23), (13, i6 x24), (14, i6 x30), (61, i6 x31)]) (by kernel_rfl) ?_
            refine RL.stA (g := nx0 + 2) (ty := 87) (cs := arrV (Value.int .i64) 0 12 x29) (Value.int .i64) 0 12 x29 x23 [] [] 0 ((x31).toNat) 4 (by kernel_rfl) (by kernel_rfl) (by kernel_rfl) (by omega) hz27 (0 + (x31).toNat * 1) (by omega) 3 (by kernel_rfl) (by kernel_rfl) (by kernel_rfl) (by rfl) (fun _ h => by cases h) (fun _ h => by cases h) (cs' := arrV (Value.int .i64) 0 12 (x29.set ((x31).toNat) x23)) (by kernel_rfl) ?_
            refine RL.nil (by kernel_rfl) ?_
            refine QN.sub (K' := [(15, i6 x31), (1, pt gb1 0), (2, i6 a2), (3, pt nx0 0), (6, pt (nx0 + 1) 0), (7, pt (nx0 + 2) 0), (8, pt (nx0 + 3) 0), (11, pt (nx2 + 1) 0), (12, i6 x23), (13, i6 x24), (14, i6 x30), (61, i6 x31)]) (L' := [⟨gb0, ((arrV (Value.int .i64) 0 12 x16) ++ ((arrV (Value.int .i64) 0 12 x17) ++ (arrV (Value.int .i64) 0 12 x18))), 89⟩, ⟨gb1, arrV (Value.int .i64) 0 144 b1, 85⟩, ⟨nx0, [pt gb0 0], 95⟩, ⟨nx0 + 1, arrV (Value.int .i64) 0 12 (x28.set ((x31).toNat) (W .i64 ((W .i64 ((x17.getD ((x24).toNat) 0) + (x18.getD ((x31).toNat) 0))) - (b1.getD ((x24).toNat * 12 + (x31).toNat) 0)))), 83⟩, ⟨nx0 + 2, arrV (Value.int .i64) 0 12 (x29.set ((x31).toNat) x23), 87⟩, ⟨nx0 + 3, arrV Value.bool false 12 x21, 104⟩, ⟨nx2 + 1, [.slice A2 x22.length c2], 26⟩]) (by kernel_rfl) (.cons_cons _ (.cons_cons _ (.cons_cons _ (.cons_cons _ (.cons_cons _ (.cons_cons _ (.cons_cons _ .slnil))))))) (.refl _) ?_
            obtain rfl := Option.some.inj H
            exact QN.sb (hJ11 _ _ _ _ _ ⟨(x28.set ((x31).toNat) (W .i64 ((W .i64 ((x17.getD ((x24).toNat) 0) + (x18.getD ((x31).toNat) 0))) - (b1.getD ((x24).toNat * 12 + (x31).toNat) 0)))), (x29.set ((x31).toNat) x23), rfl, rfl, rfl, (Imm.le_refl _), (le_set hz26), (le_set hz27), HK8⟩) (.cons_cons _ (.cons_cons _ (.cons_cons _ (.cons_cons _ (.cons_cons _ (.cons_cons _ (.cons_cons _ .slnil))))))) (.refl _)
           ·skip
            have hc := (of_decide_eq_false hb)
            rw [if_neg hc] at H
            clear hb
            refine OK.sk ?_
            obtain rfl := Option.some.inj H
            exact QN.sb (hJ11 _ _ _ _ _ ⟨x28, x29, rfl, rfl, rfl, (Imm.le_refl _), hz26, hz27, HK8⟩) (.cons_cons _ (.cons_cons _ (.cons_cons _ (.cons_cons _ (.cons_cons _ (.cons_cons _ (.cons_cons _ .slnil))))))) (.refl _)
       ·skip
        have hc := (of_decide_eq_false hb)
        rw [if_neg hc] at H
        clear hb
        refine OK.ex 6 ?_
        refine QN.thenE ?_
        refine QN.outE hQ9 ?_
        refine QN.blkE ?_
        obtain rfl := Option.some.inj H
        exact QN.sb (hJ8 _ _ _ _ _ ⟨x28, x29, x30, rfl, rfl, rfl, hi11, hz26, hz27, HK6⟩) (.cons_cons _ (.cons_cons _ (.cons_cons _ (.cons_cons _ (.cons_cons _ (.cons_cons _ (.cons_cons _ .slnil))))))) (.refl _)
  ·intro Q_9 hJ2 hQ2
   obtain ⟨y2, H, HK2⟩ := bnd H
   refine OK.bk 2 ?_
   refine OK.sub (K' := [(1, pt gb1 0), (2, i6 a2), (3, pt nx0 0), (6, pt (nx0 + 1) 0), (7, pt (nx0 + 2) 0), (8, pt (nx0 + 3) 0), (28, i6 0)]) (L' := [⟨gb0, ((arrV (Value.int .i64) 0 12 b0.f0) ++ ((arrV (Value.int .i64) 0 12 b0.f1) ++ (arrV (Value.int .i64) 0 12 b0.f2))), 89⟩, ⟨gb1, arrV (Value.int .i64) 0 144 b1, 85⟩, ⟨nx0, [pt gb0 0], 95⟩, ⟨nx0 + 1, arrV (Value.int .i64) 0 12 x1, 83⟩, ⟨nx0 + 2, arrV (Value.int .i64) 0 12 x2, 87⟩, ⟨nx0 + 3, arrV Value.bool false 12 (List.replicate 12 false), 104⟩]) (by kernel_rfl) (.cons_cons _ (.cons_cons _ (.cons_cons _ (.cons_cons _ (.cons_cons _ (.cons_cons _ .slnil)))))) (.refl _) ?_
   refine OK.lp (fun n_ K' I' _ L' X' => ∃ (x39 : List Int) (x40 : Int), K' = [(1, pt gb1 0), (2, i6 a2), (3, pt nx0 0), (6, pt (nx0 + 1) 0), (7, pt (nx0 + 2) 0), (8, pt (nx0 + 3) 0), (28, i6 x40)] ∧ L' = [⟨gb0, ((arrV (Value.int .i64) 0 12 b0.f0) ++ ((arrV (Value.int .i64) 0 12 x39) ++ (arrV (Value.int .i64) 0 12 b0.f2))), 89⟩, ⟨gb1, arrV (Value.int .i64) 0 144 b1, 85⟩, ⟨nx0, [pt gb0 0], 95⟩, ⟨nx0 + 1, arrV (Value.int .i64) 0 12 x1, 83⟩, ⟨nx0 + 2, arrV (Value.int .i64) 0 12 x2, 87⟩, ⟨nx0 + 3, arrV Value.bool false 12 (List.replicate 12 false), 104⟩] ∧ X' = [] ∧ Imm.le I1 I' ∧ 12 ≤ x39.length ∧ assign_solution_augments0.l4 a2 b0 b1 n_ x39 x40 = some y2) k ⟨b0.f1, 0, rfl, rfl, rfl, (Imm.le_refl _), hzb0_1, H⟩ ?_ ?_
   ·rintro _ _ _ _ _ ⟨x39, x40, rfl, rfl, rfl, _, hz32, H⟩
    cases H
   ·rintro kq4 _ I19 nx20 _ _ ⟨x39, x40, rfl, rfl, rfl, hi19, hz32, H⟩ Q_l4 hJ14 hQ14
    rw [assign_solution_augments0.l4] at H
    refine OK.sr ?_
    refine RL.st 1 [(29, .bool (decide (x40 < 12))), (1, pt gb1 0), (2, i6 a2), (3, pt nx0 0), (6, pt (nx0 + 1) 0), (7, pt (nx0 + 2) 0), (8, pt (nx0 + 3) 0), (28, i6 x40)] ?_
    refine OK.sq ?_
    refine OK.cd (decide (x40 < 12)) (fun hb => ?_) (fun hb => ?_)
    ·skip
     have hc := (of_decide_eq_true hb)
     rw [if_pos hc] at H
     clear hb
     refine OK.skt ?_
     refine OK.sq ?_
     refine OK.bk 3 ?_
     refine OK.sr ?_
     refine RL.st 2 [(10, i6 x40), (1, pt gb1 0), (2, i6 a2), (3, pt nx0 0), (6, pt (nx0 + 1) 0), (7, pt (nx0 + 2) 0), (8, pt (nx0 + 3) 0), (28, i6 x40)] ?_
     obtain ⟨hi0_8, H⟩ := ifs H
     obtain ⟨hi1_8, H⟩ := ifs H
     obtain ⟨hi0_9, H⟩ := ifs H
     obtain ⟨hi1_9, H⟩ := ifs H
     obtain ⟨hi0_10, H⟩ := ifs H
     obtain ⟨hi1_10, H⟩ := ifs H
     obtain ⟨hi0_11, H⟩ := ifs H
     obtain ⟨hi1_11, H⟩ := ifs H
     refine OK.drawnC 12 25 O55s0_53 a55s0_53n (by kernel_rfl) (by kernel_rfl) u55d5l (u55d5g gb0 gb1 a2 x40) [(⟨gb0, 12 + (a2).toNat * 1, none⟩, i6 (x39.getD ((a2).toNat) 0)), (⟨gb1, 0 + (a2).toNat * 12 + (x40).toNat * 1, none⟩, i6 (b1.getD ((a2).toNat * 12 + (x40).toNat) 0)), (⟨gb0, 24 + (x40).toNat * 1, none⟩, i6 (b0.f2.getD ((x40).toNat) 0))] (RI.arr (g := gb0) (ty := 89) (cs := ((arrV (Value.int .i64) 0 12 b0.f0) ++ ((arrV (Value.int .i64) 0 12 x39) ++ (arrV (Value.int .i64) 0 12 b0.f2)))) (Value.int .i64) 0 12 x39 (arrV (Value.int .i64) 0 12 b0.f0) (arrV (Value.int .i64) 0 12 b0.f2) 12 ((a2).toNat) 0 (by kernel_rfl) (by kernel_rfl) (by kernel_rfl) (by omega) (12 + (a2).toNat * 1) (by omega) (RI.arr (g := gb1) (ty := 85) (cs := arrV (Value.int .i64) 0 144 b1) (Value.int .i64) 0 144 b1 [] [] 0 ((a2).toNat * 12 + (x40).toNat) 1 (by kernel_rfl) (by kernel_rfl) (by kernel_rfl) (by omega) (0 + (a2).toNat * 12 + (x40).toNat * 1) (by omega) (RI.arr (g := gb0) (ty := 89) (cs := ((arrV (Value.int .i64) 0 12 b0.f0) ++ ((arrV (Value.int .i64) 0 12 x39) ++ (arrV (Value.int .i64) 0 12 b0.f2)))) (Value.int .i64) 0 12 b0.f2 ((arrV (Value.int .i64) 0 12 b0.f0) ++ (arrV (Value.int .i64) 0 12 x39)) [] 24 ((x40).toNat) 0 (by kernel_rfl) (by kernel_rfl) (by kernel_rfl) (by omega) (24 + (x40).toNat * 1) (by omega) (RI.nil _)))) [.l 2, .no, .l 2, .no, .no, .no, .no, .r 0, .no, .no, .no, .no, .no, .no, .r 1, .l 2, .no, .no, .no, .no, .r 2, .no, .no, .no, .no] a55s0_53 a55s0_53o (by kernel_rfl) (by kernel_rfl) (u55d5s gb0 gb1 a2 b0 b1 x39 x40) (u55d5f nx0 gb0 gb1 a2 b0 b1 x39 x40 25) (u55d5v nx0 gb0 gb1 a2 b0 b1 x1 x2 x39 x40) (u55d5e nx0 gb0 gb1 a2 b0 b1 x1 x2 x39 x40) [] framesOk.nil ?_ [u55d5f nx0 gb0 gb1 a2 b0 b1 x39 x40 6, u55d5f nx0 gb0 gb1 a2 b0 b1 x39 x40 12, u55d5f nx0 gb0 gb1 a2 b0 b1 x39 x40 13, u55d5f nx0 gb0 gb1 a2 b0 b1 x39 x40 19] (framesOk.cons (fun u => rfl) (framesOk.cons (fun u => rfl) (framesOk.cons (fun u => rfl) (framesOk.cons (fun u => rfl) framesOk.nil)))) ?_ ?_
     ·refine LoudsG.nil
     ·refine Givens.cons (fun u w =>  ?_) (fun _ _ _ => rfl) (Givens.cons (fun u w =>  ?_) (fun _ _ _ => rfl) (Givens.cons (fun u w =>  ?_) (fun _ _ _ => rfl) (Givens.cons (fun u w =>  ?_) (fun _ _ _ => rfl) (Givens.nil))))
      ·exact giv_idxArr (T := 83) (e := 2) 1 .i64 a2 gb0 (12) 12 (by kernel_rfl) (by kernel_rfl) (by kernel_rfl) hi0_8 hi1_8 w
      ·exact giv_idxArr (T := 85) (e := 83) 12 .i64 a2 gb1 (0) 12 (by kernel_rfl) (by kernel_rfl) (by kernel_rfl) hi0_9 hi1_9 w
      ·exact giv_idxArr (T := 83) (e := 2) 1 .i64 x40 gb1 (0 + (a2).toNat * 12) 12 (by kernel_rfl) (by kernel_rfl) (by kernel_rfl) hi0_10 hi1_10 w
      ·exact giv_idxArr (T := 83) (e := 2) 1 .i64 x40 gb0 (24) 12 (by kernel_rfl) (by kernel_rfl) (by kernel_rfl) hi0_11 hi1_11 w
     intro u I20 nx21 hi20 hF
     clear hF
     refine RL.norm (K' := ((55, pt gb0 12) :: (54, pt gb0 0) :: (53, i6 (iMax (x39.getD ((a2).toNat) 0) (W .i64 ((b1.getD ((a2).toNat * 12 + (x40).toNat) 0) - (b0.f2.getD ((x40).toNat) 0))))) :: (52, i6 (W .i64 ((b1.getD ((a2).toNat * 12 + (x40).toNat) 0) - (b0.f2.getD ((x40).toNat) 0)))) :: (51, i6 (b0.f2.getD ((x40).toNat) 0)) :: (50, pt gb0 (24 + (x40).toNat * 1)) :: (49, pt gb0 24) :: (48, pt gb0 0) :: (47, i6 x40) :: (46, pt gb0 0) :: (45, i6 (b1.getD ((a2).toNat * 12 + (x40).toNat) 0)) :: (44, pt gb1 (0 + (a2).toNat * 12 + (x40).toNat * 1)) :: (43, pt gb1 (0 + (a2).toNat * 12)) :: (42, pt gb1 0) :: (41, i6 x40) :: (40, i6 a2) :: (39, pt gb1 0) :: (38, i6 (x39.getD ((a2).toNat) 0)) :: (37, pt gb0 (12 + (a2).toNat * 1)) :: (36, pt gb0 12) :: (35, pt gb0 0) :: (34, i6 a2) :: (33, pt gb0 0) :: (32, i6 a2) :: (31, pt gb0 0) :: (10, i6 x40) :: (1, pt gb1 0) :: (2, i6 a2) :: (3, pt nx0 0) :: (6, pt (nx0 + 1) 0) :: (7, pt (nx0 + 2) 0) :: (8, pt (nx0 + 3) 0) :: (28, i6 x40) :: [])) (X' := []) (by kernel_rfl) rfl rfl rfl ?_
     obtain ⟨hib0, H⟩ := ifs H
     obtain ⟨hib1, H⟩ := ifs H
     have ha012 := hib0; have ha112 := hib1
     refine RL.idxArr (T := 83) (e := 2) 1 .i64 a2 gb0 (12) 12 (some 56) (by kernel_rfl) (by kernel_rfl) (by kernel_rfl) (by kernel_rfl) hib0 hib1 (K' := ((56, pt gb0 (12 + (a2).toNat * 1)) :: (55, pt gb0 12) :: (54, pt gb0 0) :: (53, i6 (iMax (x39.getD ((a2).toNat) 0) (W .i64 ((b1.getD ((a2).toNat * 12 + (x40).toNat) 0) - (b0.f2.getD ((x40).toNat) 0))))) :: (52, i6 (W .i64 ((b1.getD ((a2).toNat * 12 + (x40).toNat) 0) - (b0.f2.getD ((x40).toNat) 0)))) :: (51, i6 (b0.f2.getD ((x40).toNat) 0)) :: (50, pt gb0 (24 + (x40).toNat * 1)) :: (49, pt gb0 24) :: (48, pt gb0 0) :: (47, i6 x40) :: (46, pt gb0 0) :: (45, i6 (b1.getD ((a2).toNat * 12 + (x40).toNat) 0)) :: (44, pt gb1 (0 + (a2).toNat * 12 + (x40).toNat * 1)) :: (43, pt gb1 (0 + (a2).toNat * 12)) :: (42, pt gb1 0) :: (41, i6 x40) :: (40, i6 a2) :: (39, pt gb1 0) :: (38, i6 (x39.getD ((a2).toNat) 0)) :: (37, pt gb0 (12 + (a2).toNat * 1)) :: (36, pt gb0 12) :: (35, pt gb0 0) :: (34, i6 a2) :: (33, pt gb0 0) :: (32, i6 a2) :: (31, pt gb0 0) :: (10, i6 x40) :: (1, pt gb1 0) :: (2, i6 a2) :: (3, pt nx0 0) :: (6, pt (nx0 + 1) 0) :: (7, pt (nx0 + 2) 0) :: (8, pt (nx0 + 3) 0) :: (28, i6 x40) :: [])) (by kernel_rfl) ?_
     refine RL.stA (g := gb0) (ty := 89) (cs := ((arrV (Value.int .i64) 0 12 b0.f0) ++ ((arrV (Value.int .i64) 0 12 x39) ++ (arrV (Value.int .i64) 0 12 b0.f2)))) (Value.int .i64) 0 12 x39 (iMax (x39.getD ((a2).toNat) 0) (W .i64 ((b1.getD ((a2).toNat * 12 + (x40).toNat) 0) - (b0.f2.getD ((x40).toNat) 0)))) (arrV (Value.int .i64) 0 12 b0.f0) (arrV (Value.int .i64) 0 12 b0.f2) 12 ((a2).toNat) 0 (by kernel_rfl) (by kernel_rfl) (by kernel_rfl) (by omega) hz32 (12 + (a2).toNat * 1) (by omega) 2 (by kernel_rfl) (by kernel_rfl) (by kernel_rfl) (by rfl) (fun _ h => by cases h) (fun _ h => by cases h) (cs' := ((arrV (Value.int .i64) 0 12 b0.f0) ++ ((arrV (Value.int .i64) 0 12 (x39.set ((a2).toNat) (iMax (x39.getD ((a2).toNat) 0) (W .i64 ((b1.getD ((a2).toNat * 12 + (x40).toNat) 0) - (b0.f2.getD ((x40).toNat) 0)))))) ++ (arrV (Value.int .i64) 0 12 b0.f2)))) (by kernel_rfl) ?_
     refine RL.nil (by kernel_rfl) ?_
     refine QN.sub (K' := [(1, pt gb1 0), (2, i6 a2), (3, pt nx0 0), (6, pt (nx0 + 1) 0), (7, pt (nx0 + 2) 0), (8, pt (nx0 + 3) 0), (28, i6 x40)]) (L' := [⟨gb0, ((arrV (Value.int .i64) 0 12 b0.f0) ++ ((arrV (Value.int .i64) 0 12 (x39.set ((a2).toNat) (iMax (x39.getD ((a2).toNat) 0) (W .i64 ((b1.getD ((a2).toNat * 12 + (x40).toNat) 0) - (b0.f2.getD ((x40).toNat) 0)))))) ++ (arrV (Value.int .i64) 0 12 b0.f2))), 89⟩, ⟨gb1, arrV (Value.int .i64) 0 144 b1, 85⟩, ⟨nx0, [pt gb0 0], 95⟩, ⟨nx0 + 1, arrV (Value.int .i64) 0 12 x1, 83⟩, ⟨nx0 + 2, arrV (Value.int .i64) 0 12 x2, 87⟩, ⟨nx0 + 3, arrV Value.bool false 12 (List.replicate 12 false), 104⟩]) (by kernel_rfl) (.cons_cons _ (.cons_cons _ (.cons_cons _ (.cons_cons _ (.cons_cons _ (.cons_cons _ .slnil)))))) (.refl _) ?_
     refine QN.blkN ?_
     refine QN.then_ ?_
     refine OK.rg ?_
     refine RL.s 2 [(28, i6 (W .i64 (x40 + 1))), (1, pt gb1 0), (2, i6 a2), (3, pt nx0 0), (6, pt (nx0 + 1) 0), (7, pt (nx0 + 2) 0), (8, pt (nx0 + 3) 0)] ?_
     refine RL.nil (by kernel_rfl) ?_
     exact QN.sb (hJ14 _ _ _ _ _ ⟨(x39.set ((a2).toNat) (iMax (x39.getD ((a2).toNat) 0) (W .i64 ((b1.getD ((a2).toNat * 12 + (x40).toNat) 0) - (b0.f2.getD ((x40).toNat) 0))))), W .i64 (x40 + 1), rfl, rfl, rfl, (Imm.le_trans hi19 hi20), (le_set hz32), H⟩) (.cons_cons _ (.cons_cons _ (.cons_cons _ (.cons_cons _ (.cons_cons _ (.cons_cons _ .slnil)))))) (.refl _)
    ·skip
     have hc := (of_decide_eq_false hb)
     rw [if_neg hc] at H
     clear hb
     refine OK.ex 2 ?_
     refine QN.thenE ?_
     refine QN.outE hQ14 ?_
     refine QN.blkE ?_
     obtain rfl := Option.some.inj H
     exact QN.sb (hJ2 _ _ _ _ _ ⟨x39, rfl, rfl, rfl, hi19, hz32, HK2⟩) (.cons_cons _ (.cons_cons _ (.cons_cons _ (.cons_cons _ (.cons_cons _ (.cons_cons _ .slnil)))))) (.refl _)
 ·intro Q_10 hJ1 hQ1
  obtain ⟨y1, H, HK1⟩ := bnd H
  refine OK.bk 0 ?_
  refine OK.sub (K' := [(1, pt gb1 0), (2, i6 a2), (3, pt nx0 0), (6, pt (nx0 + 1) 0), (7, pt (nx0 + 2) 0), (8, pt (nx0 + 3) 0), (20, i6 0)]) (L' := [⟨gb0, ((arrV (Value.int .i64) 0 12 b0.f0) ++ ((arrV (Value.int .i64) 0 12 b0.f1) ++ (arrV (Value.int .i64) 0 12 b0.f2))), 89⟩, ⟨gb1, arrV (Value.int .i64) 0 144 b1, 85⟩, ⟨nx0, [pt gb0 0], 95⟩, ⟨nx0 + 1, arrV (Value.int .i64) 0 12 (List.replicate 12 0), 83⟩, ⟨nx0 + 2, arrV (Value.int .i64) 0 12 (List.replicate 12 0), 87⟩, ⟨nx0 + 3, arrV Value.bool false 12 (List.replicate 12 false), 104⟩]) (by kernel_rfl) (.cons_cons _ (.cons_cons _ (.cons_cons _ (.cons_cons _ (.cons_cons _ (.cons_cons _ .slnil)))))) (.refl _) ?_
  refine OK.lp (fun n_ K' I' _ L' X' => ∃ (x41 : List Int) (x42 : List Int) (x43 : Int), K' = [(1, pt gb1 0), (2, i6 a2), (3, pt nx0 0), (6, pt (nx0 + 1) 0), (7, pt (nx0 + 2) 0), (8, pt (nx0 + 3) 0), (20, i6 x43)] ∧ L' = [⟨gb0, ((arrV (Value.int .i64) 0 12 b0.f0) ++ ((arrV (Value.int .i64) 0 12 b0.f1) ++ (arrV (Value.int .i64) 0 12 b0.f2))), 89⟩, ⟨gb1, arrV (Value.int .i64) 0 144 b1, 85⟩, ⟨nx0, [pt gb0 0], 95⟩, ⟨nx0 + 1, arrV (Value.int .i64) 0 12 x41, 83⟩, ⟨nx0 + 2, arrV (Value.int .i64) 0 12 x42, 87⟩, ⟨nx0 + 3, arrV Value.bool false 12 (List.replicate 12 false), 104⟩] ∧ X' = [] ∧ Imm.le I0 I' ∧ 12 ≤ x41.length ∧ 12 ≤ x42.length ∧ assign_solution_augments0.l5 n_ x41 x42 x43 = some y1) k ⟨(List.replicate 12 0), (List.replicate 12 0), 0, rfl, rfl, rfl, (Imm.le_refl _), (Nat.le_of_eq List.length_replicate.symm), (Nat.le_of_eq List.length_replicate.symm), H⟩ ?_ ?_
  ·rintro _ _ _ _ _ ⟨x41, x42, x43, rfl, rfl, rfl, _, hz33, hz34, H⟩
   cases H
  ·rintro kq5 _ I21 nx22 _ _ ⟨x41, x42, x43, rfl, rfl, rfl, hi21, hz33, hz34, H⟩ Q_l5 hJ15 hQ15
   rw [assign_solution_augments0.l5] at H
   refine OK.sr ?_
   refine RL.st 1 [(21, .bool (decide (x43 < 12))), (1, pt gb1 0), (2, i6 a2), (3, pt nx0 0), (6, pt (nx0 + 1) 0), (7, pt (nx0 + 2) 0), (8, pt (nx0 + 3) 0), (20, i6 x43)] ?_
   refine OK.sq ?_
   refine OK.cd (decide (x43 < 12)) (fun hb => ?_) (fun hb => ?_)
   ·skip
    have hc := (of_decide_eq_true hb)
    rw [if_pos hc] at H
    clear hb
    refine OK.skt ?_
    refine OK.sq ?_
    refine OK.bk 1 ?_
    refine OK.sr ?_
    refine RL.st 2 [(9, i6 x43), (1, pt gb1 0), (2, i6 a2), (3, pt nx0 0), (6, pt (nx0 + 1) 0), (7, pt (nx0 + 2) 0), (8, pt (nx0 + 3) 0), (20, i6 x43)] ?_
    refine OK.rg ?_
    refine RL.s 2 [(24, i6 x43), (23, i6 x43), (1, pt gb1 0), (2, i6 a2), (3, pt nx0 0), (6, pt (nx0 + 1) 0), (7, pt (nx0 + 2) 0), (8, pt (nx0 + 3) 0), (20, i6 x43)] ?_
    obtain ⟨hib0, H⟩ := ifs H
    obtain ⟨hib1, H⟩ := ifs H
    have ha013 := hib0; have ha113 := hib1
    refine RL.idxArr (T := 83) (e := 2) 1 .i64 x43 (nx0 + 1) (0) 12 (some 25) (by kernel_rfl) (by kernel_rfl) (by kernel_rfl) (by kernel_rfl) hib0 hib1 (K' := [(25, pt (nx0 + 1) (0 + (x43).toNat * 1)), (24, i6 x43), (23, i6 x43), (1, pt gb1 0), (2, i6 a2), (3, pt nx0 0), (6, pt (nx0 + 1) 0), (7, pt (nx0 + 2) 0), (8, pt (nx0 + 3) 0), (20, i6 x43)]) (by kernel_rfl) ?_
    refine RL.stA (g := nx0 + 1) (ty := 83) (cs := arrV (Value.int .i64) 0 12 x41) (Value.int .i64) 0 12 x41 1152921504606846976 [] [] 0 ((x43).toNat) 3 (by kernel_rfl) (by kernel_rfl) (by kernel_rfl) (by omega) hz33 (0 + (x43).toNat * 1) (by omega) 2 (by kernel_rfl) (by kernel_rfl) (by kernel_rfl) (by rfl) (fun _ h => by cases h) (fun _ h => by cases h) (cs' := arrV (Value.int .i64) 0 12 (x41.set ((x43).toNat) 1152921504606846976)) (by kernel_rfl) ?_
    obtain ⟨hib0, H⟩ := ifs H
    obtain ⟨hib1, H⟩ := ifs H
    have ha014 := hib0; have ha114 := hib1
    refine RL.idxArr (T := 87) (e := 3) 1 .i64 x43 (nx0 + 2) (0) 12 (some 26) (by kernel_rfl) (by kernel_rfl) (by kernel_rfl) (by kernel_rfl) hib0 hib1 (K' := [(26, pt (nx0 + 2) (0 + (x43).toNat * 1)), (25, pt (nx0 + 1) (0 + (x43).toNat * 1)), (24, i6 x43), (23, i6 x43), (1, pt gb1 0), (2, i6 a2), (3, pt nx0 0), (6, pt (nx0 + 1) 0), (7, pt (nx0 + 2) 0), (8, pt (nx0 + 3) 0), (20, i6 x43)]) (by kernel_rfl) ?_
    refine RL.stA (g := nx0 + 2) (ty := 87) (cs := arrV (Value.int .i64) 0 12 x42) (Value.int .i64) 0 12 x42 (-1) [] [] 0 ((x43).toNat) 4 (by kernel_rfl) (by kernel_rfl) (by kernel_rfl) (by omega) hz34 (0 + (x43).toNat * 1) (by omega) 3 (by kernel_rfl) (by kernel_rfl) (by kernel_rfl) (by rfl) (fun _ h => by cases h) (fun _ h => by cases h) (cs' := arrV (Value.int .i64) 0 12 (x42.set ((x43).toNat) (-1))) (by kernel_rfl) ?_
    refine RL.nil (by kernel_rfl) ?_
    refine QN.sub (K' := [(1, pt gb1 0), (2, i6 a2), (3, pt nx0 0), (6, pt (nx0 + 1) 0), (7, pt (nx0 + 2) 0), (8, pt (nx0 + 3) 0), (20, i6 x43)]) (L' := [⟨gb0, ((arrV (Value.int .i64) 0 12 b0.f0) ++ ((arrV (Value.int .i64) 0 12 b0.f1) ++ (arrV (Value.int .i64) 0 12 b0.f2))), 89⟩, ⟨gb1, arrV (Value.int .i64) 0 144 b1, 85⟩, ⟨nx0, [pt gb0 0], 95⟩, ⟨nx0 + 1, arrV (Value.int .i64) 0 12 (x41.set ((x43).toNat) 1152921504606846976), 83⟩, ⟨nx0 + 2, arrV (Value.int .i64) 0 12 (x42.set ((x43).toNat) (-1)), 87⟩, ⟨nx0 + 3, arrV Value.bool false 12 (List.replicate 12 false), 104⟩]) (by kernel_rfl) (.cons_cons _ (.cons_cons _ (.cons_cons _ (.cons_cons _ (.cons_cons _ (.cons_cons _ .slnil)))))) (.refl _) ?_
    refine QN.blkN ?_
    refine QN.then_ ?_
    refine OK.rg ?_
    refine RL.s 2 [(20, i6 (W .i64 (x43 + 1))), (1, pt gb1 0), (2, i6 a2), (3, pt nx0 0), (6, pt (nx0 + 1) 0), (7, pt (nx0 + 2) 0), (8, pt (nx0 + 3) 0)] ?_
    refine RL.nil (by kernel_rfl) ?_
    exact QN.sb (hJ15 _ _ _ _ _ ⟨(x41.set ((x43).toNat) 1152921504606846976), (x42.set ((x43).toNat) (-1)), W .i64 (x43 + 1), rfl, rfl, rfl, hi21, (le_set hz33), (le_set hz34), H⟩) (.cons_cons _ (.cons_cons _ (.cons_cons _ (.cons_cons _ (.cons_cons _ (.cons_cons _ .slnil)))))) (.refl _)
   ·skip
    have hc := (of_decide_eq_false hb)
    rw [if_neg hc] at H
    clear hb
    refine OK.ex 0 ?_
    refine QN.thenE ?_
    refine QN.outE hQ15 ?_
    refine QN.blkE ?_
    obtain rfl := Option.some.inj H
    exact QN.sb (hJ1 _ _ _ _ _ ⟨x41, x42, rfl, rfl, rfl, hi21, hz33, hz34, HK1⟩) (.cons_cons _ (.cons_cons _ (.cons_cons _ (.cons_cons _ (.cons_cons _ (.cons_cons _ .slnil)))))) (.refl _)

end Go.Proofs.Ytihmbmeelheinaa
