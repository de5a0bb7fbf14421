/- Words of the walk, the functions' walks and plain laws, joined; no conditions beyond those that the theorems name. -/
import Derived.Test.YtdmhbcgmimfjcaaX82
import Derived.Test.YtdmhbcgmimfjcaaX84
namespace Go.Proofs.Ytdmhbcgmimfjcaa
open Go Go.Proofs.Ytdmhbcgmimfjcaa.RW
set_option linter.unusedVariables false
set_option maxRecDepth 100000
set_option maxHeartbeats 8000000

/-! ### armillaryref22_Made: function 13, armillary/armillaryref22.Made -/
noncomputable def K13_0 : Code := cBody Try.f13
def armillaryref22_Made.k1  (x2 : List (List Int)) : Option (List (List Int)) := (some x2)
def armillaryref22_Made.k3 (x3 : List (List Int)) (x7 : List Int) : Option (List (List Int)) := (if (x3.length + [x7].length) * 24 ≤ 140737488355328 then (some (x3 ++ [x7])) else none)
def armillaryref22_Made.l2 (a0 : List (List Int)) (x1 : Int) (x4 : Int) : Nat → (List Int) → Int → Option (List Int)
 | 0, _, _ => none
 | k + 1, x8, x9 => ((if x9 < x1 then (if 0 ≤ x4 then (if x4 < (a0.length : Int) then (some (decide (x9 < ((a0.getD (x4).toNat []).length : Int)))) else none) else none) else (some false)).bind (fun x10 => (if x10 = true then (if 0 ≤ x4 then (if x4 < (a0.length : Int) then (if 0 ≤ x9 then (if x9 < ((a0.getD (x4).toNat []).length : Int) then (if 0 ≤ x9 then (if x9 < (x8.length : Int) then (armillaryref22_Made.l2 a0 x1 x4 k (x8.set (x9).toNat (iMax (((a0.getD (x4).toNat []).getD (x9).toNat 0).tmod 1073741825) (W .i64 (0 - (((a0.getD (x4).toNat []).getD (x9).toNat 0).tmod 1073741825))))) (W .i64 (x9 + 1))) else none) else none) else none) else none) else none) else none) else (some x8))))
def armillaryref22_Made.l1 (a0 : List (List Int)) (a1 : Int) (x1 : Int) : Nat → (List (List Int)) → Int → Option (List (List Int))
 | 0, _, _ => none
 | k + 1, x3, x4 => ((if x4 < (a0.length : Int) then (some (decide (x4 < a1))) else (some false)).bind (fun x5 => (if x5 = true then ((if 0 ≤ x1 then (if x1 ≤ 35184372088832 then ((armillaryref22_Made.l2 a0 x1 x4 k (List.replicate (x1).toNat (0 : Int)) 0).bind (armillaryref22_Made.k3 x3)) else none) else none).bind (fun x6 => (armillaryref22_Made.l1 a0 a1 x1 k x6 (W .i64 (x4 + 1))))) else (some x3))))
def armillaryref22_Made.k6 (k : Nat) (a0 : List (List Int)) (a1 : Int) (x1 : Int) : Option (List (List Int)) := ((armillaryref22_Made.l1 a0 a1 x1 k ([] : List (List Int)) 0).bind (armillaryref22_Made.k1))
def armillaryref22_Made.l3 (a0 : List (List Int)) (a2 : Int) : Nat → Int → Int → Option (Int)
 | 0, _, _ => none
 | k + 1, x11, x12 => (if x12 < (a0.length : Int) then (if 0 ≤ x12 then (if x12 < (a0.length : Int) then (armillaryref22_Made.l3 a0 a2 k (iMax x11 (iMin ((a0.getD (x12).toNat []).length : Int) a2)) (W .i64 (x12 + 1))) else none) else none) else (some x11))
def armillaryref22_Made.f (k : Nat) (a0 : List (List Int)) (a1 : Int) (a2 : Int) : Option (List (List Int)) := ((armillaryref22_Made.l3 a0 a2 k 0 0).bind (armillaryref22_Made.k6 k a0 a1))
def armillaryref22_Made.Post (I : Imm) (w : World) (r : List (List Int)) (v : Value) (w' : World) : Prop :=
 ∃ (J : Imm) (A0 : Option Addr) (c0 : Nat) (cs0 : List Value), v = .slice A0 r.length c0 ∧ Got w w' I J [orow 24 1 A0 r.length c0 cs0] ∧ Reps (Ty.slice (Ty.int .i64)) J r cs0
theorem armillaryref22_Made.calls (k : Nat) (I0 : Imm) (a0 : List (List Int)) (Ap0 : Option Addr) (cp0 : Nat) (a1 : Int) (a2 : Int) (w : World) (hI : I0.at_ w) (hlp0 : a0.length ≤ cp0) (hrp0 : Rd (Ty.slice (Ty.int .i64)) I0 Ap0 a0) (r : List (List Int)) (h : armillaryref22_Made.f k a0 a1 a2 = some r) :
  Calls Try.prog 13 [.slice Ap0 a0.length cp0, i6 a1, i6 a2].toArray w fun e w' => ∃ v, e = .returned v ∧ armillaryref22_Made.Post I0 w r v w' := by
 have H : ((armillaryref22_Made.l3 a0 a2 k 0 0).bind (armillaryref22_Made.k6 k a0 a1)) = some r := h
 clear h
 refine calls_body Try.func13 (by kernel_rfl) 77 (by kernel_rfl) (by kernel_rfl) ⟨w, fun _ => False, I0⟩ I0 [] [(0, .slice Ap0 a0.length cp0), (1, i6 a1), (2, i6 a2)] (by kernel_rfl) (Sat.start w _ I0 hI) ?_
 generalize w.heap.size = nx0
 show OK _ K13_0 _ _ _ _ _ _ _ _
 refine OK.sr ?_
 refine RL.st 1 [(0, .slice Ap0 a0.length cp0), (1, i6 a1), (2, i6 a2)] ?_
 refine OK.sr ?_
 refine RL.spt 3 [(8, i6 0), (7, .slice (some ⟨nx0, 0, none⟩) 0 0), (0, .slice Ap0 a0.length cp0), (1, i6 a1), (2, i6 a2)] (nx0 + 1) [⟨nx0, [], 24⟩] ?_
 refine OK.sq ?_
 refine OK.sr ?_
 refine RL.st 1 [(9, i6 0), (8, i6 0), (7, .slice (some ⟨nx0, 0, none⟩) 0 0), (0, .slice Ap0 a0.length cp0), (1, i6 a1), (2, i6 a2)] ?_
 refine OK.join (fun K' I' _ L' X' => ∃ (x1 : Int), K' = [(0, .slice Ap0 a0.length cp0), (1, i6 a1), (7, .slice (some ⟨nx0, 0, none⟩) 0 0), (8, i6 x1)] ∧ L' = [⟨nx0, [], 24⟩] ∧ X' = [] ∧ Imm.le I0 I' ∧ armillaryref22_Made.k6 k a0 a1 x1 = some r) ?_ ?_
 ·rintro _ I1 nx1 _ _ ⟨x1, rfl, rfl, rfl, hi1, H⟩
  rw [armillaryref22_Made.k6] at H
  refine QN.then_ ?_
  refine OK.sq ?_
  refine OK.sr ?_
  refine RL.st 1 [(10, i6 0), (0, .slice Ap0 a0.length cp0), (1, i6 a1), (7, .slice (some ⟨nx0, 0, none⟩) 0 0), (8, i6 x1)] ?_
  refine OK.join (fun K' I' _ L' X' => ∃ (x2 : List (List Int)) (A1 : Option Addr) (c1 : Nat) (cs1 : List Value), K' = [(7, .slice A1 x2.length c1)] ∧ L' = [] ∧ X' = [orow 24 1 A1 x2.length c1 cs1] ∧ Imm.le I1 I' ∧ Reps (Ty.slice (Ty.int .i64)) I' x2 cs1 ∧ armillaryref22_Made.k1 x2 = some r) ?_ ?_
  ·rintro _ I2 nx2 _ _ ⟨x2, A1, c1, cs1, rfl, rfl, rfl, hi2, hp1, H⟩
   rw [armillaryref22_Made.k1] at H
   refine QN.then_ ?_
   refine OK.sr ?_
   refine RL.st 2 [(6, .slice A1 x2.length c1)] ?_
   refine OK.re ?_
   obtain rfl := Option.some.inj H
   refine QN.body rfl [] (RFacts.nil _ _ _) (.no) (.slice A1 x2.length c1) (by kernel_rfl) (by kernel_rfl) (by kernel_rfl) ?_ _ (.inr rfl)
   exact fun w' hs' => ⟨_, rfl, I2, A1, c1, cs1, rfl, hs'.got _ (.cons_cons _ .slnil), hp1⟩
  ·intro Q_1 hJ2 hQ2
   obtain ⟨y2, H, HK2⟩ := bnd H
   refine OK.bk 2 ?_
   refine OK.toRow (b := ⟨nx0, [], 24⟩) 0 0 1 (by kernel_rfl) (by kernel_rfl) (by decide) ?_
   have hp9 : Reps (Ty.slice (Ty.int .i64)) I1 ([] : List (List Int)) [] := rfl
   refine OK.norm (L' := []) (X' := [orow 24 1 (some ⟨nx0, 0, none⟩) (([] : List (List Int)).length) 0 []]) rfl rfl (by kernel_rfl) (by kernel_rfl) ?_
   refine OK.sub (K' := [(0, .slice Ap0 a0.length cp0), (1, i6 a1), (7, .slice (some ⟨nx0, 0, none⟩) 0 0), (8, i6 x1), (10, i6 0)]) (L' := []) (by kernel_rfl) .slnil (.refl _) ?_
   refine OK.lp (fun n_ K' I' _ L' X' => ∃ (x3 : List (List Int)) (x4 : Int) (A2 : Option Addr) (c2 : Nat) (cs2 : List Value), K' = [(0, .slice Ap0 a0.length cp0), (1, i6 a1), (7, .slice A2 x3.length c2), (8, i6 x1), (10, i6 x4)] ∧ L' = [] ∧ X' = [orow 24 1 A2 x3.length c2 cs2] ∧ Imm.le I1 I' ∧ Reps (Ty.slice (Ty.int .i64)) I' x3 cs2 ∧ armillaryref22_Made.l1 a0 a1 x1 n_ x3 x4 = some y2) k ⟨([] : List (List Int)), 0, (some ⟨nx0, 0, none⟩), 0, [], rfl, rfl, rfl, (Imm.le_refl _), hp9, H⟩ ?_ ?_
   ·rintro _ _ _ _ _ ⟨x3, x4, A2, c2, cs2, rfl, rfl, rfl, _, hp2, H⟩
    cases H
   ·rintro kq1 _ I3 nx3 _ _ ⟨x3, x4, A2, c2, cs2, rfl, rfl, rfl, hi3, hp2, H⟩ Q_l1 hJ3 hQ3
    rw [armillaryref22_Made.l1] at H
    refine OK.sq ?_
    refine OK.sq ?_
    refine OK.join (fun K' I' _ L' X' => ∃ (x5 : Bool), K' = [(0, .slice Ap0 a0.length cp0), (1, i6 a1), (7, .slice A2 x3.length c2), (8, i6 x1), (10, i6 x4), (38, .bool x5)] ∧ L' = [] ∧ X' = [orow 24 1 A2 x3.length c2 cs2] ∧ Imm.le I3 I' ∧ (if x5 = true then ((if 0 ≤ x1 then (if x1 ≤ 35184372088832 then ((armillaryref22_Made.l2 a0 x1 x4 kq1 (List.replicate (x1).toNat (0 : Int)) 0).bind (armillaryref22_Made.k3 x3)) else none) else none).bind (fun x6 => (armillaryref22_Made.l1 a0 a1 x1 kq1 x6 (W .i64 (x4 + 1))))) else (some x3)) = some y2) ?_ ?_
    ·rintro _ I4 nx4 _ _ ⟨x5, rfl, rfl, rfl, hi4, H⟩
     replace H : (if x5 = true then ((if 0 ≤ x1 then (if x1 ≤ 35184372088832 then ((armillaryref22_Made.l2 a0 x1 x4 kq1 (List.replicate (x1).toNat (0 : Int)) 0).bind (armillaryref22_Made.k3 x3)) else none) else none).bind (fun x6 => (armillaryref22_Made.l1 a0 a1 x1 kq1 x6 (W .i64 (x4 + 1))))) else (some x3)) = some y2 := H
     refine QN.then_ ?_
     refine OK.cd x5 (fun hb => ?_) (fun hb => ?_)
     ·skip
      have hc := hb
      rw [if_pos hc] at H
      clear hb
      refine OK.skt ?_
      refine OK.sq ?_
      refine OK.join (fun K' I' _ L' X' => ∃ (x6 : List (List Int)) (A3 : Option Addr) (c3 : Nat) (cs3 : List Value), K' = [(0, .slice Ap0 a0.length cp0), (1, i6 a1), (7, .slice A3 x6.length c3), (8, i6 x1), (10, i6 x4)] ∧ L' = [] ∧ X' = [orow 24 1 A3 x6.length c3 cs3] ∧ Imm.le I4 I' ∧ Reps (Ty.slice (Ty.int .i64)) I' x6 cs3 ∧ (armillaryref22_Made.l1 a0 a1 x1 kq1 x6 (W .i64 (x4 + 1))) = some y2) ?_ ?_
      ·rintro _ I5 nx5 _ _ ⟨x6, A3, c3, cs3, rfl, rfl, rfl, hi5, hp3, H⟩
       replace H : (armillaryref22_Made.l1 a0 a1 x1 kq1 x6 (W .i64 (x4 + 1))) = some y2 := H
       refine QN.then_ ?_
       refine OK.rg ?_
       refine RL.s 3 [(10, i6 (W .i64 (x4 + 1))), (0, .slice Ap0 a0.length cp0), (1, i6 a1), (7, .slice A3 x6.length c3), (8, i6 x1)] ?_
       refine RL.nil (by kernel_rfl) ?_
       exact QN.sb (hJ3 _ _ _ _ _ ⟨x6, W .i64 (x4 + 1), A3, c3, cs3, rfl, rfl, rfl, (Imm.le_trans (Imm.le_trans hi3 hi4) hi5), hp3, H⟩) .slnil (.refl _)
      ·intro Q_2 hJ5 hQ5
       obtain ⟨y4, H, HK4⟩ := bnd H
       refine OK.bk 3 ?_
       refine OK.sr ?_
       refine RL.s 1 [(41, i6 x1), (0, .slice Ap0 a0.length cp0), (1, i6 a1), (7, .slice A2 x3.length c2), (8, i6 x1), (10, i6 x4)] ?_
       obtain ⟨hm1, H⟩ := ifs H
       obtain ⟨hm2, H⟩ := ifs H
       refine RL.makeL (T := 24) (e := 2) x1 .i64 .i64 (some 42) (i6 0) (0) (Ty.int .i64) 8 (by kernel_rfl) (by kernel_rfl) (by kernel_rfl) (by kernel_rfl) (by kernel_rfl) rfl hm1 (by omega) (by omega) (fun nx6 hp4 => ?_)
       refine RL.norm (K' := [(42, .slice (some ⟨nx4, 0, none⟩) ((List.replicate (x1).toNat (0 : Int)).length) ((List.replicate (x1).toNat (0 : Int)).length)), (41, i6 x1), (0, .slice Ap0 a0.length cp0), (1, i6 a1), (7, .slice A2 x3.length c2), (8, i6 x1), (10, i6 x4)]) (X' := [orow 24 1 A2 x3.length c2 cs2, orow 2 1 (some ⟨nx4, 0, none⟩) ((List.replicate (x1).toNat (0 : Int)).length) ((List.replicate (x1).toNat (0 : Int)).length) (List.replicate (x1).toNat (i6 0))]) (by kernel_rfl) rfl rfl (by kernel_rfl) ?_
       refine RL.st 1 [(11, .slice (some ⟨nx4, 0, none⟩) ((List.replicate (x1).toNat (0 : Int)).length) ((List.replicate (x1).toNat (0 : Int)).length)), (0, .slice Ap0 a0.length cp0), (1, i6 a1), (7, .slice A2 x3.length c2), (8, i6 x1), (10, i6 x4)] ?_
       refine OK.sq ?_
       refine OK.sr ?_
       refine RL.st 1 [(12, i6 0), (11, .slice (some ⟨nx4, 0, none⟩) ((List.replicate (x1).toNat (0 : Int)).length) ((List.replicate (x1).toNat (0 : Int)).length)), (0, .slice Ap0 a0.length cp0), (1, i6 a1), (7, .slice A2 x3.length c2), (8, i6 x1), (10, i6 x4)] ?_
       refine OK.join (fun K' I' _ L' X' => ∃ (x7 : List Int) (A4 : Option Addr) (c4 : Nat) (cs4 : List Value), K' = [(0, .slice Ap0 a0.length cp0), (1, i6 a1), (7, .slice A2 x3.length c2), (8, i6 x1), (10, i6 x4), (11, .slice A4 x7.length c4)] ∧ L' = [] ∧ X' = [orow 24 1 A2 x3.length c2 cs2, orow 2 1 A4 x7.length c4 cs4] ∧ Imm.le I4 I' ∧ Reps (Ty.int .i64) I' x7 cs4 ∧ armillaryref22_Made.k3 x3 x7 = some y4) ?_ ?_
       ·rintro _ I6 nx7 _ _ ⟨x7, A4, c4, cs4, rfl, rfl, rfl, hi6, hp5, H⟩
        rw [armillaryref22_Made.k3] at H
        refine QN.then_ ?_
        refine OK.rg ?_
        refine RL.sp 3 [(74, .slice (some ⟨nx7, 0, none⟩) 1 1), (72, .slice A2 x3.length c2), (0, .slice Ap0 a0.length cp0), (1, i6 a1), (7, .slice A2 x3.length c2), (8, i6 x1), (10, i6 x4)] (nx7 + 1) [⟨nx7, [.slice A4 x7.length c4], 24⟩] ?_
        refine RL.freeze (e := 2) (sz := 1) (S := A4) (n := x7.length) (cap := c4) 1 (by kernel_rfl) hp5 rfl (fun I7 hi7 hl1 hr1 => ?_)
        skip
        obtain ⟨hz1, H⟩ := ifs H
        refine RL.appendB (T := 22) (e := 24) (S := A2) 1 24 22 c2 0 1 nx7 24 cs2 [.slice A4 x7.length c4] (Ty.slice (Ty.int .i64)) x3 [x7] 0 (some 75) (by kernel_rfl) (by kernel_rfl) (by kernel_rfl) (by kernel_rfl) (by kernel_rfl) (by decide) (by kernel_rfl) (Reps.ext (Imm.le_trans (Imm.le_trans hi4 hi6) hi7) hp2) (by kernel_rfl) ⟨_, _, rfl, ⟨_, _, rfl, hl1, hr1⟩, rfl⟩ hz1 (by omega) (fun A5 c5 nx8 cs5 hp6 => ?_)
        refine RL.sub (K' := [(75, .slice A5 ((x3 ++ [x7]).length) c5), (74, .slice (some ⟨nx7, 0, none⟩) 1 1), (0, .slice Ap0 a0.length cp0), (1, i6 a1), (8, i6 x1), (10, i6 x4)]) (L' := [⟨nx7, [.slice A4 x7.length c4], 24⟩]) (X' := [orow 24 1 A5 ((x3 ++ [x7]).length) c5 cs5]) (by kernel_rfl) (.refl _) (.refl _) ?_
        refine RL.s 1 [(7, .slice A5 ((x3 ++ [x7]).length) c5), (0, .slice Ap0 a0.length cp0), (1, i6 a1), (8, i6 x1), (10, i6 x4)] ?_
        refine RL.nil (by kernel_rfl) ?_
        refine QN.blkN ?_
        obtain rfl := Option.some.inj H
        exact QN.sb (hJ5 _ _ _ _ _ ⟨(x3 ++ [x7]), A5, c5, cs5, rfl, rfl, rfl, (Imm.le_trans hi6 hi7), hp6, HK4⟩) (.cons _ .slnil) (.refl _)
       ·intro Q_3 hJ6 hQ6
        obtain ⟨y5, H, HK5⟩ := bnd H
        refine OK.bk 4 ?_
        refine OK.sub (K' := [(0, .slice Ap0 a0.length cp0), (1, i6 a1), (7, .slice A2 x3.length c2), (8, i6 x1), (10, i6 x4), (11, .slice (some ⟨nx4, 0, none⟩) ((List.replicate (x1).toNat (0 : Int)).length) ((List.replicate (x1).toNat (0 : Int)).length)), (12, i6 0)]) (L' := []) (by kernel_rfl) .slnil (.refl _) ?_
        refine OK.lp (fun n_ K' I' _ L' X' => ∃ (x8 : List Int) (x9 : Int) (A6 : Option Addr) (c6 : Nat) (cs6 : List Value), K' = [(0, .slice Ap0 a0.length cp0), (1, i6 a1), (7, .slice A2 x3.length c2), (8, i6 x1), (10, i6 x4), (11, .slice A6 x8.length c6), (12, i6 x9)] ∧ L' = [] ∧ X' = [orow 24 1 A2 x3.length c2 cs2, orow 2 1 A6 x8.length c6 cs6] ∧ Imm.le I4 I' ∧ Reps (Ty.int .i64) I' x8 cs6 ∧ armillaryref22_Made.l2 a0 x1 x4 n_ x8 x9 = some y5) kq1 ⟨List.replicate (x1).toNat (0 : Int), 0, (some ⟨nx4, 0, none⟩), (List.replicate (x1).toNat (0 : Int)).length, (List.replicate (x1).toNat (i6 0)), rfl, rfl, rfl, (Imm.le_refl _), hp4, H⟩ ?_ ?_
        ·rintro _ _ _ _ _ ⟨x8, x9, A6, c6, cs6, rfl, rfl, rfl, _, hp7, H⟩
         cases H
        ·rintro kq2 _ I8 nx9 _ _ ⟨x8, x9, A6, c6, cs6, rfl, rfl, rfl, hi8, hp7, H⟩ Q_l2 hJ7 hQ7
         rw [armillaryref22_Made.l2] at H
         refine OK.sq ?_
         refine OK.sq ?_
         refine OK.join (fun K' I' _ L' X' => ∃ (x10 : Bool), K' = [(0, .slice Ap0 a0.length cp0), (1, i6 a1), (7, .slice A2 x3.length c2), (8, i6 x1), (10, i6 x4), (11, .slice A6 x8.length c6), (12, i6 x9), (54, .bool x10)] ∧ L' = [] ∧ X' = [orow 24 1 A2 x3.length c2 cs2, orow 2 1 A6 x8.length c6 cs6] ∧ Imm.le I8 I' ∧ (if x10 = true then (if 0 ≤ x4 then (if x4 < (a0.length : Int) then (if 0 ≤ x9 then (if x9 < ((a0.getD (x4).toNat []).length : Int) then (if 0 ≤ x9 then (if x9 < (x8.length : Int) then (armillaryref22_Made.l2 a0 x1 x4 kq2 (x8.set (x9).toNat (iMax (((a0.getD (x4).toNat []).getD (x9).toNat 0).tmod 1073741825) (W .i64 (0 - (((a0.getD (x4).toNat []).getD (x9).toNat 0).tmod 1073741825))))) (W .i64 (x9 + 1))) else none) else none) else none) else none) else none) else none) else (some x8)) = some y5) ?_ ?_
         ·rintro _ I9 nx10 _ _ ⟨x10, rfl, rfl, rfl, hi9, H⟩
          replace H : (if x10 = true then (if 0 ≤ x4 then (if x4 < (a0.length : Int) then (if 0 ≤ x9 then (if x9 < ((a0.getD (x4).toNat []).length : Int) then (if 0 ≤ x9 then (if x9 < (x8.length : Int) then (armillaryref22_Made.l2 a0 x1 x4 kq2 (x8.set (x9).toNat (iMax (((a0.getD (x4).toNat []).getD (x9).toNat 0).tmod 1073741825) (W .i64 (0 - (((a0.getD (x4).toNat []).getD (x9).toNat 0).tmod 1073741825))))) (W .i64 (x9 + 1))) else none) else none) else none) else none) else none) else none) else (some x8)) = some y5 := H
          refine QN.then_ ?_
          refine OK.cd x10 (fun hb => ?_) (fun hb => ?_)
          ·skip
           have hc := hb
           rw [if_pos hc] at H
           clear hb
           refine OK.skt ?_
           refine OK.sq ?_
           refine OK.bk 5 ?_
           refine OK.sr ?_
           refine RL.s 2 [(58, i6 x4), (57, .slice Ap0 a0.length cp0), (0, .slice Ap0 a0.length cp0), (1, i6 a1), (7, .slice A2 x3.length c2), (8, i6 x1), (10, i6 x4), (11, .slice A6 x8.length c6), (12, i6 x9)] ?_
           obtain ⟨hib0, H⟩ := ifs H
           obtain ⟨hib1, H⟩ := ifs H
           obtain ⟨g1_, o1_, hA1_, A1_, c1_, hl1_, hr1_, hc1_⟩ := Ty.slice_at (Rd.ext (Imm.le_trans (Imm.le_trans (Imm.le_trans (Imm.le_trans hi1 hi3) hi4) hi8) hi9) hrp0) x4 hib0 hib1
           refine RL.idx 1 .i64 x4 hA1_ a0.length cp0 (some 59) (by kernel_rfl) (by kernel_rfl) (T := 22) (e := 24) (by kernel_rfl) (by kernel_rfl) hib0 hib1 (K' := [(59, pt g1_ (o1_ + (x4).toNat * 1)), (58, i6 x4), (57, .slice Ap0 a0.length cp0), (0, .slice Ap0 a0.length cp0), (1, i6 a1), (7, .slice A2 x3.length c2), (8, i6 x1), (10, i6 x4), (11, .slice A6 x8.length c6), (12, i6 x9)]) (by kernel_rfl) ?_
           refine RL.simK (K' := [(61, i6 x9), (60, .slice A1_ ((a0.getD (x4).toNat []).length) c1_), (0, .slice Ap0 a0.length cp0), (1, i6 a1), (7, .slice A2 x3.length c2), (8, i6 x1), (10, i6 x4), (11, .slice A6 x8.length c6), (12, i6 x9)]) [(⟨g1_, o1_ + (x4).toNat * 1, none⟩, .slice A1_ ((a0.getD (x4).toNat []).length) c1_)] (RFacts.imm (hc1_ 0 _ rfl) (RFacts.nil _ _ _)) 2 [.r 0, .no] (by kernel_rfl) (by kernel_rfl) ?_
           obtain ⟨hib0, H⟩ := ifs H
           obtain ⟨hib1, H⟩ := ifs H
           obtain ⟨g2_, o2_, hA2_, hc2_⟩ := Ty.int_at hr1_ x9 hib0 hib1
           refine RL.idx 1 .i64 x9 hA2_ ((a0.getD (x4).toNat []).length) c1_ (some 62) (by kernel_rfl) (by kernel_rfl) (T := 24) (e := 2) (by kernel_rfl) (by kernel_rfl) hib0 hib1 (K' := [(62, pt g2_ (o2_ + (x9).toNat * 1)), (61, i6 x9), (60, .slice A1_ ((a0.getD (x4).toNat []).length) c1_), (0, .slice Ap0 a0.length cp0), (1, i6 a1), (7, .slice A2 x3.length c2), (8, i6 x1), (10, i6 x4), (11, .slice A6 x8.length c6), (12, i6 x9)]) (by kernel_rfl) ?_
           refine RL.simK (K' := [(13, i6 (((a0.getD (x4).toNat []).getD (x9).toNat 0).tmod 1073741825)), (0, .slice Ap0 a0.length cp0), (1, i6 a1), (7, .slice A2 x3.length c2), (8, i6 x1), (10, i6 x4), (11, .slice A6 x8.length c6), (12, i6 x9)]) [(⟨g2_, o2_ + (x9).toNat * 1, none⟩, i6 ((a0.getD (x4).toNat []).getD (x9).toNat 0))] (RFacts.imm (hc2_ 0 _ rfl) (RFacts.nil _ _ _)) 3 [.r 0, .no, .no] (by kernel_rfl) (by kernel_rfl) ?_
           refine RL.nt ?_
           refine OK.rg ?_
           refine RL.s 6 [(70, i6 (iMax (((a0.getD (x4).toNat []).getD (x9).toNat 0).tmod 1073741825) (W .i64 (0 - (((a0.getD (x4).toNat []).getD (x9).toNat 0).tmod 1073741825))))), (66, i6 x9), (65, .slice A6 x8.length c6), (0, .slice Ap0 a0.length cp0), (1, i6 a1), (7, .slice A2 x3.length c2), (8, i6 x1), (10, i6 x4), (11, .slice A6 x8.length c6), (12, i6 x9)] ?_
           obtain ⟨hib0, H⟩ := ifs H
           obtain ⟨hib1, H⟩ := ifs H
           have hx03_ := hib0; have hx13_ := hib1
           refine RL.ownAddr (e := 2) (sz := 1) (S := A6) (n := x8.length) (cap := c6) (cs := cs6) 1 (by kernel_rfl) (by omega) (fun g3_ hA3_ => ?_)
           have hc3_ := Ty.int_own (Reps.ext hi9 hp7) x9 hib0 hib1
           refine RL.idx 1 .i64 x9 hA3_ x8.length c6 (some 71) (by kernel_rfl) (by kernel_rfl) (T := 24) (e := 2) (by kernel_rfl) (by kernel_rfl) hib0 hib1 (K' := [(71, pt g3_ (0 + (x9).toNat * 1)), (70, i6 (iMax (((a0.getD (x4).toNat []).getD (x9).toNat 0).tmod 1073741825) (W .i64 (0 - (((a0.getD (x4).toNat []).getD (x9).toNat 0).tmod 1073741825))))), (66, i6 x9), (65, .slice A6 x8.length c6), (0, .slice Ap0 a0.length cp0), (1, i6 a1), (7, .slice A2 x3.length c2), (8, i6 x1), (10, i6 x4), (11, .slice A6 x8.length c6), (12, i6 x9)]) (by kernel_rfl) ?_
           refine RL.storeL (T := 2) (e := 2) 1 1 hA3_ c6 x9 cs6 [i6 (iMax (((a0.getD (x4).toNat []).getD (x9).toNat 0).tmod 1073741825) (W .i64 (0 - (((a0.getD (x4).toNat []).getD (x9).toNat 0).tmod 1073741825))))] (i6 (iMax (((a0.getD (x4).toNat []).getD (x9).toNat 0).tmod 1073741825) (W .i64 (0 - (((a0.getD (x4).toNat []).getD (x9).toNat 0).tmod 1073741825))))) (Ty.int .i64) x8 (iMax (((a0.getD (x4).toNat []).getD (x9).toNat 0).tmod 1073741825) (W .i64 (0 - (((a0.getD (x4).toNat []).getD (x9).toNat 0).tmod 1073741825)))) (by kernel_rfl) (by kernel_rfl) (by kernel_rfl) (by kernel_rfl) (by kernel_rfl) rfl (by kernel_rfl) (Reps.ext hi9 hp7) hx03_ hx13_ (fun cs7 hp8 => ?_)
           refine RL.sub (K' := [(70, i6 (iMax (((a0.getD (x4).toNat []).getD (x9).toNat 0).tmod 1073741825) (W .i64 (0 - (((a0.getD (x4).toNat []).getD (x9).toNat 0).tmod 1073741825))))), (66, i6 x9), (65, .slice A6 x8.length c6), (0, .slice Ap0 a0.length cp0), (1, i6 a1), (7, .slice A2 x3.length c2), (8, i6 x1), (10, i6 x4), (11, .slice A6 x8.length c6), (12, i6 x9)]) (L' := []) (X' := [orow 24 1 A2 x3.length c2 cs2, orow 2 1 A6 ((x8.set (x9).toNat (iMax (((a0.getD (x4).toNat []).getD (x9).toNat 0).tmod 1073741825) (W .i64 (0 - (((a0.getD (x4).toNat []).getD (x9).toNat 0).tmod 1073741825))))).length) c6 cs7]) (by kernel_rfl) (.refl _) (.refl _) ?_
           refine RL.norm (K' := [(70, i6 (iMax (((a0.getD (x4).toNat []).getD (x9).toNat 0).tmod 1073741825) (W .i64 (0 - (((a0.getD (x4).toNat []).getD (x9).toNat 0).tmod 1073741825))))), (66, i6 x9), (65, .slice A6 ((x8.set (x9).toNat (iMax (((a0.getD (x4).toNat []).getD (x9).toNat 0).tmod 1073741825) (W .i64 (0 - (((a0.getD (x4).toNat []).getD (x9).toNat 0).tmod 1073741825))))).length) c6), (0, .slice Ap0 a0.length cp0), (1, i6 a1), (7, .slice A2 x3.length c2), (8, i6 x1), (10, i6 x4), (11, .slice A6 ((x8.set (x9).toNat (iMax (((a0.getD (x4).toNat []).getD (x9).toNat 0).tmod 1073741825) (W .i64 (0 - (((a0.getD (x4).toNat []).getD (x9).toNat 0).tmod 1073741825))))).length) c6), (12, i6 x9)]) (L' := []) (by simp only [List.length_set]) rfl (by first | rfl | simp only [List.length_set]) rfl ?_
           refine RL.nil (by kernel_rfl) ?_
           refine QN.sub (K' := [(0, .slice Ap0 a0.length cp0), (1, i6 a1), (7, .slice A2 x3.length c2), (8, i6 x1), (10, i6 x4), (11, .slice A6 ((x8.set (x9).toNat (iMax (((a0.getD (x4).toNat []).getD (x9).toNat 0).tmod 1073741825) (W .i64 (0 - (((a0.getD (x4).toNat []).getD (x9).toNat 0).tmod 1073741825))))).length) c6), (12, i6 x9)]) (L' := []) (by kernel_rfl) .slnil (.refl _) ?_
           refine QN.blkN ?_
           refine QN.then_ ?_
           refine OK.rg ?_
           refine RL.s 3 [(12, i6 (W .i64 (x9 + 1))), (0, .slice Ap0 a0.length cp0), (1, i6 a1), (7, .slice A2 x3.length c2), (8, i6 x1), (10, i6 x4), (11, .slice A6 ((x8.set (x9).toNat (iMax (((a0.getD (x4).toNat []).getD (x9).toNat 0).tmod 1073741825) (W .i64 (0 - (((a0.getD (x4).toNat []).getD (x9).toNat 0).tmod 1073741825))))).length) c6)] ?_
           refine RL.nil (by kernel_rfl) ?_
           exact QN.sb (hJ7 _ _ _ _ _ ⟨x8.set (x9).toNat (iMax (((a0.getD (x4).toNat []).getD (x9).toNat 0).tmod 1073741825) (W .i64 (0 - (((a0.getD (x4).toNat []).getD (x9).toNat 0).tmod 1073741825)))), W .i64 (x9 + 1), A6, c6, cs7, rfl, rfl, rfl, (Imm.le_trans hi8 hi9), hp8, H⟩) .slnil (.refl _)
          ·skip
           have hc := (Bool.eq_false_iff.1 hb)
           rw [if_neg hc] at H
           clear hb
           refine OK.ex 4 ?_
           refine QN.thenE ?_
           refine QN.outE hQ7 ?_
           refine QN.blkE ?_
           obtain rfl := Option.some.inj H
           exact QN.sb (hJ6 _ _ _ _ _ ⟨x8, A6, c6, cs6, rfl, rfl, rfl, (Imm.le_trans hi8 hi9), (Reps.ext hi9 hp7), HK5⟩) .slnil (.refl _)
         ·intro Q_4 hJ8 hQ8
          obtain ⟨y6, H, HK6⟩ := bnd H
          refine OK.rg ?_
          refine RL.s 4 [(46, .bool (decide (x9 < x1))), (0, .slice Ap0 a0.length cp0), (1, i6 a1), (7, .slice A2 x3.length c2), (8, i6 x1), (10, i6 x4), (11, .slice A6 x8.length c6), (12, i6 x9)] ?_
          refine RL.cases (decide (x9 < x1)) (fun hb => ?_) (fun hb => ?_)
          ·have hc := (of_decide_eq_true hb)
           rw [hb]
           rw [if_pos hc] at H; clear hb
           refine RL.s 3 [(49, i6 x4), (48, .slice Ap0 a0.length cp0), (47, i6 x9), (46, .bool true), (0, .slice Ap0 a0.length cp0), (1, i6 a1), (7, .slice A2 x3.length c2), (8, i6 x1), (10, i6 x4), (11, .slice A6 x8.length c6), (12, i6 x9)] ?_
           obtain ⟨hib0, H⟩ := ifs H
           obtain ⟨hib1, H⟩ := ifs H
           obtain ⟨g4_, o4_, hA4_, A4_, c4_, hl4_, hr4_, hc4_⟩ := Ty.slice_at (Rd.ext (Imm.le_trans (Imm.le_trans (Imm.le_trans hi1 hi3) hi4) hi8) hrp0) x4 hib0 hib1
           refine RL.idx 1 .i64 x4 hA4_ a0.length cp0 (some 50) (by kernel_rfl) (by kernel_rfl) (T := 22) (e := 24) (by kernel_rfl) (by kernel_rfl) hib0 hib1 (K' := [(50, pt g4_ (o4_ + (x4).toNat * 1)), (49, i6 x4), (48, .slice Ap0 a0.length cp0), (47, i6 x9), (46, .bool true), (0, .slice Ap0 a0.length cp0), (1, i6 a1), (7, .slice A2 x3.length c2), (8, i6 x1), (10, i6 x4), (11, .slice A6 x8.length c6), (12, i6 x9)]) (by kernel_rfl) ?_
           refine RL.simK (K' := [(54, .bool (decide (x9 < ((a0.getD (x4).toNat []).length : Int)))), (0, .slice Ap0 a0.length cp0), (1, i6 a1), (7, .slice A2 x3.length c2), (8, i6 x1), (10, i6 x4), (11, .slice A6 x8.length c6), (12, i6 x9)]) [(⟨g4_, o4_ + (x4).toNat * 1, none⟩, .slice A4_ ((a0.getD (x4).toNat []).length) c4_)] (RFacts.imm (hc4_ 0 _ rfl) (RFacts.nil _ _ _)) 4 [.r 0, .no, .no, .no] (by kernel_rfl) (by kernel_rfl) ?_
           refine RL.nil (by kernel_rfl) ?_
           obtain rfl := Option.some.inj H
           exact QN.sb (hJ8 _ _ _ _ _ ⟨(decide (x9 < ((a0.getD (x4).toNat []).length : Int))), rfl, rfl, rfl, (Imm.le_refl _), HK6⟩) .slnil (.refl _)
          ·have hc := (of_decide_eq_false hb)
           rw [hb]
           rw [if_neg hc] at H; clear hb
           refine RL.s 8 [(54, .bool false), (0, .slice Ap0 a0.length cp0), (1, i6 a1), (7, .slice A2 x3.length c2), (8, i6 x1), (10, i6 x4), (11, .slice A6 x8.length c6), (12, i6 x9)] ?_
           refine RL.nil (by kernel_rfl) ?_
           obtain rfl := Option.some.inj H
           exact QN.sb (hJ8 _ _ _ _ _ ⟨false, rfl, rfl, rfl, (Imm.le_refl _), HK6⟩) .slnil (.refl _)
     ·skip
      have hc := (Bool.eq_false_iff.1 hb)
      rw [if_neg hc] at H
      clear hb
      refine OK.ex 2 ?_
      refine QN.thenE ?_
      refine QN.outE hQ3 ?_
      refine QN.blkE ?_
      obtain rfl := Option.some.inj H
      exact QN.sb (hJ2 _ _ _ _ _ ⟨x3, A2, c2, cs2, rfl, rfl, rfl, (Imm.le_trans hi3 hi4), (Reps.ext hi4 hp2), HK2⟩) .slnil (.refl _)
    ·intro Q_5 hJ4 hQ4
     obtain ⟨y3, H, HK3⟩ := bnd H
     refine OK.rg ?_
     refine RL.s 5 [(34, .bool (decide (x4 < (a0.length : Int)))), (0, .slice Ap0 a0.length cp0), (1, i6 a1), (7, .slice A2 x3.length c2), (8, i6 x1), (10, i6 x4)] ?_
     refine RL.cases (decide (x4 < (a0.length : Int))) (fun hb => ?_) (fun hb => ?_)
     ·have hc := (of_decide_eq_true hb)
      rw [hb]
      rw [if_pos hc] at H; clear hb
      refine RL.s 4 [(38, .bool (decide (x4 < a1))), (0, .slice Ap0 a0.length cp0), (1, i6 a1), (7, .slice A2 x3.length c2), (8, i6 x1), (10, i6 x4)] ?_
      refine RL.nil (by kernel_rfl) ?_
      obtain rfl := Option.some.inj H
      exact QN.sb (hJ4 _ _ _ _ _ ⟨(decide (x4 < a1)), rfl, rfl, rfl, (Imm.le_refl _), HK3⟩) .slnil (.refl _)
     ·have hc := (of_decide_eq_false hb)
      rw [hb]
      rw [if_neg hc] at H; clear hb
      refine RL.s 4 [(38, .bool false), (0, .slice Ap0 a0.length cp0), (1, i6 a1), (7, .slice A2 x3.length c2), (8, i6 x1), (10, i6 x4)] ?_
      refine RL.nil (by kernel_rfl) ?_
      obtain rfl := Option.some.inj H
      exact QN.sb (hJ4 _ _ _ _ _ ⟨false, rfl, rfl, rfl, (Imm.le_refl _), HK3⟩) .slnil (.refl _)
 ·intro Q_6 hJ1 hQ1
  obtain ⟨y1, H, HK1⟩ := bnd H
  refine OK.bk 0 ?_
  refine OK.sub (K' := [(0, .slice Ap0 a0.length cp0), (1, i6 a1), (2, i6 a2), (7, .slice (some ⟨nx0, 0, none⟩) 0 0), (8, i6 0), (9, i6 0)]) (L' := [⟨nx0, [], 24⟩]) (by kernel_rfl) (.cons_cons _ .slnil) (.refl _) ?_
  refine OK.lp (fun n_ K' I' _ L' X' => ∃ (x11 : Int) (x12 : Int), K' = [(0, .slice Ap0 a0.length cp0), (1, i6 a1), (2, i6 a2), (7, .slice (some ⟨nx0, 0, none⟩) 0 0), (8, i6 x11), (9, i6 x12)] ∧ L' = [⟨nx0, [], 24⟩] ∧ X' = [] ∧ Imm.le I0 I' ∧ armillaryref22_Made.l3 a0 a2 n_ x11 x12 = some y1) k ⟨0, 0, rfl, rfl, rfl, (Imm.le_refl _), H⟩ ?_ ?_
  ·rintro _ _ _ _ _ ⟨x11, x12, rfl, rfl, rfl, _, H⟩
   cases H
  ·rintro kq3 _ I10 nx11 _ _ ⟨x11, x12, rfl, rfl, rfl, hi10, H⟩ Q_l3 hJ9 hQ9
   rw [armillaryref22_Made.l3] at H
   refine OK.sq ?_
   refine OK.sr ?_
   refine RL.st 4 [(18, .bool (decide (x12 < (a0.length : Int)))), (0, .slice Ap0 a0.length cp0), (1, i6 a1), (2, i6 a2), (7, .slice (some ⟨nx0, 0, none⟩) 0 0), (8, i6 x11), (9, i6 x12)] ?_
   refine OK.cd (decide (x12 < (a0.length : Int))) (fun hb => ?_) (fun hb => ?_)
   ·skip
    have hc := (of_decide_eq_true hb)
    rw [if_pos hc] at H
    clear hb
    refine OK.skt ?_
    refine OK.sq ?_
    refine OK.bk 1 ?_
    refine OK.rg ?_
    refine RL.s 3 [(23, i6 x12), (22, .slice Ap0 a0.length cp0), (21, i6 x11), (0, .slice Ap0 a0.length cp0), (1, i6 a1), (2, i6 a2), (7, .slice (some ⟨nx0, 0, none⟩) 0 0), (8, i6 x11), (9, i6 x12)] ?_
    obtain ⟨hib0, H⟩ := ifs H
    obtain ⟨hib1, H⟩ := ifs H
    obtain ⟨g5_, o5_, hA5_, A5_, c5_, hl5_, hr5_, hc5_⟩ := Ty.slice_at (Rd.ext hi10 hrp0) x12 hib0 hib1
    refine RL.idx 1 .i64 x12 hA5_ a0.length cp0 (some 24) (by kernel_rfl) (by kernel_rfl) (T := 22) (e := 24) (by kernel_rfl) (by kernel_rfl) hib0 hib1 (K' := [(24, pt g5_ (o5_ + (x12).toNat * 1)), (23, i6 x12), (22, .slice Ap0 a0.length cp0), (21, i6 x11), (0, .slice Ap0 a0.length cp0), (1, i6 a1), (2, i6 a2), (7, .slice (some ⟨nx0, 0, none⟩) 0 0), (8, i6 x11), (9, i6 x12)]) (by kernel_rfl) ?_
    refine RL.simK (K' := [(8, i6 (iMax x11 (iMin ((a0.getD (x12).toNat []).length : Int) a2))), (0, .slice Ap0 a0.length cp0), (1, i6 a1), (2, i6 a2), (7, .slice (some ⟨nx0, 0, none⟩) 0 0), (9, i6 x12)]) [(⟨g5_, o5_ + (x12).toNat * 1, none⟩, .slice A5_ ((a0.getD (x12).toNat []).length) c5_)] (RFacts.imm (hc5_ 0 _ rfl) (RFacts.nil _ _ _)) 6 [.r 0, .no, .no, .no, .no, .no] (by kernel_rfl) (by kernel_rfl) ?_
    refine RL.nil (by kernel_rfl) ?_
    refine QN.blkN ?_
    refine QN.then_ ?_
    refine OK.rg ?_
    refine RL.s 3 [(9, i6 (W .i64 (x12 + 1))), (8, i6 (iMax x11 (iMin ((a0.getD (x12).toNat []).length : Int) a2))), (0, .slice Ap0 a0.length cp0), (1, i6 a1), (2, i6 a2), (7, .slice (some ⟨nx0, 0, none⟩) 0 0)] ?_
    refine RL.nil (by kernel_rfl) ?_
    exact QN.sb (hJ9 _ _ _ _ _ ⟨iMax x11 (iMin ((a0.getD (x12).toNat []).length : Int) a2), W .i64 (x12 + 1), rfl, rfl, rfl, hi10, H⟩) (.cons_cons _ .slnil) (.refl _)
   ·skip
    have hc := (of_decide_eq_false hb)
    rw [if_neg hc] at H
    clear hb
    refine OK.ex 0 ?_
    refine QN.thenE ?_
    refine QN.outE hQ9 ?_
    refine QN.blkE ?_
    obtain rfl := Option.some.inj H
    exact QN.sb (hJ1 _ _ _ _ _ ⟨x11, rfl, rfl, rfl, hi10, HK1⟩) (.cons_cons _ .slnil) (.refl _)

end Go.Proofs.Ytdmhbcgmimfjcaa
namespace Go.Proofs.Ytdmhbcgmimfjcaa
open Go Go.Proofs.Ytdmhbcgmimfjcaa.RW
set_option linter.unusedVariables false
set_option maxRecDepth 100000
set_option maxHeartbeats 8000000

/-! ### assign_Value: function 15, armillary/assign.Value -/
noncomputable def K15_0 : Code := cBody Try.f15
def assign_Value.k1  : (Int) ⊕ (Int × Bool) → Option (Int × Bool)
 | .inl x1 => (some (x1, true))
 | .inr r_ => some r_
def assign_Value.k3 (a0 : List (List Int)) (a1 : List Int) (x2 : List Bool) (x3 : Int) (x4 : Int) (x7 : Bool) : Option ((List Bool × Int) ⊕ (Int × Bool)) := (if x7 = true then (some (Sum.inr (0, false))) else (if 0 ≤ (a1.getD (x4).toNat 0) then (if (a1.getD (x4).toNat 0) < (x2.length : Int) then (if 0 ≤ x4 then (if x4 < (a0.length : Int) then (if 0 ≤ (a1.getD (x4).toNat 0) then (if (a1.getD (x4).toNat 0) < ((a0.getD (x4).toNat []).length : Int) then (some (Sum.inl (x2.set ((a1.getD (x4).toNat 0)).toNat true, W .i64 (x3 + ((a0.getD (x4).toNat []).getD ((a1.getD (x4).toNat 0)).toNat 0))))) else none) else none) else none) else none) else none) else none))
def assign_Value.l1 (a0 : List (List Int)) (a1 : List Int) : Nat → (List Bool) → Int → Int → Option ((Int) ⊕ (Int × Bool))
 | 0, _, _, _ => none
 | k + 1, x2, x3, x4 => (if x4 < (a1.length : Int) then ((if 0 ≤ x4 then (if x4 < (a1.length : Int) then (if (a1.getD (x4).toNat 0) = (-1) then (some (Sum.inl (x2, x3))) else ((if (a1.getD (x4).toNat 0) < 0 then (some true) else (if (a1.getD (x4).toNat 0) ≥ (x2.length : Int) then (some true) else (if 0 ≤ (a1.getD (x4).toNat 0) then (if (a1.getD (x4).toNat 0) < (x2.length : Int) then (some (x2.getD ((a1.getD (x4).toNat 0)).toNat false)) else none) else none))).bind (assign_Value.k3 a0 a1 x2 x3 x4))) else none) else none).bind (fun s_ => match s_ with | .inl (x5, x6) => (assign_Value.l1 a0 a1 k x5 x6 (W .i64 (x4 + 1))) | .inr r_ => some (Sum.inr r_))) else (some (Sum.inl x3)))
def assign_Value.f (k : Nat) (a0 : List (List Int)) (a1 : List Int) : Option (Int × Bool) := (if (a1.length : Int) ≠ (a0.length : Int) then (some (0, false)) else ((assign_columns.f a0).bind fun t1 => (if 0 ≤ t1 then (if t1 ≤ 281474976710656 then ((assign_Value.l1 a0 a1 k (List.replicate (t1).toNat (false : Bool)) 0 0).bind (assign_Value.k1)) else none) else none)))
def assign_Value.Post (I : Imm) (w : World) (r : Int × Bool) (v : Value) (w' : World) : Prop :=
 ∃ (J : Imm), v = .tuple #[.int .i64 r.1, .bool r.2] ∧ Got w w' I J []
theorem assign_Value.calls (k : Nat) (I0 : Imm) (a0 : List (List Int)) (Ap0 : Option Addr) (cp0 : Nat) (a1 : List Int) (Ap1 : Option Addr) (cp1 : Nat) (w : World) (hI : I0.at_ w) (hlp0 : a0.length ≤ cp0) (hrp0 : Rd (Ty.slice (Ty.int .i64)) I0 Ap0 a0) (hlp1 : a1.length ≤ cp1) (hrp1 : Rd (Ty.int .i64) I0 Ap1 a1) (r : Int × Bool) (h : assign_Value.f k a0 a1 = some r) :
  Calls Try.prog 15 [.slice Ap0 a0.length cp0, .slice Ap1 a1.length cp1].toArray w fun e w' => ∃ v, e = .returned v ∧ assign_Value.Post I0 w r v w' := by
 have H : (if (a1.length : Int) ≠ (a0.length : Int) then (some (0, false)) else ((assign_columns.f a0).bind fun t1 => (if 0 ≤ t1 then (if t1 ≤ 281474976710656 then ((assign_Value.l1 a0 a1 k (List.replicate (t1).toNat (false : Bool)) 0 0).bind (assign_Value.k1)) else none) else none))) = some r := h
 clear h
 refine calls_body Try.func15 (by kernel_rfl) 55 (by kernel_rfl) (by kernel_rfl) ⟨w, fun _ => False, I0⟩ I0 [] [(0, .slice Ap0 a0.length cp0), (1, .slice Ap1 a1.length cp1)] (by kernel_rfl) (Sat.start w _ I0 hI) ?_
 generalize w.heap.size = nx0
 show OK _ K15_0 _ _ _ _ _ _ _ _
 refine OK.sr ?_
 refine RL.st 2 [(0, .slice Ap0 a0.length cp0), (1, .slice Ap1 a1.length cp1)] ?_
 refine OK.sq ?_
 refine OK.sr ?_
 refine RL.st 5 [(14, .bool ((a1.length : Int) != (a0.length : Int))), (0, .slice Ap0 a0.length cp0), (1, .slice Ap1 a1.length cp1)] ?_
 refine OK.cd ((a1.length : Int) != (a0.length : Int)) (fun hb => ?_) (fun hb => ?_)
 ·skip
  have hc := (bne_iff_ne.1 hb)
  rw [if_pos hc] at H
  clear hb
  refine OK.sr ?_
  refine RL.st 2 [(5, .bool false), (4, i6 0)] ?_
  refine OK.re ?_
  refine QN.thenR ?_
  obtain rfl := Option.some.inj H
  refine QN.body rfl [] (RFacts.nil _ _ _) (.no) (.tuple #[i6 0, .bool false]) (by kernel_rfl) (by kernel_rfl) (by kernel_rfl) ?_ _ (.inr rfl)
  exact fun w' hs' => ⟨_, rfl, I0, rfl, hs'.got _ .slnil⟩
 ·skip
  have hc := (not_not_intro (bne_eq_false_iff_eq.1 hb))
  rw [if_neg hc] at H
  clear hb
  refine OK.skt ?_
  refine OK.sr ?_
  refine RL.s 1 [(15, .slice Ap0 a0.length cp0), (0, .slice Ap0 a0.length cp0), (1, .slice Ap1 a1.length cp1)] ?_
  obtain ⟨t1, hA1, H⟩ := bnd H
  refine RL.callP 29 [.slice Ap0 a0.length cp0] (some 16) (fun w => assign_columns.Post I0 w t1) (by kernel_rfl) (by kernel_rfl) (fun w hs => assign_columns.calls I0 a0 Ap0 cp0 w hs.im hlp0 hrp0 t1 hA1) ?_
  rintro w v w' hs ⟨I1, rfl, hg⟩
  have hi1 := hg.le
  refine RL.resume (X' := []) rfl (hs.call hg) ?_
  clear hs hg
  generalize w'.heap.size = nx1
  clear w w'
  obtain ⟨hm1, H⟩ := ifs H
  obtain ⟨hm2, H⟩ := ifs H
  refine RL.makeL (T := 51) (e := 4) t1 .i64 .i64 (some 17) (.bool false) (false) Ty.bool 1 (by kernel_rfl) (by kernel_rfl) (by kernel_rfl) (by kernel_rfl) (by kernel_rfl) rfl hm1 (by omega) (by omega) (fun nx2 hp1 => ?_)
  refine RL.norm (K' := [(17, .slice (some ⟨nx1, 0, none⟩) ((List.replicate (t1).toNat (false : Bool)).length) ((List.replicate (t1).toNat (false : Bool)).length)), (16, i6 t1), (15, .slice Ap0 a0.length cp0), (0, .slice Ap0 a0.length cp0), (1, .slice Ap1 a1.length cp1)]) (X' := [orow 4 1 (some ⟨nx1, 0, none⟩) ((List.replicate (t1).toNat (false : Bool)).length) ((List.replicate (t1).toNat (false : Bool)).length) (List.replicate (t1).toNat (.bool false))]) (by kernel_rfl) rfl rfl (by kernel_rfl) ?_
  refine RL.st 1 [(6, .slice (some ⟨nx1, 0, none⟩) ((List.replicate (t1).toNat (false : Bool)).length) ((List.replicate (t1).toNat (false : Bool)).length)), (0, .slice Ap0 a0.length cp0), (1, .slice Ap1 a1.length cp1)] ?_
  refine OK.sr ?_
  refine RL.st 1 [(7, i6 0), (6, .slice (some ⟨nx1, 0, none⟩) ((List.replicate (t1).toNat (false : Bool)).length) ((List.replicate (t1).toNat (false : Bool)).length)), (0, .slice Ap0 a0.length cp0), (1, .slice Ap1 a1.length cp1)] ?_
  refine OK.sq ?_
  refine OK.sr ?_
  refine RL.st 3 [(20, i6 0), (19, i6 (a1.length : Int)), (18, .slice Ap1 a1.length cp1), (7, i6 0), (6, .slice (some ⟨nx1, 0, none⟩) ((List.replicate (t1).toNat (false : Bool)).length) ((List.replicate (t1).toNat (false : Bool)).length)), (0, .slice Ap0 a0.length cp0)] ?_
  refine OK.join (fun K' I' _ L' X' => ∃ (x1 : Int), K' = [(7, i6 x1)] ∧ L' = [] ∧ X' = [] ∧ Imm.le I1 I' ∧ assign_Value.k1 (Sum.inl x1) = some r) ?_ ?_
  ·rintro _ I2 nx3 _ _ ⟨x1, rfl, rfl, rfl, hi2, H⟩
   rw [assign_Value.k1] at H
   refine QN.then_ ?_
   refine OK.sr ?_
   refine RL.st 3 [(5, .bool true), (4, i6 x1)] ?_
   refine OK.re ?_
   obtain rfl := Option.some.inj H
   refine QN.body rfl [] (RFacts.nil _ _ _) (.no) (.tuple #[i6 x1, .bool true]) (by kernel_rfl) (by kernel_rfl) (by kernel_rfl) ?_ _ (.inr rfl)
   exact fun w' hs' => ⟨_, rfl, I2, rfl, hs'.got _ .slnil⟩
  ·intro Q_1 hJ1 hQ1
   obtain ⟨y1, H, HK1⟩ := bnd H
   refine OK.bk 0 ?_
   refine OK.sub (K' := [(0, .slice Ap0 a0.length cp0), (6, .slice (some ⟨nx1, 0, none⟩) ((List.replicate (t1).toNat (false : Bool)).length) ((List.replicate (t1).toNat (false : Bool)).length)), (7, i6 0), (18, .slice Ap1 a1.length cp1), (19, i6 (a1.length : Int)), (20, i6 0)]) (L' := []) (by kernel_rfl) .slnil (.refl _) ?_
   refine OK.lp (fun n_ K' I' _ L' X' => ∃ (x2 : List Bool) (x3 : Int) (x4 : Int) (A1 : Option Addr) (c1 : Nat) (cs1 : List Value), K' = [(0, .slice Ap0 a0.length cp0), (6, .slice A1 x2.length c1), (7, i6 x3), (18, .slice Ap1 a1.length cp1), (19, i6 (a1.length : Int)), (20, i6 x4)] ∧ L' = [] ∧ X' = [orow 4 1 A1 x2.length c1 cs1] ∧ Imm.le I1 I' ∧ Reps Ty.bool I' x2 cs1 ∧ assign_Value.l1 a0 a1 n_ x2 x3 x4 = some y1) k ⟨List.replicate (t1).toNat (false : Bool), 0, 0, (some ⟨nx1, 0, none⟩), (List.replicate (t1).toNat (false : Bool)).length, (List.replicate (t1).toNat (.bool false)), rfl, rfl, rfl, (Imm.le_refl _), hp1, H⟩ ?_ ?_
   ·rintro _ _ _ _ _ ⟨x2, x3, x4, A1, c1, cs1, rfl, rfl, rfl, _, hp2, H⟩
    cases H
   ·rintro kq1 _ I3 nx4 _ _ ⟨x2, x3, x4, A1, c1, cs1, rfl, rfl, rfl, hi3, hp2, H⟩ Q_l1 hJ2 hQ2
    rw [assign_Value.l1] at H
    refine OK.sr ?_
    refine RL.st 1 [(21, .bool (decide (x4 < (a1.length : Int)))), (0, .slice Ap0 a0.length cp0), (6, .slice A1 x2.length c1), (7, i6 x3), (18, .slice Ap1 a1.length cp1), (19, i6 (a1.length : Int)), (20, i6 x4)] ?_
    refine OK.sq ?_
    refine OK.cd (decide (x4 < (a1.length : Int))) (fun hb => ?_) (fun hb => ?_)
    ·skip
     have hc := (of_decide_eq_true hb)
     rw [if_pos hc] at H
     clear hb
     refine OK.skt ?_
     refine OK.sq ?_
     refine OK.join (fun K' I' _ L' X' => ∃ (x5 : List Bool) (x6 : Int) (A2 : Option Addr) (c2 : Nat) (cs2 : List Value), K' = [(0, .slice Ap0 a0.length cp0), (6, .slice A2 x5.length c2), (7, i6 x6), (18, .slice Ap1 a1.length cp1), (19, i6 (a1.length : Int)), (20, i6 x4)] ∧ L' = [] ∧ X' = [orow 4 1 A2 x5.length c2 cs2] ∧ Imm.le I3 I' ∧ Reps Ty.bool I' x5 cs2 ∧ (assign_Value.l1 a0 a1 kq1 x5 x6 (W .i64 (x4 + 1))) = some y1) ?_ ?_
     ·rintro _ I4 nx5 _ _ ⟨x5, x6, A2, c2, cs2, rfl, rfl, rfl, hi4, hp3, H⟩
      replace H : (assign_Value.l1 a0 a1 kq1 x5 x6 (W .i64 (x4 + 1))) = some y1 := H
      refine QN.then_ ?_
      refine OK.rg ?_
      refine RL.s 2 [(20, i6 (W .i64 (x4 + 1))), (0, .slice Ap0 a0.length cp0), (6, .slice A2 x5.length c2), (7, i6 x6), (18, .slice Ap1 a1.length cp1), (19, i6 (a1.length : Int))] ?_
      refine RL.nil (by kernel_rfl) ?_
      exact QN.sb (hJ2 _ _ _ _ _ ⟨x5, x6, W .i64 (x4 + 1), A2, c2, cs2, rfl, rfl, rfl, (Imm.le_trans hi3 hi4), hp3, H⟩) .slnil (.refl _)
     ·intro Q_2 hJ3 hQ3
      obtain ⟨y2, H, HK2⟩ := bnd H
      refine OK.bk 1 ?_
      refine OK.sr ?_
      refine RL.s 1 [(22, i6 x4), (0, .slice Ap0 a0.length cp0), (6, .slice A1 x2.length c1), (7, i6 x3), (18, .slice Ap1 a1.length cp1), (19, i6 (a1.length : Int)), (20, i6 x4)] ?_
      obtain ⟨hib0, H⟩ := ifs H
      obtain ⟨hib1, H⟩ := ifs H
      obtain ⟨g1_, o1_, hA1_, hc1_⟩ := Ty.int_at (Rd.ext (Imm.le_trans hi1 hi3) hrp1) x4 hib0 hib1
      refine RL.idx 1 .i64 x4 hA1_ a1.length cp1 (some 23) (by kernel_rfl) (by kernel_rfl) (T := 23) (e := 3) (by kernel_rfl) (by kernel_rfl) hib0 hib1 (K' := [(23, pt g1_ (o1_ + (x4).toNat * 1)), (22, i6 x4), (0, .slice Ap0 a0.length cp0), (6, .slice A1 x2.length c1), (7, i6 x3), (18, .slice Ap1 a1.length cp1), (19, i6 (a1.length : Int)), (20, i6 x4)]) (by kernel_rfl) ?_
      refine RL.simK (K' := [(9, i6 (a1.getD (x4).toNat 0)), (8, i6 x4), (0, .slice Ap0 a0.length cp0), (6, .slice A1 x2.length c1), (7, i6 x3), (18, .slice Ap1 a1.length cp1), (19, i6 (a1.length : Int)), (20, i6 x4)]) [(⟨g1_, o1_ + (x4).toNat * 1, none⟩, i6 (a1.getD (x4).toNat 0))] (RFacts.imm (hc1_ 0 _ rfl) (RFacts.nil _ _ _)) 3 [.r 0, .no, .no] (by kernel_rfl) (by kernel_rfl) ?_
      refine RL.nt ?_
      refine OK.sq ?_
      refine OK.sr ?_
      refine RL.st 2 [(26, .bool ((a1.getD (x4).toNat 0) == (-1))), (9, i6 (a1.getD (x4).toNat 0)), (8, i6 x4), (0, .slice Ap0 a0.length cp0), (6, .slice A1 x2.length c1), (7, i6 x3), (18, .slice Ap1 a1.length cp1), (19, i6 (a1.length : Int)), (20, i6 x4)] ?_
      refine OK.cd ((a1.getD (x4).toNat 0) == (-1)) (fun hb => ?_) (fun hb => ?_)
      ·skip
       have hc := (beq_iff_eq.1 hb)
       rw [if_pos hc] at H
       clear hb
       refine OK.ex 1 ?_
       refine QN.thenE ?_
       refine QN.blkE ?_
       obtain rfl := Option.some.inj H
       exact QN.sb (hJ3 _ _ _ _ _ ⟨x2, x3, A1, c1, cs1, rfl, rfl, rfl, (Imm.le_refl _), hp2, HK2⟩) .slnil (.refl _)
      ·skip
       have hc := (beq_eq_false_iff_ne.1 hb)
       rw [if_neg hc] at H
       clear hb
       refine OK.skt ?_
       refine OK.sq ?_
       refine OK.sq ?_
       refine OK.join (fun K' I' _ L' X' => ∃ (x7 : Bool), K' = [(0, .slice Ap0 a0.length cp0), (6, .slice A1 x2.length c1), (7, i6 x3), (8, i6 x4), (9, i6 (a1.getD (x4).toNat 0)), (18, .slice Ap1 a1.length cp1), (19, i6 (a1.length : Int)), (20, i6 x4), (40, .bool x7)] ∧ L' = [] ∧ X' = [orow 4 1 A1 x2.length c1 cs1] ∧ Imm.le I3 I' ∧ assign_Value.k3 a0 a1 x2 x3 x4 x7 = some y2) ?_ ?_
       ·rintro _ I5 nx6 _ _ ⟨x7, rfl, rfl, rfl, hi5, H⟩
        rw [assign_Value.k3] at H
        refine QN.then_ ?_
        refine OK.cd x7 (fun hb => ?_) (fun hb => ?_)
        ·skip
         have hc := hb
         rw [if_pos hc] at H
         clear hb
         refine OK.sr ?_
         refine RL.st 2 [(5, .bool false), (4, i6 0)] ?_
         refine OK.re ?_
         refine QN.thenR ?_
         refine QN.blkR ?_
         refine QN.outR hQ3 ?_
         refine QN.thenR ?_
         refine QN.outR hQ2 ?_
         refine QN.blkR ?_
         refine QN.outR hQ1 ?_
         refine QN.thenR ?_
         obtain rfl := Option.some.inj H
         replace H : some (Sum.inr (0, false)) = some y1 := HK2
         obtain rfl := Option.some.inj H
         replace H : some (0, false) = some r := HK1
         obtain rfl := Option.some.inj H
         refine QN.body rfl [] (RFacts.nil _ _ _) (.no) (.tuple #[i6 0, .bool false]) (by kernel_rfl) (by kernel_rfl) (by kernel_rfl) ?_ _ (.inr rfl)
         exact fun w' hs' => ⟨_, rfl, I5, rfl, hs'.got _ (.cons _ .slnil)⟩
        ·skip
         have hc := (Bool.eq_false_iff.1 hb)
         rw [if_neg hc] at H
         clear hb
         refine OK.skt ?_
         refine OK.sr ?_
         refine RL.s 2 [(42, i6 (a1.getD (x4).toNat 0)), (41, .slice A1 x2.length c1), (0, .slice Ap0 a0.length cp0), (6, .slice A1 x2.length c1), (7, i6 x3), (8, i6 x4), (9, i6 (a1.getD (x4).toNat 0)), (18, .slice Ap1 a1.length cp1), (19, i6 (a1.length : Int)), (20, i6 x4)] ?_
         obtain ⟨hib0, H⟩ := ifs H
         obtain ⟨hib1, H⟩ := ifs H
         have hx02_ := hib0; have hx12_ := hib1
         refine RL.ownAddr (e := 4) (sz := 1) (S := A1) (n := x2.length) (cap := c1) (cs := cs1) 0 (by kernel_rfl) (by omega) (fun g2_ hA2_ => ?_)
         have hc2_ := Ty.bool_own (Reps.ext hi5 hp2) (a1.getD (x4).toNat 0) hib0 hib1
         refine RL.idx 1 .i64 (a1.getD (x4).toNat 0) hA2_ x2.length c1 (some 43) (by kernel_rfl) (by kernel_rfl) (T := 51) (e := 4) (by kernel_rfl) (by kernel_rfl) hib0 hib1 (K' := [(43, pt g2_ (0 + ((a1.getD (x4).toNat 0)).toNat * 1)), (42, i6 (a1.getD (x4).toNat 0)), (41, .slice A1 x2.length c1), (0, .slice Ap0 a0.length cp0), (6, .slice A1 x2.length c1), (7, i6 x3), (8, i6 x4), (9, i6 (a1.getD (x4).toNat 0)), (18, .slice Ap1 a1.length cp1), (19, i6 (a1.length : Int)), (20, i6 x4)]) (by kernel_rfl) ?_
         refine RL.storeL (T := 4) (e := 4) 1 0 hA2_ c1 (a1.getD (x4).toNat 0) cs1 [.bool true] (.bool true) Ty.bool x2 true (by kernel_rfl) (by kernel_rfl) (by kernel_rfl) (by kernel_rfl) (by kernel_rfl) rfl (by kernel_rfl) (Reps.ext hi5 hp2) hx02_ hx12_ (fun cs3 hp4 => ?_)
         refine RL.sub (K' := [(42, i6 (a1.getD (x4).toNat 0)), (41, .slice A1 x2.length c1), (0, .slice Ap0 a0.length cp0), (6, .slice A1 x2.length c1), (7, i6 x3), (8, i6 x4), (9, i6 (a1.getD (x4).toNat 0)), (18, .slice Ap1 a1.length cp1), (19, i6 (a1.length : Int)), (20, i6 x4)]) (L' := []) (X' := [orow 4 1 A1 ((x2.set ((a1.getD (x4).toNat 0)).toNat true).length) c1 cs3]) (by kernel_rfl) (.refl _) (.refl _) ?_
         refine RL.norm (K' := [(42, i6 (a1.getD (x4).toNat 0)), (41, .slice A1 ((x2.set ((a1.getD (x4).toNat 0)).toNat true).length) c1), (0, .slice Ap0 a0.length cp0), (6, .slice A1 ((x2.set ((a1.getD (x4).toNat 0)).toNat true).length) c1), (7, i6 x3), (8, i6 x4), (9, i6 (a1.getD (x4).toNat 0)), (18, .slice Ap1 a1.length cp1), (19, i6 (a1.length : Int)), (20, i6 x4)]) (L' := []) (by simp only [List.length_set]) rfl (by first | rfl | simp only [List.length_set]) rfl ?_
         refine RL.nil (by kernel_rfl) ?_
         refine QN.sub (K' := [(0, .slice Ap0 a0.length cp0), (6, .slice A1 ((x2.set ((a1.getD (x4).toNat 0)).toNat true).length) c1), (7, i6 x3), (8, i6 x4), (9, i6 (a1.getD (x4).toNat 0)), (18, .slice Ap1 a1.length cp1), (19, i6 (a1.length : Int)), (20, i6 x4)]) (L' := []) (by kernel_rfl) .slnil (.refl _) ?_
         refine QN.then_ ?_
         refine OK.rg ?_
         refine RL.s 3 [(46, i6 x4), (45, .slice Ap0 a0.length cp0), (44, i6 x3), (0, .slice Ap0 a0.length cp0), (6, .slice A1 ((x2.set ((a1.getD (x4).toNat 0)).toNat true).length) c1), (7, i6 x3), (9, i6 (a1.getD (x4).toNat 0)), (18, .slice Ap1 a1.length cp1), (19, i6 (a1.length : Int)), (20, i6 x4)] ?_
         obtain ⟨hib0, H⟩ := ifs H
         obtain ⟨hib1, H⟩ := ifs H
         obtain ⟨g3_, o3_, hA3_, A3_, c3_, hl3_, hr3_, hc3_⟩ := Ty.slice_at (Rd.ext (Imm.le_trans (Imm.le_trans hi1 hi3) hi5) hrp0) x4 hib0 hib1
         refine RL.idx 1 .i64 x4 hA3_ a0.length cp0 (some 47) (by kernel_rfl) (by kernel_rfl) (T := 22) (e := 24) (by kernel_rfl) (by kernel_rfl) hib0 hib1 (K' := [(47, pt g3_ (o3_ + (x4).toNat * 1)), (46, i6 x4), (45, .slice Ap0 a0.length cp0), (44, i6 x3), (0, .slice Ap0 a0.length cp0), (6, .slice A1 ((x2.set ((a1.getD (x4).toNat 0)).toNat true).length) c1), (7, i6 x3), (9, i6 (a1.getD (x4).toNat 0)), (18, .slice Ap1 a1.length cp1), (19, i6 (a1.length : Int)), (20, i6 x4)]) (by kernel_rfl) ?_
         refine RL.simK (K' := [(49, i6 (a1.getD (x4).toNat 0)), (48, .slice A3_ ((a0.getD (x4).toNat []).length) c3_), (44, i6 x3), (0, .slice Ap0 a0.length cp0), (6, .slice A1 ((x2.set ((a1.getD (x4).toNat 0)).toNat true).length) c1), (7, i6 x3), (18, .slice Ap1 a1.length cp1), (19, i6 (a1.length : Int)), (20, i6 x4)]) [(⟨g3_, o3_ + (x4).toNat * 1, none⟩, .slice A3_ ((a0.getD (x4).toNat []).length) c3_)] (RFacts.imm (hc3_ 0 _ rfl) (RFacts.nil _ _ _)) 2 [.r 0, .no] (by kernel_rfl) (by kernel_rfl) ?_
         obtain ⟨hib0, H⟩ := ifs H
         obtain ⟨hib1, H⟩ := ifs H
         obtain ⟨g4_, o4_, hA4_, hc4_⟩ := Ty.int_at hr3_ (a1.getD (x4).toNat 0) hib0 hib1
         refine RL.idx 1 .i64 (a1.getD (x4).toNat 0) hA4_ ((a0.getD (x4).toNat []).length) c3_ (some 50) (by kernel_rfl) (by kernel_rfl) (T := 24) (e := 2) (by kernel_rfl) (by kernel_rfl) hib0 hib1 (K' := [(50, pt g4_ (o4_ + ((a1.getD (x4).toNat 0)).toNat * 1)), (49, i6 (a1.getD (x4).toNat 0)), (48, .slice A3_ ((a0.getD (x4).toNat []).length) c3_), (44, i6 x3), (0, .slice Ap0 a0.length cp0), (6, .slice A1 ((x2.set ((a1.getD (x4).toNat 0)).toNat true).length) c1), (7, i6 x3), (18, .slice Ap1 a1.length cp1), (19, i6 (a1.length : Int)), (20, i6 x4)]) (by kernel_rfl) ?_
         refine RL.simK (K' := [(7, i6 (W .i64 (x3 + ((a0.getD (x4).toNat []).getD ((a1.getD (x4).toNat 0)).toNat 0)))), (0, .slice Ap0 a0.length cp0), (6, .slice A1 ((x2.set ((a1.getD (x4).toNat 0)).toNat true).length) c1), (18, .slice Ap1 a1.length cp1), (19, i6 (a1.length : Int)), (20, i6 x4)]) [(⟨g4_, o4_ + ((a1.getD (x4).toNat 0)).toNat * 1, none⟩, i6 ((a0.getD (x4).toNat []).getD ((a1.getD (x4).toNat 0)).toNat 0))] (RFacts.imm (hc4_ 0 _ rfl) (RFacts.nil _ _ _)) 3 [.r 0, .no, .no] (by kernel_rfl) (by kernel_rfl) ?_
         refine RL.nil (by kernel_rfl) ?_
         refine QN.blkN ?_
         obtain rfl := Option.some.inj H
         exact QN.sb (hJ3 _ _ _ _ _ ⟨x2.set ((a1.getD (x4).toNat 0)).toNat true, W .i64 (x3 + ((a0.getD (x4).toNat []).getD ((a1.getD (x4).toNat 0)).toNat 0)), A1, c1, cs3, rfl, rfl, rfl, hi5, hp4, HK2⟩) .slnil (.refl _)
       ·intro Q_3 hJ4 hQ4
        obtain ⟨y3, H, HK3⟩ := bnd H
        refine OK.rg ?_
        refine RL.s 3 [(29, .bool (decide ((a1.getD (x4).toNat 0) < 0))), (9, i6 (a1.getD (x4).toNat 0)), (8, i6 x4), (0, .slice Ap0 a0.length cp0), (6, .slice A1 x2.length c1), (7, i6 x3), (18, .slice Ap1 a1.length cp1), (19, i6 (a1.length : Int)), (20, i6 x4)] ?_
        refine RL.cases (decide ((a1.getD (x4).toNat 0) < 0)) (fun hb => ?_) (fun hb => ?_)
        ·have hc := (of_decide_eq_true hb)
         rw [hb]
         rw [if_pos hc] at H; clear hb
         refine RL.s 11 [(40, .bool true), (9, i6 (a1.getD (x4).toNat 0)), (8, i6 x4), (0, .slice Ap0 a0.length cp0), (6, .slice A1 x2.length c1), (7, i6 x3), (18, .slice Ap1 a1.length cp1), (19, i6 (a1.length : Int)), (20, i6 x4)] ?_
         refine RL.nil (by kernel_rfl) ?_
         obtain rfl := Option.some.inj H
         exact QN.sb (hJ4 _ _ _ _ _ ⟨true, rfl, rfl, rfl, (Imm.le_refl _), HK3⟩) .slnil (.refl _)
        ·have hc := (of_decide_eq_false hb)
         rw [hb]
         rw [if_neg hc] at H; clear hb
         refine RL.s 6 [(35, .bool (decide ((a1.getD (x4).toNat 0) ≥ (x2.length : Int)))), (9, i6 (a1.getD (x4).toNat 0)), (8, i6 x4), (0, .slice Ap0 a0.length cp0), (6, .slice A1 x2.length c1), (7, i6 x3), (18, .slice Ap1 a1.length cp1), (19, i6 (a1.length : Int)), (20, i6 x4)] ?_
         refine RL.cases (decide ((a1.getD (x4).toNat 0) ≥ (x2.length : Int))) (fun hb => ?_) (fun hb => ?_)
         ·have hc := (of_decide_eq_true hb)
          rw [hb]
          rw [if_pos hc] at H; clear hb
          refine RL.s 5 [(40, .bool true), (9, i6 (a1.getD (x4).toNat 0)), (8, i6 x4), (0, .slice Ap0 a0.length cp0), (6, .slice A1 x2.length c1), (7, i6 x3), (18, .slice Ap1 a1.length cp1), (19, i6 (a1.length : Int)), (20, i6 x4)] ?_
          refine RL.nil (by kernel_rfl) ?_
          obtain rfl := Option.some.inj H
          exact QN.sb (hJ4 _ _ _ _ _ ⟨true, rfl, rfl, rfl, (Imm.le_refl _), HK3⟩) .slnil (.refl _)
         ·have hc := (of_decide_eq_false hb)
          rw [hb]
          rw [if_neg hc] at H; clear hb
          refine RL.s 2 [(37, i6 (a1.getD (x4).toNat 0)), (36, .slice A1 x2.length c1), (35, .bool false), (9, i6 (a1.getD (x4).toNat 0)), (8, i6 x4), (0, .slice Ap0 a0.length cp0), (6, .slice A1 x2.length c1), (7, i6 x3), (18, .slice Ap1 a1.length cp1), (19, i6 (a1.length : Int)), (20, i6 x4)] ?_
          obtain ⟨hib0, H⟩ := ifs H
          obtain ⟨hib1, H⟩ := ifs H
          have hx05_ := hib0; have hx15_ := hib1
          refine RL.ownAddr (e := 4) (sz := 1) (S := A1) (n := x2.length) (cap := c1) (cs := cs1) 0 (by kernel_rfl) (by omega) (fun g5_ hA5_ => ?_)
          have hc5_ := Ty.bool_own hp2 (a1.getD (x4).toNat 0) hib0 hib1
          refine RL.idx 1 .i64 (a1.getD (x4).toNat 0) hA5_ x2.length c1 (some 38) (by kernel_rfl) (by kernel_rfl) (T := 51) (e := 4) (by kernel_rfl) (by kernel_rfl) hib0 hib1 (K' := [(38, pt g5_ (0 + ((a1.getD (x4).toNat 0)).toNat * 1)), (37, i6 (a1.getD (x4).toNat 0)), (36, .slice A1 x2.length c1), (35, .bool false), (9, i6 (a1.getD (x4).toNat 0)), (8, i6 x4), (0, .slice Ap0 a0.length cp0), (6, .slice A1 x2.length c1), (7, i6 x3), (18, .slice Ap1 a1.length cp1), (19, i6 (a1.length : Int)), (20, i6 x4)]) (by kernel_rfl) ?_
          refine RL.simK (K' := [(40, .bool (x2.getD ((a1.getD (x4).toNat 0)).toNat false)), (9, i6 (a1.getD (x4).toNat 0)), (8, i6 x4), (0, .slice Ap0 a0.length cp0), (6, .slice A1 x2.length c1), (7, i6 x3), (18, .slice Ap1 a1.length cp1), (19, i6 (a1.length : Int)), (20, i6 x4)]) [(⟨g5_, 0 + ((a1.getD (x4).toNat 0)).toNat * 1, none⟩, .bool (x2.getD ((a1.getD (x4).toNat 0)).toNat false))] (RFacts.ownQ (e := 4) (sz := 1) (S := A1) (n := x2.length) (cap := c1) (cs := cs1) 0 (by kernel_rfl) hA5_ (0 + ((a1.getD (x4).toNat 0)).toNat * 1) (((a1.getD (x4).toNat 0)).toNat * 1 + 0) (by omega) (hc5_ 0 _ rfl) (RFacts.nil _ _ _)) 2 [.r 0, .no] (by kernel_rfl) (by kernel_rfl) ?_
          refine RL.nil (by kernel_rfl) ?_
          obtain rfl := Option.some.inj H
          exact QN.sb (hJ4 _ _ _ _ _ ⟨(x2.getD ((a1.getD (x4).toNat 0)).toNat false), rfl, rfl, rfl, (Imm.le_refl _), HK3⟩) .slnil (.refl _)
    ·skip
     have hc := (of_decide_eq_false hb)
     rw [if_neg hc] at H
     clear hb
     refine OK.ex 0 ?_
     refine QN.thenE ?_
     refine QN.outE hQ2 ?_
     refine QN.blkE ?_
     obtain rfl := Option.some.inj H
     refine QN.sel (K' := [(7, i6 x3)]) (L' := []) [] (by kernel_rfl) (by kernel_rfl) .slnil ?_
     refine QN.norm (X' := []) rfl rfl rfl (by kernel_rfl) ?_
     exact hJ1 _ _ _ _ _ ⟨x3, rfl, rfl, rfl, hi3, HK1⟩

end Go.Proofs.Ytdmhbcgmimfjcaa
namespace Go.Proofs.Ytdmhbcgmimfjcaa
open Go Go.Proofs.Ytdmhbcgmimfjcaa.RW
set_option linter.unusedVariables false
set_option maxRecDepth 100000
set_option maxHeartbeats 8000000

/-! ### slices_Grow_int64_int64s0: function 39, slices.Grow[[]int64,int64] -/
noncomputable def K39s0_0 : Code := cBody Try.f39
def slices_Grow_int64_int64s0.k1  (x1 : List Int) : Option (List Int) := (some x1)
def slices_Grow_int64_int64s0.f (a1 : Int) : Option (List Int) := (if a1 < 0 then none else ((if (W .i64 (a1 - 0)) > 0 then (if 0 < (W .i64 (a1 - 0)) then (if (W .i64 (a1 - 0)).toNat * 8 ≤ 140737488355328 then (if (0 : Int) ≤ (0 : Int) then (if (0 : Int) ≤ ((List.replicate (W .i64 (a1 - 0)).toNat (0 : Int)).length : Int) then (some ((List.replicate (W .i64 (a1 - 0)).toNat (0 : Int)).take (0 : Int).toNat)) else none) else none) else none) else none) else (some ([] : List Int))).bind (slices_Grow_int64_int64s0.k1)))
def slices_Grow_int64_int64s0.Post (S : Nat → Prop) (a1 : Int) (I : Imm) (w : World) (r : List Int) (v : Value) (w' : World) : Prop :=
 ∃ (J : Imm) (Ar0 : Option Addr) (cr0 : Nat) (csr0 : List Value), v = .slice Ar0 r.length cr0 ∧ Sat ⟨w, S, I⟩ J w'.heap.size [] [orow 2 1 Ar0 r.length cr0 csr0] w' ∧ Reps (Ty.int .i64) J r csr0
theorem slices_Grow_int64_int64s0.calls (I0 : Imm) (a1 : Int) (w : World) (hs : Sat ⟨w, SM [] [], I0⟩ I0 w.heap.size [] [] w)  (r : List Int) (h : slices_Grow_int64_int64s0.f a1 = some r) :
  Calls Try.prog 39 [.slice none 0 0, i6 a1].toArray w fun e w' => ∃ v, e = .returned v ∧ slices_Grow_int64_int64s0.Post (SM [] []) a1 I0 w r v w' := by
 have H : (if a1 < 0 then none else ((if (W .i64 (a1 - 0)) > 0 then (if 0 < (W .i64 (a1 - 0)) then (if (W .i64 (a1 - 0)).toNat * 8 ≤ 140737488355328 then (if (0 : Int) ≤ (0 : Int) then (if (0 : Int) ≤ ((List.replicate (W .i64 (a1 - 0)).toNat (0 : Int)).length : Int) then (some ((List.replicate (W .i64 (a1 - 0)).toNat (0 : Int)).take (0 : Int).toNat)) else none) else none) else none) else none) else (some ([] : List Int))).bind (slices_Grow_int64_int64s0.k1))) = some r := h
 clear h
 refine calls_bodyL Try.func39 (by kernel_rfl) 27 (by kernel_rfl) (by kernel_rfl) ⟨w, SM [] [], I0⟩ I0 [] [] [(0, .slice none 0 0), (1, i6 a1)] (by kernel_rfl) hs ?_
 generalize w.heap.size = nx0
 show OK _ K39s0_0 _ _ _ _ _ _ _ _
 refine OK.sr ?_
 refine RL.st 1 [(0, .slice none 0 0), (1, i6 a1)] ?_
 refine OK.sq ?_
 refine OK.sr ?_
 refine RL.st 2 [(6, .bool (decide (a1 < 0))), (0, .slice none 0 0), (1, i6 a1)] ?_
 refine OK.cd (decide (a1 < 0)) (fun hb => ?_) (fun hb => ?_)
 ·skip
  have hc := (of_decide_eq_true hb)
  rw [if_pos hc] at H
  clear hb
  refine OK.rg ?_
  cases H
 ·skip
  have hc := (of_decide_eq_false hb)
  rw [if_neg hc] at H
  clear hb
  refine OK.skt ?_
  refine OK.sq ?_
  refine OK.sr ?_
  refine RL.st 8 [(1, i6 (W .i64 (a1 - 0))), (0, .slice none 0 0)] ?_
  refine OK.sr ?_
  refine RL.st 2 [(16, .bool (decide ((W .i64 (a1 - 0)) > 0))), (1, i6 (W .i64 (a1 - 0))), (0, .slice none 0 0)] ?_
  refine OK.join (fun K' I' _ L' X' => ∃ (x1 : List Int) (A1 : Option Addr) (c1 : Nat) (cs1 : List Value), K' = [(0, .slice A1 x1.length c1)] ∧ L' = [] ∧ X' = [orow 2 1 A1 x1.length c1 cs1] ∧ Imm.le I0 I' ∧ Reps (Ty.int .i64) I' x1 cs1 ∧ slices_Grow_int64_int64s0.k1 x1 = some r) ?_ ?_
  ·rintro _ I1 nx1 _ _ ⟨x1, A1, c1, cs1, rfl, rfl, rfl, hi1, hp1, H⟩
   rw [slices_Grow_int64_int64s0.k1] at H
   refine QN.then_ ?_
   refine OK.sr ?_
   refine RL.st 2 [(4, .slice A1 x1.length c1)] ?_
   refine OK.re ?_
   obtain rfl := Option.some.inj H
   refine QN.body rfl [] (RFacts.nil _ _ _) (.no) (.slice A1 x1.length c1) (by kernel_rfl) (by kernel_rfl) (by kernel_rfl) ?_ _ (.inr rfl)
   exact fun w' hs' => ⟨_, rfl, I1, A1, c1, cs1, rfl, ((hs'.fin.selB [] (by kernel_rfl)).sel [0] (by kernel_rfl)), hp1⟩
  ·intro Q_1 hJ1 hQ1
   obtain ⟨y1, H, HK1⟩ := bnd H
   refine OK.cd (decide ((W .i64 (a1 - 0)) > 0)) (fun hb => ?_) (fun hb => ?_)
   ·skip
    have hc := (of_decide_eq_true hb)
    rw [if_pos hc] at H
    clear hb
    refine OK.rg ?_
    refine RL.s 5 [(21, i6 (W .i64 (a1 - 0))), (20, .slice none 0 0), (0, .slice none 0 0)] ?_
    obtain ⟨hm1, H⟩ := ifs H
    obtain ⟨hm2, H⟩ := ifs H
    refine RL.appendZ (T := 24) (Tn := 3) (e := 2) .i64 .i64 (W .i64 (a1 - 0)) 24 (Ty.int .i64) (0) (i6 0) 8 (some 22) (by kernel_rfl) (by kernel_rfl) (by kernel_rfl) (by kernel_rfl) (by kernel_rfl) (by kernel_rfl) rfl hm1 hm2 (by omega) (fun c2 nx2 hp2 => ?_)
    refine RL.sub (K' := [(22, .slice (some ⟨nx0, 0, none⟩) ((List.replicate (W .i64 (a1 - 0)).toNat (0 : Int)).length) c2), (21, i6 (W .i64 (a1 - 0))), (20, .slice none 0 0), (0, .slice none 0 0)]) (L' := []) (X' := [orow 2 1 (some ⟨nx0, 0, none⟩) ((List.replicate (W .i64 (a1 - 0)).toNat (0 : Int)).length) c2 (List.replicate (W .i64 (a1 - 0)).toNat (i6 0))]) (by kernel_rfl) (.refl _) (.refl _) ?_
    refine RL.s 2 [(24, i6 0), (22, .slice (some ⟨nx0, 0, none⟩) ((List.replicate (W .i64 (a1 - 0)).toNat (0 : Int)).length) c2), (0, .slice none 0 0)] ?_
    obtain ⟨hs1_1, H⟩ := ifs H
    obtain ⟨hs2_1, H⟩ := ifs H
    refine RL.trim (T := 24) (e := 2) (S := (some ⟨nx0, 0, none⟩)) (cap := c2) (cs := (List.replicate (W .i64 (a1 - 0)).toNat (i6 0))) (hi := 0) 1 0 (Ty.int .i64) (List.replicate (W .i64 (a1 - 0)).toNat (0 : Int)) .i64 (some 25) (by kernel_rfl) (by kernel_rfl) (by kernel_rfl) (by kernel_rfl) (by kernel_rfl) (by kernel_rfl) hp2 hs1_1 hs2_1 (fun cs2 hp3 => ?_)
    refine RL.sub (K' := [(25, .slice (some ⟨nx0, 0, none⟩) (((List.replicate (W .i64 (a1 - 0)).toNat (0 : Int)).take (0 : Int).toNat).length) c2), (24, i6 0), (0, .slice none 0 0)]) (L' := []) (X' := [orow 2 1 (some ⟨nx0, 0, none⟩) (((List.replicate (W .i64 (a1 - 0)).toNat (0 : Int)).take (0 : Int).toNat).length) c2 cs2]) (by kernel_rfl) (.refl _) (.refl _) ?_
    refine RL.s 1 [(0, .slice (some ⟨nx0, 0, none⟩) (((List.replicate (W .i64 (a1 - 0)).toNat (0 : Int)).take (0 : Int).toNat).length) c2)] ?_
    refine RL.nil (by kernel_rfl) ?_
    obtain rfl := Option.some.inj H
    exact QN.sb (hJ1 _ _ _ _ _ ⟨((List.replicate (W .i64 (a1 - 0)).toNat (0 : Int)).take (0 : Int).toNat), (some ⟨nx0, 0, none⟩), c2, cs2, rfl, rfl, rfl, (Imm.le_refl _), hp3, HK1⟩) .slnil (.refl _)
   ·skip
    have hc := (of_decide_eq_false hb)
    rw [if_neg hc] at H
    clear hb
    refine OK.sk ?_
    refine QN.nilRow 2 1 ?_
    have hp4 : Reps (Ty.int .i64) I0 ([] : List Int) [] := rfl
    obtain rfl := Option.some.inj H
    exact QN.sb (hJ1 _ _ _ _ _ ⟨([] : List Int), none, 0, [], rfl, rfl, rfl, (Imm.le_refl _), hp4, HK1⟩) .slnil (.refl _)

end Go.Proofs.Ytdmhbcgmimfjcaa
namespace Go.Proofs.Ytdmhbcgmimfjcaa
open Go Go.Proofs.Ytdmhbcgmimfjcaa.RW
set_option linter.unusedVariables false
set_option maxRecDepth 100000
set_option maxHeartbeats 8000000

/-! ### slices_Concat_int64_int64: function 35, slices.Concat[[]int64,int64] -/
noncomputable def K35_0 : Code := cBody Try.f35
def slices_Concat_int64_int64.k1  (x2 : List Int) : Option (List Int) := (some x2)
def slices_Concat_int64_int64.l1 (a0 : List (List Int)) : Nat → (List Int) → Int → Option (List Int)
 | 0, _, _ => none
 | k + 1, x3, x4 => (if x4 < (a0.length : Int) then (if 0 ≤ x4 then (if x4 < (a0.length : Int) then (if (x3.length + (a0.getD (x4).toNat []).length) * 8 ≤ 140737488355328 then (slices_Concat_int64_int64.l1 a0 k (x3 ++ (a0.getD (x4).toNat [])) (W .i64 (x4 + 1))) else none) else none) else none) else (some x3))
def slices_Concat_int64_int64.k2 (k : Nat) (a0 : List (List Int)) (x1 : Int) : Option (List Int) := ((slices_Grow_int64_int64s0.f x1).bind fun t1 => ((slices_Concat_int64_int64.l1 a0 k t1 0).bind (slices_Concat_int64_int64.k1)))
def slices_Concat_int64_int64.l2 (a0 : List (List Int)) : Nat → Int → Int → Option (Int)
 | 0, _, _ => none
 | k + 1, x5, x6 => (if x6 < (a0.length : Int) then (if 0 ≤ x6 then (if x6 < (a0.length : Int) then (if (W .i64 (x5 + ((a0.getD (x6).toNat []).length : Int))) < 0 then none else (slices_Concat_int64_int64.l2 a0 k (W .i64 (x5 + ((a0.getD (x6).toNat []).length : Int))) (W .i64 (x6 + 1)))) else none) else none) else (some x5))
def slices_Concat_int64_int64.f (k : Nat) (a0 : List (List Int)) : Option (List Int) := ((slices_Concat_int64_int64.l2 a0 k 0 0).bind (slices_Concat_int64_int64.k2 k a0))
def slices_Concat_int64_int64.Post (I : Imm) (w : World) (r : List Int) (v : Value) (w' : World) : Prop :=
 ∃ (J : Imm) (A0 : Option Addr) (c0 : Nat) (cs0 : List Value), v = .slice A0 r.length c0 ∧ Got w w' I J [orow 2 1 A0 r.length c0 cs0] ∧ Reps (Ty.int .i64) J r cs0
theorem slices_Concat_int64_int64.calls (k : Nat) (I0 : Imm) (a0 : List (List Int)) (Ap0 : Option Addr) (cp0 : Nat) (w : World) (hI : I0.at_ w) (hlp0 : a0.length ≤ cp0) (hrp0 : Rd (Ty.slice (Ty.int .i64)) I0 Ap0 a0) (r : List Int) (h : slices_Concat_int64_int64.f k a0 = some r) :
  Calls Try.prog 35 [.slice Ap0 a0.length cp0].toArray w fun e w' => ∃ v, e = .returned v ∧ slices_Concat_int64_int64.Post I0 w r v w' := by
 have H : ((slices_Concat_int64_int64.l2 a0 k 0 0).bind (slices_Concat_int64_int64.k2 k a0)) = some r := h
 clear h
 refine calls_body Try.func35 (by kernel_rfl) 36 (by kernel_rfl) (by kernel_rfl) ⟨w, fun _ => False, I0⟩ I0 [] [(0, .slice Ap0 a0.length cp0)] (by kernel_rfl) (Sat.start w _ I0 hI) ?_
 generalize w.heap.size = nx0
 show OK _ K35_0 _ _ _ _ _ _ _ _
 refine OK.sr ?_
 refine RL.st 1 [(0, .slice Ap0 a0.length cp0)] ?_
 refine OK.sr ?_
 refine RL.st 1 [(3, i6 0), (0, .slice Ap0 a0.length cp0)] ?_
 refine OK.sq ?_
 refine OK.sr ?_
 refine RL.st 3 [(11, i6 0), (10, i6 (a0.length : Int)), (9, .slice Ap0 a0.length cp0), (3, i6 0), (0, .slice Ap0 a0.length cp0)] ?_
 refine OK.join (fun K' I' _ L' X' => ∃ (x1 : Int), K' = [(0, .slice Ap0 a0.length cp0), (3, i6 x1)] ∧ L' = [] ∧ X' = [] ∧ Imm.le I0 I' ∧ slices_Concat_int64_int64.k2 k a0 x1 = some r) ?_ ?_
 ·rintro _ I1 nx1 _ _ ⟨x1, rfl, rfl, rfl, hi1, H⟩
  rw [slices_Concat_int64_int64.k2] at H
  refine QN.then_ ?_
  refine OK.sr ?_
  refine RL.s 1 [(23, i6 x1), (0, .slice Ap0 a0.length cp0)] ?_
  obtain ⟨t1, hA1, H⟩ := bnd H
  refine RL.callM (L1 := []) (L2 := []) (X1 := []) (X2 := []) rfl rfl 39 [.slice none 0 0, i6 x1] (some 24) (fun w => slices_Grow_int64_int64s0.Post (SM [] []) x1 I1 w t1) (by kernel_rfl) (by kernel_rfl) (fun w hs => slices_Grow_int64_int64s0.calls I1 x1 w hs  t1 hA1) ?_
  rintro w v w' hs ⟨I2, A1, c1, cs1, rfl, hg, hp1⟩
  have hi2 : Imm.le I1 I2 := hg.le
  refine RL.resume (L' := []) (X' := [orow 2 1 A1 t1.length c1 cs1]) rfl (hs.outof hg) ?_
  clear hs hg
  generalize w'.heap.size = nx2
  clear w w'
  refine RL.st 1 [(6, .slice A1 t1.length c1), (0, .slice Ap0 a0.length cp0)] ?_
  refine OK.sq ?_
  refine OK.sr ?_
  refine RL.st 3 [(27, i6 0), (26, i6 (a0.length : Int)), (25, .slice Ap0 a0.length cp0), (6, .slice A1 t1.length c1)] ?_
  refine OK.join (fun K' I' _ L' X' => ∃ (x2 : List Int) (A2 : Option Addr) (c2 : Nat) (cs2 : List Value), K' = [(6, .slice A2 x2.length c2)] ∧ L' = [] ∧ X' = [orow 2 1 A2 x2.length c2 cs2] ∧ Imm.le I2 I' ∧ Reps (Ty.int .i64) I' x2 cs2 ∧ slices_Concat_int64_int64.k1 x2 = some r) ?_ ?_
  ·rintro _ I3 nx3 _ _ ⟨x2, A2, c2, cs2, rfl, rfl, rfl, hi3, hp2, H⟩
   rw [slices_Concat_int64_int64.k1] at H
   refine QN.then_ ?_
   refine OK.sr ?_
   refine RL.st 2 [(2, .slice A2 x2.length c2)] ?_
   refine OK.re ?_
   obtain rfl := Option.some.inj H
   refine QN.body rfl [] (RFacts.nil _ _ _) (.no) (.slice A2 x2.length c2) (by kernel_rfl) (by kernel_rfl) (by kernel_rfl) ?_ _ (.inr rfl)
   exact fun w' hs' => ⟨_, rfl, I3, A2, c2, cs2, rfl, hs'.got _ (.cons_cons _ .slnil), hp2⟩
  ·intro Q_1 hJ2 hQ2
   obtain ⟨y2, H, HK2⟩ := bnd H
   refine OK.bk 2 ?_
   refine OK.sub (K' := [(6, .slice A1 t1.length c1), (25, .slice Ap0 a0.length cp0), (26, i6 (a0.length : Int)), (27, i6 0)]) (L' := []) (by kernel_rfl) .slnil (.refl _) ?_
   refine OK.lp (fun n_ K' I' _ L' X' => ∃ (x3 : List Int) (x4 : Int) (A3 : Option Addr) (c3 : Nat) (cs3 : List Value), K' = [(6, .slice A3 x3.length c3), (25, .slice Ap0 a0.length cp0), (26, i6 (a0.length : Int)), (27, i6 x4)] ∧ L' = [] ∧ X' = [orow 2 1 A3 x3.length c3 cs3] ∧ Imm.le I2 I' ∧ Reps (Ty.int .i64) I' x3 cs3 ∧ slices_Concat_int64_int64.l1 a0 n_ x3 x4 = some y2) k ⟨t1, 0, A1, c1, cs1, rfl, rfl, rfl, (Imm.le_refl _), hp1, H⟩ ?_ ?_
   ·rintro _ _ _ _ _ ⟨x3, x4, A3, c3, cs3, rfl, rfl, rfl, _, hp3, H⟩
    cases H
   ·rintro kq1 _ I4 nx4 _ _ ⟨x3, x4, A3, c3, cs3, rfl, rfl, rfl, hi4, hp3, H⟩ Q_l1 hJ3 hQ3
    rw [slices_Concat_int64_int64.l1] at H
    refine OK.sr ?_
    refine RL.st 1 [(28, .bool (decide (x4 < (a0.length : Int)))), (6, .slice A3 x3.length c3), (25, .slice Ap0 a0.length cp0), (26, i6 (a0.length : Int)), (27, i6 x4)] ?_
    refine OK.sq ?_
    refine OK.cd (decide (x4 < (a0.length : Int))) (fun hb => ?_) (fun hb => ?_)
    ·skip
     have hc := (of_decide_eq_true hb)
     rw [if_pos hc] at H
     clear hb
     refine OK.skt ?_
     refine OK.sq ?_
     refine OK.bk 3 ?_
     refine OK.sr ?_
     obtain ⟨hib0, H⟩ := ifs H
     obtain ⟨hib1, H⟩ := ifs H
     obtain ⟨g1_, o1_, hA1_, A1_, c1_, hl1_, hr1_, hc1_⟩ := Ty.slice_at (Rd.ext (Imm.le_trans (Imm.le_trans hi1 hi2) hi4) hrp0) x4 hib0 hib1
     refine RL.idx 1 .i64 x4 hA1_ a0.length cp0 (some 29) (by kernel_rfl) (by kernel_rfl) (T := 22) (e := 24) (by kernel_rfl) (by kernel_rfl) hib0 hib1 (K' := [(29, pt g1_ (o1_ + (x4).toNat * 1)), (28, .bool (decide (x4 < (a0.length : Int)))), (6, .slice A3 x3.length c3), (25, .slice Ap0 a0.length cp0), (26, i6 (a0.length : Int)), (27, i6 x4)]) (by kernel_rfl) ?_
     refine RL.simK (K' := [(8, .slice A1_ ((a0.getD (x4).toNat []).length) c1_), (6, .slice A3 x3.length c3), (25, .slice Ap0 a0.length cp0), (26, i6 (a0.length : Int)), (27, i6 x4)]) [(⟨g1_, o1_ + (x4).toNat * 1, none⟩, .slice A1_ ((a0.getD (x4).toNat []).length) c1_)] (RFacts.imm (hc1_ 0 _ rfl) (RFacts.nil _ _ _)) 2 [.r 0, .no] (by kernel_rfl) (by kernel_rfl) ?_
     refine RL.nt ?_
     refine OK.rg ?_
     refine RL.s 2 [(32, .slice A1_ ((a0.getD (x4).toNat []).length) c1_), (31, .slice A3 x3.length c3), (6, .slice A3 x3.length c3), (25, .slice Ap0 a0.length cp0), (26, i6 (a0.length : Int)), (27, i6 x4)] ?_
     obtain ⟨hz1, H⟩ := ifs H
     refine RL.appendR (T := 24) (e := 2) (S := A3) (S2 := A1_) 1 8 24 c3 c1_ cs3 (Ty.int .i64) x3 (a0.getD (x4).toNat []) 0 (some 33) (by kernel_rfl) (by kernel_rfl) (by kernel_rfl) (by kernel_rfl) (by kernel_rfl) (by decide) (by kernel_rfl) hp3 hr1_ hz1 (by omega) (fun A4 c4 nx5 cs4 hp4 => ?_)
     refine RL.sub (K' := [(33, .slice A4 ((x3 ++ (a0.getD (x4).toNat [])).length) c4), (32, .slice A1_ ((a0.getD (x4).toNat []).length) c1_), (25, .slice Ap0 a0.length cp0), (26, i6 (a0.length : Int)), (27, i6 x4)]) (L' := []) (X' := [orow 2 1 A4 ((x3 ++ (a0.getD (x4).toNat [])).length) c4 cs4]) (by kernel_rfl) (.refl _) (.refl _) ?_
     refine RL.s 1 [(6, .slice A4 ((x3 ++ (a0.getD (x4).toNat [])).length) c4), (25, .slice Ap0 a0.length cp0), (26, i6 (a0.length : Int)), (27, i6 x4)] ?_
     refine RL.nil (by kernel_rfl) ?_
     refine QN.blkN ?_
     refine QN.then_ ?_
     refine OK.rg ?_
     refine RL.s 2 [(27, i6 (W .i64 (x4 + 1))), (6, .slice A4 ((x3 ++ (a0.getD (x4).toNat [])).length) c4), (25, .slice Ap0 a0.length cp0), (26, i6 (a0.length : Int))] ?_
     refine RL.nil (by kernel_rfl) ?_
     exact QN.sb (hJ3 _ _ _ _ _ ⟨(x3 ++ (a0.getD (x4).toNat [])), W .i64 (x4 + 1), A4, c4, cs4, rfl, rfl, rfl, hi4, hp4, H⟩) .slnil (.refl _)
    ·skip
     have hc := (of_decide_eq_false hb)
     rw [if_neg hc] at H
     clear hb
     refine OK.ex 2 ?_
     refine QN.thenE ?_
     refine QN.outE hQ3 ?_
     refine QN.blkE ?_
     obtain rfl := Option.some.inj H
     exact QN.sb (hJ2 _ _ _ _ _ ⟨x3, A3, c3, cs3, rfl, rfl, rfl, hi4, hp3, HK2⟩) .slnil (.refl _)
 ·intro Q_2 hJ1 hQ1
  obtain ⟨y1, H, HK1⟩ := bnd H
  refine OK.bk 0 ?_
  refine OK.sub (K' := [(0, .slice Ap0 a0.length cp0), (3, i6 0), (9, .slice Ap0 a0.length cp0), (10, i6 (a0.length : Int)), (11, i6 0)]) (L' := []) (by kernel_rfl) .slnil (.refl _) ?_
  refine OK.lp (fun n_ K' I' _ L' X' => ∃ (x5 : Int) (x6 : Int), K' = [(0, .slice Ap0 a0.length cp0), (3, i6 x5), (9, .slice Ap0 a0.length cp0), (10, i6 (a0.length : Int)), (11, i6 x6)] ∧ L' = [] ∧ X' = [] ∧ Imm.le I0 I' ∧ slices_Concat_int64_int64.l2 a0 n_ x5 x6 = some y1) k ⟨0, 0, rfl, rfl, rfl, (Imm.le_refl _), H⟩ ?_ ?_
  ·rintro _ _ _ _ _ ⟨x5, x6, rfl, rfl, rfl, _, H⟩
   cases H
  ·rintro kq2 _ I5 nx6 _ _ ⟨x5, x6, rfl, rfl, rfl, hi5, H⟩ Q_l2 hJ4 hQ4
   rw [slices_Concat_int64_int64.l2] at H
   refine OK.sr ?_
   refine RL.st 1 [(12, .bool (decide (x6 < (a0.length : Int)))), (0, .slice Ap0 a0.length cp0), (3, i6 x5), (9, .slice Ap0 a0.length cp0), (10, i6 (a0.length : Int)), (11, i6 x6)] ?_
   refine OK.sq ?_
   refine OK.cd (decide (x6 < (a0.length : Int))) (fun hb => ?_) (fun hb => ?_)
   ·skip
    have hc := (of_decide_eq_true hb)
    rw [if_pos hc] at H
    clear hb
    refine OK.skt ?_
    refine OK.sq ?_
    refine OK.bk 1 ?_
    refine OK.sr ?_
    obtain ⟨hib0, H⟩ := ifs H
    obtain ⟨hib1, H⟩ := ifs H
    obtain ⟨g2_, o2_, hA2_, A2_, c2_, hl2_, hr2_, hc2_⟩ := Ty.slice_at (Rd.ext hi5 hrp0) x6 hib0 hib1
    refine RL.idx 1 .i64 x6 hA2_ a0.length cp0 (some 13) (by kernel_rfl) (by kernel_rfl) (T := 22) (e := 24) (by kernel_rfl) (by kernel_rfl) hib0 hib1 (K' := [(13, pt g2_ (o2_ + (x6).toNat * 1)), (12, .bool (decide (x6 < (a0.length : Int)))), (0, .slice Ap0 a0.length cp0), (3, i6 x5), (9, .slice Ap0 a0.length cp0), (10, i6 (a0.length : Int)), (11, i6 x6)]) (by kernel_rfl) ?_
    refine RL.simK (K' := [(5, .slice A2_ ((a0.getD (x6).toNat []).length) c2_), (0, .slice Ap0 a0.length cp0), (3, i6 x5), (9, .slice Ap0 a0.length cp0), (10, i6 (a0.length : Int)), (11, i6 x6)]) [(⟨g2_, o2_ + (x6).toNat * 1, none⟩, .slice A2_ ((a0.getD (x6).toNat []).length) c2_)] (RFacts.imm (hc2_ 0 _ rfl) (RFacts.nil _ _ _)) 2 [.r 0, .no] (by kernel_rfl) (by kernel_rfl) ?_
    refine RL.nt ?_
    refine OK.sr ?_
    refine RL.st 5 [(3, i6 (W .i64 (x5 + ((a0.getD (x6).toNat []).length : Int)))), (0, .slice Ap0 a0.length cp0), (9, .slice Ap0 a0.length cp0), (10, i6 (a0.length : Int)), (11, i6 x6)] ?_
    refine OK.sr ?_
    refine RL.st 2 [(20, .bool (decide ((W .i64 (x5 + ((a0.getD (x6).toNat []).length : Int))) < 0))), (3, i6 (W .i64 (x5 + ((a0.getD (x6).toNat []).length : Int)))), (0, .slice Ap0 a0.length cp0), (9, .slice Ap0 a0.length cp0), (10, i6 (a0.length : Int)), (11, i6 x6)] ?_
    refine OK.cd (decide ((W .i64 (x5 + ((a0.getD (x6).toNat []).length : Int))) < 0)) (fun hb => ?_) (fun hb => ?_)
    ·skip
     have hc := (of_decide_eq_true hb)
     rw [if_pos hc] at H
     clear hb
     refine OK.rg ?_
     cases H
    ·skip
     have hc := (of_decide_eq_false hb)
     rw [if_neg hc] at H
     clear hb
     refine OK.sk ?_
     refine QN.blkN ?_
     refine QN.then_ ?_
     refine OK.rg ?_
     refine RL.s 2 [(11, i6 (W .i64 (x6 + 1))), (3, i6 (W .i64 (x5 + ((a0.getD (x6).toNat []).length : Int)))), (0, .slice Ap0 a0.length cp0), (9, .slice Ap0 a0.length cp0), (10, i6 (a0.length : Int))] ?_
     refine RL.nil (by kernel_rfl) ?_
     exact QN.sb (hJ4 _ _ _ _ _ ⟨W .i64 (x5 + ((a0.getD (x6).toNat []).length : Int)), W .i64 (x6 + 1), rfl, rfl, rfl, hi5, H⟩) .slnil (.refl _)
   ·skip
    have hc := (of_decide_eq_false hb)
    rw [if_neg hc] at H
    clear hb
    refine OK.ex 0 ?_
    refine QN.thenE ?_
    refine QN.outE hQ4 ?_
    refine QN.blkE ?_
    obtain rfl := Option.some.inj H
    exact QN.sb (hJ1 _ _ _ _ _ ⟨x5, rfl, rfl, rfl, hi5, HK1⟩) .slnil (.refl _)

end Go.Proofs.Ytdmhbcgmimfjcaa
namespace Go.Proofs.Ytdmhbcgmimfjcaa
open Go Go.Proofs.Ytdmhbcgmimfjcaa.RW
set_option linter.unusedVariables false
set_option maxRecDepth 100000
set_option maxHeartbeats 8000000

/-! ### assign_VerifyDuals: function 20, armillary/assign.VerifyDuals -/
noncomputable def K20_0 : Code := cBody Try.f20
noncomputable def O20_8 : List Oper := cOps (cL (cL (cR (cR K20_0))))
noncomputable def O20_87 : List Oper := cOps (cL (cR (cL (cL (cR (cR (cL (cL (cR (cR (cL (cL (cR (cR (cL (cL (cR (cL (cR (cR (cR (cR (cR K20_0)))))))))))))))))))))))
def assign_VerifyDuals.k1 (t1 : Int × Bool) (x2 : Int) : (Unit) ⊕ (Bool) → Option (Bool)
 | .inl () => (some (x2 == t1.1))
 | .inr r_ => some r_
def assign_VerifyDuals.k3  : (Unit) ⊕ (Bool) → Option ((Unit) ⊕ (Bool))
 | .inl () => (some (Sum.inl ()))
 | .inr r_ => some (Sum.inr r_)
def assign_VerifyDuals.l2 (a0 : List (List Int)) (a2 : S26) (x3 : Int) : Nat → Int → Option ((Unit) ⊕ (Bool))
 | 0, _ => none
 | k + 1, x4 => (if x4 < ((a0.getD (x3).toNat []).length : Int) then (if 0 ≤ x4 then (if x4 < ((a0.getD (x3).toNat []).length : Int) then (if 0 ≤ x3 then (if x3 < (a2.f0.length : Int) then (if 0 ≤ x4 then (if x4 < (a2.f1.length : Int) then (if (W .i64 ((a2.f0.getD (x3).toNat 0) + (a2.f1.getD (x4).toNat 0))) < ((a0.getD (x3).toNat []).getD (x4).toNat 0) then (some (Sum.inr false)) else (assign_VerifyDuals.l2 a0 a2 x3 k (W .i64 (x4 + 1)))) else none) else none) else none) else none) else none) else none) else (some (Sum.inl ())))
def assign_VerifyDuals.l1 (a0 : List (List Int)) (a2 : S26) : Nat → Int → Option ((Unit) ⊕ (Bool))
 | 0, _ => none
 | k + 1, x3 => (if x3 < (a0.length : Int) then ((if 0 ≤ x3 then (if x3 < (a0.length : Int) then ((assign_VerifyDuals.l2 a0 a2 x3 k 0).bind (assign_VerifyDuals.k3)) else none) else none).bind (fun s_ => match s_ with | .inl _ => (assign_VerifyDuals.l1 a0 a2 k (W .i64 (x3 + 1))) | .inr r_ => some (Sum.inr r_))) else (some (Sum.inl ())))
def assign_VerifyDuals.k4 (k : Nat) (a0 : List (List Int)) (a2 : S26) (t1 : Int × Bool) : (Int) ⊕ (Bool) → Option (Bool)
 | .inl x2 => ((assign_VerifyDuals.l1 a0 a2 k 0).bind (assign_VerifyDuals.k1 t1 x2))
 | .inr r_ => some r_
def assign_VerifyDuals.l3 (t1 : Int × Bool) (t2 : List Int) : Nat → Int → Int → Option ((Int) ⊕ (Bool))
 | 0, _, _ => none
 | k + 1, x5, x6 => (if x6 < (t2.length : Int) then (if 0 ≤ x6 then (if x6 < (t2.length : Int) then ((if (t2.getD (x6).toNat 0) < 0 then (some true) else (some (decide ((t2.getD (x6).toNat 0) > t1.1)))).bind (fun x7 => (if x7 = true then (some (Sum.inr false)) else (assign_VerifyDuals.l3 t1 t2 k (W .i64 (x5 + (t2.getD (x6).toNat 0))) (W .i64 (x6 + 1)))))) else none) else none) else (some (Sum.inl x5)))
def assign_VerifyDuals.k6 (k : Nat) (a0 : List (List Int)) (a2 : S26) (t1 : Int × Bool) (x1 : Bool) : Option (Bool) := (if x1 = true then (some false) else ((slices_Concat_int64_int64.f k [a2.f0, a2.f1]).bind fun t2 => ((assign_VerifyDuals.l3 t1 t2 k 0 0).bind (assign_VerifyDuals.k4 k a0 a2 t1))))
def assign_VerifyDuals.f (k : Nat) (a0 : List (List Int)) (a1 : List Int) (a2 : S26) : Option (Bool) := ((assign_Value.f k a0 a1).bind fun t1 => ((if t1.2 = true then (if (a2.f0.length : Int) ≠ (a0.length : Int) then (some true) else ((assign_columns.f a0).bind fun t3 => (some ((a2.f1.length : Int) != t3)))) else (some true)).bind (assign_VerifyDuals.k6 k a0 a2 t1)))
def assign_VerifyDuals.Post (I : Imm) (w : World) (r : Bool) (v : Value) (w' : World) : Prop :=
 ∃ (J : Imm), v = .bool r ∧ Got w w' I J []
noncomputable def a20_87n : List Nat := [0, 1, 0, 7, 15, 0, 32, 0, 224, 480, 1023, 0, 4095]
theorem a20_87 : ancs O20_87 [] = a20_87n := by kernel_rfl
theorem a20_87o : drawOk O20_87 a20_87n 12 = true := by kernel_rfl
noncomputable def u20d1l  : List Ld :=
 []
noncomputable def u20d1g (x3 : Int) (x4 : Int) (g3_ : Nat) (o3_ : Nat) (g4_ : Nat) (o4_ : Nat) : List (Nat × ((Nat → Wt) → Value)) := [(3, fun u => pt g3_ (o3_ + (x3).toNat * 1)), (8, fun u => pt g4_ (o4_ + (x4).toNat * 1))]
noncomputable def u20d1q (a0 : List (List Int)) (Ap0 : Option Addr) (cp0 : Nat) (a2 : S26) (Ap2_0 : Option Addr) (cp2_0 : Nat) (Ap2_1 : Option Addr) (cp2_1 : Nat) (nx0 : Nat) (t1 : Int × Bool) (x2 : Int) (x3 : Int) (A1_ : Option Addr) (c1_ : Nat) (x4 : Int) (g3_ : Nat) (o3_ : Nat) (g4_ : Nat) (o4_ : Nat) (u : Nat → Wt) : Option (List Value × List (Nat × Value) × List (Nat × Nat)) := qSim Try.prog [(⟨g3_, o3_ + (x3).toNat * 1, none⟩, i6 (a2.f0.getD (x3).toNat 0)), (⟨g4_, o4_ + (x4).toNat * 1, none⟩, i6 (a2.f1.getD (x4).toNat 0))] [⟨nx0, [.slice Ap2_0 a2.f0.length cp2_0, .slice Ap2_1 a2.f1.length cp2_1], 26⟩] O20_87 ⟨94, []⟩ (Ld.vl u20d1l) (u20d1g x3 x4 g3_ o3_ g4_ o4_) u [.no, .l 0, .no, .no, .r 0, .no, .l 0, .no, .no, .r 1, .no, .no] 0 (O20_87.take 12) [(15, i6 ((a0.getD (x3).toNat []).getD (x4).toNat 0)), (14, i6 x4), (5, pt nx0 0), (7, i6 t1.1), (9, i6 x2), (12, i6 x3), (62, .slice Ap0 a0.length cp0), (63, i6 (a0.length : Int)), (64, i6 x3), (69, .slice A1_ ((a0.getD (x3).toNat []).length) c1_), (70, i6 ((a0.getD (x3).toNat []).length : Int)), (71, i6 x4)]
noncomputable def u20d1s (a0 : List (List Int)) (a2 : S26) (Ap2_0 : Option Addr) (cp2_0 : Nat) (Ap2_1 : Option Addr) (cp2_1 : Nat) (nx0 : Nat) (x3 : Int) (x4 : Int) (g3_ : Nat) (o3_ : Nat) (g4_ : Nat) (o4_ : Nat) (u : Nat → Wt) : List Value := [pt nx0 0, .slice Ap2_0 a2.f0.length cp2_0, i6 x3, pt g3_ (o3_ + (x3).toNat * 1), i6 (a2.f0.getD (x3).toNat 0), pt nx0 1, .slice Ap2_1 a2.f1.length cp2_1, i6 x4, pt g4_ (o4_ + (x4).toNat * 1), i6 (a2.f1.getD (x4).toNat 0), i6 (W .i64 ((a2.f0.getD (x3).toNat 0) + (a2.f1.getD (x4).toNat 0))), i6 ((a0.getD (x3).toNat []).getD (x4).toNat 0)]
noncomputable def u20d1f (a0 : List (List Int)) (Ap0 : Option Addr) (cp0 : Nat) (a2 : S26) (Ap2_0 : Option Addr) (cp2_0 : Nat) (Ap2_1 : Option Addr) (cp2_1 : Nat) (nx0 : Nat) (t1 : Int × Bool) (x2 : Int) (x3 : Int) (A1_ : Option Addr) (c1_ : Nat) (x4 : Int) (g3_ : Nat) (o3_ : Nat) (g4_ : Nat) (o4_ : Nat) (i : Nat) (u : Nat → Wt) : List (Nat × Value) := foldPut ⟨94, []⟩ [(15, i6 ((a0.getD (x3).toNat []).getD (x4).toNat 0)), (14, i6 x4), (5, pt nx0 0), (7, i6 t1.1), (9, i6 x2), (12, i6 x3), (62, .slice Ap0 a0.length cp0), (63, i6 (a0.length : Int)), (64, i6 x3), (69, .slice A1_ ((a0.getD (x3).toNat []).length) c1_), (70, i6 ((a0.getD (x3).toNat []).length : Int)), (71, i6 x4)] (O20_87.take i) (((u20d1s a0 a2 Ap2_0 cp2_0 Ap2_1 cp2_1 nx0 x3 x4 g3_ o3_ g4_ o4_) u).take i)
theorem u20d1v (a0 : List (List Int)) (Ap0 : Option Addr) (cp0 : Nat) (a2 : S26) (Ap2_0 : Option Addr) (cp2_0 : Nat) (Ap2_1 : Option Addr) (cp2_1 : Nat) (nx0 : Nat) (t1 : Int × Bool) (x2 : Int) (x3 : Int) (A1_ : Option Addr) (c1_ : Nat) (x4 : Int) (g3_ : Nat) (o3_ : Nat) (g4_ : Nat) (o4_ : Nat) (u : Nat → Wt) : (u20d1q a0 Ap0 cp0 a2 Ap2_0 cp2_0 Ap2_1 cp2_1 nx0 t1 x2 x3 A1_ c1_ x4 g3_ o3_ g4_ o4_ u).map (fun x => (x.1, x.2.1)) = some ((u20d1s a0 a2 Ap2_0 cp2_0 Ap2_1 cp2_1 nx0 x3 x4 g3_ o3_ g4_ o4_) u, (u20d1f a0 Ap0 cp0 a2 Ap2_0 cp2_0 Ap2_1 cp2_1 nx0 t1 x2 x3 A1_ c1_ x4 g3_ o3_ g4_ o4_ 12) u) := by kernel_rfl
theorem u20d1e (a0 : List (List Int)) (Ap0 : Option Addr) (cp0 : Nat) (a2 : S26) (Ap2_0 : Option Addr) (cp2_0 : Nat) (Ap2_1 : Option Addr) (cp2_1 : Nat) (nx0 : Nat) (t1 : Int × Bool) (x2 : Int) (x3 : Int) (A1_ : Option Addr) (c1_ : Nat) (x4 : Int) (g3_ : Nat) (o3_ : Nat) (g4_ : Nat) (o4_ : Nat) (u : Nat → Wt) : (u20d1q a0 Ap0 cp0 a2 Ap2_0 cp2_0 Ap2_1 cp2_1 nx0 t1 x2 x3 A1_ c1_ x4 g3_ o3_ g4_ o4_ u).map (fun x => x.2.2.map (·.1)) = (u20d1q a0 Ap0 cp0 a2 Ap2_0 cp2_0 Ap2_1 cp2_1 nx0 t1 x2 x3 A1_ c1_ x4 g3_ o3_ g4_ o4_ u).map (fun x => x.2.2.map (·.2)) := by kernel_rfl
noncomputable def a20_8n : List Nat := [0, 1, 3, 7, 15, 31, 7, 71, 255, 511, 1023, 2047, 4095, 8191, 2047, 18431, 65535, 131071]
theorem a20_8 : ancs O20_8 [] = a20_8n := by kernel_rfl
theorem a20_8o : drawOk O20_8 a20_8n 16 = true := by kernel_rfl
noncomputable def u20d2l  : List Ld :=
 []
noncomputable def u20d2g  : List (Nat × ((Nat → Wt) → Value)) := [(2, fun u => .bool false), (10, fun u => .bool true)]
noncomputable def u20d2q (a0 : List (List Int)) (Ap0 : Option Addr) (cp0 : Nat) (a2 : S26) (Ap2_0 : Option Addr) (cp2_0 : Nat) (Ap2_1 : Option Addr) (cp2_1 : Nat) (nx0 : Nat) (t1 : Int × Bool) (u : Nat → Wt) : Option (List Value × List (Nat × Value) × List (Nat × Nat)) := qSim Try.prog [] [⟨nx0, [.slice Ap2_0 a2.f0.length cp2_0, .slice Ap2_1 a2.f1.length cp2_1], 26⟩] O20_8 ⟨94, []⟩ (Ld.vl u20d2l) u20d2g u [.no, .no, .no, .no, .l 0, .no, .no, .no, .no, .no, .no, .no, .no, .no, .no, .no] 0 (O20_8.take 16) [(8, .bool t1.2), (7, i6 t1.1), (5, pt nx0 0), (0, .slice Ap0 a0.length cp0)]
noncomputable def u20d2s (a0 : List (List Int)) (Ap0 : Option Addr) (cp0 : Nat) (a2 : S26) (Ap2_0 : Option Addr) (cp2_0 : Nat) (nx0 : Nat) (t1 : Int × Bool) (u : Nat → Wt) : List Value := [.bool t1.2, .bool (!t1.2), .bool false, pt nx0 0, .slice Ap2_0 a2.f0.length cp2_0, i6 (a2.f0.length : Int), .slice Ap0 a0.length cp0, i6 (a0.length : Int), .bool ((a2.f0.length : Int) != (a0.length : Int)), .bool ((a2.f0.length : Int) != (a0.length : Int)), .bool true, undef, undef, undef, undef, undef]
noncomputable def u20d2f (a0 : List (List Int)) (Ap0 : Option Addr) (cp0 : Nat) (a2 : S26) (Ap2_0 : Option Addr) (cp2_0 : Nat) (nx0 : Nat) (t1 : Int × Bool) (i : Nat) (u : Nat → Wt) : List (Nat × Value) := foldPut ⟨94, []⟩ [(8, .bool t1.2), (7, i6 t1.1), (5, pt nx0 0), (0, .slice Ap0 a0.length cp0)] (O20_8.take i) (((u20d2s a0 Ap0 cp0 a2 Ap2_0 cp2_0 nx0 t1) u).take i)
theorem u20d2v (a0 : List (List Int)) (Ap0 : Option Addr) (cp0 : Nat) (a2 : S26) (Ap2_0 : Option Addr) (cp2_0 : Nat) (Ap2_1 : Option Addr) (cp2_1 : Nat) (nx0 : Nat) (t1 : Int × Bool) (u : Nat → Wt) : (u20d2q a0 Ap0 cp0 a2 Ap2_0 cp2_0 Ap2_1 cp2_1 nx0 t1 u).map (fun x => (x.1, x.2.1)) = some ((u20d2s a0 Ap0 cp0 a2 Ap2_0 cp2_0 nx0 t1) u, (u20d2f a0 Ap0 cp0 a2 Ap2_0 cp2_0 nx0 t1 16) u) := by kernel_rfl
theorem u20d2e (a0 : List (List Int)) (Ap0 : Option Addr) (cp0 : Nat) (a2 : S26) (Ap2_0 : Option Addr) (cp2_0 : Nat) (Ap2_1 : Option Addr) (cp2_1 : Nat) (nx0 : Nat) (t1 : Int × Bool) (u : Nat → Wt) : (u20d2q a0 Ap0 cp0 a2 Ap2_0 cp2_0 Ap2_1 cp2_1 nx0 t1 u).map (fun x => x.2.2.map (·.1)) = (u20d2q a0 Ap0 cp0 a2 Ap2_0 cp2_0 Ap2_1 cp2_1 nx0 t1 u).map (fun x => x.2.2.map (·.2)) := by kernel_rfl
noncomputable def u20d3l (t3 : Int) : List Ld :=
 [⟨15, fun x => i6 t3, fun x => [], fun x J => True, fun x J J' h f => trivial⟩]
noncomputable def u20d3g  : List (Nat × ((Nat → Wt) → Value)) := [(2, fun u => .bool false), (10, fun u => .bool false)]
noncomputable def u20d3q (a0 : List (List Int)) (Ap0 : Option Addr) (cp0 : Nat) (a2 : S26) (Ap2_0 : Option Addr) (cp2_0 : Nat) (Ap2_1 : Option Addr) (cp2_1 : Nat) (nx0 : Nat) (t1 : Int × Bool) (t3 : Int) (u : Nat → Wt) : Option (List Value × List (Nat × Value) × List (Nat × Nat)) := qSim Try.prog [] [⟨nx0, [.slice Ap2_0 a2.f0.length cp2_0, .slice Ap2_1 a2.f1.length cp2_1], 26⟩] O20_8 ⟨94, []⟩ (Ld.vl (u20d3l t3)) u20d3g u [.no, .no, .no, .no, .l 0, .no, .no, .no, .no, .no, .no, .no, .l 0, .no, .no, .no] 0 (O20_8.take 16) [(8, .bool t1.2), (7, i6 t1.1), (5, pt nx0 0), (0, .slice Ap0 a0.length cp0)]
noncomputable def u20d3s (a0 : List (List Int)) (Ap0 : Option Addr) (cp0 : Nat) (a2 : S26) (Ap2_0 : Option Addr) (cp2_0 : Nat) (Ap2_1 : Option Addr) (cp2_1 : Nat) (nx0 : Nat) (t1 : Int × Bool) (t3 : Int) (u : Nat → Wt) : List Value := [.bool t1.2, .bool (!t1.2), .bool false, pt nx0 0, .slice Ap2_0 a2.f0.length cp2_0, i6 (a2.f0.length : Int), .slice Ap0 a0.length cp0, i6 (a0.length : Int), .bool ((a2.f0.length : Int) != (a0.length : Int)), .bool ((a2.f0.length : Int) != (a0.length : Int)), .bool false, pt nx0 1, .slice Ap2_1 a2.f1.length cp2_1, i6 (a2.f1.length : Int), .slice Ap0 a0.length cp0, i6 t3]
noncomputable def u20d3f (a0 : List (List Int)) (Ap0 : Option Addr) (cp0 : Nat) (a2 : S26) (Ap2_0 : Option Addr) (cp2_0 : Nat) (Ap2_1 : Option Addr) (cp2_1 : Nat) (nx0 : Nat) (t1 : Int × Bool) (t3 : Int) (i : Nat) (u : Nat → Wt) : List (Nat × Value) := foldPut ⟨94, []⟩ [(8, .bool t1.2), (7, i6 t1.1), (5, pt nx0 0), (0, .slice Ap0 a0.length cp0)] (O20_8.take i) (((u20d3s a0 Ap0 cp0 a2 Ap2_0 cp2_0 Ap2_1 cp2_1 nx0 t1 t3) u).take i)
theorem u20d3v (a0 : List (List Int)) (Ap0 : Option Addr) (cp0 : Nat) (a2 : S26) (Ap2_0 : Option Addr) (cp2_0 : Nat) (Ap2_1 : Option Addr) (cp2_1 : Nat) (nx0 : Nat) (t1 : Int × Bool) (t3 : Int) (u : Nat → Wt) : (u20d3q a0 Ap0 cp0 a2 Ap2_0 cp2_0 Ap2_1 cp2_1 nx0 t1 t3 u).map (fun x => (x.1, x.2.1)) = some ((u20d3s a0 Ap0 cp0 a2 Ap2_0 cp2_0 Ap2_1 cp2_1 nx0 t1 t3) u, (u20d3f a0 Ap0 cp0 a2 Ap2_0 cp2_0 Ap2_1 cp2_1 nx0 t1 t3 16) u) := by kernel_rfl
theorem u20d3e (a0 : List (List Int)) (Ap0 : Option Addr) (cp0 : Nat) (a2 : S26) (Ap2_0 : Option Addr) (cp2_0 : Nat) (Ap2_1 : Option Addr) (cp2_1 : Nat) (nx0 : Nat) (t1 : Int × Bool) (t3 : Int) (u : Nat → Wt) : (u20d3q a0 Ap0 cp0 a2 Ap2_0 cp2_0 Ap2_1 cp2_1 nx0 t1 t3 u).map (fun x => x.2.2.map (·.1)) = (u20d3q a0 Ap0 cp0 a2 Ap2_0 cp2_0 Ap2_1 cp2_1 nx0 t1 t3 u).map (fun x => x.2.2.map (·.2)) := by kernel_rfl
noncomputable def u20d4l  : List Ld :=
 []
noncomputable def u20d4g  : List (Nat × ((Nat → Wt) → Value)) := [(2, fun u => .bool true)]
noncomputable def u20d4q (a0 : List (List Int)) (Ap0 : Option Addr) (cp0 : Nat) (a2 : S26) (Ap2_0 : Option Addr) (cp2_0 : Nat) (Ap2_1 : Option Addr) (cp2_1 : Nat) (nx0 : Nat) (t1 : Int × Bool) (u : Nat → Wt) : Option (List Value × List (Nat × Value) × List (Nat × Nat)) := qSim Try.prog [] [⟨nx0, [.slice Ap2_0 a2.f0.length cp2_0, .slice Ap2_1 a2.f1.length cp2_1], 26⟩] O20_8 ⟨94, []⟩ (Ld.vl u20d4l) u20d4g u [.no, .no, .no, .no, .no, .no, .no, .no, .no, .no, .no, .no, .no, .no, .no, .no] 0 (O20_8.take 16) [(8, .bool t1.2), (7, i6 t1.1), (5, pt nx0 0), (0, .slice Ap0 a0.length cp0)]
noncomputable def u20d4s (t1 : Int × Bool) (u : Nat → Wt) : List Value := [.bool t1.2, .bool (!t1.2), .bool true, undef, undef, undef, undef, undef, undef, .bool true, .bool true, undef, undef, undef, undef, undef]
noncomputable def u20d4f (a0 : List (List Int)) (Ap0 : Option Addr) (cp0 : Nat) (nx0 : Nat) (t1 : Int × Bool) (i : Nat) (u : Nat → Wt) : List (Nat × Value) := foldPut ⟨94, []⟩ [(8, .bool t1.2), (7, i6 t1.1), (5, pt nx0 0), (0, .slice Ap0 a0.length cp0)] (O20_8.take i) (((u20d4s t1) u).take i)
theorem u20d4v (a0 : List (List Int)) (Ap0 : Option Addr) (cp0 : Nat) (a2 : S26) (Ap2_0 : Option Addr) (cp2_0 : Nat) (Ap2_1 : Option Addr) (cp2_1 : Nat) (nx0 : Nat) (t1 : Int × Bool) (u : Nat → Wt) : (u20d4q a0 Ap0 cp0 a2 Ap2_0 cp2_0 Ap2_1 cp2_1 nx0 t1 u).map (fun x => (x.1, x.2.1)) = some ((u20d4s t1) u, (u20d4f a0 Ap0 cp0 nx0 t1 16) u) := by kernel_rfl
theorem u20d4e (a0 : List (List Int)) (Ap0 : Option Addr) (cp0 : Nat) (a2 : S26) (Ap2_0 : Option Addr) (cp2_0 : Nat) (Ap2_1 : Option Addr) (cp2_1 : Nat) (nx0 : Nat) (t1 : Int × Bool) (u : Nat → Wt) : (u20d4q a0 Ap0 cp0 a2 Ap2_0 cp2_0 Ap2_1 cp2_1 nx0 t1 u).map (fun x => x.2.2.map (·.1)) = (u20d4q a0 Ap0 cp0 a2 Ap2_0 cp2_0 Ap2_1 cp2_1 nx0 t1 u).map (fun x => x.2.2.map (·.2)) := by kernel_rfl
theorem assign_VerifyDuals.calls (k : Nat) (I0 : Imm) (a0 : List (List Int)) (Ap0 : Option Addr) (cp0 : Nat) (a1 : List Int) (Ap1 : Option Addr) (cp1 : Nat) (a2 : S26) (Ap2_0 : Option Addr) (cp2_0 : Nat) (Ap2_1 : Option Addr) (cp2_1 : Nat) (w : World) (hI : I0.at_ w) (hlp0 : a0.length ≤ cp0) (hrp0 : Rd (Ty.slice (Ty.int .i64)) I0 Ap0 a0) (hlp1 : a1.length ≤ cp1) (hrp1 : Rd (Ty.int .i64) I0 Ap1 a1) (hlp2_0 : a2.f0.length ≤ cp2_0) (hrp2_0 : Rd (Ty.int .i64) I0 Ap2_0 a2.f0) (hlp2_1 : a2.f1.length ≤ cp2_1) (hrp2_1 : Rd (Ty.int .i64) I0 Ap2_1 a2.f1) (r : Bool) (h : assign_VerifyDuals.f k a0 a1 a2 = some r) :
  Calls Try.prog 20 [.slice Ap0 a0.length cp0, .slice Ap1 a1.length cp1, .agg #[.slice Ap2_0 a2.f0.length cp2_0, .slice Ap2_1 a2.f1.length cp2_1]].toArray w fun e w' => ∃ v, e = .returned v ∧ assign_VerifyDuals.Post I0 w r v w' := by
 have H : ((assign_Value.f k a0 a1).bind fun t1 => ((if t1.2 = true then (if (a2.f0.length : Int) ≠ (a0.length : Int) then (some true) else ((assign_columns.f a0).bind fun t3 => (some ((a2.f1.length : Int) != t3)))) else (some true)).bind (assign_VerifyDuals.k6 k a0 a2 t1))) = some r := h
 clear h
 refine calls_body Try.func20 (by kernel_rfl) 94 (by kernel_rfl) (by kernel_rfl) ⟨w, fun _ => False, I0⟩ I0 [] [(0, .slice Ap0 a0.length cp0), (1, .slice Ap1 a1.length cp1), (2, .agg #[.slice Ap2_0 a2.f0.length cp2_0, .slice Ap2_1 a2.f1.length cp2_1])] (by kernel_rfl) (Sat.start w _ I0 hI) ?_
 generalize w.heap.size = nx0
 show OK _ K20_0 _ _ _ _ _ _ _ _
 refine OK.sr ?_
 refine RL.spt 2 [(5, pt nx0 0), (0, .slice Ap0 a0.length cp0), (1, .slice Ap1 a1.length cp1)] (nx0 + 1) [⟨nx0, [.slice Ap2_0 a2.f0.length cp2_0, .slice Ap2_1 a2.f1.length cp2_1], 26⟩] ?_
 refine OK.sr ?_
 refine RL.s 2 [(18, .slice Ap1 a1.length cp1), (17, .slice Ap0 a0.length cp0), (5, pt nx0 0), (0, .slice Ap0 a0.length cp0)] ?_
 obtain ⟨t1, hA1, H⟩ := bnd H
 refine RL.callP 15 [.slice Ap0 a0.length cp0, .slice Ap1 a1.length cp1] (some 19) (fun w => assign_Value.Post I0 w t1) (by kernel_rfl) (by kernel_rfl) (fun w hs => assign_Value.calls k I0 a0 Ap0 cp0 a1 Ap1 cp1 w hs.im hlp0 hrp0 hlp1 hrp1 t1 hA1) ?_
 rintro w v w' hs ⟨I1, rfl, hg⟩
 have hi1 := hg.le
 refine RL.resume (X' := []) rfl (hs.call hg) ?_
 clear hs hg
 generalize w'.heap.size = nx1
 clear w w'
 refine RL.st 5 [(8, .bool t1.2), (7, i6 t1.1), (5, pt nx0 0), (0, .slice Ap0 a0.length cp0)] ?_
 refine OK.sq ?_
 refine OK.sq ?_
 refine OK.join (fun K' I' _ L' X' => ∃ (x1 : Bool), K' = [(0, .slice Ap0 a0.length cp0), (5, pt nx0 0), (7, i6 t1.1), (39, .bool x1)] ∧ L' = [⟨nx0, [.slice Ap2_0 a2.f0.length cp2_0, .slice Ap2_1 a2.f1.length cp2_1], 26⟩] ∧ X' = [] ∧ Imm.le I1 I' ∧ assign_VerifyDuals.k6 k a0 a2 t1 x1 = some r) ?_ ?_
 ·rintro _ I2 nx2 _ _ ⟨x1, rfl, rfl, rfl, hi2, H⟩
  rw [assign_VerifyDuals.k6] at H
  refine QN.then_ ?_
  refine OK.cd x1 (fun hb => ?_) (fun hb => ?_)
  ·skip
   have hc := hb
   rw [if_pos hc] at H
   clear hb
   refine OK.sr ?_
   refine RL.st 1 [(6, .bool false)] ?_
   refine OK.re ?_
   refine QN.thenR ?_
   obtain rfl := Option.some.inj H
   refine QN.body rfl [] (RFacts.nil _ _ _) (.no) (.bool false) (by kernel_rfl) (by kernel_rfl) (by kernel_rfl) ?_ _ (.inr rfl)
   exact fun w' hs' => ⟨_, rfl, I2, rfl, hs'.got _ .slnil⟩
  ·skip
   have hc := (Bool.eq_false_iff.1 hb)
   rw [if_neg hc] at H
   clear hb
   refine OK.skt ?_
   refine OK.sr ?_
   refine RL.st 1 [(9, i6 0), (0, .slice Ap0 a0.length cp0), (5, pt nx0 0), (7, i6 t1.1)] ?_
   refine OK.sq ?_
   refine OK.sr ?_
   refine RL.simP (K' := [(44, .slice (some ⟨nx2, 0, none⟩) 2 2), (9, i6 0), (0, .slice Ap0 a0.length cp0), (5, pt nx0 0), (7, i6 t1.1)]) (nx' := nx2 + 1) (L' := [⟨nx0, [.slice Ap2_0 a2.f0.length cp2_0, .slice Ap2_1 a2.f1.length cp2_1], 26⟩, ⟨nx2, [.slice Ap2_0 a2.f0.length cp2_0, .slice Ap2_1 a2.f1.length cp2_1], 24⟩]) [] (RFacts.nil _ _ _) 5 [.no, .l 0, .no, .l 0, .no] (by kernel_rfl) (by kernel_rfl) ?_
   refine RL.freezeL (d := (Ty.slice (Ty.int .i64))) (xs := [a2.f0, a2.f1]) (b := ⟨nx2, [.slice Ap2_0 a2.f0.length cp2_0, .slice Ap2_1 a2.f1.length cp2_1], 24⟩) 1 (by kernel_rfl) ⟨_, _, rfl, ⟨_, _, rfl, hlp2_0, (Rd.ext (Imm.le_trans hi1 hi2) hrp2_0)⟩, ⟨_, _, rfl, ⟨_, _, rfl, hlp2_1, (Rd.ext (Imm.le_trans hi1 hi2) hrp2_1)⟩, rfl⟩⟩ (Nat.le_of_ble_eq_true rfl) (fun I3 hi3 hr1 => ?_)
   obtain ⟨t2, hA2, H⟩ := bnd H
   refine RL.callP 35 [.slice (some ⟨nx2, 0, none⟩) 2 2] (some 45) (fun w => slices_Concat_int64_int64.Post I3 w t2) (by kernel_rfl) (by kernel_rfl) (fun w hs => slices_Concat_int64_int64.calls k I3 [a2.f0, a2.f1] (some ⟨nx2, 0, none⟩) 2 w hs.im (Nat.le_of_ble_eq_true rfl) hr1 t2 hA2) ?_
   rintro w v w' hs ⟨I4, A1, c1, cs1, rfl, hg, hp1⟩
   have hi4 := hg.le
   refine RL.resume (X' := [orow 2 1 A1 t2.length c1 cs1]) rfl (hs.call hg) ?_
   clear hs hg
   generalize w'.heap.size = nx3
   clear w w'
   refine RL.st 2 [(47, i6 0), (46, i6 (t2.length : Int)), (45, .slice A1 t2.length c1), (9, i6 0), (0, .slice Ap0 a0.length cp0), (5, pt nx0 0), (7, i6 t1.1)] ?_
   refine OK.join (fun K' I' _ L' X' => ∃ (x2 : Int), K' = [(0, .slice Ap0 a0.length cp0), (5, pt nx0 0), (7, i6 t1.1), (9, i6 x2)] ∧ L' = [⟨nx0, [.slice Ap2_0 a2.f0.length cp2_0, .slice Ap2_1 a2.f1.length cp2_1], 26⟩] ∧ X' = [] ∧ Imm.le I4 I' ∧ assign_VerifyDuals.k4 k a0 a2 t1 (Sum.inl x2) = some r) ?_ ?_
   ·rintro _ I5 nx4 _ _ ⟨x2, rfl, rfl, rfl, hi5, H⟩
    rw [assign_VerifyDuals.k4] at H
    refine QN.then_ ?_
    refine OK.sq ?_
    refine OK.sr ?_
    refine RL.st 3 [(64, i6 0), (63, i6 (a0.length : Int)), (62, .slice Ap0 a0.length cp0), (5, pt nx0 0), (7, i6 t1.1), (9, i6 x2)] ?_
    refine OK.join (fun K' I' _ L' X' => K' = [(7, i6 t1.1), (9, i6 x2)] ∧ L' = [⟨nx0, [.slice Ap2_0 a2.f0.length cp2_0, .slice Ap2_1 a2.f1.length cp2_1], 26⟩] ∧ X' = [] ∧ Imm.le I5 I' ∧ assign_VerifyDuals.k1 t1 x2 (Sum.inl ()) = some r) ?_ ?_
    ·rintro _ I6 nx5 _ _ ⟨rfl, rfl, rfl, hi6, H⟩
     rw [assign_VerifyDuals.k1] at H
     refine QN.then_ ?_
     refine OK.sr ?_
     refine RL.st 4 [(6, .bool (x2 == t1.1))] ?_
     refine OK.re ?_
     obtain rfl := Option.some.inj H
     refine QN.body rfl [] (RFacts.nil _ _ _) (.no) (.bool (x2 == t1.1)) (by kernel_rfl) (by kernel_rfl) (by kernel_rfl) ?_ _ (.inr rfl)
     exact fun w' hs' => ⟨_, rfl, I6, rfl, hs'.got _ .slnil⟩
    ·intro Q_1 hJ3 hQ3
     obtain ⟨y3, H, HK3⟩ := bnd H
     refine OK.bk 2 ?_
     refine OK.sub (K' := [(5, pt nx0 0), (7, i6 t1.1), (9, i6 x2), (62, .slice Ap0 a0.length cp0), (63, i6 (a0.length : Int)), (64, i6 0)]) (L' := [⟨nx0, [.slice Ap2_0 a2.f0.length cp2_0, .slice Ap2_1 a2.f1.length cp2_1], 26⟩]) (by kernel_rfl) (.cons_cons _ .slnil) (.refl _) ?_
     refine OK.lp (fun n_ K' I' _ L' X' => ∃ (x3 : Int), K' = [(5, pt nx0 0), (7, i6 t1.1), (9, i6 x2), (62, .slice Ap0 a0.length cp0), (63, i6 (a0.length : Int)), (64, i6 x3)] ∧ L' = [⟨nx0, [.slice Ap2_0 a2.f0.length cp2_0, .slice Ap2_1 a2.f1.length cp2_1], 26⟩] ∧ X' = [] ∧ Imm.le I5 I' ∧ assign_VerifyDuals.l1 a0 a2 n_ x3 = some y3) k ⟨0, rfl, rfl, rfl, (Imm.le_refl _), H⟩ ?_ ?_
     ·rintro _ _ _ _ _ ⟨x3, rfl, rfl, rfl, _, H⟩
      cases H
     ·rintro kq1 _ I7 nx6 _ _ ⟨x3, rfl, rfl, rfl, hi7, H⟩ Q_l1 hJ4 hQ4
      rw [assign_VerifyDuals.l1] at H
      refine OK.sr ?_
      refine RL.st 1 [(65, .bool (decide (x3 < (a0.length : Int)))), (5, pt nx0 0), (7, i6 t1.1), (9, i6 x2), (62, .slice Ap0 a0.length cp0), (63, i6 (a0.length : Int)), (64, i6 x3)] ?_
      refine OK.sq ?_
      refine OK.cd (decide (x3 < (a0.length : Int))) (fun hb => ?_) (fun hb => ?_)
      ·skip
       have hc := (of_decide_eq_true hb)
       rw [if_pos hc] at H
       clear hb
       refine OK.skt ?_
       refine OK.sq ?_
       refine OK.join (fun K' I' _ L' X' => K' = [(5, pt nx0 0), (7, i6 t1.1), (9, i6 x2), (62, .slice Ap0 a0.length cp0), (63, i6 (a0.length : Int)), (64, i6 x3)] ∧ L' = [⟨nx0, [.slice Ap2_0 a2.f0.length cp2_0, .slice Ap2_1 a2.f1.length cp2_1], 26⟩] ∧ X' = [] ∧ Imm.le I7 I' ∧ (assign_VerifyDuals.l1 a0 a2 kq1 (W .i64 (x3 + 1))) = some y3) ?_ ?_
       ·rintro _ I8 nx7 _ _ ⟨rfl, rfl, rfl, hi8, H⟩
        replace H : (assign_VerifyDuals.l1 a0 a2 kq1 (W .i64 (x3 + 1))) = some y3 := H
        refine QN.then_ ?_
        refine OK.rg ?_
        refine RL.s 2 [(64, i6 (W .i64 (x3 + 1))), (5, pt nx0 0), (7, i6 t1.1), (9, i6 x2), (62, .slice Ap0 a0.length cp0), (63, i6 (a0.length : Int))] ?_
        refine RL.nil (by kernel_rfl) ?_
        exact QN.sb (hJ4 _ _ _ _ _ ⟨W .i64 (x3 + 1), rfl, rfl, rfl, (Imm.le_trans hi7 hi8), H⟩) (.cons_cons _ .slnil) (.refl _)
       ·intro Q_2 hJ5 hQ5
        obtain ⟨y4, H, HK4⟩ := bnd H
        refine OK.bk 3 ?_
        refine OK.sr ?_
        refine RL.s 1 [(66, i6 x3), (5, pt nx0 0), (7, i6 t1.1), (9, i6 x2), (62, .slice Ap0 a0.length cp0), (63, i6 (a0.length : Int)), (64, i6 x3)] ?_
        obtain ⟨hib0, H⟩ := ifs H
        obtain ⟨hib1, H⟩ := ifs H
        obtain ⟨g1_, o1_, hA1_, A1_, c1_, hl1_, hr1_, hc1_⟩ := Ty.slice_at (Rd.ext (Imm.le_trans (Imm.le_trans (Imm.le_trans (Imm.le_trans (Imm.le_trans hi1 hi2) hi3) hi4) hi5) hi7) hrp0) x3 hib0 hib1
        refine RL.idx 1 .i64 x3 hA1_ a0.length cp0 (some 67) (by kernel_rfl) (by kernel_rfl) (T := 22) (e := 24) (by kernel_rfl) (by kernel_rfl) hib0 hib1 (K' := [(67, pt g1_ (o1_ + (x3).toNat * 1)), (66, i6 x3), (5, pt nx0 0), (7, i6 t1.1), (9, i6 x2), (62, .slice Ap0 a0.length cp0), (63, i6 (a0.length : Int)), (64, i6 x3)]) (by kernel_rfl) ?_
        refine RL.simK (K' := [(13, .slice A1_ ((a0.getD (x3).toNat []).length) c1_), (12, i6 x3), (5, pt nx0 0), (7, i6 t1.1), (9, i6 x2), (62, .slice Ap0 a0.length cp0), (63, i6 (a0.length : Int)), (64, i6 x3)]) [(⟨g1_, o1_ + (x3).toNat * 1, none⟩, .slice A1_ ((a0.getD (x3).toNat []).length) c1_)] (RFacts.imm (hc1_ 0 _ rfl) (RFacts.nil _ _ _)) 3 [.r 0, .no, .no] (by kernel_rfl) (by kernel_rfl) ?_
        refine RL.nt ?_
        refine OK.sr ?_
        refine RL.st 3 [(71, i6 0), (70, i6 ((a0.getD (x3).toNat []).length : Int)), (69, .slice A1_ ((a0.getD (x3).toNat []).length) c1_), (12, i6 x3), (5, pt nx0 0), (7, i6 t1.1), (9, i6 x2), (62, .slice Ap0 a0.length cp0), (63, i6 (a0.length : Int)), (64, i6 x3)] ?_
        refine OK.join (fun K' I' _ L' X' => K' = [(5, pt nx0 0), (7, i6 t1.1), (9, i6 x2), (62, .slice Ap0 a0.length cp0), (63, i6 (a0.length : Int)), (64, i6 x3)] ∧ L' = [⟨nx0, [.slice Ap2_0 a2.f0.length cp2_0, .slice Ap2_1 a2.f1.length cp2_1], 26⟩] ∧ X' = [] ∧ Imm.le I7 I' ∧ assign_VerifyDuals.k3 (Sum.inl ()) = some y4) ?_ ?_
        ·rintro _ I9 nx8 _ _ ⟨rfl, rfl, rfl, hi9, H⟩
         rw [assign_VerifyDuals.k3] at H
         refine QN.blkN ?_
         obtain rfl := Option.some.inj H
         exact QN.sb (hJ5 _ _ _ _ _ ⟨rfl, rfl, rfl, hi9, HK4⟩) (.cons_cons _ .slnil) (.refl _)
        ·intro Q_3 hJ6 hQ6
         obtain ⟨y5, H, HK5⟩ := bnd H
         refine OK.bk 4 ?_
         refine OK.sub (K' := [(5, pt nx0 0), (7, i6 t1.1), (9, i6 x2), (12, i6 x3), (62, .slice Ap0 a0.length cp0), (63, i6 (a0.length : Int)), (64, i6 x3), (69, .slice A1_ ((a0.getD (x3).toNat []).length) c1_), (70, i6 ((a0.getD (x3).toNat []).length : Int)), (71, i6 0)]) (L' := [⟨nx0, [.slice Ap2_0 a2.f0.length cp2_0, .slice Ap2_1 a2.f1.length cp2_1], 26⟩]) (by kernel_rfl) (.cons_cons _ .slnil) (.refl _) ?_
         refine OK.lp (fun n_ K' I' _ L' X' => ∃ (x4 : Int), K' = [(5, pt nx0 0), (7, i6 t1.1), (9, i6 x2), (12, i6 x3), (62, .slice Ap0 a0.length cp0), (63, i6 (a0.length : Int)), (64, i6 x3), (69, .slice A1_ ((a0.getD (x3).toNat []).length) c1_), (70, i6 ((a0.getD (x3).toNat []).length : Int)), (71, i6 x4)] ∧ L' = [⟨nx0, [.slice Ap2_0 a2.f0.length cp2_0, .slice Ap2_1 a2.f1.length cp2_1], 26⟩] ∧ X' = [] ∧ Imm.le I7 I' ∧ assign_VerifyDuals.l2 a0 a2 x3 n_ x4 = some y5) kq1 ⟨0, rfl, rfl, rfl, (Imm.le_refl _), H⟩ ?_ ?_
         ·rintro _ _ _ _ _ ⟨x4, rfl, rfl, rfl, _, H⟩
          cases H
         ·rintro kq2 _ I10 nx9 _ _ ⟨x4, rfl, rfl, rfl, hi10, H⟩ Q_l2 hJ7 hQ7
          rw [assign_VerifyDuals.l2] at H
          refine OK.sr ?_
          refine RL.st 1 [(72, .bool (decide (x4 < ((a0.getD (x3).toNat []).length : Int)))), (5, pt nx0 0), (7, i6 t1.1), (9, i6 x2), (12, i6 x3), (62, .slice Ap0 a0.length cp0), (63, i6 (a0.length : Int)), (64, i6 x3), (69, .slice A1_ ((a0.getD (x3).toNat []).length) c1_), (70, i6 ((a0.getD (x3).toNat []).length : Int)), (71, i6 x4)] ?_
          refine OK.sq ?_
          refine OK.cd (decide (x4 < ((a0.getD (x3).toNat []).length : Int))) (fun hb => ?_) (fun hb => ?_)
          ·skip
           have hc := (of_decide_eq_true hb)
           rw [if_pos hc] at H
           clear hb
           refine OK.skt ?_
           refine OK.sq ?_
           refine OK.bk 5 ?_
           refine OK.sr ?_
           refine RL.s 1 [(73, i6 x4), (5, pt nx0 0), (7, i6 t1.1), (9, i6 x2), (12, i6 x3), (62, .slice Ap0 a0.length cp0), (63, i6 (a0.length : Int)), (64, i6 x3), (69, .slice A1_ ((a0.getD (x3).toNat []).length) c1_), (70, i6 ((a0.getD (x3).toNat []).length : Int)), (71, i6 x4)] ?_
           obtain ⟨hib0, H⟩ := ifs H
           obtain ⟨hib1, H⟩ := ifs H
           obtain ⟨g2_, o2_, hA2_, hc2_⟩ := Ty.int_at (Rd.ext hi10 hr1_) x4 hib0 hib1
           refine RL.idx 1 .i64 x4 hA2_ ((a0.getD (x3).toNat []).length) c1_ (some 74) (by kernel_rfl) (by kernel_rfl) (T := 24) (e := 2) (by kernel_rfl) (by kernel_rfl) hib0 hib1 (K' := [(74, pt g2_ (o2_ + (x4).toNat * 1)), (73, i6 x4), (5, pt nx0 0), (7, i6 t1.1), (9, i6 x2), (12, i6 x3), (62, .slice Ap0 a0.length cp0), (63, i6 (a0.length : Int)), (64, i6 x3), (69, .slice A1_ ((a0.getD (x3).toNat []).length) c1_), (70, i6 ((a0.getD (x3).toNat []).length : Int)), (71, i6 x4)]) (by kernel_rfl) ?_
           refine RL.simK (K' := [(15, i6 ((a0.getD (x3).toNat []).getD (x4).toNat 0)), (14, i6 x4), (5, pt nx0 0), (7, i6 t1.1), (9, i6 x2), (12, i6 x3), (62, .slice Ap0 a0.length cp0), (63, i6 (a0.length : Int)), (64, i6 x3), (69, .slice A1_ ((a0.getD (x3).toNat []).length) c1_), (70, i6 ((a0.getD (x3).toNat []).length : Int)), (71, i6 x4)]) [(⟨g2_, o2_ + (x4).toNat * 1, none⟩, i6 ((a0.getD (x3).toNat []).getD (x4).toNat 0))] (RFacts.imm (hc2_ 0 _ rfl) (RFacts.nil _ _ _)) 3 [.r 0, .no, .no] (by kernel_rfl) (by kernel_rfl) ?_
           refine RL.nt ?_
           refine OK.sq ?_
           obtain ⟨hi0_1, H⟩ := ifs H
           obtain ⟨hi1_1, H⟩ := ifs H
           obtain ⟨g3_, o3_, hA3_, hc3_⟩ := Ty.int_at (Rd.ext (Imm.le_trans (Imm.le_trans (Imm.le_trans (Imm.le_trans (Imm.le_trans (Imm.le_trans hi1 hi2) hi3) hi4) hi5) hi7) hi10) hrp2_0) x3 hi0_1 hi1_1
           obtain ⟨hi0_2, H⟩ := ifs H
           obtain ⟨hi1_2, H⟩ := ifs H
           obtain ⟨g4_, o4_, hA4_, hc4_⟩ := Ty.int_at (Rd.ext (Imm.le_trans (Imm.le_trans (Imm.le_trans (Imm.le_trans (Imm.le_trans (Imm.le_trans hi1 hi2) hi3) hi4) hi5) hi7) hi10) hrp2_1) x4 hi0_2 hi1_2
           refine OK.drawnC 18 12 O20_87 a20_87n (by kernel_rfl) (by kernel_rfl) u20d1l (u20d1g x3 x4 g3_ o3_ g4_ o4_) [(⟨g3_, o3_ + (x3).toNat * 1, none⟩, i6 (a2.f0.getD (x3).toNat 0)), (⟨g4_, o4_ + (x4).toNat * 1, none⟩, i6 (a2.f1.getD (x4).toNat 0))] (RI.cons (hc3_ 0 _ rfl) (RI.cons (hc4_ 0 _ rfl) (RI.nil _))) [.no, .l 0, .no, .no, .r 0, .no, .l 0, .no, .no, .r 1, .no, .no] a20_87 a20_87o (by kernel_rfl) (by kernel_rfl) (u20d1s a0 a2 Ap2_0 cp2_0 Ap2_1 cp2_1 nx0 x3 x4 g3_ o3_ g4_ o4_) (u20d1f a0 Ap0 cp0 a2 Ap2_0 cp2_0 Ap2_1 cp2_1 nx0 t1 x2 x3 A1_ c1_ x4 g3_ o3_ g4_ o4_ 12) (u20d1v a0 Ap0 cp0 a2 Ap2_0 cp2_0 Ap2_1 cp2_1 nx0 t1 x2 x3 A1_ c1_ x4 g3_ o3_ g4_ o4_) (u20d1e a0 Ap0 cp0 a2 Ap2_0 cp2_0 Ap2_1 cp2_1 nx0 t1 x2 x3 A1_ c1_ x4 g3_ o3_ g4_ o4_) [] framesOk.nil ?_ [u20d1f a0 Ap0 cp0 a2 Ap2_0 cp2_0 Ap2_1 cp2_1 nx0 t1 x2 x3 A1_ c1_ x4 g3_ o3_ g4_ o4_ 3, u20d1f a0 Ap0 cp0 a2 Ap2_0 cp2_0 Ap2_1 cp2_1 nx0 t1 x2 x3 A1_ c1_ x4 g3_ o3_ g4_ o4_ 8] (framesOk.cons (fun u => rfl) (framesOk.cons (fun u => rfl) framesOk.nil)) ?_ ?_
           ·refine LoudsG.nil
           ·refine Givens.cons (fun u w =>  ?_) (fun _ _ _ => rfl) (Givens.cons (fun u w =>  ?_) (fun _ _ _ => rfl) (Givens.nil))
            ·exact giv_idx (T := 24) (e := 2) 1 .i64 x3 hA3_ a2.f0.length cp2_0 (by kernel_rfl) (by kernel_rfl) (by kernel_rfl) hi0_1 hi1_1 w
            ·exact giv_idx (T := 24) (e := 2) 1 .i64 x4 hA4_ a2.f1.length cp2_1 (by kernel_rfl) (by kernel_rfl) (by kernel_rfl) hi0_2 hi1_2 w
           intro u I11 nx10 hi11 hF
           clear hF
           refine RL.norm (K' := [(87, i6 ((a0.getD (x3).toNat []).getD (x4).toNat 0)), (86, i6 (W .i64 ((a2.f0.getD (x3).toNat 0) + (a2.f1.getD (x4).toNat 0)))), (85, i6 (a2.f1.getD (x4).toNat 0)), (84, pt g4_ (o4_ + (x4).toNat * 1)), (83, i6 x4), (82, .slice Ap2_1 a2.f1.length cp2_1), (81, pt nx0 1), (80, i6 (a2.f0.getD (x3).toNat 0)), (79, pt g3_ (o3_ + (x3).toNat * 1)), (78, i6 x3), (77, .slice Ap2_0 a2.f0.length cp2_0), (76, pt nx0 0), (15, i6 ((a0.getD (x3).toNat []).getD (x4).toNat 0)), (14, i6 x4), (5, pt nx0 0), (7, i6 t1.1), (9, i6 x2), (12, i6 x3), (62, .slice Ap0 a0.length cp0), (63, i6 (a0.length : Int)), (64, i6 x3), (69, .slice A1_ ((a0.getD (x3).toNat []).length) c1_), (70, i6 ((a0.getD (x3).toNat []).length : Int)), (71, i6 x4)]) (X' := []) (by kernel_rfl) rfl rfl rfl ?_
           refine RL.st 1 [(88, .bool (decide ((W .i64 ((a2.f0.getD (x3).toNat 0) + (a2.f1.getD (x4).toNat 0))) < ((a0.getD (x3).toNat []).getD (x4).toNat 0)))), (5, pt nx0 0), (7, i6 t1.1), (9, i6 x2), (12, i6 x3), (62, .slice Ap0 a0.length cp0), (63, i6 (a0.length : Int)), (64, i6 x3), (69, .slice A1_ ((a0.getD (x3).toNat []).length) c1_), (70, i6 ((a0.getD (x3).toNat []).length : Int)), (71, i6 x4)] ?_
           refine OK.cd (decide ((W .i64 ((a2.f0.getD (x3).toNat 0) + (a2.f1.getD (x4).toNat 0))) < ((a0.getD (x3).toNat []).getD (x4).toNat 0))) (fun hb => ?_) (fun hb => ?_)
           ·skip
            have hc := (of_decide_eq_true hb)
            rw [if_pos hc] at H
            clear hb
            refine OK.sr ?_
            refine RL.st 1 [(6, .bool false)] ?_
            refine OK.re ?_
            refine QN.blkR ?_
            refine QN.thenR ?_
            refine QN.outR hQ7 ?_
            refine QN.blkR ?_
            refine QN.outR hQ6 ?_
            refine QN.blkR ?_
            refine QN.outR hQ5 ?_
            refine QN.thenR ?_
            refine QN.outR hQ4 ?_
            refine QN.blkR ?_
            refine QN.outR hQ3 ?_
            refine QN.thenR ?_
            obtain rfl := Option.some.inj H
            replace H : some (Sum.inr false) = some y4 := HK5
            obtain rfl := Option.some.inj H
            replace H : some (Sum.inr false) = some y3 := HK4
            obtain rfl := Option.some.inj H
            replace H : some false = some r := HK3
            obtain rfl := Option.some.inj H
            refine QN.body rfl [] (RFacts.nil _ _ _) (.no) (.bool false) (by kernel_rfl) (by kernel_rfl) (by kernel_rfl) ?_ _ (.inr rfl)
            exact fun w' hs' => ⟨_, rfl, I11, rfl, hs'.got _ .slnil⟩
           ·skip
            have hc := (of_decide_eq_false hb)
            rw [if_neg hc] at H
            clear hb
            refine OK.sk ?_
            refine QN.blkN ?_
            refine QN.then_ ?_
            refine OK.rg ?_
            refine RL.s 2 [(71, i6 (W .i64 (x4 + 1))), (5, pt nx0 0), (7, i6 t1.1), (9, i6 x2), (12, i6 x3), (62, .slice Ap0 a0.length cp0), (63, i6 (a0.length : Int)), (64, i6 x3), (69, .slice A1_ ((a0.getD (x3).toNat []).length) c1_), (70, i6 ((a0.getD (x3).toNat []).length : Int))] ?_
            refine RL.nil (by kernel_rfl) ?_
            exact QN.sb (hJ7 _ _ _ _ _ ⟨W .i64 (x4 + 1), rfl, rfl, rfl, (Imm.le_trans hi10 hi11), H⟩) (.cons_cons _ .slnil) (.refl _)
          ·skip
           have hc := (of_decide_eq_false hb)
           rw [if_neg hc] at H
           clear hb
           refine OK.ex 4 ?_
           refine QN.thenE ?_
           refine QN.outE hQ7 ?_
           refine QN.blkE ?_
           obtain rfl := Option.some.inj H
           exact QN.sb (hJ6 _ _ _ _ _ ⟨rfl, rfl, rfl, hi10, HK5⟩) (.cons_cons _ .slnil) (.refl _)
      ·skip
       have hc := (of_decide_eq_false hb)
       rw [if_neg hc] at H
       clear hb
       refine OK.ex 2 ?_
       refine QN.thenE ?_
       refine QN.outE hQ4 ?_
       refine QN.blkE ?_
       obtain rfl := Option.some.inj H
       exact QN.sb (hJ3 _ _ _ _ _ ⟨rfl, rfl, rfl, hi7, HK3⟩) (.cons_cons _ .slnil) (.refl _)
   ·intro Q_4 hJ2 hQ2
    obtain ⟨y2, H, HK2⟩ := bnd H
    refine OK.bk 0 ?_
    refine OK.sub (K' := [(0, .slice Ap0 a0.length cp0), (5, pt nx0 0), (7, i6 t1.1), (9, i6 0), (45, .slice A1 t2.length c1), (46, i6 (t2.length : Int)), (47, i6 0)]) (L' := [⟨nx0, [.slice Ap2_0 a2.f0.length cp2_0, .slice Ap2_1 a2.f1.length cp2_1], 26⟩]) (by kernel_rfl) (.cons_cons _ .slnil) (.refl _) ?_
    refine OK.lp (fun n_ K' I' _ L' X' => ∃ (x5 : Int) (x6 : Int), K' = [(0, .slice Ap0 a0.length cp0), (5, pt nx0 0), (7, i6 t1.1), (9, i6 x5), (45, .slice A1 t2.length c1), (46, i6 (t2.length : Int)), (47, i6 x6)] ∧ L' = [⟨nx0, [.slice Ap2_0 a2.f0.length cp2_0, .slice Ap2_1 a2.f1.length cp2_1], 26⟩] ∧ X' = [orow 2 1 A1 t2.length c1 cs1] ∧ Imm.le I4 I' ∧ assign_VerifyDuals.l3 t1 t2 n_ x5 x6 = some y2) k ⟨0, 0, rfl, rfl, rfl, (Imm.le_refl _), H⟩ ?_ ?_
    ·rintro _ _ _ _ _ ⟨x5, x6, rfl, rfl, rfl, _, H⟩
     cases H
    ·rintro kq3 _ I12 nx11 _ _ ⟨x5, x6, rfl, rfl, rfl, hi12, H⟩ Q_l3 hJ8 hQ8
     rw [assign_VerifyDuals.l3] at H
     refine OK.sr ?_
     refine RL.st 1 [(48, .bool (decide (x6 < (t2.length : Int)))), (0, .slice Ap0 a0.length cp0), (5, pt nx0 0), (7, i6 t1.1), (9, i6 x5), (45, .slice A1 t2.length c1), (46, i6 (t2.length : Int)), (47, i6 x6)] ?_
     refine OK.sq ?_
     refine OK.cd (decide (x6 < (t2.length : Int))) (fun hb => ?_) (fun hb => ?_)
     ·skip
      have hc := (of_decide_eq_true hb)
      rw [if_pos hc] at H
      clear hb
      refine OK.skt ?_
      refine OK.sq ?_
      refine OK.bk 1 ?_
      refine OK.sr ?_
      obtain ⟨hib0, H⟩ := ifs H
      obtain ⟨hib1, H⟩ := ifs H
      have hx05_ := hib0; have hx15_ := hib1
      refine RL.ownAddr (e := 2) (sz := 1) (S := A1) (n := t2.length) (cap := c1) (cs := cs1) 0 (by kernel_rfl) (by omega) (fun g5_ hA5_ => ?_)
      have hc5_ := Ty.int_own (Reps.ext hi12 hp1) x6 hib0 hib1
      refine RL.idx 1 .i64 x6 hA5_ t2.length c1 (some 49) (by kernel_rfl) (by kernel_rfl) (T := 24) (e := 2) (by kernel_rfl) (by kernel_rfl) hib0 hib1 (K' := [(49, pt g5_ (0 + (x6).toNat * 1)), (48, .bool (decide (x6 < (t2.length : Int)))), (0, .slice Ap0 a0.length cp0), (5, pt nx0 0), (7, i6 t1.1), (9, i6 x5), (45, .slice A1 t2.length c1), (46, i6 (t2.length : Int)), (47, i6 x6)]) (by kernel_rfl) ?_
      refine RL.simK (K' := [(11, i6 (t2.getD (x6).toNat 0)), (0, .slice Ap0 a0.length cp0), (5, pt nx0 0), (7, i6 t1.1), (9, i6 x5), (45, .slice A1 t2.length c1), (46, i6 (t2.length : Int)), (47, i6 x6)]) [(⟨g5_, 0 + (x6).toNat * 1, none⟩, i6 (t2.getD (x6).toNat 0))] (RFacts.ownQ (e := 2) (sz := 1) (S := A1) (n := t2.length) (cap := c1) (cs := cs1) 0 (by kernel_rfl) hA5_ (0 + (x6).toNat * 1) ((x6).toNat * 1 + 0) (by omega) (hc5_ 0 _ rfl) (RFacts.nil _ _ _)) 2 [.r 0, .no] (by kernel_rfl) (by kernel_rfl) ?_
      refine RL.nt ?_
      refine OK.sq ?_
      refine OK.sq ?_
      refine OK.join (fun K' I' _ L' X' => ∃ (x7 : Bool), K' = [(0, .slice Ap0 a0.length cp0), (5, pt nx0 0), (7, i6 t1.1), (9, i6 x5), (11, i6 (t2.getD (x6).toNat 0)), (45, .slice A1 t2.length c1), (46, i6 (t2.length : Int)), (47, i6 x6), (57, .bool x7)] ∧ L' = [⟨nx0, [.slice Ap2_0 a2.f0.length cp2_0, .slice Ap2_1 a2.f1.length cp2_1], 26⟩] ∧ X' = [orow 2 1 A1 t2.length c1 cs1] ∧ Imm.le I12 I' ∧ (if x7 = true then (some (Sum.inr false)) else (assign_VerifyDuals.l3 t1 t2 kq3 (W .i64 (x5 + (t2.getD (x6).toNat 0))) (W .i64 (x6 + 1)))) = some y2) ?_ ?_
      ·rintro _ I13 nx12 _ _ ⟨x7, rfl, rfl, rfl, hi13, H⟩
       replace H : (if x7 = true then (some (Sum.inr false)) else (assign_VerifyDuals.l3 t1 t2 kq3 (W .i64 (x5 + (t2.getD (x6).toNat 0))) (W .i64 (x6 + 1)))) = some y2 := H
       refine QN.then_ ?_
       refine OK.cd x7 (fun hb => ?_) (fun hb => ?_)
       ·skip
        have hc := hb
        rw [if_pos hc] at H
        clear hb
        refine OK.sr ?_
        refine RL.st 1 [(6, .bool false)] ?_
        refine OK.re ?_
        refine QN.thenR ?_
        refine QN.blkR ?_
        refine QN.thenR ?_
        refine QN.outR hQ8 ?_
        refine QN.blkR ?_
        refine QN.outR hQ2 ?_
        refine QN.thenR ?_
        obtain rfl := Option.some.inj H
        replace H : some false = some r := HK2
        obtain rfl := Option.some.inj H
        refine QN.body rfl [] (RFacts.nil _ _ _) (.no) (.bool false) (by kernel_rfl) (by kernel_rfl) (by kernel_rfl) ?_ _ (.inr rfl)
        exact fun w' hs' => ⟨_, rfl, I13, rfl, hs'.got _ (.cons _ .slnil)⟩
       ·skip
        have hc := (Bool.eq_false_iff.1 hb)
        rw [if_neg hc] at H
        clear hb
        refine OK.skt ?_
        refine OK.rg ?_
        refine RL.s 4 [(9, i6 (W .i64 (x5 + (t2.getD (x6).toNat 0)))), (0, .slice Ap0 a0.length cp0), (5, pt nx0 0), (7, i6 t1.1), (45, .slice A1 t2.length c1), (46, i6 (t2.length : Int)), (47, i6 x6)] ?_
        refine RL.nil (by kernel_rfl) ?_
        refine QN.blkN ?_
        refine QN.then_ ?_
        refine OK.rg ?_
        refine RL.s 2 [(47, i6 (W .i64 (x6 + 1))), (9, i6 (W .i64 (x5 + (t2.getD (x6).toNat 0)))), (0, .slice Ap0 a0.length cp0), (5, pt nx0 0), (7, i6 t1.1), (45, .slice A1 t2.length c1), (46, i6 (t2.length : Int))] ?_
        refine RL.nil (by kernel_rfl) ?_
        exact QN.sb (hJ8 _ _ _ _ _ ⟨W .i64 (x5 + (t2.getD (x6).toNat 0)), W .i64 (x6 + 1), rfl, rfl, rfl, (Imm.le_trans hi12 hi13), H⟩) (.cons_cons _ .slnil) (.refl _)
      ·intro Q_5 hJ9 hQ9
       obtain ⟨y6, H, HK6⟩ := bnd H
       refine OK.rg ?_
       refine RL.s 3 [(53, .bool (decide ((t2.getD (x6).toNat 0) < 0))), (11, i6 (t2.getD (x6).toNat 0)), (0, .slice Ap0 a0.length cp0), (5, pt nx0 0), (7, i6 t1.1), (9, i6 x5), (45, .slice A1 t2.length c1), (46, i6 (t2.length : Int)), (47, i6 x6)] ?_
       refine RL.cases (decide ((t2.getD (x6).toNat 0) < 0)) (fun hb => ?_) (fun hb => ?_)
       ·have hc := (of_decide_eq_true hb)
        rw [hb]
        rw [if_pos hc] at H; clear hb
        refine RL.s 4 [(57, .bool true), (11, i6 (t2.getD (x6).toNat 0)), (0, .slice Ap0 a0.length cp0), (5, pt nx0 0), (7, i6 t1.1), (9, i6 x5), (45, .slice A1 t2.length c1), (46, i6 (t2.length : Int)), (47, i6 x6)] ?_
        refine RL.nil (by kernel_rfl) ?_
        obtain rfl := Option.some.inj H
        exact QN.sb (hJ9 _ _ _ _ _ ⟨true, rfl, rfl, rfl, (Imm.le_refl _), HK6⟩) (.cons_cons _ .slnil) (.refl _)
       ·have hc := (of_decide_eq_false hb)
        rw [hb]
        rw [if_neg hc] at H; clear hb
        refine RL.s 4 [(57, .bool (decide ((t2.getD (x6).toNat 0) > t1.1))), (11, i6 (t2.getD (x6).toNat 0)), (0, .slice Ap0 a0.length cp0), (5, pt nx0 0), (7, i6 t1.1), (9, i6 x5), (45, .slice A1 t2.length c1), (46, i6 (t2.length : Int)), (47, i6 x6)] ?_
        refine RL.nil (by kernel_rfl) ?_
        obtain rfl := Option.some.inj H
        exact QN.sb (hJ9 _ _ _ _ _ ⟨(decide ((t2.getD (x6).toNat 0) > t1.1)), rfl, rfl, rfl, (Imm.le_refl _), HK6⟩) (.cons_cons _ .slnil) (.refl _)
     ·skip
      have hc := (of_decide_eq_false hb)
      rw [if_neg hc] at H
      clear hb
      refine OK.ex 0 ?_
      refine QN.thenE ?_
      refine QN.outE hQ8 ?_
      refine QN.blkE ?_
      obtain rfl := Option.some.inj H
      refine QN.sel (K' := [(0, .slice Ap0 a0.length cp0), (5, pt nx0 0), (7, i6 t1.1), (9, i6 x5)]) (L' := [⟨nx0, [.slice Ap2_0 a2.f0.length cp2_0, .slice Ap2_1 a2.f1.length cp2_1], 26⟩]) [] (by kernel_rfl) (by kernel_rfl) (.cons_cons _ .slnil) ?_
      refine QN.norm (X' := []) rfl rfl rfl (by kernel_rfl) ?_
      exact hJ2 _ _ _ _ _ ⟨x5, rfl, rfl, rfl, hi12, HK2⟩
 ·intro Q_6 hJ1 hQ1
  obtain ⟨y1, H, HK1⟩ := bnd H
  refine OK.cases t1.2 (fun hb1 => ?_) (fun hb1 => ?_)
  ·have hc1 := hb1
   rw [if_pos hc1] at H
   refine OK.cases ((a2.f0.length : Int) != (a0.length : Int)) (fun hb2 => ?_) (fun hb2 => ?_)
   ·have hc2 := (bne_iff_ne.1 hb2)
    rw [if_pos hc2] at H
    refine OK.drawnC 2 16 O20_8 a20_8n (by kernel_rfl) (by kernel_rfl) u20d2l u20d2g [] (RI.nil _) [.no, .no, .no, .no, .l 0, .no, .no, .no, .no, .no, .no, .no, .no, .no, .no, .no] a20_8 a20_8o (by kernel_rfl) (by kernel_rfl) (u20d2s a0 Ap0 cp0 a2 Ap2_0 cp2_0 nx0 t1) (u20d2f a0 Ap0 cp0 a2 Ap2_0 cp2_0 nx0 t1 16) (u20d2v a0 Ap0 cp0 a2 Ap2_0 cp2_0 Ap2_1 cp2_1 nx0 t1) (u20d2e a0 Ap0 cp0 a2 Ap2_0 cp2_0 Ap2_1 cp2_1 nx0 t1) [] framesOk.nil ?_ [u20d2f a0 Ap0 cp0 a2 Ap2_0 cp2_0 nx0 t1 2, u20d2f a0 Ap0 cp0 a2 Ap2_0 cp2_0 nx0 t1 10] (framesOk.cons (fun u => rfl) (framesOk.cons (fun u => rfl) framesOk.nil)) ?_ ?_
    ·refine LoudsG.nil
    ·refine Givens.cons (fun u w =>  ?_) (fun _ _ _ => rfl) (Givens.cons (fun u w =>  ?_) (fun _ _ _ => rfl) (Givens.nil))
     ·exact giv_run (v := .bool (!t1.2)) (by kernel_rfl) (by rw [hb1]; try rfl) w
     ·exact giv_run (v := .bool ((a2.f0.length : Int) != (a0.length : Int))) (by kernel_rfl) (by rw [hb2]; try rfl) w
    intro u I14 nx13 hi14 hF
    clear hF
    refine RL.norm (K' := [(37, undef), (36, undef), (35, undef), (34, undef), (33, undef), (32, .bool true), (31, .bool ((a2.f0.length : Int) != (a0.length : Int))), (30, .bool ((a2.f0.length : Int) != (a0.length : Int))), (29, i6 (a0.length : Int)), (28, .slice Ap0 a0.length cp0), (27, i6 (a2.f0.length : Int)), (26, .slice Ap2_0 a2.f0.length cp2_0), (25, pt nx0 0), (24, .bool false), (23, .bool (!t1.2)), (22, .bool t1.2), (8, .bool t1.2), (7, i6 t1.1), (5, pt nx0 0), (0, .slice Ap0 a0.length cp0)]) (X' := []) (by kernel_rfl) rfl rfl rfl ?_
    refine RL.s 2 [(39, .bool true), (7, i6 t1.1), (5, pt nx0 0), (0, .slice Ap0 a0.length cp0)] ?_
    refine RL.nil (by kernel_rfl) ?_
    obtain rfl := Option.some.inj H
    exact QN.sb (hJ1 _ _ _ _ _ ⟨true, rfl, rfl, rfl, hi14, HK1⟩) (.cons_cons _ .slnil) (.refl _)
   ·have hc2 := (not_not_intro (bne_eq_false_iff_eq.1 hb2))
    rw [if_neg hc2] at H
    obtain ⟨t3, hA3, H⟩ := bnd H
    refine OK.drawnC 2 16 O20_8 a20_8n (by kernel_rfl) (by kernel_rfl) (u20d3l t3) u20d3g [] (RI.nil _) [.no, .no, .no, .no, .l 0, .no, .no, .no, .no, .no, .no, .no, .l 0, .no, .no, .no] a20_8 a20_8o (by kernel_rfl) (by kernel_rfl) (u20d3s a0 Ap0 cp0 a2 Ap2_0 cp2_0 Ap2_1 cp2_1 nx0 t1 t3) (u20d3f a0 Ap0 cp0 a2 Ap2_0 cp2_0 Ap2_1 cp2_1 nx0 t1 t3 16) (u20d3v a0 Ap0 cp0 a2 Ap2_0 cp2_0 Ap2_1 cp2_1 nx0 t1 t3) (u20d3e a0 Ap0 cp0 a2 Ap2_0 cp2_0 Ap2_1 cp2_1 nx0 t1 t3) [u20d3f a0 Ap0 cp0 a2 Ap2_0 cp2_0 Ap2_1 cp2_1 nx0 t1 t3 15] (framesOk.cons (fun u => rfl) framesOk.nil) ?_ [u20d3f a0 Ap0 cp0 a2 Ap2_0 cp2_0 Ap2_1 cp2_1 nx0 t1 t3 2, u20d3f a0 Ap0 cp0 a2 Ap2_0 cp2_0 Ap2_1 cp2_1 nx0 t1 t3 10] (framesOk.cons (fun u => rfl) (framesOk.cons (fun u => rfl) framesOk.nil)) ?_ ?_
    ·refine LoudsG.cons ?_ (LoudsG.nil)
     ·intro D u J w hp hJ hs hF
      refine Does.call 29 [.slice Ap0 a0.length cp0] (by kernel_rfl) ((assign_columns.calls J a0 Ap0 cp0 w hs.im hlp0 (Rd.ext (Imm.le_trans hi1 hJ) hrp0) t3 hA3).mono ?_)
      rintro e w' ⟨v, rfl, J2, rfl, hg⟩
      exact ⟨_, rfl, fun _ => (none, 0, []), J2, rfl, hg, trivial⟩
    ·refine Givens.cons (fun u w =>  ?_) (fun _ _ _ => rfl) (Givens.cons (fun u w =>  ?_) (fun _ _ _ => rfl) (Givens.nil))
     ·exact giv_run (v := .bool (!t1.2)) (by kernel_rfl) (by rw [hb1]; try rfl) w
     ·exact giv_run (v := .bool ((a2.f0.length : Int) != (a0.length : Int))) (by kernel_rfl) (by rw [hb2]; try rfl) w
    intro u I15 nx14 hi15 hF
    clear hF
    refine RL.norm (K' := [(37, i6 t3), (36, .slice Ap0 a0.length cp0), (35, i6 (a2.f1.length : Int)), (34, .slice Ap2_1 a2.f1.length cp2_1), (33, pt nx0 1), (32, .bool false), (31, .bool ((a2.f0.length : Int) != (a0.length : Int))), (30, .bool ((a2.f0.length : Int) != (a0.length : Int))), (29, i6 (a0.length : Int)), (28, .slice Ap0 a0.length cp0), (27, i6 (a2.f0.length : Int)), (26, .slice Ap2_0 a2.f0.length cp2_0), (25, pt nx0 0), (24, .bool false), (23, .bool (!t1.2)), (22, .bool t1.2), (8, .bool t1.2), (7, i6 t1.1), (5, pt nx0 0), (0, .slice Ap0 a0.length cp0)]) (X' := []) (by kernel_rfl) rfl rfl rfl ?_
    refine RL.s 2 [(39, .bool ((a2.f1.length : Int) != t3)), (7, i6 t1.1), (5, pt nx0 0), (0, .slice Ap0 a0.length cp0)] ?_
    refine RL.nil (by kernel_rfl) ?_
    obtain rfl := Option.some.inj H
    exact QN.sb (hJ1 _ _ _ _ _ ⟨((a2.f1.length : Int) != t3), rfl, rfl, rfl, hi15, HK1⟩) (.cons_cons _ .slnil) (.refl _)
  ·have hc1 := (Bool.eq_false_iff.1 hb1)
   rw [if_neg hc1] at H
   refine OK.drawnC 2 16 O20_8 a20_8n (by kernel_rfl) (by kernel_rfl) u20d4l u20d4g [] (RI.nil _) [.no, .no, .no, .no, .no, .no, .no, .no, .no, .no, .no, .no, .no, .no, .no, .no] a20_8 a20_8o (by kernel_rfl) (by kernel_rfl) (u20d4s t1) (u20d4f a0 Ap0 cp0 nx0 t1 16) (u20d4v a0 Ap0 cp0 a2 Ap2_0 cp2_0 Ap2_1 cp2_1 nx0 t1) (u20d4e a0 Ap0 cp0 a2 Ap2_0 cp2_0 Ap2_1 cp2_1 nx0 t1) [] framesOk.nil ?_ [u20d4f a0 Ap0 cp0 nx0 t1 2] (framesOk.cons (fun u => rfl) framesOk.nil) ?_ ?_
   ·refine LoudsG.nil
   ·refine Givens.cons (fun u w =>  ?_) (fun _ _ _ => rfl) (Givens.nil)
    ·exact giv_run (v := .bool (!t1.2)) (by kernel_rfl) (by rw [hb1]; try rfl) w
   intro u I16 nx15 hi16 hF
   clear hF
   refine RL.norm (K' := [(37, undef), (36, undef), (35, undef), (34, undef), (33, undef), (32, .bool true), (31, .bool true), (30, undef), (29, undef), (28, undef), (27, undef), (26, undef), (25, undef), (24, .bool true), (23, .bool (!t1.2)), (22, .bool t1.2), (8, .bool t1.2), (7, i6 t1.1), (5, pt nx0 0), (0, .slice Ap0 a0.length cp0)]) (X' := []) (by kernel_rfl) rfl rfl rfl ?_
   refine RL.s 2 [(39, .bool true), (7, i6 t1.1), (5, pt nx0 0), (0, .slice Ap0 a0.length cp0)] ?_
   refine RL.nil (by kernel_rfl) ?_
   obtain rfl := Option.some.inj H
   exact QN.sb (hJ1 _ _ _ _ _ ⟨true, rfl, rfl, rfl, hi16, HK1⟩) (.cons_cons _ .slnil) (.refl _)

end Go.Proofs.Ytdmhbcgmimfjcaa
namespace Go.Proofs.Ytdmhbcgmimfjcaa
open Go Go.Proofs.Ytdmhbcgmimfjcaa.RW
set_option linter.unusedVariables false
set_option maxRecDepth 100000
set_option maxHeartbeats 8000000

/-! ### armillaryref22_Columns: function 21, armillary/armillaryref22.Columns -/
noncomputable def K21_0 : Code := cBody Try.f21
def armillaryref22_Columns.f (a0 : List (List Int)) : Option (Int) := (if (a0.length : Int) = 0 then (some 0) else (if 0 < (a0.length : Int) then (some ((a0.getD (0 : Int).toNat []).length : Int)) else none))
def armillaryref22_Columns.Post (I : Imm) (w : World) (r : Int) (v : Value) (w' : World) : Prop :=
 ∃ (J : Imm), v = .int .i64 r ∧ Got w w' I J []
theorem armillaryref22_Columns.calls (I0 : Imm) (a0 : List (List Int)) (Ap0 : Option Addr) (cp0 : Nat) (w : World) (hI : I0.at_ w) (hlp0 : a0.length ≤ cp0) (hrp0 : Rd (Ty.slice (Ty.int .i64)) I0 Ap0 a0) (r : Int) (h : armillaryref22_Columns.f a0 = some r) :
  Calls Try.prog 21 [.slice Ap0 a0.length cp0].toArray w fun e w' => ∃ v, e = .returned v ∧ armillaryref22_Columns.Post I0 w r v w' := by
 have H : (if (a0.length : Int) = 0 then (some 0) else (if 0 < (a0.length : Int) then (some ((a0.getD (0 : Int).toNat []).length : Int)) else none)) = some r := h
 clear h
 refine calls_body Try.func21 (by kernel_rfl) 10 (by kernel_rfl) (by kernel_rfl) ⟨w, fun _ => False, I0⟩ I0 [] [(0, .slice Ap0 a0.length cp0)] (by kernel_rfl) (Sat.start w _ I0 hI) ?_
 generalize w.heap.size = nx0
 show OK _ K21_0 _ _ _ _ _ _ _ _
 refine OK.sr ?_
 refine RL.st 1 [(0, .slice Ap0 a0.length cp0)] ?_
 refine OK.sq ?_
 refine OK.sr ?_
 refine RL.st 3 [(5, .bool ((a0.length : Int) == 0)), (0, .slice Ap0 a0.length cp0)] ?_
 refine OK.cd ((a0.length : Int) == 0) (fun hb => ?_) (fun hb => ?_)
 ·skip
  have hc := (beq_iff_eq.1 hb)
  rw [if_pos hc] at H
  clear hb
  refine OK.sr ?_
  refine RL.st 1 [(2, i6 0)] ?_
  refine OK.re ?_
  refine QN.thenR ?_
  obtain rfl := Option.some.inj H
  refine QN.body rfl [] (RFacts.nil _ _ _) (.no) (i6 0) (by kernel_rfl) (by kernel_rfl) (by kernel_rfl) ?_ _ (.inr rfl)
  exact fun w' hs' => ⟨_, rfl, I0, rfl, hs'.got _ .slnil⟩
 ·skip
  have hc := (beq_eq_false_iff_ne.1 hb)
  rw [if_neg hc] at H
  clear hb
  refine OK.skt ?_
  refine OK.sr ?_
  refine RL.s 1 [(6, .slice Ap0 a0.length cp0)] ?_
  have hib0 : (0 : Int) ≤ 0 := by decide
  obtain ⟨hib1, H⟩ := ifs H
  obtain ⟨g1_, o1_, hA1_, A1_, c1_, hl1_, hr1_, hc1_⟩ := Ty.slice_at hrp0 0 hib0 hib1
  refine RL.idx 1 .i64 0 hA1_ a0.length cp0 (some 7) (by kernel_rfl) (by kernel_rfl) (T := 22) (e := 24) (by kernel_rfl) (by kernel_rfl) hib0 hib1 (K' := [(7, pt g1_ (o1_ + (0 : Int).toNat * 1)), (6, .slice Ap0 a0.length cp0)]) (by kernel_rfl) ?_
  refine RL.simK (K' := [(2, i6 ((a0.getD (0 : Int).toNat []).length : Int))]) [(⟨g1_, o1_ + (0 : Int).toNat * 1, none⟩, .slice A1_ ((a0.getD (0 : Int).toNat []).length) c1_)] (RFacts.imm (hc1_ 0 _ rfl) (RFacts.nil _ _ _)) 3 [.r 0, .no, .no] (by kernel_rfl) (by kernel_rfl) ?_
  refine RL.nt ?_
  refine OK.re ?_
  obtain rfl := Option.some.inj H
  refine QN.body rfl [] (RFacts.nil _ _ _) (.no) (i6 ((a0.getD (0 : Int).toNat []).length : Int)) (by kernel_rfl) (by kernel_rfl) (by kernel_rfl) ?_ _ (.inr rfl)
  exact fun w' hs' => ⟨_, rfl, I0, rfl, hs'.got _ .slnil⟩

end Go.Proofs.Ytdmhbcgmimfjcaa
namespace Go.Proofs.Ytdmhbcgmimfjcaa.hun
open Go Go.Proofs.Ytdmhbcgmimfjcaa Go.Proofs.Ytdmhbcgmimfjcaa.RW
set_option linter.unusedVariables false
set_option maxRecDepth 100000
set_option maxHeartbeats 4000000
/-! ### drawn matrices -/
theorem tmod_b (x : Int) : -1073741824 ≤ x.tmod 1073741825 ∧ x.tmod 1073741825 ≤ 1073741824 := by
  rcases Int.le_total 0 x with h | h
  · rw [Int.tmod_eq_emod_of_nonneg h]; omega
  · have h1 : x.tmod 1073741825 = -((-x).tmod 1073741825) := by rw [Int.neg_tmod]; omega
    rw [h1, Int.tmod_eq_emod_of_nonneg (by omega)]; omega
theorem made_b (x : Int) : 0 ≤ iMax (x.tmod 1073741825) (W .i64 (0 - x.tmod 1073741825)) ∧ iMax (x.tmod 1073741825) (W .i64 (0 - x.tmod 1073741825)) ≤ 1073741824 := by
  have h := tmod_b x
  rw [W64 (by omega) (by omega)]
  have e : ∀ a c : Int, iMax a c = if c > a then c else a := fun _ _ => rfl
  rw [e]
  split <;> omega
theorem made_width (raw : List (List Int)) (C : Int) (h0 : 0 ≤ C) (hlen : raw.length ≤ 9223372036854775807) : ∀ (d k n : Nat) (x : Int), d + n = raw.length → d < k → 0 ≤ x → x ≤ C → ∃ x', armillaryref22_Made.l3 raw C k x (n : Int) = some x' ∧ 0 ≤ x' ∧ x' ≤ C := by
  intro d
  induction d with
  | zero =>
    intro k n x hd hk h1 h2
    obtain ⟨k, rfl⟩ : ∃ m, k = m + 1 := ⟨k - 1, by omega⟩
    refine ⟨x, ?_, h1, h2⟩
    simp only [armillaryref22_Made.l3]
    rw [if_neg (by omega)]
  | succ d ih =>
    intro k n x hd hk h1 h2
    obtain ⟨k, rfl⟩ : ∃ m, k = m + 1 := ⟨k - 1, by omega⟩
    simp only [armillaryref22_Made.l3, tn]
    rw [if_pos (by omega), if_pos (by omega), if_pos (by omega), show W .i64 ((n : Int) + 1) = ((n + 1 : Nat) : Int) from by rw [W64 (by omega) (by omega)]; rfl]
    have e1 : ∀ a c : Int, iMax a c = if c > a then c else a := fun _ _ => rfl
    have e2 : ∀ a c : Int, iMin a c = if c < a then c else a := fun _ _ => rfl
    refine ih k (n + 1) _ (by omega) (by omega) ?_ ?_
    · rw [e1, e2]; split <;> split <;> omega
    · rw [e1, e2]; split <;> split <;> omega
theorem made_row (raw : List (List Int)) (m i : Nat) (hi : i < raw.length) (hm : m ≤ 12) : ∀ (d k n : Nat) (x : List Int), d + n = m → d < k → x.length = m → (∀ j, j < m → 0 ≤ g x j ∧ g x j ≤ 1073741824) → ∃ x', armillaryref22_Made.l2 raw (m : Int) (i : Int) k x (n : Int) = some x' ∧ x'.length = m ∧ ∀ j, j < m → 0 ≤ g x' j ∧ g x' j ≤ 1073741824 := by
  intro d
  induction d with
  | zero =>
    intro k n x hd hk hx hb
    obtain ⟨k, rfl⟩ : ∃ m, k = m + 1 := ⟨k - 1, by omega⟩
    refine ⟨x, ?_, hx, hb⟩
    simp only [armillaryref22_Made.l2]
    rw [if_neg (by omega), Option.bind_some, if_neg (by decide)]
  | succ d ih =>
    intro k n x hd hk hx hb
    obtain ⟨k, rfl⟩ : ∃ m, k = m + 1 := ⟨k - 1, by omega⟩
    simp only [armillaryref22_Made.l2, tn]
    rw [if_pos (by omega), if_pos (by omega), if_pos (by omega), Option.bind_some]
    by_cases hl : (n : Int) < ((raw.getD i []).length : Int)
    · rw [if_pos (by simpa using hl), if_pos (by omega), if_pos (by omega), if_pos (by omega), if_pos hl, if_pos (by omega), if_pos (by omega), Wn (by omega)]
      refine ih k (n + 1) _ (by omega) (by omega) (by rw [List.length_set]; exact hx) (fun j hj => ?_)
      rw [gset (by omega)]
      split
      · exact made_b _
      · exact hb j hj
    · rw [if_neg (by simpa using hl)]
      exact ⟨x, rfl, hx, hb⟩
theorem made (raw : List (List Int)) (R C : Nat) (hR : R ≤ 12) (hC : C ≤ 12) (hlen : raw.length ≤ 9223372036854775807) {k : Nat} (hk : raw.length + 60 ≤ k) : ∃ (w : List (List Int)) (m : Nat), armillaryref22_Made.f k raw (R : Int) (C : Int) = some w ∧ Vw w m ∧ w.length ≤ R ∧ m ≤ C := by
  obtain ⟨x1, e1, h1, h2⟩ := made_width raw C (by omega) hlen raw.length k 0 0 (by omega) (by omega) (by omega) (by omega)
  obtain ⟨m, rfl⟩ : ∃ m : Nat, x1 = (m : Int) := ⟨x1.toNat, by omega⟩
  have hm : m ≤ 12 := by omega
  have key : ∀ (d k n : Nat) (ws : List (List Int)), d + n = R → d + 40 < k → ws.length = n → n ≤ raw.length → (∀ i, i < n → (row ws i).length = m) → (∀ i j, i < n → j < m → 0 ≤ we ws i j ∧ we ws i j ≤ 1073741824) →
      ∃ w, armillaryref22_Made.l1 raw (R : Int) (m : Int) k ws (n : Int) = some w ∧ w.length ≤ R ∧ (∀ i, i < w.length → (row w i).length = m) ∧ ∀ i j, i < w.length → j < m → 0 ≤ we w i j ∧ we w i j ≤ 1073741824 := by
    intro d
    induction d with
    | zero =>
      intro k n ws hd hk hl hn h3 h4
      obtain ⟨k, rfl⟩ : ∃ m, k = m + 1 := ⟨k - 1, by omega⟩
      refine ⟨ws, ?_, by omega, by rw [hl]; exact h3, by rw [hl]; exact h4⟩
      simp only [armillaryref22_Made.l1]
      by_cases e : (n : Int) < (raw.length : Int)
      · rw [if_pos e, Option.bind_some, if_neg (by simp; omega)]
      · rw [if_neg e, Option.bind_some, if_neg (by decide)]
    | succ d ih =>
      intro k n ws hd hk hl hn h3 h4
      obtain ⟨k, rfl⟩ : ∃ m, k = m + 1 := ⟨k - 1, by omega⟩
      simp only [armillaryref22_Made.l1]
      by_cases e : (n : Int) < (raw.length : Int)
      · obtain ⟨x, e2, h5, h6⟩ := made_row raw m n (by omega) hm m k 0 (List.replicate m 0) (by omega) (by omega) (by simp) (fun j hj => by rw [grep hj]; omega)
        rw [if_pos e, Option.bind_some, if_pos (by simp; omega), if_pos (by omega), if_pos (by omega)]
        rw [show armillaryref22_Made.l2 raw (m : Int) (n : Int) k (List.replicate ((m : Int)).toNat 0) 0 = some x from by rw [tn]; exact e2]
        simp only [Option.bind_some, armillaryref22_Made.k3]
        rw [if_pos (by simp only [List.length_cons, List.length_nil]; omega), Option.bind_some, Wn (by omega)]
        have hrow : ∀ i, row (ws ++ [x]) i = if i < n then row ws i else if i = n then x else [] := fun i => by
          show (ws ++ [x]).getD i [] = _
          rw [List.getD_eq_getElem?_getD, List.getElem?_append]
          by_cases e3 : i < n
          · rw [if_pos (by omega), if_pos e3]
            show _ = ws.getD i []
            rw [List.getD_eq_getElem?_getD]
          · rw [if_neg (by omega), if_neg e3]
            by_cases e4 : i = n
            · rw [if_pos e4, hl]; subst e4; simp
            · rw [if_neg e4]
              obtain ⟨q, hq⟩ : ∃ q, i - ws.length = q + 1 := ⟨i - ws.length - 1, by omega⟩
              rw [hq]; rfl
        refine ih k (n + 1) (ws ++ [x]) (by omega) (by omega) (by simp [hl]) (by omega) (fun i hi => ?_) (fun i j hi hj => ?_)
        · rw [hrow]
          by_cases e3 : i < n
          · rw [if_pos e3]; exact h3 i e3
          · rw [if_neg e3, if_pos (by omega)]; exact h5
        · show 0 ≤ g (row (ws ++ [x]) i) j ∧ g (row (ws ++ [x]) i) j ≤ _
          rw [hrow]
          by_cases e3 : i < n
          · rw [if_pos e3]; exact h4 i j e3 hj
          · rw [if_neg e3, if_pos (by omega)]; exact h6 j hj
      · rw [if_neg e, Option.bind_some, if_neg (by decide)]
        exact ⟨ws, rfl, by omega, by rw [hl]; exact h3, by rw [hl]; exact h4⟩
  obtain ⟨w, e2, h3, h4, h5⟩ := key R k 0 [] (by omega) (by omega) rfl (by omega) (fun i hi => by omega) (fun i j hi => by omega)
  have ef : armillaryref22_Made.f k raw (R : Int) (C : Int) = some w := by
    unfold armillaryref22_Made.f
    rw [show armillaryref22_Made.l3 raw (C : Int) k 0 0 = some (m : Int) from e1, Option.bind_some]
    simp only [armillaryref22_Made.k6]
    rw [show armillaryref22_Made.l1 raw (R : Int) (m : Int) k [] 0 = some w from e2]
    rfl
  by_cases hw : w.length = 0
  · exact ⟨w, 0, ef, ⟨by omega, by omega, fun _ => rfl, fun i hi => by omega, fun i j hi => by omega⟩, h3, by omega⟩
  · exact ⟨w, m, ef, ⟨by omega, by omega, fun h => absurd h hw, h4, h5⟩, h3, by omega⟩
section
variable {w : List (List Int)} {m : Nat}
theorem columnsR (h : Vw w m) : armillaryref22_Columns.f w = some (m : Int) := by
  have := columns h
  unfold assign_columns.f at this
  unfold armillaryref22_Columns.f
  exact this
/-! ### an assignment's value -/
/-- A list of choices is an assignment. -/
def valid (w : List (List Int)) (m : Nat) (l : List Int) : Prop := l.length = w.length ∧ ∀ i, i < w.length → g l i = -1 ∨ (0 ≤ g l i ∧ g l i < (m : Int) ∧ taken (g l) i (g l i).toNat = false)
theorem valid_of {l : List Int} (hl : l.length = w.length) (h : IsA w m 0 (fun _ => false) (g l)) : valid w m l := by
  refine ⟨hl, fun i hi => (h.rg i hi).imp id (fun ⟨_, h1, h2, _⟩ => ⟨h1, h2, ?_⟩)⟩
  cases ht : taken (g l) i (g l i).toNat with
  | false => rfl
  | true =>
    obtain ⟨i', h3, h4⟩ := taken_iff.1 ht
    have := h.inj i' i (by omega) hi (by omega) (by omega)
    omega
theorem isa_of {l : List Int} (h : valid w m l) : IsA w m 0 (fun _ => false) (g l) := by
  refine ⟨fun i hi => (h.2 i hi).imp id (fun ⟨h1, h2, _⟩ => ⟨Nat.zero_le _, h1, h2, rfl⟩), fun i i' hi hi' h0 he => ?_⟩
  have key : ∀ i i', i < i' → i' < w.length → 0 ≤ g l i → g l i = g l i' → False := fun i i' hlt hi' h0 he => by
    obtain ⟨_, _, h3⟩ := (h.2 i' hi').resolve_left (by omega)
    have : taken (g l) i' (g l i').toNat = true := taken_iff.2 ⟨i, hlt, by omega⟩
    rw [this] at h3
    cases h3
  rcases Nat.lt_or_ge i i' with h1 | h1
  · exact (key i i' h1 hi' h0 he).elim
  · rcases Nat.lt_or_ge i' i with h2 | h2
    · exact (key i' i h2 hi (by omega) he.symm).elim
    · omega
theorem ahead_b (h : Vw w m) {l : List Int} (n : Nat) (hn : n ≤ w.length) (hv : ∀ i, i < n → g l i = -1 ∨ (0 ≤ g l i ∧ g l i < (m : Int))) : 0 ≤ ahead w (g l) n ∧ ahead w (g l) n ≤ n * 1073741824 := by
  refine sm_bounds n (fun i hi => ?_)
  by_cases e : g l i = -1
  · rw [if_pos e]; omega
  · rw [if_neg e]
    have h1 := (hv i hi).resolve_left e
    exact h.eb i _ (by omega) (by omega)
theorem value_loop (h : Vw w m) {l : List Int} (hl : l.length = w.length) : ∀ (d k n : Nat) (used : List Bool) (x : Int), d + n = w.length → d < k → used.length = m → (∀ j, j < m → gb used j = taken (g l) n j) → x = ahead w (g l) n → (∀ i, i < n → g l i = -1 ∨ (0 ≤ g l i ∧ g l i < (m : Int) ∧ taken (g l) i (g l i).toNat = false)) →
    (valid w m l → assign_Value.l1 w l k used x (n : Int) = some (.inl (val w (g l)))) ∧ (¬ valid w m l → assign_Value.l1 w l k used x (n : Int) = some (.inr (0, false))) := by
  have hn12 := h.nr
  have hm12 := h.mr
  intro d
  induction d with
  | zero =>
    intro k n used x hd hk hu ht hx hv
    obtain ⟨k, rfl⟩ : ∃ m, k = m + 1 := ⟨k - 1, by omega⟩
    obtain rfl : n = w.length := by omega
    refine ⟨fun _ => ?_, fun hnv => absurd ⟨hl, hv⟩ hnv⟩
    simp only [assign_Value.l1]
    rw [if_neg (by omega), hx]
    rfl
  | succ d ih =>
    intro k n used x hd hk hu ht hx hv
    obtain ⟨k, rfl⟩ : ∃ m, k = m + 1 := ⟨k - 1, by omega⟩
    have hn : n < w.length := by omega
    have hrl := h.rl n hn
    have hb := ahead_b h n (by omega) (fun i hi => (hv i hi).imp id (fun h1 => ⟨h1.1, h1.2.1⟩))
    simp only [assign_Value.l1, tn]
    rw [if_pos (by omega), if_pos (by omega), if_pos (by omega), Wn (by omega)]
    by_cases e : g l n = -1
    · rw [if_pos e]
      simp only [Option.bind_some]
      refine ih k (n + 1) used x (by omega) (by omega) hu (fun j hj => ?_) ?_ (fun i hi => ?_)
      · rw [taken_succ, ← ht j hj, e]
        have : ((-1 : Int) == (j : Int)) = false := beq_eq_false_iff_ne.2 (by omega)
        rw [this, Bool.or_false]
      · rw [hx]
        show _ = sm _ (n + 1)
        simp only [sm]
        rw [if_pos e, Int.add_zero]
        rfl
      · by_cases e2 : i = n
        · rw [e2]; exact .inl e
        · exact hv i (by omega)
    · rw [if_neg e]
      by_cases hr : 0 ≤ g l n ∧ g l n < (m : Int)
      · have hr0 : 0 ≤ l.getD n 0 ∧ l.getD n 0 < (m : Int) := hr
        rw [if_neg (by omega), if_neg (by omega), if_pos (by omega), if_pos (by omega), Option.bind_some]
        simp only [assign_Value.k3, tn]
        cases hd' : gb used (g l n).toNat with
        | true =>
          rw [if_pos hd']
          simp only [Option.bind_some]
          refine ⟨fun hval => ?_, fun _ => by first | rfl | trivial⟩
          have h1 := (hval.2 n hn).resolve_left e
          rw [← ht _ (by omega), hd'] at h1
          cases h1.2.2
        | false =>
          rw [if_neg (by show ¬ gb used (g l n).toNat = true; rw [hd']; decide), if_pos (by omega), if_pos (by omega), if_pos (by omega), if_pos (by omega), if_pos (by omega), if_pos (by show l.getD n 0 < ((row w n).length : Int); omega)]
          simp only [Option.bind_some]
          have h1 := h.eb n (g l n).toNat hn (by omega)
          rw [show W .i64 (x + (w.getD n []).getD (l.getD n 0).toNat 0) = x + we w n (g l n).toNat from W64 (by show _ ≤ x + we w n (g l n).toNat; omega) (by show x + we w n (g l n).toNat ≤ _; omega)]
          refine ih k (n + 1) _ _ (by omega) (by omega) (by rw [List.length_set]; exact hu) (fun j hj => ?_) ?_ (fun i hi => ?_)
          · rw [taken_succ, ← ht j hj]
            show gb (used.set (g l n).toNat true) j = _
            rw [gbset (by omega)]
            by_cases e2 : j = (g l n).toNat
            · have : (g l n == (j : Int)) = true := beq_iff_eq.2 (by omega)
              rw [if_pos e2, this, Bool.or_true]
            · have : (g l n == (j : Int)) = false := beq_eq_false_iff_ne.2 (by omega)
              rw [if_neg e2, this, Bool.or_false]
          · rw [hx]
            show _ = sm _ (n + 1)
            simp only [sm]
            rw [if_neg e]
            rfl
          · by_cases e2 : i = n
            · rw [e2]
              refine .inr ⟨hr.1, hr.2, ?_⟩
              rw [← ht _ (by omega)]; exact hd'
            · exact hv i (by omega)
      · have hbad : ∀ (z : Option Bool), (if l.getD n 0 < 0 then some true else if l.getD n 0 ≥ (used.length : Int) then some true else z) = some true := fun z => by
          by_cases e1 : l.getD n 0 < 0
          · rw [if_pos e1]
          · rw [if_neg e1, if_pos]
            have : ¬ (0 ≤ l.getD n 0 ∧ l.getD n 0 < (m : Int)) := hr
            omega
        rw [hbad, Option.bind_some]
        simp only [assign_Value.k3, if_pos, Option.bind_some]
        refine ⟨fun hval => ?_, fun _ => by first | rfl | trivial⟩
        exact absurd ⟨((hval.2 n hn).resolve_left e).1, ((hval.2 n hn).resolve_left e).2.1⟩ hr
theorem value_ok (h : Vw w m) {l : List Int} (hv : valid w m l) {k : Nat} (hk : 20 ≤ k) : assign_Value.f k w l = some (val w (g l), true) := by
  have hn12 := h.nr
  have hm12 := h.mr
  unfold assign_Value.f
  rw [if_neg (by rw [hv.1]; simp), columns h, Option.bind_some, if_pos (by omega), if_pos (by omega), tn]
  rw [show assign_Value.l1 w l k (List.replicate m false) 0 0 = _ from (value_loop h hv.1 w.length k 0 (List.replicate m false) 0 (by omega) (by omega) (by simp) (fun j hj => by rw [gbrep hj]; rfl) rfl (fun i hi => by omega)).1 hv]
  rfl
theorem value_bad (h : Vw w m) {l : List Int} (hv : ¬ valid w m l) {k : Nat} (hk : 20 ≤ k) : assign_Value.f k w l = some (0, false) := by
  have hn12 := h.nr
  have hm12 := h.mr
  unfold assign_Value.f
  by_cases e : l.length = w.length
  · rw [if_neg (by rw [e]; simp), columns h, Option.bind_some, if_pos (by omega), if_pos (by omega), tn]
    rw [show assign_Value.l1 w l k (List.replicate m false) 0 0 = _ from (value_loop h e w.length k 0 (List.replicate m false) 0 (by omega) (by omega) (by simp) (fun j hj => by rw [gbrep hj]; rfl) rfl (fun i hi => by omega)).2 hv]
    rfl
  · rw [if_pos (by omega)]
end
end Go.Proofs.Ytdmhbcgmimfjcaa.hun
namespace Go.Proofs.Ytdmhbcgmimfjcaa
open Go Go.Proofs.Ytdmhbcgmimfjcaa.RW
set_option linter.unusedVariables false
set_option maxRecDepth 100000
set_option maxHeartbeats 8000000

/-! ### armillarylaw22_optimum: function 25, armillary/armillarylaw22.optimum -/
noncomputable def K25_0 : Code := cBody Try.f25
def armillarylaw22_optimum.f (k : Nat) (a0 : List (List Int)) : Option (Int) := ((assign_Solve.f k a0).bind fun t1 => ((assign_Value.f k a0 t1.1).bind fun t2 => (if t2.2 = true then (some t2.1) else (some (-1)))))
def armillarylaw22_optimum.Post (I : Imm) (w : World) (r : Int) (v : Value) (w' : World) : Prop :=
 ∃ (J : Imm), v = .int .i64 r ∧ Got w w' I J []
theorem armillarylaw22_optimum.calls (k : Nat) (I0 : Imm) (a0 : List (List Int)) (Ap0 : Option Addr) (cp0 : Nat) (w : World) (hI : I0.at_ w) (hlp0 : a0.length ≤ cp0) (hrp0 : Rd (Ty.slice (Ty.int .i64)) I0 Ap0 a0) (r : Int) (h : armillarylaw22_optimum.f k a0 = some r) :
  Calls Try.prog 25 [.slice Ap0 a0.length cp0].toArray w fun e w' => ∃ v, e = .returned v ∧ armillarylaw22_optimum.Post I0 w r v w' := by
 have H : ((assign_Solve.f k a0).bind fun t1 => ((assign_Value.f k a0 t1.1).bind fun t2 => (if t2.2 = true then (some t2.1) else (some (-1))))) = some r := h
 clear h
 refine calls_body Try.func25 (by kernel_rfl) 21 (by kernel_rfl) (by kernel_rfl) ⟨w, fun _ => False, I0⟩ I0 [] [(0, .slice Ap0 a0.length cp0)] (by kernel_rfl) (Sat.start w _ I0 hI) ?_
 generalize w.heap.size = nx0
 show OK _ K25_0 _ _ _ _ _ _ _ _
 refine OK.sr ?_
 refine RL.st 1 [(0, .slice Ap0 a0.length cp0)] ?_
 refine OK.sr ?_
 refine RL.s 1 [(8, .slice Ap0 a0.length cp0), (0, .slice Ap0 a0.length cp0)] ?_
 obtain ⟨t1, hA1, H⟩ := bnd H
 refine RL.callP 14 [.slice Ap0 a0.length cp0] (some 9) (fun w => assign_Solve.Post I0 w t1) (by kernel_rfl) (by kernel_rfl) (fun w hs => assign_Solve.calls k I0 a0 Ap0 cp0 w hs.im hlp0 hrp0 t1 hA1) ?_
 rintro w v w' hs ⟨I1, A1, c1, cs1, A2, c2, cs2, A3, c3, cs3, rfl, hg, hp1, hp2, hp3⟩
 have hi1 := hg.le
 refine RL.resume (X' := [orow 3 1 A1 t1.1.length c1 cs1, orow 2 1 A2 t1.2.f0.length c2 cs2, orow 2 1 A3 t1.2.f1.length c3 cs3]) rfl (hs.call hg) ?_
 clear hs hg
 generalize w'.heap.size = nx1
 clear w w'
 refine RL.freeze (e := 2) (sz := 1) (S := A2) (n := t1.2.f0.length) (cap := c2) 1 (by kernel_rfl) hp2 rfl (fun I2 hi2 hl1 hr1 => ?_)
 skip
 refine RL.freeze (e := 2) (sz := 1) (S := A3) (n := t1.2.f1.length) (cap := c3) 1 (by kernel_rfl) (Reps.ext hi2 hp3) rfl (fun I3 hi3 hl2 hr2 => ?_)
 skip
 refine RL.simP (K' := [(3, .slice A1 t1.1.length c1), (0, .slice Ap0 a0.length cp0)]) (nx' := nx1 + 1) (L' := [⟨nx1, [.slice A2 t1.2.f0.length c2, .slice A3 t1.2.f1.length c3], 26⟩]) [] (RFacts.nil _ _ _) 6 [.no, .no, .no, .no, .no, .l 0] (by kernel_rfl) (by kernel_rfl) ?_
 refine RL.nt ?_
 refine OK.sr ?_
 refine RL.s 2 [(14, .slice A1 t1.1.length c1), (13, .slice Ap0 a0.length cp0)] ?_
 obtain ⟨t2, hA2, H⟩ := bnd H
 refine RL.callP 15 [.slice Ap0 a0.length cp0, .slice A1 t1.1.length c1] (some 15) (fun w v w' => ∃ I', Imm.le I3 I' ∧ assign_Value.Post I' w t2 v w') (by kernel_rfl) (by kernel_rfl) (fun w hs => ?_) ?_
 ·skip
  obtain ⟨JL1, hj1, hn1, hw1, hs⟩ := Sat.freeze (e := 3) (sz := 1) (S := A1) (n := t1.1.length) (cap := c1) (m := 0) hs (by kernel_rfl) (Reps.ext (Imm.le_trans hi2 hi3) hp1) rfl
  exact (assign_Value.calls k JL1 a0 Ap0 cp0 t1.1 A1 c1 _ hs.im hlp0 (Rd.ext hj1 (Rd.ext (Imm.le_trans (Imm.le_trans hi1 hi2) hi3) hrp0)) hn1 hw1 t2 hA2).mono (fun e w' ⟨v, hv, hp⟩ => ⟨v, hv, JL1, hj1, hp⟩)
 rintro w v w' hs ⟨I', hle, J, rfl, hg⟩
 refine RL.resume (X' := [orow 3 1 A1 t1.1.length c1 cs1]) rfl (hs.call (hg.back hle)) ?_
 clear hs hg hle I' J
 generalize w'.heap.size = nx2
 clear w w'
 refine RL.st 5 [(6, .bool t2.2), (5, i6 t2.1)] ?_
 refine OK.sq ?_
 refine OK.sr ?_
 refine RL.st 2 [(19, .bool (!t2.2)), (5, i6 t2.1)] ?_
 refine OK.cd (!t2.2) (fun hb => ?_) (fun hb => ?_)
 ·have hb : t2.2 = false := by simpa using hb
  have hc := (Bool.eq_false_iff.1 hb)
  rw [if_neg hc] at H
  clear hb
  refine OK.sr ?_
  refine RL.st 1 [(2, i6 (-1))] ?_
  refine OK.re ?_
  refine QN.thenR ?_
  obtain rfl := Option.some.inj H
  refine QN.body rfl [] (RFacts.nil _ _ _) (.no) (i6 (-1)) (by kernel_rfl) (by kernel_rfl) (by kernel_rfl) ?_ _ (.inr rfl)
  exact fun w' hs' => ⟨_, rfl, I3, rfl, hs'.got _ (.cons _ .slnil)⟩
 ·have hb : t2.2 = true := by simpa using hb
  have hc := hb
  rw [if_pos hc] at H
  clear hb
  refine OK.skt ?_
  refine OK.sr ?_
  refine RL.st 2 [(2, i6 t2.1)] ?_
  refine OK.re ?_
  obtain rfl := Option.some.inj H
  refine QN.body rfl [] (RFacts.nil _ _ _) (.no) (i6 t2.1) (by kernel_rfl) (by kernel_rfl) (by kernel_rfl) ?_ _ (.inr rfl)
  exact fun w' hs' => ⟨_, rfl, I3, rfl, hs'.got _ (.cons _ .slnil)⟩

end Go.Proofs.Ytdmhbcgmimfjcaa
namespace Go.Proofs.Ytdmhbcgmimfjcaa.hun
open Go Go.Proofs.Ytdmhbcgmimfjcaa Go.Proofs.Ytdmhbcgmimfjcaa.RW
set_option linter.unusedVariables false
set_option maxRecDepth 100000
set_option maxHeartbeats 4000000
abbrev none' : Nat → Bool := fun _ => false
theorem Opt.le {w w' : List (List Int)} {m m' : Nat} {V V' : Int} (h : Opt w m 0 none' V) (h' : Opt w' m' 0 none' V') (k : ∀ a, IsA w m 0 none' a → ∃ a', IsA w' m' 0 none' a' ∧ val w a ≤ val w' a') : V ≤ V' := by
  obtain ⟨a, h1, h2⟩ := h.2
  obtain ⟨a', h3, h4⟩ := k a h1
  have := h'.1 a' h3
  omega
/-- Rows and columns in another order. -/
theorem relabel {w w' : List (List Int)} {m : Nat} (hl : w'.length = w.length) (ρ κ : Nat → Nat) (hρ : ∀ i, i < w.length → ρ i < w.length) (ρi : ∀ i i', i < w.length → i' < w.length → ρ i = ρ i' → i = i')
    (hκ : ∀ j, j < m → κ j < m) (κi : ∀ j j', j < m → j' < m → κ j = κ j' → j = j') (e : ∀ i j, i < w.length → j < m → we w' i (κ j) = we w (ρ i) j) (a : Nat → Int) (ha : IsA w m 0 none' a) : ∃ a', IsA w' m 0 none' a' ∧ val w a ≤ val w' a' := by
  refine ⟨fun i => if a (ρ i) = -1 then -1 else ((κ (a (ρ i)).toNat : Nat) : Int), ⟨fun i hi => ?_, fun i i' hi hi' h0 he => ?_⟩, ?_⟩
  · show (if a (ρ i) = -1 then (-1 : Int) else ((κ (a (ρ i)).toNat : Nat) : Int)) = -1 ∨ _
    by_cases e1 : a (ρ i) = -1
    · rw [if_pos e1]; exact .inl rfl
    · obtain ⟨h1, h2, h3, h4⟩ := (ha.rg (ρ i) (hρ i (by omega))).resolve_left e1
      have := hκ (a (ρ i)).toNat (by omega)
      refine .inr ⟨Nat.zero_le _, ?_, ?_, rfl⟩
      · show 0 ≤ (if a (ρ i) = -1 then (-1 : Int) else ((κ (a (ρ i)).toNat : Nat) : Int))
        rw [if_neg e1]; omega
      · show (if a (ρ i) = -1 then (-1 : Int) else ((κ (a (ρ i)).toNat : Nat) : Int)) < _
        rw [if_neg e1]; omega
  · have h0' : 0 ≤ (if a (ρ i) = -1 then (-1 : Int) else ((κ (a (ρ i)).toNat : Nat) : Int)) := h0
    have he' : (if a (ρ i) = -1 then (-1 : Int) else ((κ (a (ρ i)).toNat : Nat) : Int)) = (if a (ρ i') = -1 then (-1 : Int) else ((κ (a (ρ i')).toNat : Nat) : Int)) := he
    by_cases e1 : a (ρ i) = -1
    · rw [if_pos e1] at h0'; omega
    · by_cases e2 : a (ρ i') = -1
      · rw [if_neg e1, if_pos e2] at he'; omega
      · rw [if_neg e1, if_neg e2] at he'
        obtain ⟨_, h2, h3, _⟩ := (ha.rg (ρ i) (hρ i (by omega))).resolve_left e1
        obtain ⟨_, h5, h6, _⟩ := (ha.rg (ρ i') (hρ i' (by omega))).resolve_left e2
        have h7 := κi _ _ (by omega) (by omega) (Int.ofNat_inj.1 he')
        have h8 := ha.inj (ρ i) (ρ i') (hρ i (by omega)) (hρ i' (by omega)) h2 (by omega)
        exact ρi i i' (by omega) (by omega) h8
  · refine Int.le_of_eq ?_
    show sm (fun i => if a i = -1 then 0 else we w i (a i).toNat) w.length = sm _ w'.length
    rw [hl, ← sm_perm (fun i => if a i = -1 then 0 else we w i (a i).toNat) w.length ρ hρ ρi]
    refine sm_congr _ (fun i hi => ?_)
    show (if a (ρ i) = -1 then 0 else we w (ρ i) (a (ρ i)).toNat) = if (if a (ρ i) = -1 then (-1 : Int) else ((κ (a (ρ i)).toNat : Nat) : Int)) = -1 then 0 else we w' i (if a (ρ i) = -1 then (-1 : Int) else ((κ (a (ρ i)).toNat : Nat) : Int)).toNat
    by_cases e1 : a (ρ i) = -1
    · simp only [if_pos e1, if_true]
    · obtain ⟨_, h2, h3, _⟩ := (ha.rg (ρ i) (hρ i hi)).resolve_left e1
      simp only [if_neg e1]
      rw [if_neg (by omega), tn, e i _ hi (by omega)]
/-- The row that an assignment gives a column. -/
def who (a : Nat → Int) (j : Nat) : Nat → Int
  | 0 => -1
  | n + 1 => if a n = (j : Int) then (n : Int) else who a j n
theorem who_spec (a : Nat → Int) (j : Nat) : ∀ n, who a j n = -1 ∨ ∃ i, i < n ∧ who a j n = (i : Int) ∧ a i = (j : Int)
  | 0 => .inl rfl
  | n + 1 => by
    simp only [who]
    by_cases e : a n = (j : Int)
    · rw [if_pos e]; exact .inr ⟨n, by omega, rfl, e⟩
    · rw [if_neg e]
      exact (who_spec a j n).imp id fun ⟨i, h1, h2⟩ => ⟨i, by omega, h2⟩
theorem who_some {a : Nat → Int} {j i : Nat} : ∀ n, i < n → a i = (j : Int) → who a j n ≠ -1
  | n + 1, hi, h => by
    simp only [who]
    by_cases e : a n = (j : Int)
    · rw [if_pos e]; omega
    · rw [if_neg e]
      refine who_some n ?_ h
      rcases Nat.lt_or_ge i n with h1 | h1
      · exact h1
      · obtain rfl : i = n := by omega
        exact absurd h e
/-- Transposition. -/
theorem transp {w w' : List (List Int)} {m m' : Nat} (hv : Vw w m) (h1 : ∀ i j, i < w.length → j < m → j < w'.length ∧ i < m' ∧ we w' j i = we w i j) (a : Nat → Int) (ha : IsA w m 0 none' a) : ∃ a', IsA w' m' 0 none' a' ∧ val w a ≤ val w' a' := by
  have hw : ∀ j, who a j w.length = -1 ∨ ∃ i, i < w.length ∧ who a j w.length = (i : Int) ∧ a i = (j : Int) ∧ j < m := fun j => by
    refine (who_spec a j w.length).imp id fun ⟨i, h2, h3, h4⟩ => ⟨i, h2, h3, h4, ?_⟩
    have := (ha.rg i h2).resolve_left (by omega)
    omega
  refine ⟨fun j => who a j w.length, ⟨fun j hj => ?_, fun j j' hj hj' h0 he => ?_⟩, ?_⟩
  · refine (hw j).imp id fun ⟨i, h2, h3, h4, h5⟩ => ?_
    have := (h1 i j h2 h5).2.1
    refine ⟨Nat.zero_le _, ?_, ?_, rfl⟩
    · show 0 ≤ who a j w.length
      omega
    · show who a j w.length < _
      omega
  · have h0' : 0 ≤ who a j w.length := h0
    have he' : who a j w.length = who a j' w.length := he
    obtain ⟨i, h2, h3, h4, h5⟩ := (hw j).resolve_left (by omega)
    obtain ⟨i', h6, h7, h8, h9⟩ := (hw j').resolve_left (by omega)
    obtain rfl : i = i' := by omega
    omega
  · have h2 := sm_part (fun j => if who a j w.length = -1 then 0 else we w' j (who a j w.length).toNat) w'.length w.length a (fun _ => true) (fun j hj _ => ?_) (fun i hi => ?_) ha.inj
    · have h3 : sm (fun j => if true = true then (if who a j w.length = -1 then 0 else we w' j (who a j w.length).toNat) else 0) w'.length = val w' (fun j => who a j w.length) := sm_congr _ (fun j _ => if_pos rfl)
      rw [h3] at h2
      refine Int.le_trans (Int.le_of_eq ?_) h2
      refine sm_congr _ (fun i hi => ?_)
      show (if a i = -1 then 0 else we w i (a i).toNat) = if a i = -1 then 0 else (if who a (a i).toNat w.length = -1 then 0 else we w' (a i).toNat (who a (a i).toNat w.length).toNat)
      by_cases e : a i = -1
      · rw [if_pos e, if_pos e]
      · obtain ⟨_, h4, h5, _⟩ := (ha.rg i hi).resolve_left e
        have h6 := who_some (a := a) (j := (a i).toNat) (i := i) w.length hi (by omega)
        obtain ⟨i', h7, h8, h9, h10⟩ := (hw (a i).toNat).resolve_left h6
        have h11 := ha.inj i i' hi h7 h4 (by omega)
        subst h11
        rw [if_neg e, if_neg e, if_neg h6, h8, tn, (h1 i _ hi h10).2.2]
    · show 0 ≤ if who a j w.length = -1 then 0 else we w' j (who a j w.length).toNat
      by_cases e : who a j w.length = -1
      · rw [if_pos e]; omega
      · obtain ⟨i, h2, h3, h4, h5⟩ := (hw j).resolve_left e
        rw [if_neg e, h3, tn, (h1 i j h2 h5).2.2]
        exact (hv.eb i j h2 h5).1
    · refine (ha.rg i hi).imp id fun ⟨_, h2, h3, _⟩ => ⟨h2, ?_, rfl⟩
      have := (h1 i (a i).toNat hi (by omega)).1
      omega
theorem sm_mul (c : Int) (f : Nat → Int) : ∀ n, sm (fun i => c * f i) n = c * sm f n
  | 0 => by simp [sm]
  | n + 1 => by simp only [sm]; rw [sm_mul c f n, Int.mul_add]
/-- Scaling. -/
theorem Opt.scale {w w' : List (List Int)} {m : Nat} {c V V' : Int} (hc : 0 ≤ c) (hl : w'.length = w.length) (e : ∀ i j, i < w.length → j < m → we w' i j = c * we w i j) (h : Opt w m 0 none' V) (h' : Opt w' m 0 none' V') : V' = c * V := by
  have key : ∀ a, IsA w m 0 none' a → IsA w' m 0 none' a ∧ val w' a = c * val w a := fun a ha => by
    refine ⟨⟨fun i hi => ha.rg i (by omega), fun i i' hi hi' => ha.inj i i' (by omega) (by omega)⟩, ?_⟩
    show sm _ w'.length = c * sm _ w.length
    rw [← sm_mul, hl]
    refine sm_congr _ (fun i hi => ?_)
    show (if a i = -1 then 0 else we w' i (a i).toNat) = c * (if a i = -1 then 0 else we w i (a i).toNat)
    by_cases e1 : a i = -1
    · rw [if_pos e1, if_pos e1, Int.mul_zero]
    · obtain ⟨_, h2, h3, _⟩ := (ha.rg i hi).resolve_left e1
      rw [if_neg e1, if_neg e1, e i _ hi (by omega)]
  obtain ⟨a, h1, h2⟩ := h.2
  obtain ⟨a', h3, h4⟩ := h'.2
  have h5 := h'.1 a (key a h1).1
  have h6 : IsA w m 0 none' a' := ⟨fun i hi => h3.rg i (by omega), fun i i' hi hi' => h3.inj i i' (by omega) (by omega)⟩
  have h7 := Int.mul_le_mul_of_nonneg_left (h.1 a' h6) hc
  rw [(key a h1).2, h2] at h5
  rw [(key a' h6).2] at h4
  omega
/-- the best value, as the law's own function finds it -/
theorem optimum {w : List (List Int)} {m : Nat} (h : Vw w m) {k : Nat} (hk : 900 ≤ k) : ∃ V, armillarylaw22_optimum.f k w = some V ∧ Opt w m 0 none' V ∧ 0 ≤ V ∧ V ≤ 12884901888 := by
  obtain ⟨l, d, V, e, s⟩ := solve h (k := k) (by omega)
  refine ⟨V, ?_, s.opt, s.vb⟩
  unfold armillarylaw22_optimum.f
  rw [e, Option.bind_some, value_ok h (valid_of s.ll s.isa) (by omega), Option.bind_some, if_pos rfl, s.val]
/-! ### lists of rows -/
theorem rowapp (ws : List (List Int)) (x : List Int) (i : Nat) : row (ws ++ [x]) i = if i < ws.length then row ws i else if i = ws.length then x else [] := by
  show (ws ++ [x]).getD i [] = _
  rw [List.getD_eq_getElem?_getD, List.getElem?_append]
  by_cases e3 : i < ws.length
  · rw [if_pos e3, if_pos e3]
    show _ = ws.getD i []
    rw [List.getD_eq_getElem?_getD]
  · rw [if_neg e3, if_neg e3]
    by_cases e4 : i = ws.length
    · rw [if_pos e4]; subst e4; simp
    · rw [if_neg e4]
      obtain ⟨q, hq⟩ : ∃ q, i - ws.length = q + 1 := ⟨i - ws.length - 1, by omega⟩
      rw [hq]; rfl
/-- n rows of m numbers each, as f says. -/
structure Mat (n m : Nat) (f : Nat → Nat → Int) (ws : List (List Int)) : Prop where
  len : ws.length = n
  rl : ∀ i, i < n → (row ws i).length = m
  at_ : ∀ i j, i < n → j < m → we ws i j = f i j
theorem Mat.nil {m : Nat} {f : Nat → Nat → Int} : Mat 0 m f [] := ⟨rfl, fun i hi => absurd hi (by omega), fun i j hi => absurd hi (by omega)⟩
theorem Mat.app {n m : Nat} {f : Nat → Nat → Int} {ws : List (List Int)} (h : Mat n m f ws) {x : List Int} (hx : x.length = m) (hf : ∀ j, j < m → g x j = f n j) : Mat (n + 1) m f (ws ++ [x]) := by
  refine ⟨by simp [h.len], fun i hi => ?_, fun i j hi hj => ?_⟩
  · rw [rowapp, h.len]
    by_cases e : i < n
    · rw [if_pos e]; exact h.rl i e
    · rw [if_neg e, if_pos (by omega)]; exact hx
  · show g (row (ws ++ [x]) i) j = _
    rw [rowapp, h.len]
    by_cases e : i < n
    · rw [if_pos e]; exact h.at_ i j e hj
    · obtain rfl : i = n := by omega
      rw [if_neg e, if_pos rfl]; exact hf j hj
theorem Mat.vw {n m : Nat} {f : Nat → Nat → Int} {ws : List (List Int)} (h : Mat n m f ws) (hn : n ≤ 12) (hm : m ≤ 12) (hz : n = 0 → m = 0) (hb : ∀ i j, i < n → j < m → 0 ≤ f i j ∧ f i j ≤ 1073741824) : Vw ws m :=
  ⟨by rw [h.len]; exact hn, hm, by rw [h.len]; exact hz, by rw [h.len]; exact h.rl, fun i j hi hj => by rw [h.len] at hi; rw [h.at_ i j hi hj]; exact hb i j hi hj⟩
end Go.Proofs.Ytdmhbcgmimfjcaa.hun
namespace Go.Proofs.Ytdmhbcgmimfjcaa
open Go Go.Proofs.Ytdmhbcgmimfjcaa.RW
set_option linter.unusedVariables false
set_option maxRecDepth 100000
set_option maxHeartbeats 8000000

/-! ### assign_Valid_1: function 28, armillary/assign.Valid$1 -/
noncomputable def K28_0 : Code := cBody Try.f28
def assign_Valid_1.k1  (x1 : Bool) : Option (Bool) := (some x1)
def assign_Valid_1.f (a0 : Int) : Option (Bool) := ((if a0 < 0 then (some true) else (some (decide (a0 > 1073741824)))).bind (assign_Valid_1.k1))
def assign_Valid_1.Post (I : Imm) (w : World) (r : Bool) (v : Value) (w' : World) : Prop :=
 ∃ (J : Imm), v = .bool r ∧ Got w w' I J []
theorem assign_Valid_1.calls (I0 : Imm) (a0 : Int) (w : World) (hI : I0.at_ w)  (r : Bool) (h : assign_Valid_1.f a0 = some r) :
  Calls Try.prog 28 [i6 a0].toArray w fun e w' => ∃ v, e = .returned v ∧ assign_Valid_1.Post I0 w r v w' := by
 have H : ((if a0 < 0 then (some true) else (some (decide (a0 > 1073741824)))).bind (assign_Valid_1.k1)) = some r := h
 clear h
 refine calls_body Try.func28 (by kernel_rfl) 9 (by kernel_rfl) (by kernel_rfl) ⟨w, fun _ => False, I0⟩ I0 [] [(0, i6 a0)] (by kernel_rfl) (Sat.start w _ I0 hI) ?_
 generalize w.heap.size = nx0
 show OK _ K28_0 _ _ _ _ _ _ _ _
 refine OK.sr ?_
 refine RL.st 1 [(0, i6 a0)] ?_
 refine OK.sq ?_
 refine OK.join (fun K' I' _ L' X' => ∃ (x1 : Bool), K' = [(2, .bool x1)] ∧ L' = [] ∧ X' = [] ∧ Imm.le I0 I' ∧ assign_Valid_1.k1 x1 = some r) ?_ ?_
 ·rintro _ I1 nx1 _ _ ⟨x1, rfl, rfl, rfl, hi1, H⟩
  rw [assign_Valid_1.k1] at H
  refine QN.then_ ?_
  refine OK.re ?_
  obtain rfl := Option.some.inj H
  refine QN.body rfl [] (RFacts.nil _ _ _) (.no) (.bool x1) (by kernel_rfl) (by kernel_rfl) (by kernel_rfl) ?_ _ (.inr rfl)
  exact fun w' hs' => ⟨_, rfl, I1, rfl, hs'.got _ .slnil⟩
 ·intro Q_1 hJ1 hQ1
  obtain ⟨y1, H, HK1⟩ := bnd H
  refine OK.rg ?_
  refine RL.s 3 [(5, .bool (decide (a0 < 0))), (0, i6 a0)] ?_
  refine RL.cases (decide (a0 < 0)) (fun hb => ?_) (fun hb => ?_)
  ·have hc := (of_decide_eq_true hb)
   rw [hb]
   rw [if_pos hc] at H; clear hb
   refine RL.s 4 [(2, .bool true)] ?_
   refine RL.nil (by kernel_rfl) ?_
   obtain rfl := Option.some.inj H
   exact QN.sb (hJ1 _ _ _ _ _ ⟨true, rfl, rfl, rfl, (Imm.le_refl _), HK1⟩) .slnil (.refl _)
  ·have hc := (of_decide_eq_false hb)
   rw [hb]
   rw [if_neg hc] at H; clear hb
   refine RL.s 4 [(2, .bool (decide (a0 > 1073741824)))] ?_
   refine RL.nil (by kernel_rfl) ?_
   obtain rfl := Option.some.inj H
   exact QN.sb (hJ1 _ _ _ _ _ ⟨(decide (a0 > 1073741824)), rfl, rfl, rfl, (Imm.le_refl _), HK1⟩) .slnil (.refl _)

end Go.Proofs.Ytdmhbcgmimfjcaa
namespace Go.Proofs.Ytdmhbcgmimfjcaa
open Go Go.Proofs.Ytdmhbcgmimfjcaa.RW
set_option linter.unusedVariables false
set_option maxRecDepth 100000
set_option maxHeartbeats 8000000

/-! ### slices_IndexFunc_int64_int64s0: function 36, slices.IndexFunc[[]int64,int64] -/
noncomputable def K36s0_0 : Code := cBody Try.f36
def slices_IndexFunc_int64_int64s0.k1  : (Unit) ⊕ (Int) → Option (Int)
 | .inl () => (some (-1))
 | .inr r_ => some r_
def slices_IndexFunc_int64_int64s0.l1 (a0 : List Int) : Nat → Int → Option ((Unit) ⊕ (Int))
 | 0, _ => none
 | k + 1, x1 => (if x1 < (a0.length : Int) then (if 0 ≤ x1 then (if x1 < (a0.length : Int) then ((assign_Valid_1.f (a0.getD (x1).toNat 0)).bind fun t1 => (if t1 = true then (some (Sum.inr x1)) else (slices_IndexFunc_int64_int64s0.l1 a0 k (W .i64 (x1 + 1))))) else none) else none) else (some (Sum.inl ())))
def slices_IndexFunc_int64_int64s0.f (k : Nat) (a0 : List Int) : Option (Int) := ((slices_IndexFunc_int64_int64s0.l1 a0 k 0).bind (slices_IndexFunc_int64_int64s0.k1))
def slices_IndexFunc_int64_int64s0.Post (S : Nat → Prop) (a0 : List Int) (Aa0 : Option Addr) (ca0 : Nat) (I : Imm) (w : World) (r : Int) (v : Value) (w' : World) : Prop :=
 ∃ (J : Imm), v = .int .i64 r ∧ Sat ⟨w, S, I⟩ J w'.heap.size [] [] w'
theorem slices_IndexFunc_int64_int64s0.calls (k : Nat) (I0 : Imm) (a0 : List Int) (Aa0 : Option Addr) (ca0 : Nat) (w : World) (hs : Sat ⟨w, SM [] [], I0⟩ I0 w.heap.size [] [] w) (hla0 : a0.length ≤ ca0) (hra0 : Rd (Ty.int .i64) I0 Aa0 a0) (r : Int) (h : slices_IndexFunc_int64_int64s0.f k a0 = some r) :
  Calls Try.prog 36 [.slice Aa0 a0.length ca0, .func (.func 28) #[] #[]].toArray w fun e w' => ∃ v, e = .returned v ∧ slices_IndexFunc_int64_int64s0.Post (SM [] []) a0 Aa0 ca0 I0 w r v w' := by
 have H : ((slices_IndexFunc_int64_int64s0.l1 a0 k 0).bind (slices_IndexFunc_int64_int64s0.k1)) = some r := h
 clear h
 refine calls_bodyL Try.func36 (by kernel_rfl) 19 (by kernel_rfl) (by kernel_rfl) ⟨w, SM [] [], I0⟩ I0 [] [] [(0, .slice Aa0 a0.length ca0), (1, .func (.func 28) #[] #[])] (by kernel_rfl) hs ?_
 generalize w.heap.size = nx0
 show OK _ K36s0_0 _ _ _ _ _ _ _ _
 refine OK.sr ?_
 refine RL.st 1 [(0, .slice Aa0 a0.length ca0), (1, .func (.func 28) #[] #[])] ?_
 refine OK.sq ?_
 refine OK.sr ?_
 refine RL.st 3 [(8, i6 0), (7, i6 (a0.length : Int)), (0, .slice Aa0 a0.length ca0), (1, .func (.func 28) #[] #[])] ?_
 refine OK.join (fun K' I' _ L' X' => K' = [] ∧ L' = [] ∧ X' = [] ∧ Imm.le I0 I' ∧ slices_IndexFunc_int64_int64s0.k1 (Sum.inl ()) = some r) ?_ ?_
 ·rintro _ I1 nx1 _ _ ⟨rfl, rfl, rfl, hi1, H⟩
  rw [slices_IndexFunc_int64_int64s0.k1] at H
  refine QN.then_ ?_
  refine OK.sr ?_
  refine RL.st 1 [(4, i6 (-1))] ?_
  refine OK.re ?_
  obtain rfl := Option.some.inj H
  refine QN.body rfl [] (RFacts.nil _ _ _) (.no) (i6 (-1)) (by kernel_rfl) (by kernel_rfl) (by kernel_rfl) ?_ _ (.inr rfl)
  exact fun w' hs' => ⟨_, rfl, I1, rfl, ((hs'.fin.selB [] (by kernel_rfl)).sel [] (by kernel_rfl))⟩
 ·intro Q_1 hJ1 hQ1
  obtain ⟨y1, H, HK1⟩ := bnd H
  refine OK.bk 0 ?_
  refine OK.sub (K' := [(0, .slice Aa0 a0.length ca0), (1, .func (.func 28) #[] #[]), (7, i6 (a0.length : Int)), (8, i6 0)]) (L' := []) (by kernel_rfl) .slnil (.refl _) ?_
  refine OK.lp (fun n_ K' I' _ L' X' => ∃ (x1 : Int), K' = [(0, .slice Aa0 a0.length ca0), (1, .func (.func 28) #[] #[]), (7, i6 (a0.length : Int)), (8, i6 x1)] ∧ L' = [] ∧ X' = [] ∧ Imm.le I0 I' ∧ slices_IndexFunc_int64_int64s0.l1 a0 n_ x1 = some y1) k ⟨0, rfl, rfl, rfl, (Imm.le_refl _), H⟩ ?_ ?_
  ·rintro _ _ _ _ _ ⟨x1, rfl, rfl, rfl, _, H⟩
   cases H
  ·rintro kq1 _ I2 nx2 _ _ ⟨x1, rfl, rfl, rfl, hi2, H⟩ Q_l1 hJ2 hQ2
   rw [slices_IndexFunc_int64_int64s0.l1] at H
   refine OK.sr ?_
   refine RL.st 1 [(9, .bool (decide (x1 < (a0.length : Int)))), (0, .slice Aa0 a0.length ca0), (1, .func (.func 28) #[] #[]), (7, i6 (a0.length : Int)), (8, i6 x1)] ?_
   refine OK.sq ?_
   refine OK.cd (decide (x1 < (a0.length : Int))) (fun hb => ?_) (fun hb => ?_)
   ·skip
    have hc := (of_decide_eq_true hb)
    rw [if_pos hc] at H
    clear hb
    refine OK.skt ?_
    refine OK.sq ?_
    refine OK.bk 1 ?_
    refine OK.sr ?_
    refine RL.st 2 [(5, i6 x1), (0, .slice Aa0 a0.length ca0), (1, .func (.func 28) #[] #[]), (7, i6 (a0.length : Int)), (8, i6 x1)] ?_
    refine OK.sr ?_
    refine RL.s 3 [(13, i6 x1), (12, .slice Aa0 a0.length ca0), (11, .func (.func 28) #[] #[]), (5, i6 x1), (0, .slice Aa0 a0.length ca0), (1, .func (.func 28) #[] #[]), (7, i6 (a0.length : Int)), (8, i6 x1)] ?_
    obtain ⟨hib0, H⟩ := ifs H
    obtain ⟨hib1, H⟩ := ifs H
    obtain ⟨g1_, o1_, hA1_, hc1_⟩ := Ty.int_at (Rd.ext hi2 hra0) x1 hib0 hib1
    refine RL.idx 1 .i64 x1 hA1_ a0.length ca0 (some 14) (by kernel_rfl) (by kernel_rfl) (T := 24) (e := 2) (by kernel_rfl) (by kernel_rfl) hib0 hib1 (K' := [(14, pt g1_ (o1_ + (x1).toNat * 1)), (13, i6 x1), (12, .slice Aa0 a0.length ca0), (11, .func (.func 28) #[] #[]), (5, i6 x1), (0, .slice Aa0 a0.length ca0), (1, .func (.func 28) #[] #[]), (7, i6 (a0.length : Int)), (8, i6 x1)]) (by kernel_rfl) ?_
    refine RL.simK (K' := [(15, i6 (a0.getD (x1).toNat 0)), (11, .func (.func 28) #[] #[]), (5, i6 x1), (0, .slice Aa0 a0.length ca0), (1, .func (.func 28) #[] #[]), (7, i6 (a0.length : Int)), (8, i6 x1)]) [(⟨g1_, o1_ + (x1).toNat * 1, none⟩, i6 (a0.getD (x1).toNat 0))] (RFacts.imm (hc1_ 0 _ rfl) (RFacts.nil _ _ _)) 1 [.r 0] (by kernel_rfl) (by kernel_rfl) ?_
    obtain ⟨t1, hA1, H⟩ := bnd H
    refine RL.callP 28 [i6 (a0.getD (x1).toNat 0)] (some 16) (fun w => assign_Valid_1.Post I2 w t1) (by kernel_rfl) (by kernel_rfl) (fun w hs => assign_Valid_1.calls I2 (a0.getD (x1).toNat 0) w hs.im  t1 hA1) ?_
    rintro w v w' hs ⟨I3, rfl, hg⟩
    have hi3 := hg.le
    refine RL.resume (X' := []) rfl (hs.call hg) ?_
    clear hs hg
    generalize w'.heap.size = nx3
    clear w w'
    refine RL.nil (by kernel_rfl) ?_
    refine QN.sub (K' := [(16, .bool t1), (5, i6 x1), (0, .slice Aa0 a0.length ca0), (1, .func (.func 28) #[] #[]), (7, i6 (a0.length : Int)), (8, i6 x1)]) (L' := []) (by kernel_rfl) .slnil (.refl _) ?_
    refine QN.then_ ?_
    refine OK.cd t1 (fun hb => ?_) (fun hb => ?_)
    ·skip
     have hc := hb
     rw [if_pos hc] at H
     clear hb
     refine OK.sr ?_
     refine RL.st 2 [(4, i6 x1)] ?_
     refine OK.re ?_
     refine QN.blkR ?_
     refine QN.thenR ?_
     refine QN.outR hQ2 ?_
     refine QN.blkR ?_
     refine QN.outR hQ1 ?_
     refine QN.thenR ?_
     obtain rfl := Option.some.inj H
     replace H : some x1 = some r := HK1
     obtain rfl := Option.some.inj H
     refine QN.body rfl [] (RFacts.nil _ _ _) (.no) (i6 x1) (by kernel_rfl) (by kernel_rfl) (by kernel_rfl) ?_ _ (.inr rfl)
     exact fun w' hs' => ⟨_, rfl, I3, rfl, ((hs'.fin.selB [] (by kernel_rfl)).sel [] (by kernel_rfl))⟩
    ·skip
     have hc := (Bool.eq_false_iff.1 hb)
     rw [if_neg hc] at H
     clear hb
     refine OK.sk ?_
     refine QN.blkN ?_
     refine QN.then_ ?_
     refine OK.rg ?_
     refine RL.s 2 [(8, i6 (W .i64 (x1 + 1))), (0, .slice Aa0 a0.length ca0), (1, .func (.func 28) #[] #[]), (7, i6 (a0.length : Int))] ?_
     refine RL.nil (by kernel_rfl) ?_
     exact QN.sb (hJ2 _ _ _ _ _ ⟨W .i64 (x1 + 1), rfl, rfl, rfl, (Imm.le_trans hi2 hi3), H⟩) .slnil (.refl _)
   ·skip
    have hc := (of_decide_eq_false hb)
    rw [if_neg hc] at H
    clear hb
    refine OK.ex 0 ?_
    refine QN.thenE ?_
    refine QN.outE hQ2 ?_
    refine QN.blkE ?_
    obtain rfl := Option.some.inj H
    exact QN.sb (hJ1 _ _ _ _ _ ⟨rfl, rfl, rfl, hi2, HK1⟩) .slnil (.refl _)

end Go.Proofs.Ytdmhbcgmimfjcaa
namespace Go.Proofs.Ytdmhbcgmimfjcaa
open Go Go.Proofs.Ytdmhbcgmimfjcaa.RW
set_option linter.unusedVariables false
set_option maxRecDepth 100000
set_option maxHeartbeats 8000000

/-! ### slices_ContainsFunc_int64_int64s0: function 27, slices.ContainsFunc[[]int64,int64] -/
noncomputable def K27s0_0 : Code := cBody Try.f27
def slices_ContainsFunc_int64_int64s0.f (k : Nat) (a0 : List Int) : Option (Bool) := ((slices_IndexFunc_int64_int64s0.f k a0).bind fun t1 => (some (decide (t1 ≥ 0))))
def slices_ContainsFunc_int64_int64s0.Post (S : Nat → Prop) (a0 : List Int) (Aa0 : Option Addr) (ca0 : Nat) (I : Imm) (w : World) (r : Bool) (v : Value) (w' : World) : Prop :=
 ∃ (J : Imm), v = .bool r ∧ Sat ⟨w, S, I⟩ J w'.heap.size [] [] w'
theorem slices_ContainsFunc_int64_int64s0.calls (k : Nat) (I0 : Imm) (a0 : List Int) (Aa0 : Option Addr) (ca0 : Nat) (w : World) (hs : Sat ⟨w, SM [] [], I0⟩ I0 w.heap.size [] [] w) (hla0 : a0.length ≤ ca0) (hra0 : Rd (Ty.int .i64) I0 Aa0 a0) (r : Bool) (h : slices_ContainsFunc_int64_int64s0.f k a0 = some r) :
  Calls Try.prog 27 [.slice Aa0 a0.length ca0, .func (.func 28) #[] #[]].toArray w fun e w' => ∃ v, e = .returned v ∧ slices_ContainsFunc_int64_int64s0.Post (SM [] []) a0 Aa0 ca0 I0 w r v w' := by
 have H : ((slices_IndexFunc_int64_int64s0.f k a0).bind fun t1 => (some (decide (t1 ≥ 0)))) = some r := h
 clear h
 refine calls_bodyL Try.func27 (by kernel_rfl) 9 (by kernel_rfl) (by kernel_rfl) ⟨w, SM [] [], I0⟩ I0 [] [] [(0, .slice Aa0 a0.length ca0), (1, .func (.func 28) #[] #[])] (by kernel_rfl) hs ?_
 generalize w.heap.size = nx0
 show OK _ K27s0_0 _ _ _ _ _ _ _ _
 refine OK.sr ?_
 refine RL.st 1 [(0, .slice Aa0 a0.length ca0), (1, .func (.func 28) #[] #[])] ?_
 refine OK.sr ?_
 refine RL.s 2 [(6, .func (.func 28) #[] #[]), (5, .slice Aa0 a0.length ca0)] ?_
 obtain ⟨t1, hA1, H⟩ := bnd H
 refine RL.callM (L1 := []) (L2 := []) (X1 := []) (X2 := []) rfl rfl 36 [.slice Aa0 a0.length ca0, .func (.func 28) #[] #[]] (some 7) (fun w => slices_IndexFunc_int64_int64s0.Post (SM [] []) a0 Aa0 ca0 I0 w t1) (by kernel_rfl) (by kernel_rfl) (fun w hs => slices_IndexFunc_int64_int64s0.calls k I0 a0 Aa0 ca0 w hs hla0 hra0 t1 hA1) ?_
 rintro w v w' hs ⟨I1, rfl, hg⟩
 have hi1 : Imm.le I0 I1 := hg.le
 refine RL.resume (L' := []) (X' := []) rfl (hs.outof hg) ?_
 clear hs hg
 generalize w'.heap.size = nx1
 clear w w'
 refine RL.st 2 [(4, .bool (decide (t1 ≥ 0)))] ?_
 refine OK.re ?_
 obtain rfl := Option.some.inj H
 refine QN.body rfl [] (RFacts.nil _ _ _) (.no) (.bool (decide (t1 ≥ 0))) (by kernel_rfl) (by kernel_rfl) (by kernel_rfl) ?_ _ (.inr rfl)
 exact fun w' hs' => ⟨_, rfl, I1, rfl, ((hs'.fin.selB [] (by kernel_rfl)).sel [] (by kernel_rfl))⟩

end Go.Proofs.Ytdmhbcgmimfjcaa
namespace Go.Proofs.Ytdmhbcgmimfjcaa
open Go Go.Proofs.Ytdmhbcgmimfjcaa.RW
set_option linter.unusedVariables false
set_option maxRecDepth 100000
set_option maxHeartbeats 8000000

/-! ### assign_Valid: function 11, armillary/assign.Valid -/
noncomputable def K11_0 : Code := cBody Try.f11
def assign_Valid.k1  : (Unit) ⊕ (Bool) → Option (Bool)
 | .inl () => (some true)
 | .inr r_ => some r_
def assign_Valid.l1 (a0 : List (List Int)) : Nat → Int → Option ((Unit) ⊕ (Bool))
 | 0, _ => none
 | k + 1, x1 => (if x1 < (a0.length : Int) then (if 0 ≤ x1 then (if x1 < (a0.length : Int) then ((if 0 < (a0.length : Int) then (if ((a0.getD (x1).toNat []).length : Int) ≠ ((a0.getD (0 : Int).toNat []).length : Int) then (some true) else (if ((a0.getD (x1).toNat []).length : Int) > 12 then (some true) else ((slices_ContainsFunc_int64_int64s0.f k (a0.getD (x1).toNat [])).bind fun t1 => (some t1)))) else none).bind (fun x2 => (if x2 = true then (some (Sum.inr false)) else (assign_Valid.l1 a0 k (W .i64 (x1 + 1)))))) else none) else none) else (some (Sum.inl ())))
def assign_Valid.f (k : Nat) (a0 : List (List Int)) : Option (Bool) := (if (a0.length : Int) > 12 then (some false) else ((assign_Valid.l1 a0 k 0).bind (assign_Valid.k1)))
def assign_Valid.Post (I : Imm) (w : World) (r : Bool) (v : Value) (w' : World) : Prop :=
 ∃ (J : Imm), v = .bool r ∧ Got w w' I J []
theorem assign_Valid.calls (k : Nat) (I0 : Imm) (a0 : List (List Int)) (Ap0 : Option Addr) (cp0 : Nat) (w : World) (hI : I0.at_ w) (hlp0 : a0.length ≤ cp0) (hrp0 : Rd (Ty.slice (Ty.int .i64)) I0 Ap0 a0) (r : Bool) (h : assign_Valid.f k a0 = some r) :
  Calls Try.prog 11 [.slice Ap0 a0.length cp0].toArray w fun e w' => ∃ v, e = .returned v ∧ assign_Valid.Post I0 w r v w' := by
 have H : (if (a0.length : Int) > 12 then (some false) else ((assign_Valid.l1 a0 k 0).bind (assign_Valid.k1))) = some r := h
 clear h
 refine calls_body Try.func11 (by kernel_rfl) 31 (by kernel_rfl) (by kernel_rfl) ⟨w, fun _ => False, I0⟩ I0 [] [(0, .slice Ap0 a0.length cp0)] (by kernel_rfl) (Sat.start w _ I0 hI) ?_
 generalize w.heap.size = nx0
 show OK _ K11_0 _ _ _ _ _ _ _ _
 refine OK.sr ?_
 refine RL.st 1 [(0, .slice Ap0 a0.length cp0)] ?_
 refine OK.sq ?_
 refine OK.sr ?_
 refine RL.st 3 [(7, .bool (decide ((a0.length : Int) > 12))), (0, .slice Ap0 a0.length cp0)] ?_
 refine OK.cd (decide ((a0.length : Int) > 12)) (fun hb => ?_) (fun hb => ?_)
 ·skip
  have hc := (of_decide_eq_true hb)
  rw [if_pos hc] at H
  clear hb
  refine OK.sr ?_
  refine RL.st 1 [(2, .bool false)] ?_
  refine OK.re ?_
  refine QN.thenR ?_
  obtain rfl := Option.some.inj H
  refine QN.body rfl [] (RFacts.nil _ _ _) (.no) (.bool false) (by kernel_rfl) (by kernel_rfl) (by kernel_rfl) ?_ _ (.inr rfl)
  exact fun w' hs' => ⟨_, rfl, I0, rfl, hs'.got _ .slnil⟩
 ·skip
  have hc := (of_decide_eq_false hb)
  rw [if_neg hc] at H
  clear hb
  refine OK.skt ?_
  refine OK.sq ?_
  refine OK.sr ?_
  refine RL.st 3 [(10, i6 0), (9, i6 (a0.length : Int)), (8, .slice Ap0 a0.length cp0), (0, .slice Ap0 a0.length cp0)] ?_
  refine OK.join (fun K' I' _ L' X' => K' = [] ∧ L' = [] ∧ X' = [] ∧ Imm.le I0 I' ∧ assign_Valid.k1 (Sum.inl ()) = some r) ?_ ?_
  ·rintro _ I1 nx1 _ _ ⟨rfl, rfl, rfl, hi1, H⟩
   rw [assign_Valid.k1] at H
   refine QN.then_ ?_
   refine OK.sr ?_
   refine RL.st 1 [(2, .bool true)] ?_
   refine OK.re ?_
   obtain rfl := Option.some.inj H
   refine QN.body rfl [] (RFacts.nil _ _ _) (.no) (.bool true) (by kernel_rfl) (by kernel_rfl) (by kernel_rfl) ?_ _ (.inr rfl)
   exact fun w' hs' => ⟨_, rfl, I1, rfl, hs'.got _ .slnil⟩
  ·intro Q_1 hJ1 hQ1
   obtain ⟨y1, H, HK1⟩ := bnd H
   refine OK.bk 0 ?_
   refine OK.sub (K' := [(0, .slice Ap0 a0.length cp0), (8, .slice Ap0 a0.length cp0), (9, i6 (a0.length : Int)), (10, i6 0)]) (L' := []) (by kernel_rfl) .slnil (.refl _) ?_
   refine OK.lp (fun n_ K' I' _ L' X' => ∃ (x1 : Int), K' = [(0, .slice Ap0 a0.length cp0), (8, .slice Ap0 a0.length cp0), (9, i6 (a0.length : Int)), (10, i6 x1)] ∧ L' = [] ∧ X' = [] ∧ Imm.le I0 I' ∧ assign_Valid.l1 a0 n_ x1 = some y1) k ⟨0, rfl, rfl, rfl, (Imm.le_refl _), H⟩ ?_ ?_
   ·rintro _ _ _ _ _ ⟨x1, rfl, rfl, rfl, _, H⟩
    cases H
   ·rintro kq1 _ I2 nx2 _ _ ⟨x1, rfl, rfl, rfl, hi2, H⟩ Q_l1 hJ2 hQ2
    rw [assign_Valid.l1] at H
    refine OK.sr ?_
    refine RL.st 1 [(11, .bool (decide (x1 < (a0.length : Int)))), (0, .slice Ap0 a0.length cp0), (8, .slice Ap0 a0.length cp0), (9, i6 (a0.length : Int)), (10, i6 x1)] ?_
    refine OK.sq ?_
    refine OK.cd (decide (x1 < (a0.length : Int))) (fun hb => ?_) (fun hb => ?_)
    ·skip
     have hc := (of_decide_eq_true hb)
     rw [if_pos hc] at H
     clear hb
     refine OK.skt ?_
     refine OK.sq ?_
     refine OK.bk 1 ?_
     refine OK.sr ?_
     obtain ⟨hib0, H⟩ := ifs H
     obtain ⟨hib1, H⟩ := ifs H
     obtain ⟨g1_, o1_, hA1_, A1_, c1_, hl1_, hr1_, hc1_⟩ := Ty.slice_at (Rd.ext hi2 hrp0) x1 hib0 hib1
     refine RL.idx 1 .i64 x1 hA1_ a0.length cp0 (some 12) (by kernel_rfl) (by kernel_rfl) (T := 22) (e := 24) (by kernel_rfl) (by kernel_rfl) hib0 hib1 (K' := [(12, pt g1_ (o1_ + (x1).toNat * 1)), (11, .bool (decide (x1 < (a0.length : Int)))), (0, .slice Ap0 a0.length cp0), (8, .slice Ap0 a0.length cp0), (9, i6 (a0.length : Int)), (10, i6 x1)]) (by kernel_rfl) ?_
     refine RL.simK (K' := [(4, .slice A1_ ((a0.getD (x1).toNat []).length) c1_), (0, .slice Ap0 a0.length cp0), (8, .slice Ap0 a0.length cp0), (9, i6 (a0.length : Int)), (10, i6 x1)]) [(⟨g1_, o1_ + (x1).toNat * 1, none⟩, .slice A1_ ((a0.getD (x1).toNat []).length) c1_)] (RFacts.imm (hc1_ 0 _ rfl) (RFacts.nil _ _ _)) 2 [.r 0, .no] (by kernel_rfl) (by kernel_rfl) ?_
     refine RL.nt ?_
     refine OK.sq ?_
     refine OK.join (fun K' I' _ L' X' => ∃ (x2 : Bool), K' = [(0, .slice Ap0 a0.length cp0), (8, .slice Ap0 a0.length cp0), (9, i6 (a0.length : Int)), (10, i6 x1), (29, .bool x2)] ∧ L' = [] ∧ X' = [] ∧ Imm.le I2 I' ∧ (if x2 = true then (some (Sum.inr false)) else (assign_Valid.l1 a0 kq1 (W .i64 (x1 + 1)))) = some y1) ?_ ?_
     ·rintro _ I3 nx3 _ _ ⟨x2, rfl, rfl, rfl, hi3, H⟩
      replace H : (if x2 = true then (some (Sum.inr false)) else (assign_Valid.l1 a0 kq1 (W .i64 (x1 + 1)))) = some y1 := H
      refine QN.then_ ?_
      refine OK.cd x2 (fun hb => ?_) (fun hb => ?_)
      ·skip
       have hc := hb
       rw [if_pos hc] at H
       clear hb
       refine OK.sr ?_
       refine RL.st 1 [(2, .bool false)] ?_
       refine OK.re ?_
       refine QN.blkR ?_
       refine QN.thenR ?_
       refine QN.outR hQ2 ?_
       refine QN.blkR ?_
       refine QN.outR hQ1 ?_
       refine QN.thenR ?_
       obtain rfl := Option.some.inj H
       replace H : some false = some r := HK1
       obtain rfl := Option.some.inj H
       refine QN.body rfl [] (RFacts.nil _ _ _) (.no) (.bool false) (by kernel_rfl) (by kernel_rfl) (by kernel_rfl) ?_ _ (.inr rfl)
       exact fun w' hs' => ⟨_, rfl, I3, rfl, hs'.got _ .slnil⟩
      ·skip
       have hc := (Bool.eq_false_iff.1 hb)
       rw [if_neg hc] at H
       clear hb
       refine OK.sk ?_
       refine QN.blkN ?_
       refine QN.then_ ?_
       refine OK.rg ?_
       refine RL.s 2 [(10, i6 (W .i64 (x1 + 1))), (0, .slice Ap0 a0.length cp0), (8, .slice Ap0 a0.length cp0), (9, i6 (a0.length : Int))] ?_
       refine RL.nil (by kernel_rfl) ?_
       exact QN.sb (hJ2 _ _ _ _ _ ⟨W .i64 (x1 + 1), rfl, rfl, rfl, (Imm.le_trans hi2 hi3), H⟩) .slnil (.refl _)
     ·intro Q_2 hJ3 hQ3
      obtain ⟨y2, H, HK2⟩ := bnd H
      refine OK.rg ?_
      refine RL.s 3 [(16, .slice Ap0 a0.length cp0), (15, i6 ((a0.getD (x1).toNat []).length : Int)), (4, .slice A1_ ((a0.getD (x1).toNat []).length) c1_), (0, .slice Ap0 a0.length cp0), (8, .slice Ap0 a0.length cp0), (9, i6 (a0.length : Int)), (10, i6 x1)] ?_
      have hib0 : (0 : Int) ≤ 0 := by decide
      obtain ⟨hib1, H⟩ := ifs H
      obtain ⟨g2_, o2_, hA2_, A2_, c2_, hl2_, hr2_, hc2_⟩ := Ty.slice_at (Rd.ext hi2 hrp0) 0 hib0 hib1
      refine RL.idx 1 .i64 0 hA2_ a0.length cp0 (some 17) (by kernel_rfl) (by kernel_rfl) (T := 22) (e := 24) (by kernel_rfl) (by kernel_rfl) hib0 hib1 (K' := [(17, pt g2_ (o2_ + (0 : Int).toNat * 1)), (16, .slice Ap0 a0.length cp0), (15, i6 ((a0.getD (x1).toNat []).length : Int)), (4, .slice A1_ ((a0.getD (x1).toNat []).length) c1_), (0, .slice Ap0 a0.length cp0), (8, .slice Ap0 a0.length cp0), (9, i6 (a0.length : Int)), (10, i6 x1)]) (by kernel_rfl) ?_
      refine RL.simK (K' := [(21, .bool (((a0.getD (x1).toNat []).length : Int) != ((a0.getD (0 : Int).toNat []).length : Int))), (4, .slice A1_ ((a0.getD (x1).toNat []).length) c1_), (0, .slice Ap0 a0.length cp0), (8, .slice Ap0 a0.length cp0), (9, i6 (a0.length : Int)), (10, i6 x1)]) [(⟨g2_, o2_ + (0 : Int).toNat * 1, none⟩, .slice A2_ ((a0.getD (0 : Int).toNat []).length) c2_)] (RFacts.imm (hc2_ 0 _ rfl) (RFacts.nil _ _ _)) 4 [.r 0, .no, .no, .no] (by kernel_rfl) (by kernel_rfl) ?_
      refine RL.cases (((a0.getD (x1).toNat []).length : Int) != ((a0.getD (0 : Int).toNat []).length : Int)) (fun hb => ?_) (fun hb => ?_)
      ·have hc := (bne_iff_ne.1 hb)
       rw [hb]
       rw [if_pos hc] at H; clear hb
       refine RL.s 8 [(29, .bool true), (0, .slice Ap0 a0.length cp0), (8, .slice Ap0 a0.length cp0), (9, i6 (a0.length : Int)), (10, i6 x1)] ?_
       refine RL.nil (by kernel_rfl) ?_
       obtain rfl := Option.some.inj H
       exact QN.sb (hJ3 _ _ _ _ _ ⟨true, rfl, rfl, rfl, (Imm.le_refl _), HK2⟩) .slnil (.refl _)
      ·have hc := (not_not_intro (bne_eq_false_iff_eq.1 hb))
       rw [hb]
       rw [if_neg hc] at H; clear hb
       refine RL.s 5 [(26, .bool (decide (((a0.getD (x1).toNat []).length : Int) > 12))), (4, .slice A1_ ((a0.getD (x1).toNat []).length) c1_), (0, .slice Ap0 a0.length cp0), (8, .slice Ap0 a0.length cp0), (9, i6 (a0.length : Int)), (10, i6 x1)] ?_
       refine RL.cases (decide (((a0.getD (x1).toNat []).length : Int) > 12)) (fun hb => ?_) (fun hb => ?_)
       ·have hc := (of_decide_eq_true hb)
        rw [hb]
        rw [if_pos hc] at H; clear hb
        refine RL.s 3 [(29, .bool true), (0, .slice Ap0 a0.length cp0), (8, .slice Ap0 a0.length cp0), (9, i6 (a0.length : Int)), (10, i6 x1)] ?_
        refine RL.nil (by kernel_rfl) ?_
        obtain rfl := Option.some.inj H
        exact QN.sb (hJ3 _ _ _ _ _ ⟨true, rfl, rfl, rfl, (Imm.le_refl _), HK2⟩) .slnil (.refl _)
       ·have hc := (of_decide_eq_false hb)
        rw [hb]
        rw [if_neg hc] at H; clear hb
        refine RL.s 1 [(27, .slice A1_ ((a0.getD (x1).toNat []).length) c1_), (26, .bool false), (0, .slice Ap0 a0.length cp0), (8, .slice Ap0 a0.length cp0), (9, i6 (a0.length : Int)), (10, i6 x1)] ?_
        obtain ⟨t1, hA1, H⟩ := bnd H
        refine RL.callM (L1 := []) (L2 := []) (X1 := []) (X2 := []) rfl rfl 27 [.slice A1_ ((a0.getD (x1).toNat []).length) c1_, .func (.func 28) #[] #[]] (some 28) (fun w => slices_ContainsFunc_int64_int64s0.Post (SM [] []) (a0.getD (x1).toNat []) A1_ c1_ I2 w t1) (by kernel_rfl) (by kernel_rfl) (fun w hs => slices_ContainsFunc_int64_int64s0.calls kq1 I2 (a0.getD (x1).toNat []) A1_ c1_ w hs hl1_ hr1_ t1 hA1) ?_
        rintro w v w' hs ⟨I4, rfl, hg⟩
        have hi4 : Imm.le I2 I4 := hg.le
        refine RL.resume (L' := []) (X' := []) rfl (hs.outof hg) ?_
        clear hs hg
        generalize w'.heap.size = nx4
        clear w w'
        refine RL.s 1 [(29, .bool t1), (0, .slice Ap0 a0.length cp0), (8, .slice Ap0 a0.length cp0), (9, i6 (a0.length : Int)), (10, i6 x1)] ?_
        refine RL.nil (by kernel_rfl) ?_
        obtain rfl := Option.some.inj H
        exact QN.sb (hJ3 _ _ _ _ _ ⟨t1, rfl, rfl, rfl, hi4, HK2⟩) .slnil (.refl _)
    ·skip
     have hc := (of_decide_eq_false hb)
     rw [if_neg hc] at H
     clear hb
     refine OK.ex 0 ?_
     refine QN.thenE ?_
     refine QN.outE hQ2 ?_
     refine QN.blkE ?_
     obtain rfl := Option.some.inj H
     exact QN.sb (hJ1 _ _ _ _ _ ⟨rfl, rfl, rfl, hi2, HK1⟩) .slnil (.refl _)

end Go.Proofs.Ytdmhbcgmimfjcaa
namespace Go.Proofs.Ytdmhbcgmimfjcaa
open Go Go.Proofs.Ytdmhbcgmimfjcaa.RW
set_option linter.unusedVariables false
set_option maxRecDepth 100000
set_option maxHeartbeats 8000000

/-! ### armillaryref22_Same: function 17, armillary/armillaryref22.Same -/
noncomputable def K17_0 : Code := cBody Try.f17
noncomputable def O17_29 : List Oper := cOps (cL (cL (cL (cR (cL (cL (cR (cL (cR (cR K17_0))))))))))
def armillaryref22_Same.k1  : (Unit) ⊕ (Bool) → Option (Bool)
 | .inl () => (some true)
 | .inr r_ => some r_
def armillaryref22_Same.l1 (a0 : List Int) (a1 : List Int) : Nat → Int → Option ((Unit) ⊕ (Bool))
 | 0, _ => none
 | k + 1, x1 => (if x1 < (a0.length : Int) then (if 0 ≤ x1 then (if x1 < (a0.length : Int) then (if 0 ≤ x1 then (if x1 < (a1.length : Int) then (if (a0.getD (x1).toNat 0) ≠ (a1.getD (x1).toNat 0) then (some (Sum.inr false)) else (armillaryref22_Same.l1 a0 a1 k (W .i64 (x1 + 1)))) else none) else none) else none) else none) else (some (Sum.inl ())))
def armillaryref22_Same.f (k : Nat) (a0 : List Int) (a1 : List Int) : Option (Bool) := (if (a0.length : Int) ≠ (a1.length : Int) then (some false) else ((armillaryref22_Same.l1 a0 a1 k 0).bind (armillaryref22_Same.k1)))
def armillaryref22_Same.Post (I : Imm) (w : World) (r : Bool) (v : Value) (w' : World) : Prop :=
 ∃ (J : Imm), v = .bool r ∧ Got w w' I J []
noncomputable def a17_29n : List Nat := [0, 0, 3, 7, 0, 0, 48, 112, 255]
theorem a17_29 : ancs O17_29 [] = a17_29n := by kernel_rfl
theorem a17_29o : drawOk O17_29 a17_29n 8 = true := by kernel_rfl
noncomputable def u17d1l  : List Ld :=
 []
noncomputable def u17d1g (x1 : Int) (g1_ : Nat) (o1_ : Nat) (g2_ : Nat) (o2_ : Nat) : List (Nat × ((Nat → Wt) → Value)) := [(2, fun u => pt g1_ (o1_ + (x1).toNat * 1)), (6, fun u => pt g2_ (o2_ + (x1).toNat * 1))]
noncomputable def u17d1q (a0 : List Int) (Ap0 : Option Addr) (cp0 : Nat) (a1 : List Int) (Ap1 : Option Addr) (cp1 : Nat) (x1 : Int) (g1_ : Nat) (o1_ : Nat) (g2_ : Nat) (o2_ : Nat) (u : Nat → Wt) : Option (List Value × List (Nat × Value) × List (Nat × Nat)) := qSim Try.prog [(⟨g1_, o1_ + (x1).toNat * 1, none⟩, i6 (a0.getD (x1).toNat 0)), (⟨g2_, o2_ + (x1).toNat * 1, none⟩, i6 (a1.getD (x1).toNat 0))] [] O17_29 ⟨26, []⟩ (Ld.vl u17d1l) (u17d1g x1 g1_ o1_ g2_ o2_) u [.no, .no, .no, .r 0, .no, .no, .no, .r 1] 0 (O17_29.take 8) [(14, .bool (decide (x1 < (a0.length : Int)))), (0, .slice Ap0 a0.length cp0), (1, .slice Ap1 a1.length cp1), (5, i6 x1)]
noncomputable def u17d1s (a0 : List Int) (Ap0 : Option Addr) (cp0 : Nat) (a1 : List Int) (Ap1 : Option Addr) (cp1 : Nat) (x1 : Int) (g1_ : Nat) (o1_ : Nat) (g2_ : Nat) (o2_ : Nat) (u : Nat → Wt) : List Value := [.slice Ap0 a0.length cp0, i6 x1, pt g1_ (o1_ + (x1).toNat * 1), i6 (a0.getD (x1).toNat 0), .slice Ap1 a1.length cp1, i6 x1, pt g2_ (o2_ + (x1).toNat * 1), i6 (a1.getD (x1).toNat 0)]
noncomputable def u17d1f (a0 : List Int) (Ap0 : Option Addr) (cp0 : Nat) (a1 : List Int) (Ap1 : Option Addr) (cp1 : Nat) (x1 : Int) (g1_ : Nat) (o1_ : Nat) (g2_ : Nat) (o2_ : Nat) (i : Nat) (u : Nat → Wt) : List (Nat × Value) := foldPut ⟨26, []⟩ [(14, .bool (decide (x1 < (a0.length : Int)))), (0, .slice Ap0 a0.length cp0), (1, .slice Ap1 a1.length cp1), (5, i6 x1)] (O17_29.take i) (((u17d1s a0 Ap0 cp0 a1 Ap1 cp1 x1 g1_ o1_ g2_ o2_) u).take i)
theorem u17d1v (a0 : List Int) (Ap0 : Option Addr) (cp0 : Nat) (a1 : List Int) (Ap1 : Option Addr) (cp1 : Nat) (x1 : Int) (g1_ : Nat) (o1_ : Nat) (g2_ : Nat) (o2_ : Nat) (u : Nat → Wt) : (u17d1q a0 Ap0 cp0 a1 Ap1 cp1 x1 g1_ o1_ g2_ o2_ u).map (fun x => (x.1, x.2.1)) = some ((u17d1s a0 Ap0 cp0 a1 Ap1 cp1 x1 g1_ o1_ g2_ o2_) u, (u17d1f a0 Ap0 cp0 a1 Ap1 cp1 x1 g1_ o1_ g2_ o2_ 8) u) := by kernel_rfl
theorem u17d1e (a0 : List Int) (Ap0 : Option Addr) (cp0 : Nat) (a1 : List Int) (Ap1 : Option Addr) (cp1 : Nat) (x1 : Int) (g1_ : Nat) (o1_ : Nat) (g2_ : Nat) (o2_ : Nat) (u : Nat → Wt) : (u17d1q a0 Ap0 cp0 a1 Ap1 cp1 x1 g1_ o1_ g2_ o2_ u).map (fun x => x.2.2.map (·.1)) = (u17d1q a0 Ap0 cp0 a1 Ap1 cp1 x1 g1_ o1_ g2_ o2_ u).map (fun x => x.2.2.map (·.2)) := by kernel_rfl
theorem armillaryref22_Same.calls (k : Nat) (I0 : Imm) (a0 : List Int) (Ap0 : Option Addr) (cp0 : Nat) (a1 : List Int) (Ap1 : Option Addr) (cp1 : Nat) (w : World) (hI : I0.at_ w) (hlp0 : a0.length ≤ cp0) (hrp0 : Rd (Ty.int .i64) I0 Ap0 a0) (hlp1 : a1.length ≤ cp1) (hrp1 : Rd (Ty.int .i64) I0 Ap1 a1) (r : Bool) (h : armillaryref22_Same.f k a0 a1 = some r) :
  Calls Try.prog 17 [.slice Ap0 a0.length cp0, .slice Ap1 a1.length cp1].toArray w fun e w' => ∃ v, e = .returned v ∧ armillaryref22_Same.Post I0 w r v w' := by
 have H : (if (a0.length : Int) ≠ (a1.length : Int) then (some false) else ((armillaryref22_Same.l1 a0 a1 k 0).bind (armillaryref22_Same.k1))) = some r := h
 clear h
 refine calls_body Try.func17 (by kernel_rfl) 26 (by kernel_rfl) (by kernel_rfl) ⟨w, fun _ => False, I0⟩ I0 [] [(0, .slice Ap0 a0.length cp0), (1, .slice Ap1 a1.length cp1)] (by kernel_rfl) (Sat.start w _ I0 hI) ?_
 generalize w.heap.size = nx0
 show OK _ K17_0 _ _ _ _ _ _ _ _
 refine OK.sr ?_
 refine RL.st 1 [(0, .slice Ap0 a0.length cp0), (1, .slice Ap1 a1.length cp1)] ?_
 refine OK.sq ?_
 refine OK.sr ?_
 refine RL.st 5 [(10, .bool ((a0.length : Int) != (a1.length : Int))), (0, .slice Ap0 a0.length cp0), (1, .slice Ap1 a1.length cp1)] ?_
 refine OK.cd ((a0.length : Int) != (a1.length : Int)) (fun hb => ?_) (fun hb => ?_)
 ·skip
  have hc := (bne_iff_ne.1 hb)
  rw [if_pos hc] at H
  clear hb
  refine OK.sr ?_
  refine RL.st 1 [(4, .bool false)] ?_
  refine OK.re ?_
  refine QN.thenR ?_
  obtain rfl := Option.some.inj H
  refine QN.body rfl [] (RFacts.nil _ _ _) (.no) (.bool false) (by kernel_rfl) (by kernel_rfl) (by kernel_rfl) ?_ _ (.inr rfl)
  exact fun w' hs' => ⟨_, rfl, I0, rfl, hs'.got _ .slnil⟩
 ·skip
  have hc := (not_not_intro (bne_eq_false_iff_eq.1 hb))
  rw [if_neg hc] at H
  clear hb
  refine OK.skt ?_
  refine OK.sq ?_
  refine OK.sr ?_
  refine RL.st 1 [(5, i6 0), (0, .slice Ap0 a0.length cp0), (1, .slice Ap1 a1.length cp1)] ?_
  refine OK.join (fun K' I' _ L' X' => K' = [] ∧ L' = [] ∧ X' = [] ∧ Imm.le I0 I' ∧ armillaryref22_Same.k1 (Sum.inl ()) = some r) ?_ ?_
  ·rintro _ I1 nx1 _ _ ⟨rfl, rfl, rfl, hi1, H⟩
   rw [armillaryref22_Same.k1] at H
   refine QN.then_ ?_
   refine OK.sr ?_
   refine RL.st 1 [(4, .bool true)] ?_
   refine OK.re ?_
   obtain rfl := Option.some.inj H
   refine QN.body rfl [] (RFacts.nil _ _ _) (.no) (.bool true) (by kernel_rfl) (by kernel_rfl) (by kernel_rfl) ?_ _ (.inr rfl)
   exact fun w' hs' => ⟨_, rfl, I1, rfl, hs'.got _ .slnil⟩
  ·intro Q_1 hJ1 hQ1
   obtain ⟨y1, H, HK1⟩ := bnd H
   refine OK.bk 0 ?_
   refine OK.sub (K' := [(0, .slice Ap0 a0.length cp0), (1, .slice Ap1 a1.length cp1), (5, i6 0)]) (L' := []) (by kernel_rfl) .slnil (.refl _) ?_
   refine OK.lp (fun n_ K' I' _ L' X' => ∃ (x1 : Int), K' = [(0, .slice Ap0 a0.length cp0), (1, .slice Ap1 a1.length cp1), (5, i6 x1)] ∧ L' = [] ∧ X' = [] ∧ Imm.le I0 I' ∧ armillaryref22_Same.l1 a0 a1 n_ x1 = some y1) k ⟨0, rfl, rfl, rfl, (Imm.le_refl _), H⟩ ?_ ?_
   ·rintro _ _ _ _ _ ⟨x1, rfl, rfl, rfl, _, H⟩
    cases H
   ·rintro kq1 _ I2 nx2 _ _ ⟨x1, rfl, rfl, rfl, hi2, H⟩ Q_l1 hJ2 hQ2
    rw [armillaryref22_Same.l1] at H
    refine OK.sq ?_
    refine OK.sr ?_
    refine RL.st 4 [(14, .bool (decide (x1 < (a0.length : Int)))), (0, .slice Ap0 a0.length cp0), (1, .slice Ap1 a1.length cp1), (5, i6 x1)] ?_
    refine OK.cd (decide (x1 < (a0.length : Int))) (fun hb => ?_) (fun hb => ?_)
    ·skip
     have hc := (of_decide_eq_true hb)
     rw [if_pos hc] at H
     clear hb
     refine OK.skt ?_
     refine OK.sq ?_
     refine OK.bk 1 ?_
     refine OK.sq ?_
     obtain ⟨hi0_1, H⟩ := ifs H
     obtain ⟨hi1_1, H⟩ := ifs H
     obtain ⟨g1_, o1_, hA1_, hc1_⟩ := Ty.int_at (Rd.ext hi2 hrp0) x1 hi0_1 hi1_1
     obtain ⟨hi0_2, H⟩ := ifs H
     obtain ⟨hi1_2, H⟩ := ifs H
     obtain ⟨g2_, o2_, hA2_, hc2_⟩ := Ty.int_at (Rd.ext hi2 hrp1) x1 hi0_2 hi1_2
     refine OK.drawnC 6 8 O17_29 a17_29n (by kernel_rfl) (by kernel_rfl) u17d1l (u17d1g x1 g1_ o1_ g2_ o2_) [(⟨g1_, o1_ + (x1).toNat * 1, none⟩, i6 (a0.getD (x1).toNat 0)), (⟨g2_, o2_ + (x1).toNat * 1, none⟩, i6 (a1.getD (x1).toNat 0))] (RI.cons (hc1_ 0 _ rfl) (RI.cons (hc2_ 0 _ rfl) (RI.nil _))) [.no, .no, .no, .r 0, .no, .no, .no, .r 1] a17_29 a17_29o (by kernel_rfl) (by kernel_rfl) (u17d1s a0 Ap0 cp0 a1 Ap1 cp1 x1 g1_ o1_ g2_ o2_) (u17d1f a0 Ap0 cp0 a1 Ap1 cp1 x1 g1_ o1_ g2_ o2_ 8) (u17d1v a0 Ap0 cp0 a1 Ap1 cp1 x1 g1_ o1_ g2_ o2_) (u17d1e a0 Ap0 cp0 a1 Ap1 cp1 x1 g1_ o1_ g2_ o2_) [] framesOk.nil ?_ [u17d1f a0 Ap0 cp0 a1 Ap1 cp1 x1 g1_ o1_ g2_ o2_ 2, u17d1f a0 Ap0 cp0 a1 Ap1 cp1 x1 g1_ o1_ g2_ o2_ 6] (framesOk.cons (fun u => rfl) (framesOk.cons (fun u => rfl) framesOk.nil)) ?_ ?_
     ·refine LoudsG.nil
     ·refine Givens.cons (fun u w =>  ?_) (fun _ _ _ => rfl) (Givens.cons (fun u w =>  ?_) (fun _ _ _ => rfl) (Givens.nil))
      ·exact giv_idx (T := 23) (e := 3) 1 .i64 x1 hA1_ a0.length cp0 (by kernel_rfl) (by kernel_rfl) (by kernel_rfl) hi0_1 hi1_1 w
      ·exact giv_idx (T := 23) (e := 3) 1 .i64 x1 hA2_ a1.length cp1 (by kernel_rfl) (by kernel_rfl) (by kernel_rfl) hi0_2 hi1_2 w
     intro u I3 nx3 hi3 hF
     clear hF
     refine RL.norm (K' := [(24, i6 (a1.getD (x1).toNat 0)), (23, pt g2_ (o2_ + (x1).toNat * 1)), (22, i6 x1), (21, .slice Ap1 a1.length cp1), (20, i6 (a0.getD (x1).toNat 0)), (19, pt g1_ (o1_ + (x1).toNat * 1)), (18, i6 x1), (17, .slice Ap0 a0.length cp0), (14, .bool (decide (x1 < (a0.length : Int)))), (0, .slice Ap0 a0.length cp0), (1, .slice Ap1 a1.length cp1), (5, i6 x1)]) (X' := []) (by kernel_rfl) rfl rfl rfl ?_
     refine RL.st 1 [(25, .bool ((a0.getD (x1).toNat 0) != (a1.getD (x1).toNat 0))), (0, .slice Ap0 a0.length cp0), (1, .slice Ap1 a1.length cp1), (5, i6 x1)] ?_
     refine OK.cd ((a0.getD (x1).toNat 0) != (a1.getD (x1).toNat 0)) (fun hb => ?_) (fun hb => ?_)
     ·skip
      have hc := (bne_iff_ne.1 hb)
      rw [if_pos hc] at H
      clear hb
      refine OK.sr ?_
      refine RL.st 1 [(4, .bool false)] ?_
      refine OK.re ?_
      refine QN.blkR ?_
      refine QN.thenR ?_
      refine QN.outR hQ2 ?_
      refine QN.blkR ?_
      refine QN.outR hQ1 ?_
      refine QN.thenR ?_
      obtain rfl := Option.some.inj H
      replace H : some false = some r := HK1
      obtain rfl := Option.some.inj H
      refine QN.body rfl [] (RFacts.nil _ _ _) (.no) (.bool false) (by kernel_rfl) (by kernel_rfl) (by kernel_rfl) ?_ _ (.inr rfl)
      exact fun w' hs' => ⟨_, rfl, I3, rfl, hs'.got _ .slnil⟩
     ·skip
      have hc := (not_not_intro (bne_eq_false_iff_eq.1 hb))
      rw [if_neg hc] at H
      clear hb
      refine OK.sk ?_
      refine QN.blkN ?_
      refine QN.then_ ?_
      refine OK.rg ?_
      refine RL.s 3 [(5, i6 (W .i64 (x1 + 1))), (0, .slice Ap0 a0.length cp0), (1, .slice Ap1 a1.length cp1)] ?_
      refine RL.nil (by kernel_rfl) ?_
      exact QN.sb (hJ2 _ _ _ _ _ ⟨W .i64 (x1 + 1), rfl, rfl, rfl, (Imm.le_trans hi2 hi3), H⟩) .slnil (.refl _)
    ·skip
     have hc := (of_decide_eq_false hb)
     rw [if_neg hc] at H
     clear hb
     refine OK.ex 0 ?_
     refine QN.thenE ?_
     refine QN.outE hQ2 ?_
     refine QN.blkE ?_
     obtain rfl := Option.some.inj H
     exact QN.sb (hJ1 _ _ _ _ _ ⟨rfl, rfl, rfl, hi2, HK1⟩) .slnil (.refl _)

end Go.Proofs.Ytdmhbcgmimfjcaa
