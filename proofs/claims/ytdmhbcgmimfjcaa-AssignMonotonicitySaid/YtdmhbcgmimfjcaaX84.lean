/- Words of the walk, the functions' walks and plain laws, joined; no conditions beyond those that the theorems name. -/
import Derived.Test.YtdmhbcgmimfjcaaX82
import Derived.Test.YtdmhbcgmimfjcaaX83
namespace Go.Proofs.Ytdmhbcgmimfjcaa
open Go Go.Proofs.Ytdmhbcgmimfjcaa.RW
set_option linter.unusedVariables false
set_option maxRecDepth 100000
set_option maxHeartbeats 8000000

/-! ### assign_pad: function 30, armillary/assign.pad -/
noncomputable def K30_0 : Code := cBody Try.f30
def assign_pad.k1  (x1 : List Int) : Option (List Int) := (some x1)
def assign_pad.k3  (x5 : List Int) : Option (List Int) := (some x5)
def assign_pad.l2 (a0 : List (List Int)) (a2 : List Bool) (x3 : Int) : Nat → (List Int) → Int → Option (List Int)
 | 0, _, _ => none
 | k + 1, x6, x7 => (if x7 < ((a0.getD (x3).toNat []).length : Int) then (if 0 ≤ x7 then (if x7 < ((a0.getD (x3).toNat []).length : Int) then (if 0 ≤ x7 then (if x7 < (a2.length : Int) then ((if (a2.getD (x7).toNat false) = true then (some x6) else (if 0 ≤ x3 then (if x3 < (12 : Int) then (if 0 ≤ x7 then (if x7 < (12 : Int) then (some (x6.set ((x3).toNat * 12 + (x7).toNat) ((a0.getD (x3).toNat []).getD (x7).toNat 0))) else none) else none) else none) else none)).bind (fun x8 => (assign_pad.l2 a0 a2 x3 k x8 (W .i64 (x7 + 1))))) else none) else none) else none) else none) else (some x6))
def assign_pad.l1 (a0 : List (List Int)) (a2 : List Bool) : Nat → (List Int) → Int → Option (List Int)
 | 0, _, _ => none
 | k + 1, x2, x3 => (if x3 < (a0.length : Int) then ((if 0 ≤ x3 then (if x3 < (a0.length : Int) then ((assign_pad.l2 a0 a2 x3 k x2 0).bind (assign_pad.k3)) else none) else none).bind (fun x4 => (assign_pad.l1 a0 a2 k x4 (W .i64 (x3 + 1))))) else (some x2))
def assign_pad.f (k : Nat) (a0 : List (List Int)) (a1 : Int) (a2 : List Bool) : Option (List Int) := ((assign_pad.l1 a0 a2 k (List.replicate 144 0) a1).bind (assign_pad.k1))
def assign_pad.Post (I : Imm) (w : World) (r : List Int) (v : Value) (w' : World) : Prop :=
 ∃ (J : Imm), v = .agg (arrV (Value.int .i64) 0 144 r).toArray ∧ Got w w' I J [] ∧ 144 ≤ r.length
theorem assign_pad.calls (k : Nat) (I0 : Imm) (a0 : List (List Int)) (Ap0 : Option Addr) (cp0 : Nat) (a1 : Int) (a2 : List Bool) (Ap2 : Option Addr) (cp2 : Nat) (w : World) (hI : I0.at_ w) (hlp0 : a0.length ≤ cp0) (hrp0 : Rd (Ty.slice (Ty.int .i64)) I0 Ap0 a0) (hlp2 : a2.length ≤ cp2) (hrp2 : Rd Ty.bool I0 Ap2 a2) (r : List Int) (h : assign_pad.f k a0 a1 a2 = some r) :
  Calls Try.prog 30 [.slice Ap0 a0.length cp0, i6 a1, .slice Ap2 a2.length cp2].toArray w fun e w' => ∃ v, e = .returned v ∧ assign_pad.Post I0 w r v w' := by
 have H : ((assign_pad.l1 a0 a2 k (List.replicate 144 0) a1).bind (assign_pad.k1)) = some r := h
 clear h
 refine calls_body Try.func30 (by kernel_rfl) 40 (by kernel_rfl) (by kernel_rfl) ⟨w, fun _ => False, I0⟩ I0 [] [(0, .slice Ap0 a0.length cp0), (1, i6 a1), (2, .slice Ap2 a2.length cp2)] (by kernel_rfl) (Sat.start w _ I0 hI) ?_
 generalize w.heap.size = nx0
 show OK _ K30_0 _ _ _ _ _ _ _ _
 refine OK.sr ?_
 refine RL.spt 1 [(6, pt nx0 0), (0, .slice Ap0 a0.length cp0), (1, i6 a1), (2, .slice Ap2 a2.length cp2)] (nx0 + 1) [⟨nx0, arrV (Value.int .i64) 0 144 (List.replicate 144 0), 54⟩] ?_
 refine OK.sr ?_
 refine RL.spt 1 [(7, pt (nx0 + 1) 0), (6, pt nx0 0), (0, .slice Ap0 a0.length cp0), (1, i6 a1), (2, .slice Ap2 a2.length cp2)] (nx0 + 2) [⟨nx0, arrV (Value.int .i64) 0 144 (List.replicate 144 0), 54⟩, ⟨nx0 + 1, arrV (Value.int .i64) 0 144 (List.replicate 144 0), 54⟩] ?_
 refine OK.sq ?_
 refine OK.sr ?_
 refine RL.st 2 [(8, i6 a1), (7, pt (nx0 + 1) 0), (6, pt nx0 0), (0, .slice Ap0 a0.length cp0), (2, .slice Ap2 a2.length cp2)] ?_
 refine OK.join (fun K' I' _ L' X' => ∃ (x1 : List Int), K' = [(6, pt nx0 0), (7, pt (nx0 + 1) 0)] ∧ L' = [⟨nx0, arrV (Value.int .i64) 0 144 (List.replicate 144 0), 54⟩, ⟨nx0 + 1, arrV (Value.int .i64) 0 144 x1, 54⟩] ∧ X' = [] ∧ Imm.le I0 I' ∧ 144 ≤ x1.length ∧ assign_pad.k1 x1 = some r) ?_ ?_
 ·rintro _ I1 nx1 _ _ ⟨x1, rfl, rfl, rfl, hi1, hz1, H⟩
  rw [assign_pad.k1] at H
  refine QN.then_ ?_
  refine OK.sr ?_
  refine RL.simP (K' := [(6, pt nx0 0)]) (nx' := nx1) (L' := [⟨nx0, arrV (Value.int .i64) 0 144 x1, 54⟩, ⟨nx0 + 1, arrV (Value.int .i64) 0 144 x1, 54⟩]) [] (RFacts.nil _ _ _) 2 [.l 1, .l 0] (by kernel_rfl) (by kernel_rfl) ?_
  refine RL.nt ?_
  refine OK.re ?_
  obtain rfl := Option.some.inj H
  refine QN.body rfl [] (RFacts.nil _ _ _) (.l 0) (.agg (arrV (Value.int .i64) 0 144 x1).toArray) (by kernel_rfl) (by kernel_rfl) (by kernel_rfl) ?_ _ (.inr rfl)
  exact fun w' hs' => ⟨_, rfl, I1, rfl, hs'.got _ .slnil, hz1⟩
 ·intro Q_1 hJ1 hQ1
  obtain ⟨y1, H, HK1⟩ := bnd H
  refine OK.bk 0 ?_
  refine OK.sub (K' := [(0, .slice Ap0 a0.length cp0), (2, .slice Ap2 a2.length cp2), (6, pt nx0 0), (7, pt (nx0 + 1) 0), (8, i6 a1)]) (L' := [⟨nx0, arrV (Value.int .i64) 0 144 (List.replicate 144 0), 54⟩, ⟨nx0 + 1, arrV (Value.int .i64) 0 144 (List.replicate 144 0), 54⟩]) (by kernel_rfl) (.cons_cons _ (.cons_cons _ .slnil)) (.refl _) ?_
  refine OK.lp (fun n_ K' I' _ L' X' => ∃ (x2 : List Int) (x3 : Int), K' = [(0, .slice Ap0 a0.length cp0), (2, .slice Ap2 a2.length cp2), (6, pt nx0 0), (7, pt (nx0 + 1) 0), (8, i6 x3)] ∧ L' = [⟨nx0, arrV (Value.int .i64) 0 144 (List.replicate 144 0), 54⟩, ⟨nx0 + 1, arrV (Value.int .i64) 0 144 x2, 54⟩] ∧ X' = [] ∧ Imm.le I0 I' ∧ 144 ≤ x2.length ∧ assign_pad.l1 a0 a2 n_ x2 x3 = some y1) k ⟨(List.replicate 144 0), a1, rfl, rfl, rfl, (Imm.le_refl _), (Nat.le_of_eq List.length_replicate.symm), H⟩ ?_ ?_
  ·rintro _ _ _ _ _ ⟨x2, x3, rfl, rfl, rfl, _, hz2, H⟩
   cases H
  ·rintro kq1 _ I2 nx2 _ _ ⟨x2, x3, rfl, rfl, rfl, hi2, hz2, H⟩ Q_l1 hJ2 hQ2
   rw [assign_pad.l1] at H
   refine OK.sq ?_
   refine OK.sr ?_
   refine RL.st 4 [(15, .bool (decide (x3 < (a0.length : Int)))), (0, .slice Ap0 a0.length cp0), (2, .slice Ap2 a2.length cp2), (6, pt nx0 0), (7, pt (nx0 + 1) 0), (8, i6 x3)] ?_
   refine OK.cd (decide (x3 < (a0.length : Int))) (fun hb => ?_) (fun hb => ?_)
   ·skip
    have hc := (of_decide_eq_true hb)
    rw [if_pos hc] at H
    clear hb
    refine OK.skt ?_
    refine OK.sq ?_
    refine OK.join (fun K' I' _ L' X' => ∃ (x4 : List Int), K' = [(0, .slice Ap0 a0.length cp0), (2, .slice Ap2 a2.length cp2), (6, pt nx0 0), (7, pt (nx0 + 1) 0), (8, i6 x3)] ∧ L' = [⟨nx0, arrV (Value.int .i64) 0 144 (List.replicate 144 0), 54⟩, ⟨nx0 + 1, arrV (Value.int .i64) 0 144 x4, 54⟩] ∧ X' = [] ∧ Imm.le I2 I' ∧ 144 ≤ x4.length ∧ (assign_pad.l1 a0 a2 kq1 x4 (W .i64 (x3 + 1))) = some y1) ?_ ?_
    ·rintro _ I3 nx3 _ _ ⟨x4, rfl, rfl, rfl, hi3, hz3, H⟩
     replace H : (assign_pad.l1 a0 a2 kq1 x4 (W .i64 (x3 + 1))) = some y1 := H
     refine QN.then_ ?_
     refine OK.rg ?_
     refine RL.s 3 [(8, i6 (W .i64 (x3 + 1))), (0, .slice Ap0 a0.length cp0), (2, .slice Ap2 a2.length cp2), (6, pt nx0 0), (7, pt (nx0 + 1) 0)] ?_
     refine RL.nil (by kernel_rfl) ?_
     exact QN.sb (hJ2 _ _ _ _ _ ⟨x4, W .i64 (x3 + 1), rfl, rfl, rfl, (Imm.le_trans hi2 hi3), hz3, H⟩) (.cons_cons _ (.cons_cons _ .slnil)) (.refl _)
    ·intro Q_2 hJ3 hQ3
     obtain ⟨y2, H, HK2⟩ := bnd H
     refine OK.bk 1 ?_
     refine OK.sr ?_
     refine RL.s 2 [(19, i6 x3), (18, .slice Ap0 a0.length cp0), (0, .slice Ap0 a0.length cp0), (2, .slice Ap2 a2.length cp2), (6, pt nx0 0), (7, pt (nx0 + 1) 0), (8, i6 x3)] ?_
     obtain ⟨hib0, H⟩ := ifs H
     obtain ⟨hib1, H⟩ := ifs H
     obtain ⟨g1_, o1_, hA1_, A1_, c1_, hl1_, hr1_, hc1_⟩ := Ty.slice_at (Rd.ext hi2 hrp0) x3 hib0 hib1
     refine RL.idx 1 .i64 x3 hA1_ a0.length cp0 (some 20) (by kernel_rfl) (by kernel_rfl) (T := 22) (e := 24) (by kernel_rfl) (by kernel_rfl) hib0 hib1 (K' := [(20, pt g1_ (o1_ + (x3).toNat * 1)), (19, i6 x3), (18, .slice Ap0 a0.length cp0), (0, .slice Ap0 a0.length cp0), (2, .slice Ap2 a2.length cp2), (6, pt nx0 0), (7, pt (nx0 + 1) 0), (8, i6 x3)]) (by kernel_rfl) ?_
     refine RL.simK (K' := [(23, i6 0), (22, i6 ((a0.getD (x3).toNat []).length : Int)), (21, .slice A1_ ((a0.getD (x3).toNat []).length) c1_), (0, .slice Ap0 a0.length cp0), (2, .slice Ap2 a2.length cp2), (6, pt nx0 0), (7, pt (nx0 + 1) 0), (8, i6 x3)]) [(⟨g1_, o1_ + (x3).toNat * 1, none⟩, .slice A1_ ((a0.getD (x3).toNat []).length) c1_)] (RFacts.imm (hc1_ 0 _ rfl) (RFacts.nil _ _ _)) 3 [.r 0, .no, .no] (by kernel_rfl) (by kernel_rfl) ?_
     refine RL.nt ?_
     refine OK.join (fun K' I' _ L' X' => ∃ (x5 : List Int), K' = [(0, .slice Ap0 a0.length cp0), (2, .slice Ap2 a2.length cp2), (6, pt nx0 0), (7, pt (nx0 + 1) 0), (8, i6 x3)] ∧ L' = [⟨nx0, arrV (Value.int .i64) 0 144 (List.replicate 144 0), 54⟩, ⟨nx0 + 1, arrV (Value.int .i64) 0 144 x5, 54⟩] ∧ X' = [] ∧ Imm.le I2 I' ∧ 144 ≤ x5.length ∧ assign_pad.k3 x5 = some y2) ?_ ?_
     ·rintro _ I4 nx4 _ _ ⟨x5, rfl, rfl, rfl, hi4, hz4, H⟩
      rw [assign_pad.k3] at H
      refine QN.blkN ?_
      obtain rfl := Option.some.inj H
      exact QN.sb (hJ3 _ _ _ _ _ ⟨x5, rfl, rfl, rfl, hi4, hz4, HK2⟩) (.cons_cons _ (.cons_cons _ .slnil)) (.refl _)
     ·intro Q_3 hJ4 hQ4
      obtain ⟨y3, H, HK3⟩ := bnd H
      refine OK.bk 2 ?_
      refine OK.sub (K' := [(0, .slice Ap0 a0.length cp0), (2, .slice Ap2 a2.length cp2), (6, pt nx0 0), (7, pt (nx0 + 1) 0), (8, i6 x3), (21, .slice A1_ ((a0.getD (x3).toNat []).length) c1_), (22, i6 ((a0.getD (x3).toNat []).length : Int)), (23, i6 0)]) (L' := [⟨nx0, arrV (Value.int .i64) 0 144 (List.replicate 144 0), 54⟩, ⟨nx0 + 1, arrV (Value.int .i64) 0 144 x2, 54⟩]) (by kernel_rfl) (.cons_cons _ (.cons_cons _ .slnil)) (.refl _) ?_
      refine OK.lp (fun n_ K' I' _ L' X' => ∃ (x6 : List Int) (x7 : Int), K' = [(0, .slice Ap0 a0.length cp0), (2, .slice Ap2 a2.length cp2), (6, pt nx0 0), (7, pt (nx0 + 1) 0), (8, i6 x3), (21, .slice A1_ ((a0.getD (x3).toNat []).length) c1_), (22, i6 ((a0.getD (x3).toNat []).length : Int)), (23, i6 x7)] ∧ L' = [⟨nx0, arrV (Value.int .i64) 0 144 (List.replicate 144 0), 54⟩, ⟨nx0 + 1, arrV (Value.int .i64) 0 144 x6, 54⟩] ∧ X' = [] ∧ Imm.le I2 I' ∧ 144 ≤ x6.length ∧ assign_pad.l2 a0 a2 x3 n_ x6 x7 = some y3) kq1 ⟨x2, 0, rfl, rfl, rfl, (Imm.le_refl _), hz2, H⟩ ?_ ?_
      ·rintro _ _ _ _ _ ⟨x6, x7, rfl, rfl, rfl, _, hz5, H⟩
       cases H
      ·rintro kq2 _ I5 nx5 _ _ ⟨x6, x7, rfl, rfl, rfl, hi5, hz5, H⟩ Q_l2 hJ5 hQ5
       rw [assign_pad.l2] at H
       refine OK.sr ?_
       refine RL.st 1 [(24, .bool (decide (x7 < ((a0.getD (x3).toNat []).length : Int)))), (0, .slice Ap0 a0.length cp0), (2, .slice Ap2 a2.length cp2), (6, pt nx0 0), (7, pt (nx0 + 1) 0), (8, i6 x3), (21, .slice A1_ ((a0.getD (x3).toNat []).length) c1_), (22, i6 ((a0.getD (x3).toNat []).length : Int)), (23, i6 x7)] ?_
       refine OK.sq ?_
       refine OK.cd (decide (x7 < ((a0.getD (x3).toNat []).length : Int))) (fun hb => ?_) (fun hb => ?_)
       ·skip
        have hc := (of_decide_eq_true hb)
        rw [if_pos hc] at H
        clear hb
        refine OK.skt ?_
        refine OK.sq ?_
        refine OK.bk 3 ?_
        refine OK.sr ?_
        refine RL.s 1 [(25, i6 x7), (0, .slice Ap0 a0.length cp0), (2, .slice Ap2 a2.length cp2), (6, pt nx0 0), (7, pt (nx0 + 1) 0), (8, i6 x3), (21, .slice A1_ ((a0.getD (x3).toNat []).length) c1_), (22, i6 ((a0.getD (x3).toNat []).length : Int)), (23, i6 x7)] ?_
        obtain ⟨hib0, H⟩ := ifs H
        obtain ⟨hib1, H⟩ := ifs H
        obtain ⟨g2_, o2_, hA2_, hc2_⟩ := Ty.int_at (Rd.ext hi5 hr1_) x7 hib0 hib1
        refine RL.idx 1 .i64 x7 hA2_ ((a0.getD (x3).toNat []).length) c1_ (some 26) (by kernel_rfl) (by kernel_rfl) (T := 24) (e := 2) (by kernel_rfl) (by kernel_rfl) hib0 hib1 (K' := [(26, pt g2_ (o2_ + (x7).toNat * 1)), (25, i6 x7), (0, .slice Ap0 a0.length cp0), (2, .slice Ap2 a2.length cp2), (6, pt nx0 0), (7, pt (nx0 + 1) 0), (8, i6 x3), (21, .slice A1_ ((a0.getD (x3).toNat []).length) c1_), (22, i6 ((a0.getD (x3).toNat []).length : Int)), (23, i6 x7)]) (by kernel_rfl) ?_
        refine RL.simK (K' := [(10, i6 ((a0.getD (x3).toNat []).getD (x7).toNat 0)), (9, i6 x7), (0, .slice Ap0 a0.length cp0), (2, .slice Ap2 a2.length cp2), (6, pt nx0 0), (7, pt (nx0 + 1) 0), (8, i6 x3), (21, .slice A1_ ((a0.getD (x3).toNat []).length) c1_), (22, i6 ((a0.getD (x3).toNat []).length : Int)), (23, i6 x7)]) [(⟨g2_, o2_ + (x7).toNat * 1, none⟩, i6 ((a0.getD (x3).toNat []).getD (x7).toNat 0))] (RFacts.imm (hc2_ 0 _ rfl) (RFacts.nil _ _ _)) 3 [.r 0, .no, .no] (by kernel_rfl) (by kernel_rfl) ?_
        refine RL.nt ?_
        refine OK.sr ?_
        refine RL.s 2 [(29, i6 x7), (28, .slice Ap2 a2.length cp2), (10, i6 ((a0.getD (x3).toNat []).getD (x7).toNat 0)), (9, i6 x7), (0, .slice Ap0 a0.length cp0), (2, .slice Ap2 a2.length cp2), (6, pt nx0 0), (7, pt (nx0 + 1) 0), (8, i6 x3), (21, .slice A1_ ((a0.getD (x3).toNat []).length) c1_), (22, i6 ((a0.getD (x3).toNat []).length : Int)), (23, i6 x7)] ?_
        obtain ⟨hib0, H⟩ := ifs H
        obtain ⟨hib1, H⟩ := ifs H
        obtain ⟨g3_, o3_, hA3_, hc3_⟩ := Ty.bool_at (Rd.ext (Imm.le_trans hi2 hi5) hrp2) x7 hib0 hib1
        refine RL.idx 1 .i64 x7 hA3_ a2.length cp2 (some 30) (by kernel_rfl) (by kernel_rfl) (T := 51) (e := 4) (by kernel_rfl) (by kernel_rfl) hib0 hib1 (K' := [(30, pt g3_ (o3_ + (x7).toNat * 1)), (29, i6 x7), (28, .slice Ap2 a2.length cp2), (10, i6 ((a0.getD (x3).toNat []).getD (x7).toNat 0)), (9, i6 x7), (0, .slice Ap0 a0.length cp0), (2, .slice Ap2 a2.length cp2), (6, pt nx0 0), (7, pt (nx0 + 1) 0), (8, i6 x3), (21, .slice A1_ ((a0.getD (x3).toNat []).length) c1_), (22, i6 ((a0.getD (x3).toNat []).length : Int)), (23, i6 x7)]) (by kernel_rfl) ?_
        refine RL.simK (K' := [(32, .bool (!(a2.getD (x7).toNat false))), (10, i6 ((a0.getD (x3).toNat []).getD (x7).toNat 0)), (9, i6 x7), (0, .slice Ap0 a0.length cp0), (2, .slice Ap2 a2.length cp2), (6, pt nx0 0), (7, pt (nx0 + 1) 0), (8, i6 x3), (21, .slice A1_ ((a0.getD (x3).toNat []).length) c1_), (22, i6 ((a0.getD (x3).toNat []).length : Int)), (23, i6 x7)]) [(⟨g3_, o3_ + (x7).toNat * 1, none⟩, .bool (a2.getD (x7).toNat false))] (RFacts.imm (hc3_ 0 _ rfl) (RFacts.nil _ _ _)) 2 [.r 0, .no] (by kernel_rfl) (by kernel_rfl) ?_
        refine RL.nt ?_
        refine OK.join (fun K' I' _ L' X' => ∃ (x8 : List Int), K' = [(0, .slice Ap0 a0.length cp0), (2, .slice Ap2 a2.length cp2), (6, pt nx0 0), (7, pt (nx0 + 1) 0), (8, i6 x3), (21, .slice A1_ ((a0.getD (x3).toNat []).length) c1_), (22, i6 ((a0.getD (x3).toNat []).length : Int)), (23, i6 x7)] ∧ L' = [⟨nx0, arrV (Value.int .i64) 0 144 (List.replicate 144 0), 54⟩, ⟨nx0 + 1, arrV (Value.int .i64) 0 144 x8, 54⟩] ∧ X' = [] ∧ Imm.le I5 I' ∧ 144 ≤ x8.length ∧ (assign_pad.l2 a0 a2 x3 kq2 x8 (W .i64 (x7 + 1))) = some y3) ?_ ?_
        ·rintro _ I6 nx6 _ _ ⟨x8, rfl, rfl, rfl, hi6, hz6, H⟩
         replace H : (assign_pad.l2 a0 a2 x3 kq2 x8 (W .i64 (x7 + 1))) = some y3 := H
         refine QN.blkN ?_
         refine QN.then_ ?_
         refine OK.rg ?_
         refine RL.s 2 [(23, i6 (W .i64 (x7 + 1))), (0, .slice Ap0 a0.length cp0), (2, .slice Ap2 a2.length cp2), (6, pt nx0 0), (7, pt (nx0 + 1) 0), (8, i6 x3), (21, .slice A1_ ((a0.getD (x3).toNat []).length) c1_), (22, i6 ((a0.getD (x3).toNat []).length : Int))] ?_
         refine RL.nil (by kernel_rfl) ?_
         exact QN.sb (hJ5 _ _ _ _ _ ⟨x8, W .i64 (x7 + 1), rfl, rfl, rfl, (Imm.le_trans hi5 hi6), hz6, H⟩) (.cons_cons _ (.cons_cons _ .slnil)) (.refl _)
        ·intro Q_4 hJ6 hQ6
         obtain ⟨y4, H, HK4⟩ := bnd H
         refine OK.cd (!(a2.getD (x7).toNat false)) (fun hb => ?_) (fun hb => ?_)
         ·have hb : (a2.getD (x7).toNat false) = false := by simpa using hb
          have hc := (Bool.eq_false_iff.1 hb)
          rw [if_neg hc] at H
          clear hb
          refine OK.rg ?_
          refine RL.s 3 [(35, i6 ((a0.getD (x3).toNat []).getD (x7).toNat 0)), (34, i6 x7), (33, i6 x3), (0, .slice Ap0 a0.length cp0), (2, .slice Ap2 a2.length cp2), (6, pt nx0 0), (7, pt (nx0 + 1) 0), (8, i6 x3), (21, .slice A1_ ((a0.getD (x3).toNat []).length) c1_), (22, i6 ((a0.getD (x3).toNat []).length : Int)), (23, i6 x7)] ?_
          obtain ⟨hib0, H⟩ := ifs H
          obtain ⟨hib1, H⟩ := ifs H
          have ha04 := hib0; have ha14 := hib1
          refine RL.idxArr (T := 54) (e := 52) 12 .i64 x3 (nx0 + 1) (0) 12 (some 36) (by kernel_rfl) (by kernel_rfl) (by kernel_rfl) (by kernel_rfl) hib0 hib1 (K' := [(36, pt (nx0 + 1) (0 + (x3).toNat * 12)), (35, i6 ((a0.getD (x3).toNat []).getD (x7).toNat 0)), (34, i6 x7), (33, i6 x3), (0, .slice Ap0 a0.length cp0), (2, .slice Ap2 a2.length cp2), (6, pt nx0 0), (7, pt (nx0 + 1) 0), (8, i6 x3), (21, .slice A1_ ((a0.getD (x3).toNat []).length) c1_), (22, i6 ((a0.getD (x3).toNat []).length : Int)), (23, i6 x7)]) (by kernel_rfl) ?_
          obtain ⟨hib0, H⟩ := ifs H
          obtain ⟨hib1, H⟩ := ifs H
          have ha05 := hib0; have ha15 := hib1
          refine RL.idxArr (T := 52) (e := 2) 1 .i64 x7 (nx0 + 1) (0 + (x3).toNat * 12) 12 (some 37) (by kernel_rfl) (by kernel_rfl) (by kernel_rfl) (by kernel_rfl) hib0 hib1 (K' := [(37, pt (nx0 + 1) (0 + (x3).toNat * 12 + (x7).toNat * 1)), (36, pt (nx0 + 1) (0 + (x3).toNat * 12)), (35, i6 ((a0.getD (x3).toNat []).getD (x7).toNat 0)), (34, i6 x7), (33, i6 x3), (0, .slice Ap0 a0.length cp0), (2, .slice Ap2 a2.length cp2), (6, pt nx0 0), (7, pt (nx0 + 1) 0), (8, i6 x3), (21, .slice A1_ ((a0.getD (x3).toNat []).length) c1_), (22, i6 ((a0.getD (x3).toNat []).length : Int)), (23, i6 x7)]) (by kernel_rfl) ?_
          refine RL.stA (g := nx0 + 1) (ty := 54) (cs := arrV (Value.int .i64) 0 144 x6) (Value.int .i64) 0 144 x6 ((a0.getD (x3).toNat []).getD (x7).toNat 0) [] [] 0 ((x3).toNat * 12 + (x7).toNat) 1 (by kernel_rfl) (by kernel_rfl) (by kernel_rfl) (by omega) hz5 (0 + (x3).toNat * 12 + (x7).toNat * 1) (by omega) 2 (by kernel_rfl) (by kernel_rfl) (by kernel_rfl) (by rfl) (fun _ h => by cases h) (fun _ h => by cases h) (cs' := arrV (Value.int .i64) 0 144 (x6.set ((x3).toNat * 12 + (x7).toNat) ((a0.getD (x3).toNat []).getD (x7).toNat 0))) (by kernel_rfl) ?_
          refine RL.nil (by kernel_rfl) ?_
          refine QN.sub (K' := [(0, .slice Ap0 a0.length cp0), (2, .slice Ap2 a2.length cp2), (6, pt nx0 0), (7, pt (nx0 + 1) 0), (8, i6 x3), (21, .slice A1_ ((a0.getD (x3).toNat []).length) c1_), (22, i6 ((a0.getD (x3).toNat []).length : Int)), (23, i6 x7)]) (L' := [⟨nx0, arrV (Value.int .i64) 0 144 (List.replicate 144 0), 54⟩, ⟨nx0 + 1, arrV (Value.int .i64) 0 144 (x6.set ((x3).toNat * 12 + (x7).toNat) ((a0.getD (x3).toNat []).getD (x7).toNat 0)), 54⟩]) (by kernel_rfl) (.cons_cons _ (.cons_cons _ .slnil)) (.refl _) ?_
          obtain rfl := Option.some.inj H
          exact QN.sb (hJ6 _ _ _ _ _ ⟨(x6.set ((x3).toNat * 12 + (x7).toNat) ((a0.getD (x3).toNat []).getD (x7).toNat 0)), rfl, rfl, rfl, (Imm.le_refl _), (le_set hz5), HK4⟩) (.cons_cons _ (.cons_cons _ .slnil)) (.refl _)
         ·have hb : (a2.getD (x7).toNat false) = true := by simpa using hb
          have hc := hb
          rw [if_pos hc] at H
          clear hb
          refine OK.sk ?_
          obtain rfl := Option.some.inj H
          exact QN.sb (hJ6 _ _ _ _ _ ⟨x6, rfl, rfl, rfl, (Imm.le_refl _), hz5, HK4⟩) (.cons_cons _ (.cons_cons _ .slnil)) (.refl _)
       ·skip
        have hc := (of_decide_eq_false hb)
        rw [if_neg hc] at H
        clear hb
        refine OK.ex 2 ?_
        refine QN.thenE ?_
        refine QN.outE hQ5 ?_
        refine QN.blkE ?_
        obtain rfl := Option.some.inj H
        exact QN.sb (hJ4 _ _ _ _ _ ⟨x6, rfl, rfl, rfl, hi5, hz5, HK3⟩) (.cons_cons _ (.cons_cons _ .slnil)) (.refl _)
   ·skip
    have hc := (of_decide_eq_false hb)
    rw [if_neg hc] at H
    clear hb
    refine OK.ex 0 ?_
    refine QN.thenE ?_
    refine QN.outE hQ2 ?_
    refine QN.blkE ?_
    obtain rfl := Option.some.inj H
    exact QN.sb (hJ1 _ _ _ _ _ ⟨x2, rfl, rfl, rfl, hi2, hz2, HK1⟩) (.cons_cons _ (.cons_cons _ .slnil)) (.refl _)

end Go.Proofs.Ytdmhbcgmimfjcaa
namespace Go.Proofs.Ytdmhbcgmimfjcaa
open Go Go.Proofs.Ytdmhbcgmimfjcaa.RW
set_option linter.unusedVariables false
set_option maxRecDepth 100000
set_option maxHeartbeats 8000000

/-! ### assign_best: function 33, armillary/assign.best -/
noncomputable def K33_0 : Code := cBody Try.f33
def assign_best.f (k : Nat) (a0 : List (List Int)) (a1 : Int) (a2 : List Bool) : Option (Int) := ((assign_pad.f k a0 a1 a2).bind fun t1 => ((assign_hungarians0.f k t1).bind fun t2 => ((assign_solution_values0.f k t2 t1).bind fun t3 => (some t3))))
def assign_best.Post (I : Imm) (w : World) (r : Int) (v : Value) (w' : World) : Prop :=
 ∃ (J : Imm), v = .int .i64 r ∧ Got w w' I J []
theorem assign_best.calls (k : Nat) (I0 : Imm) (a0 : List (List Int)) (Ap0 : Option Addr) (cp0 : Nat) (a1 : Int) (a2 : List Bool) (Ap2 : Option Addr) (cp2 : Nat) (w : World) (hI : I0.at_ w) (hlp0 : a0.length ≤ cp0) (hrp0 : Rd (Ty.slice (Ty.int .i64)) I0 Ap0 a0) (hlp2 : a2.length ≤ cp2) (hrp2 : Rd Ty.bool I0 Ap2 a2) (r : Int) (h : assign_best.f k a0 a1 a2 = some r) :
  Calls Try.prog 33 [.slice Ap0 a0.length cp0, i6 a1, .slice Ap2 a2.length cp2].toArray w fun e w' => ∃ v, e = .returned v ∧ assign_best.Post I0 w r v w' := by
 have H : ((assign_pad.f k a0 a1 a2).bind fun t1 => ((assign_hungarians0.f k t1).bind fun t2 => ((assign_solution_values0.f k t2 t1).bind fun t3 => (some t3)))) = some r := h
 clear h
 refine calls_body Try.func33 (by kernel_rfl) 15 (by kernel_rfl) (by kernel_rfl) ⟨w, fun _ => False, I0⟩ I0 [] [(0, .slice Ap0 a0.length cp0), (1, i6 a1), (2, .slice Ap2 a2.length cp2)] (by kernel_rfl) (Sat.start w _ I0 hI) ?_
 generalize w.heap.size = nx0
 show OK _ K33_0 _ _ _ _ _ _ _ _
 refine OK.sr ?_
 refine RL.st 1 [(0, .slice Ap0 a0.length cp0), (1, i6 a1), (2, .slice Ap2 a2.length cp2)] ?_
 refine OK.sr ?_
 refine RL.s 3 [(11, .slice Ap2 a2.length cp2), (10, i6 a1), (9, .slice Ap0 a0.length cp0)] ?_
 obtain ⟨t1, hA1, H⟩ := bnd H
 refine RL.callP 30 [.slice Ap0 a0.length cp0, i6 a1, .slice Ap2 a2.length cp2] (some 12) (fun w => assign_pad.Post I0 w t1) (by kernel_rfl) (by kernel_rfl) (fun w hs => assign_pad.calls k I0 a0 Ap0 cp0 a1 a2 Ap2 cp2 w hs.im hlp0 hrp0 hlp2 hrp2 t1 hA1) ?_
 rintro w v w' hs ⟨I1, rfl, hg, hz1⟩
 have hi1 := hg.le
 refine RL.resume (X' := []) rfl (hs.call hg) ?_
 clear hs hg
 generalize w'.heap.size = nx1
 clear w w'
 refine RL.simP (K' := [(7, pt nx1 0)]) (nx' := nx1 + 1) (L' := [⟨nx1, arrV (Value.int .i64) 0 144 t1, 54⟩]) [] (RFacts.nil _ _ _) 2 [.no, .l 0] (by kernel_rfl) (by kernel_rfl) ?_
 refine RL.nt ?_
 refine OK.sr ?_
 obtain ⟨t2, hA2, H⟩ := bnd H
 refine RL.callM (L1 := [⟨nx1, arrV (Value.int .i64) 0 144 t1, 54⟩]) (L2 := []) (X1 := []) (X2 := []) rfl rfl 31 [pt nx1 0] (some 13) (fun w => assign_hungarians0.Post (SM [⟨nx1, arrV (Value.int .i64) 0 144 t1, 54⟩] []) nx1 t1 I1 w t2) (by kernel_rfl) (by kernel_rfl) (fun w hs => assign_hungarians0.calls k I1 nx1 t1 w hs hz1 t2 hA2) ?_
 rintro w v w' hs ⟨I2, rfl, hg, hz2, hz3, hz4⟩
 have hi2 : Imm.le I1 I2 := hg.le
 refine RL.resume (L' := [⟨nx1, arrV (Value.int .i64) 0 144 t1, 54⟩]) (X' := []) rfl (hs.outof hg) ?_
 clear hs hg
 generalize w'.heap.size = nx2
 clear w w'
 refine RL.simP (K' := [(8, pt nx2 0), (7, pt nx1 0)]) (nx' := nx2 + 1) (L' := [⟨nx1, arrV (Value.int .i64) 0 144 t1, 54⟩, ⟨nx2, ((arrV (Value.int .i64) 0 12 t2.f0) ++ ((arrV (Value.int .i64) 0 12 t2.f1) ++ (arrV (Value.int .i64) 0 12 t2.f2))), 58⟩]) [] (RFacts.nil _ _ _) 2 [.no, .l 1] (by kernel_rfl) (by kernel_rfl) ?_
 refine RL.nt ?_
 refine OK.sr ?_
 refine RL.arrange (L' := [⟨nx2, ((arrV (Value.int .i64) 0 12 t2.f0) ++ ((arrV (Value.int .i64) 0 12 t2.f1) ++ (arrV (Value.int .i64) 0 12 t2.f2))), 58⟩, ⟨nx1, arrV (Value.int .i64) 0 144 t1, 54⟩]) (X' := []) [1, 0] [] (by kernel_rfl) (by kernel_rfl) (by kernel_rfl) (by kernel_rfl) ?_
 obtain ⟨t3, hA3, H⟩ := bnd H
 refine RL.callM (L1 := [⟨nx2, ((arrV (Value.int .i64) 0 12 t2.f0) ++ ((arrV (Value.int .i64) 0 12 t2.f1) ++ (arrV (Value.int .i64) 0 12 t2.f2))), 58⟩, ⟨nx1, arrV (Value.int .i64) 0 144 t1, 54⟩]) (L2 := []) (X1 := []) (X2 := []) rfl rfl 32 [pt nx2 0, pt nx1 0] (some 14) (fun w => assign_solution_values0.Post (SM [⟨nx2, ((arrV (Value.int .i64) 0 12 t2.f0) ++ ((arrV (Value.int .i64) 0 12 t2.f1) ++ (arrV (Value.int .i64) 0 12 t2.f2))), 58⟩, ⟨nx1, arrV (Value.int .i64) 0 144 t1, 54⟩] []) nx2 nx1 t2 t1 I2 w t3) (by kernel_rfl) (by kernel_rfl) (fun w hs => assign_solution_values0.calls k I2 nx2 nx1 t2 t1 w hs hz2 hz3 hz4 hz1 t3 hA3) ?_
 rintro w v w' hs ⟨I3, rfl, hg⟩
 have hi3 : Imm.le I2 I3 := hg.le
 refine RL.resume (L' := [⟨nx2, ((arrV (Value.int .i64) 0 12 t2.f0) ++ ((arrV (Value.int .i64) 0 12 t2.f1) ++ (arrV (Value.int .i64) 0 12 t2.f2))), 58⟩, ⟨nx1, arrV (Value.int .i64) 0 144 t1, 54⟩]) (X' := []) rfl (hs.outof hg) ?_
 clear hs hg
 generalize w'.heap.size = nx3
 clear w w'
 refine RL.st 1 [(6, i6 t3)] ?_
 refine OK.re ?_
 obtain rfl := Option.some.inj H
 refine QN.body rfl [] (RFacts.nil _ _ _) (.no) (i6 t3) (by kernel_rfl) (by kernel_rfl) (by kernel_rfl) ?_ _ (.inr rfl)
 exact fun w' hs' => ⟨_, rfl, I3, rfl, hs'.got _ .slnil⟩

end Go.Proofs.Ytdmhbcgmimfjcaa
namespace Go.Proofs.Ytdmhbcgmimfjcaa.hun
open Go Go.Proofs.Ytdmhbcgmimfjcaa Go.Proofs.Ytdmhbcgmimfjcaa.RW
set_option linter.unusedVariables false
set_option maxRecDepth 100000
set_option maxHeartbeats 4000000
/-! ### the matrix -/
abbrev row (w : List (List Int)) (i : Nat) : List Int := w.getD i []
abbrev we (w : List (List Int)) (i j : Nat) : Int := g (row w i) j
/-- A valid matrix of n rows and m columns. -/
structure Vw (w : List (List Int)) (m : Nat) : Prop where
  nr : w.length ≤ 12
  mr : m ≤ 12
  z : w.length = 0 → m = 0
  rl : ∀ i, i < w.length → (row w i).length = m
  eb : ∀ i j, i < w.length → j < m → 0 ≤ we w i j ∧ we w i j ≤ 1073741824
theorem cell_eq {a c j d : Nat} (hj : j < 12) (hd : d < 12) : a * 12 + j = c * 12 + d ↔ a = c ∧ j = d := by omega
/-- A row of the padded matrix. -/
theorem pad_row {w : List (List Int)} {m : Nat} (h : Vw w m) {used : List Bool} (hu : used.length = m) {i : Nat} (hi : i < w.length) : ∀ (d k n : Nat) (x : List Int), d + n = m → d < k → x.length = 144 →
    ∃ x', assign_pad.l2 w used (i : Int) k x (n : Int) = some x' ∧ x'.length = 144 ∧ ∀ r j, r < 12 → j < 12 → wt x' r j = if r = i ∧ n ≤ j ∧ j < m ∧ gb used j = false then we w i j else wt x r j := by
  intro d
  induction d with
  | zero =>
    intro k n x hd hk hx
    obtain ⟨k, rfl⟩ : ∃ m, k = m + 1 := ⟨k - 1, by omega⟩
    have hl := h.rl i hi
    refine ⟨x, ?_, hx, fun r j hr hj => ?_⟩
    · simp only [assign_pad.l2, tn]
      rw [if_neg (by show ¬ (n : Int) < ((row w i).length : Int); omega)]
    · rw [if_neg (by omega)]
  | succ d ih =>
    intro k n x hd hk hx
    obtain ⟨k, rfl⟩ : ∃ m, k = m + 1 := ⟨k - 1, by omega⟩
    have hl := h.rl i hi
    have hn := h.nr
    have hm := h.mr
    simp only [assign_pad.l2, tn]
    rw [if_pos (by show (n : Int) < ((row w i).length : Int); omega), if_pos (by omega), if_pos (by show (n : Int) < ((row w i).length : Int); omega), if_pos (by omega), if_pos (by omega), Wn (by omega)]
    cases hd' : gb used n with
    | true =>
      rw [if_pos hd', Option.bind_some]
      obtain ⟨x', e, h1, h2⟩ := ih k (n + 1) x (by omega) (by omega) hx
      refine ⟨x', e, h1, fun r j hr hj => ?_⟩
      rw [h2 r j hr hj]
      by_cases e1 : j = n
      · subst e1
        rw [if_neg (by omega), if_neg (by rw [hd']; simp)]
      · have : (r = i ∧ n + 1 ≤ j ∧ j < m ∧ gb used j = false) ↔ (r = i ∧ n ≤ j ∧ j < m ∧ gb used j = false) := by
          constructor
          · rintro ⟨a, b, c⟩; exact ⟨a, by omega, c⟩
          · rintro ⟨a, b, c⟩; exact ⟨a, by omega, c⟩
        simp only [this]
    | false =>
      rw [if_neg (by show ¬ gb used n = true; rw [hd']; decide), if_pos (by omega), if_pos (by omega), if_pos (by omega), if_pos (by omega), Option.bind_some]
      have hkey : ∀ q, g (x.set (i * 12 + n) (we w i n)) q = if q = i * 12 + n then we w i n else g x q := fun q => gset (by omega) _ q
      obtain ⟨x', e, h1, h2⟩ := ih k (n + 1) (x.set (i * 12 + n) (we w i n)) (by omega) (by omega) (by rw [List.length_set]; exact hx)
      refine ⟨x', e, h1, fun r j hr hj => ?_⟩
      rw [h2 r j hr hj]
      show (if r = i ∧ n + 1 ≤ j ∧ j < m ∧ gb used j = false then we w i j else g (x.set (i * 12 + n) (we w i n)) (r * 12 + j)) = _
      rw [hkey]
      by_cases e1 : r = i ∧ j = n
      · obtain ⟨e2, e3⟩ := e1
        subst e2; subst e3
        rw [if_neg (by omega), if_pos rfl, if_pos ⟨rfl, Nat.le_refl _, by omega, hd'⟩]
      · rw [if_neg (c := r * 12 + j = i * 12 + n) (fun h3 => e1 ((cell_eq hj (by omega)).1 h3))]
        have : (r = i ∧ n + 1 ≤ j ∧ j < m ∧ gb used j = false) ↔ (r = i ∧ n ≤ j ∧ j < m ∧ gb used j = false) := by
          constructor
          · rintro ⟨a, b, c⟩; exact ⟨a, by omega, c⟩
          · rintro ⟨a, b, c⟩
            refine ⟨a, ?_, c⟩
            rcases Nat.lt_or_ge n j with h4 | h4
            · exact h4
            · exact absurd ⟨a, by omega⟩ e1
        simp only [this]
/-- The padded matrix: weights of the rows from 'first' on, at columns that aren't used. -/
abbrev pw (w : List (List Int)) (m first : Nat) (used : List Bool) (r j : Nat) : Int := if first ≤ r ∧ r < w.length ∧ j < m ∧ gb used j = false then we w r j else 0
theorem pad {w : List (List Int)} {m : Nat} (h : Vw w m) {used : List Bool} (hu : used.length = m) {first k : Nat} (hk : 50 ≤ k) (hf : first ≤ w.length) :
    ∃ b, assign_pad.f k w (first : Int) used = some b ∧ b.length = 144 ∧ ∀ r j, r < 12 → j < 12 → wt b r j = pw w m first used r j := by
  have hn := h.nr
  have hm := h.mr
  have key : ∀ (d k n : Nat) (x : List Int), d + n = w.length → d + 20 < k → x.length = 144 → ∃ x', assign_pad.l1 w used k x (n : Int) = some x' ∧ x'.length = 144 ∧ ∀ r j, r < 12 → j < 12 → wt x' r j = if n ≤ r ∧ r < w.length ∧ j < m ∧ gb used j = false then we w r j else wt x r j := by
    intro d
    induction d with
    | zero =>
      intro k n x hd hk hx
      obtain ⟨k, rfl⟩ : ∃ m, k = m + 1 := ⟨k - 1, by omega⟩
      refine ⟨x, ?_, hx, fun r j hr hj => ?_⟩
      · simp only [assign_pad.l1]
        rw [if_neg (by omega)]
      · rw [if_neg (by omega)]
    | succ d ih =>
      intro k n x hd hk hx
      obtain ⟨k, rfl⟩ : ∃ m, k = m + 1 := ⟨k - 1, by omega⟩
      obtain ⟨x1, e1, h1, h2⟩ := pad_row h hu (i := n) (by omega) m k 0 x (by omega) (by omega) hx
      obtain ⟨x', e, h3, h4⟩ := ih k (n + 1) x1 (by omega) (by omega) h1
      refine ⟨x', ?_, h3, fun r j hr hj => ?_⟩
      · simp only [assign_pad.l1]
        rw [if_pos (by omega), if_pos (by omega), if_pos (by omega), show assign_pad.l2 w used (n : Int) k x 0 = some x1 from e1]
        simp only [Option.bind_some, assign_pad.k3]
        rw [Wn (by omega)]
        exact e
      · rw [h4 r j hr hj, h2 r j hr hj]
        by_cases e2 : r = n
        · subst e2
          rw [if_neg (by omega)]
          by_cases e3 : j < m ∧ gb used j = false
          · rw [if_pos ⟨rfl, Nat.zero_le _, e3⟩, if_pos ⟨Nat.le_refl _, by omega, e3⟩]
          · rw [if_neg (fun h5 => e3 h5.2.2), if_neg (fun h5 => e3 h5.2.2)]
        · rw [if_neg (c := r = n ∧ _) (fun h5 => e2 h5.1)]
          have : (n + 1 ≤ r ∧ r < w.length ∧ j < m ∧ gb used j = false) ↔ (n ≤ r ∧ r < w.length ∧ j < m ∧ gb used j = false) := by
            constructor
            · rintro ⟨a, b⟩; exact ⟨by omega, b⟩
            · rintro ⟨a, b⟩; exact ⟨by omega, b⟩
          simp only [this]
  obtain ⟨b, e, h1, h2⟩ := key (w.length - first) k first (List.replicate 144 0) (by omega) (by omega) rfl
  refine ⟨b, ?_, h1, fun r j hr hj => ?_⟩
  · unfold assign_pad.f
    rw [e]
    rfl
  · rw [h2 r j hr hj]
    have : wt (List.replicate 144 0) r j = 0 := grep (by omega)
    rw [this]
/-! ### sums over permuted places -/
theorem sm_upd (f : Nat → Int) (a : Nat) (x : Int) : ∀ n, a < n → sm (fun j => if j = a then x else f j) n = sm f n - f a + x
  | n + 1, h => by
    simp only [sm]
    by_cases e : a = n
    · subst e
      rw [if_pos rfl, sm_congr (f := fun j => if j = a then x else f j) (h := f) a (fun j hj => if_neg (by omega))]
      omega
    · rw [sm_upd f a x n (by omega), if_neg (fun h => e h.symm)]
      omega
theorem sm_perm (u : Nat → Int) : ∀ (n : Nat) (ρ : Nat → Nat), (∀ j, j < n → ρ j < n) → (∀ j j', j < n → j' < n → ρ j = ρ j' → j = j') → sm (fun j => u (ρ j)) n = sm u n := by
  intro n
  induction n with
  | zero => intro _ _ _; rfl
  | succ n ih =>
    intro ρ h1 h2
    by_cases ha : ∃ a, a < n ∧ ρ a = n
    · obtain ⟨a, han, hρ⟩ := ha
      have hn : ρ n < n := by
        have h3 := h1 n (by omega)
        have : ρ n ≠ n := fun e => by have := h2 a n (by omega) (by omega) (by rw [hρ, e]); omega
        omega
      have h3 := ih (fun j => if j = a then ρ n else ρ j) (fun j hj => by
        show (if j = a then ρ n else ρ j) < n
        split
        · exact hn
        · rename_i e
          have h4 := h1 j (by omega)
          have : ρ j ≠ n := fun e2 => e (h2 j a (by omega) (by omega) (by rw [hρ, e2]))
          omega) (fun j j' hj hj' e => by
        have e' : (if j = a then ρ n else ρ j) = (if j' = a then ρ n else ρ j') := e
        by_cases e1 : j = a <;> by_cases e2 : j' = a
        · omega
        · rw [if_pos e1, if_neg e2] at e'
          have := h2 n j' (by omega) (by omega) e'
          omega
        · rw [if_neg e1, if_pos e2] at e'
          have := h2 j n (by omega) (by omega) e'
          omega
        · rw [if_neg e1, if_neg e2] at e'
          exact h2 j j' (by omega) (by omega) e')
      have h4 := sm_upd (fun j => u (ρ j)) a (u (ρ n)) n han
      have h5 : sm (fun j => u ((fun j => if j = a then ρ n else ρ j) j)) n = sm (fun j => if j = a then u (ρ n) else u (ρ j)) n := sm_congr n (fun j _ => by
        show u (if j = a then ρ n else ρ j) = _
        split <;> rfl)
      rw [h5, h4] at h3
      simp only [sm]
      have h6 : u (ρ a) = u n := by rw [hρ]
      have h7 : (fun j => u (ρ j)) a = u (ρ a) := rfl
      omega
    · have hlt : ∀ j, j < n → ρ j < n := fun j hj => by
        have h3 := h1 j (by omega)
        have : ρ j ≠ n := fun e => ha ⟨j, hj, e⟩
        omega
      have hn : ρ n = n := by
        rcases Nat.lt_or_ge (ρ n) n with h3 | h3
        · exfalso
          obtain ⟨a, c, h4, h5, h6⟩ := pigeon n ρ (fun j hj => by
            by_cases e : j = n
            · rw [e]; exact h3
            · exact hlt j (by omega))
          have := h2 a c (by omega) (by omega) h6
          omega
        · have := h1 n (by omega); omega
      simp only [sm]
      rw [hn, ih ρ hlt (fun j j' hj hj' e => h2 j j' (by omega) (by omega) e)]
/-- Some of the places, each at most once: no more than all. -/
theorem sm_part (v : Nat → Int) (m : Nat) : ∀ (n : Nat) (a : Nat → Int) (t : Nat → Bool), (∀ j, j < m → t j = true → 0 ≤ v j) → (∀ i, i < n → a i = -1 ∨ (0 ≤ a i ∧ a i < (m : Int) ∧ t (a i).toNat = true)) → (∀ i i', i < n → i' < n → 0 ≤ a i → a i = a i' → i = i') →
    sm (fun i => if a i = -1 then 0 else v (a i).toNat) n ≤ sm (fun j => if t j = true then v j else 0) m := by
  intro n
  induction n with
  | zero =>
    intro a t hv _ _
    have h1 : ∀ m', m' ≤ m → 0 ≤ sm (fun j => if t j = true then v j else 0) m' := by
      intro m'
      induction m' with
      | zero => intro _; exact Int.le_refl _
      | succ m' ih =>
        intro h
        have := ih (by omega)
        simp only [sm]
        split
        · rename_i e; have := hv m' (by omega) e; omega
        · omega
    exact h1 m (Nat.le_refl _)
  | succ n ih =>
    intro a t hv ha hinj
    simp only [sm]
    by_cases e : a n = -1
    · rw [if_pos e]
      have := ih a t hv (fun i hi => ha i (by omega)) (fun i i' hi hi' => hinj i i' (by omega) (by omega))
      omega
    · rw [if_neg e]
      have h1 := (ha n (by omega)).resolve_left e
      have h2 := ih a (fun j => if j = (a n).toNat then false else t j) (fun j hj h3 => by
        have h3' : (if j = (a n).toNat then false else t j) = true := h3
        split at h3'
        · cases h3'
        · exact hv j hj h3') (fun i hi => by
        rcases ha i (by omega) with h3 | ⟨h3, h4, h5⟩
        · exact .inl h3
        · refine .inr ⟨h3, h4, ?_⟩
          show (if (a i).toNat = (a n).toNat then false else t (a i).toNat) = true
          rw [if_neg (fun h6 => by have := hinj i n (by omega) (by omega) h3 (by omega); omega)]
          exact h5) (fun i i' hi hi' => hinj i i' (by omega) (by omega))
      have h3 := sm_upd (fun j => if t j = true then v j else 0) (a n).toNat 0 m (by omega)
      have h4 : sm (fun j => if (if j = (a n).toNat then false else t j) = true then v j else 0) m = sm (fun j => if j = (a n).toNat then 0 else if t j = true then v j else 0) m := sm_congr m (fun j _ => by
        by_cases e2 : j = (a n).toNat
        · simp [e2]
        · simp [e2])
      rw [h4, h3] at h2
      have h5 : (if t (a n).toNat = true then v (a n).toNat else 0) = v (a n).toNat := if_pos h1.2.2
      omega
end Go.Proofs.Ytdmhbcgmimfjcaa.hun
namespace Go.Proofs.Ytdmhbcgmimfjcaa.hun
open Go Go.Proofs.Ytdmhbcgmimfjcaa Go.Proofs.Ytdmhbcgmimfjcaa.RW
set_option linter.unusedVariables false
set_option maxRecDepth 100000
set_option maxHeartbeats 4000000
/-- An assignment of rows from 'first' on to columns that aren't used. -/
structure IsA (w : List (List Int)) (m first : Nat) (used : Nat → Bool) (a : Nat → Int) : Prop where
  rg : ∀ i, i < w.length → a i = -1 ∨ (first ≤ i ∧ 0 ≤ a i ∧ a i < (m : Int) ∧ used (a i).toNat = false)
  inj : ∀ i i', i < w.length → i' < w.length → 0 ≤ a i → a i = a i' → i = i'
def val (w : List (List Int)) (a : Nat → Int) : Int := sm (fun i => if a i = -1 then 0 else we w i (a i).toNat) w.length
/-- The best value of such assignments. -/
def Opt (w : List (List Int)) (m first : Nat) (used : Nat → Bool) (V : Int) : Prop := (∀ a, IsA w m first used a → val w a ≤ V) ∧ ∃ a, IsA w m first used a ∧ val w a = V
theorem Opt.uniq {w : List (List Int)} {m first : Nat} {used : Nat → Bool} {V V' : Int} (h : Opt w m first used V) (h' : Opt w m first used V') : V = V' := by
  obtain ⟨a, h1, h2⟩ := h.2
  obtain ⟨a', h3, h4⟩ := h'.2
  have h5 := h.1 a' h3
  have h6 := h'.1 a h1
  omega
theorem Opt.congr {w : List (List Int)} {m first : Nat} {used used' : Nat → Bool} {V : Int} (e : ∀ j, j < m → used j = used' j) (h : Opt w m first used V) : Opt w m first used' V := by
  have key : ∀ {t t' : Nat → Bool}, (∀ j, j < m → t j = t' j) → ∀ a, IsA w m first t a → IsA w m first t' a := fun e a h => ⟨fun i hi => (h.rg i hi).imp id (fun ⟨h1, h2, h3, h4⟩ => ⟨h1, h2, h3, by rw [← e _ (by omega)]; exact h4⟩), h.inj⟩
  exact ⟨fun a ha => h.1 a (key (fun j hj => (e j hj).symm) a ha), h.2.elim fun a ha => ⟨a, key e a ha.1, ha.2⟩⟩
theorem sm_mono {f : Nat → Int} : ∀ (n' n : Nat), n ≤ n' → (∀ j, n ≤ j → j < n' → 0 ≤ f j) → sm f n ≤ sm f n'
  | 0, n, h, _ => by
    obtain rfl : n = 0 := by omega
    exact Int.le_refl _
  | n' + 1, n, h, hf => by
    by_cases e : n = n' + 1
    · rw [e]; exact Int.le_refl _
    · have h1 := sm_mono n' n (by omega) (fun j h2 h3 => hf j h2 (by omega))
      have h2 := hf n' (by omega) (by omega)
      simp only [sm]; omega
/-- Weak duality. -/
theorem weak {w : List (List Int)} {m first : Nat} {used : Nat → Bool} {a U D : Nat → Int} (ha : IsA w m first used a) (hU : ∀ i, i < w.length → 0 ≤ U i) (hD : ∀ j, j < m → 0 ≤ D j) (hf : ∀ i j, first ≤ i → i < w.length → j < m → used j = false → we w i j ≤ U i + D j) : val w a ≤ sm U w.length + sm D m := by
  have h1 : val w a ≤ sm (fun i => U i + (if a i = -1 then 0 else D (a i).toNat)) w.length := by
    refine sm_le _ (fun i hi => ?_)
    have h2 := hU i hi
    by_cases e : a i = -1
    · simp only [e, if_pos]; omega
    · rw [if_neg e, if_neg e]
      obtain ⟨h3, h4, h5, h6⟩ := (ha.rg i hi).resolve_left e
      exact hf i _ h3 hi (by omega) h6
  rw [sm_add] at h1
  have h2 := sm_part D m w.length a (fun _ => true) (fun j hj _ => hD j hj) (fun i hi => (ha.rg i hi).imp id (fun h => ⟨h.2.1, h.2.2.1, rfl⟩)) ha.inj
  have h3 : sm (fun j => if true = true then D j else 0) m = sm D m := sm_congr m (fun j _ => if_pos rfl)
  omega
theorem min12 (v : Nat → Int) : ∀ n, 0 < n → ∃ j0, j0 < n ∧ ∀ j, j < n → v j0 ≤ v j
  | n + 1, _ => by
    by_cases e : n = 0
    · refine ⟨0, by omega, fun j hj => ?_⟩
      obtain rfl : j = 0 := by omega
      exact Int.le_refl _
    · obtain ⟨j0, h1, h2⟩ := min12 v n (by omega)
      by_cases h : v n < v j0
      · refine ⟨n, by omega, fun j hj => ?_⟩
        by_cases e2 : j = n
        · subst e2; exact Int.le_refl _
        · have := h2 j (by omega); omega
      · refine ⟨j0, by omega, fun j hj => ?_⟩
        by_cases e2 : j = n
        · rw [e2]; omega
        · exact h2 j (by omega)
theorem sm_const (c : Int) : ∀ n, sm (fun _ => c) n = n * c
  | 0 => by simp [sm]
  | n + 1 => by simp only [sm]; rw [sm_const c n, mul_succ]
section
variable {w : List (List Int)} {m first : Nat} {used : List Bool} {b : List Int} {s : S58}
/-- What the search leaves, as numbers: potentials that are feasible and tight. -/
theorem tight_sum (mt : Mt 12 s.f0) (pt : Pt 1073741824 12 b s.f0 s.f1 s.f2) : sm (fun j => wt b (g s.f0 j).toNat j) 12 = sm (g s.f1) 12 + sm (g s.f2) 12 ∧ ∀ j, j < 12 → 0 ≤ g s.f0 j ∧ g s.f0 j < 12 := by
  have hall : ∀ j, j < 12 → 0 ≤ g s.f0 j ∧ g s.f0 j < 12 := fun j hj => by
    rcases mt.rng j hj with h | h
    · exfalso
      have hch : ∀ (r : Nat), r < 12 → ∃ c, c < 12 ∧ g s.f0 c = (r : Int) := mt.onto
      have hex : ∃ f : Nat → Nat, ∀ (r : Nat), r < 12 → f r < 12 ∧ g s.f0 (f r) = (r : Int) := ⟨fun r => if h : r < 12 then (hch r h).choose else 0, fun r hr => by simp only [hr, dif_pos]; exact (hch r hr).choose_spec⟩
      obtain ⟨f, hf⟩ := hex
      obtain ⟨a, c, h1, h2, h3⟩ := pigeon 11 (fun r => if f r < j then f r else f r - 1) (fun r hr => by
        have h4 := hf r (by omega)
        have h5 : f r ≠ j := fun e2 => by rw [e2, h] at h4; omega
        show (if f r < j then f r else f r - 1) < 11
        split <;> omega)
      have h4 := hf a (by omega)
      have h5 := hf c (by omega)
      have h6 : f a ≠ j := fun e2 => by rw [e2, h] at h4; omega
      have h7 : f c ≠ j := fun e2 => by rw [e2, h] at h5; omega
      have h8 : f a = f c := by
        have h3' : (if f a < j then f a else f a - 1) = (if f c < j then f c else f c - 1) := h3
        split at h3' <;> split at h3' <;> omega
      rw [h8] at h4
      omega
    · exact h
  refine ⟨?_, hall⟩
  have h1 : sm (fun j => wt b (g s.f0 j).toNat j) 12 = sm (fun j => g s.f1 (g s.f0 j).toNat + g s.f2 j) 12 := sm_congr 12 (fun j hj => by
    have h2 := hall j hj
    have h3 := pt.tight j (g s.f0 j).toNat hj (by omega)
    have h4 : red b s.f1 s.f2 (g s.f0 j).toNat j = g s.f1 (g s.f0 j).toNat + g s.f2 j - wt b (g s.f0 j).toNat j := rfl
    omega)
  rw [h1, sm_add (fun j => g s.f1 (g s.f0 j).toNat), sm_perm (g s.f1) 12 (fun j => (g s.f0 j).toNat) (fun j hj => by have := hall j hj; show (g s.f0 j).toNat < 12; omega) (fun j j' hj hj' e => by
    have h2 := hall j hj
    have h3 := hall j' hj'
    have e' : (g s.f0 j).toNat = (g s.f0 j').toNat := e
    exact mt.inj j j' hj hj' h2.1 (by omega))]
/-- The matching is best, and its potentials show it. -/
theorem found (h : Vw w m) (hu : used.length = m) (hb : ∀ r j, r < 12 → j < 12 → wt b r j = pw w m first used r j) (mt : Mt 12 s.f0) (pt : Pt 1073741824 12 b s.f0 s.f1 s.f2) {t : Int} (ht : ∃ j0, j0 < 12 ∧ g s.f2 j0 = t) (htm : ∀ j, j < 12 → t ≤ g s.f2 j) :
    Opt w m first (gb used) (sm (fun j => wt b (g s.f0 j).toNat j) 12) ∧ (∀ i, i < 12 → 0 ≤ g s.f1 i + t) ∧ (∀ i j, i < 12 → j < 12 → wt b i j ≤ (g s.f1 i + t) + (g s.f2 j - t)) ∧
      sm (fun i => g s.f1 i + t) w.length + sm (fun j => g s.f2 j - t) m = sm (fun j => wt b (g s.f0 j).toNat j) 12 := by
  have hn := h.nr
  have hm := h.mr
  obtain ⟨hsum, hall⟩ := tight_sum mt pt
  have hpos : ∀ r j, r < 12 → j < 12 → 0 ≤ wt b r j := fun r j hr hj => by
    rw [hb r j hr hj]
    by_cases e : first ≤ r ∧ r < w.length ∧ j < m ∧ gb used j = false
    · rw [show pw w m first used r j = we w r j from if_pos e]; exact (h.eb r j e.2.1 e.2.2.1).1
    · rw [show pw w m first used r j = 0 from if_neg e]; exact Int.le_refl _
  have hfe : ∀ i j, i < 12 → j < 12 → wt b i j ≤ (g s.f1 i + t) + (g s.f2 j - t) := fun i j hi hj => by
    have h1 := pt.feas i j hi hj
    have h2 : red b s.f1 s.f2 i j = g s.f1 i + g s.f2 j - wt b i j := rfl
    omega
  have hU : ∀ i, i < 12 → 0 ≤ g s.f1 i + t := fun i hi => by
    obtain ⟨j0, h1, h2⟩ := ht
    have h3 := hfe i j0 hi h1
    have h4 := hpos i j0 hi h1
    omega
  have hD : ∀ j, j < 12 → 0 ≤ g s.f2 j - t := fun j hj => by have := htm j hj; omega
  have htot : sm (fun i => g s.f1 i + t) 12 + sm (fun j => g s.f2 j - t) 12 = sm (g s.f1) 12 + sm (g s.f2) 12 := by
    have e1 := sm_add (g s.f1) (fun _ => t) 12
    have e2 := sm_add (g s.f2) (fun _ => -t) 12
    have e3 : sm (fun j => g s.f2 j - t) 12 = sm (fun j => g s.f2 j + -t) 12 := sm_congr 12 (fun j _ => by omega)
    rw [sm_const] at e1 e2
    rw [e3]
    omega
  have hbound : ∀ a, IsA w m first (gb used) a → val w a ≤ sm (fun i => g s.f1 i + t) w.length + sm (fun j => g s.f2 j - t) m := fun a ha =>
    weak ha (fun i hi => hU i (by omega)) (fun j hj => hD j (by omega)) (fun i j h1 h2 h3 h4 => by
      have h5 := hfe i j (by omega) (by omega)
      have h6 : wt b i j = we w i j := by rw [hb i j (by omega) (by omega)]; exact if_pos ⟨h1, h2, h3, h4⟩
      omega)
  have hle : sm (fun i => g s.f1 i + t) w.length + sm (fun j => g s.f2 j - t) m ≤ sm (fun j => wt b (g s.f0 j).toNat j) 12 := by
    have h1 := sm_mono (f := fun i => g s.f1 i + t) 12 w.length hn (fun j _ hj => hU j hj)
    have h2 := sm_mono (f := fun j => g s.f2 j - t) 12 m hm (fun j _ hj => hD j hj)
    omega
  -- the matching as an assignment
  have hch : ∀ (r : Nat), r < 12 → ∃ c, c < 12 ∧ g s.f0 c = (r : Int) := mt.onto
  obtain ⟨c, hc⟩ : ∃ c : Nat → Nat, ∀ (r : Nat), r < 12 → c r < 12 ∧ g s.f0 (c r) = (r : Int) := ⟨fun r => if h : r < 12 then (hch r h).choose else 0, fun r hr => by simp only [hr, dif_pos]; exact (hch r hr).choose_spec⟩
  have hcinj : ∀ i i', i < 12 → i' < 12 → c i = c i' → i = i' := fun i i' hi hi' e => by
    have h1 := (hc i hi).2
    have h2 := (hc i' hi').2
    rw [e, h2] at h1
    omega
  have hA : IsA w m first (gb used) (fun i => if first ≤ i ∧ c i < m ∧ gb used (c i) = false then (c i : Int) else -1) := by
    refine ⟨fun i hi => ?_, fun i i' hi hi' h0 he => ?_⟩
    · show (if _ then (c i : Int) else -1) = -1 ∨ _
      by_cases e : first ≤ i ∧ c i < m ∧ gb used (c i) = false
      · rw [if_pos e]
        exact .inr ⟨e.1, by omega, by omega, by rw [tn]; exact e.2.2⟩
      · rw [if_neg e]; exact .inl rfl
    · have h0' : 0 ≤ (if first ≤ i ∧ c i < m ∧ gb used (c i) = false then (c i : Int) else -1) := h0
      have he' : (if first ≤ i ∧ c i < m ∧ gb used (c i) = false then (c i : Int) else -1) = (if first ≤ i' ∧ c i' < m ∧ gb used (c i') = false then (c i' : Int) else -1) := he
      split at h0'
      · rw [if_pos (by assumption)] at he'
        split at he'
        · exact hcinj i i' (by omega) (by omega) (by omega)
        · omega
      · omega
  have hval : val w (fun i => if first ≤ i ∧ c i < m ∧ gb used (c i) = false then (c i : Int) else -1) = sm (fun j => wt b (g s.f0 j).toNat j) 12 := by
    have e1 : val w (fun i => if first ≤ i ∧ c i < m ∧ gb used (c i) = false then (c i : Int) else -1) = sm (fun i => wt b i (c i)) w.length := by
      refine sm_congr _ (fun i hi => ?_)
      have h1 := hc i (by omega)
      rw [hb i (c i) (by omega) h1.1]
      show (if (if first ≤ i ∧ c i < m ∧ gb used (c i) = false then (c i : Int) else -1) = -1 then 0 else we w i (if first ≤ i ∧ c i < m ∧ gb used (c i) = false then (c i : Int) else -1).toNat) = if first ≤ i ∧ i < w.length ∧ c i < m ∧ gb used (c i) = false then we w i (c i) else 0
      by_cases e : first ≤ i ∧ c i < m ∧ gb used (c i) = false
      · rw [if_pos e, if_neg (by omega), tn, if_pos ⟨e.1, hi, e.2⟩]
      · rw [if_neg e, if_pos rfl, if_neg (fun h2 => e ⟨h2.1, h2.2.2⟩)]
    have e2 : sm (fun i => wt b i (c i)) w.length = sm (fun i => wt b i (c i)) 12 := by
      have h1 := sm_mono (f := fun i => wt b i (c i)) 12 w.length hn (fun j _ hj => hpos j _ hj (hc j hj).1)
      have h2 := sm_mono (f := fun i => - wt b i (c i)) 12 w.length hn (fun j hj1 hj => by
        have : wt b j (c j) = 0 := by
          rw [hb j (c j) hj (hc j hj).1]
          exact if_neg (by omega)
        show 0 ≤ - wt b j (c j)
        omega)
      have h3 : ∀ n, sm (fun i => - wt b i (c i)) n = - sm (fun i => wt b i (c i)) n := by
        intro n
        induction n with
        | zero => rfl
        | succ n ih => simp only [sm]; rw [ih]; omega
      rw [h3, h3] at h2
      omega
    rw [e1, e2]
    have h3 := sm_perm (fun j => wt b (g s.f0 j).toNat j) 12 c (fun j hj => (hc j hj).1) (fun j j' hj hj' e => hcinj j j' hj hj' e)
    rw [← h3]
    exact sm_congr 12 (fun i hi => by
      show wt b i (c i) = wt b (g s.f0 (c i)).toNat (c i)
      rw [(hc i hi).2, tn])
  have hge := hbound _ hA
  rw [hval] at hge
  refine ⟨⟨fun a ha => Int.le_trans (hbound a ha) hle, _, hA, hval⟩, hU, hfe, by omega⟩
end
end Go.Proofs.Ytdmhbcgmimfjcaa.hun
namespace Go.Proofs.Ytdmhbcgmimfjcaa
open Go Go.Proofs.Ytdmhbcgmimfjcaa.RW
set_option linter.unusedVariables false
set_option maxRecDepth 100000
set_option maxHeartbeats 8000000

/-! ### assign_columns: function 29, armillary/assign.columns -/
noncomputable def K29_0 : Code := cBody Try.f29
def assign_columns.f (a0 : List (List Int)) : Option (Int) := (if (a0.length : Int) = 0 then (some 0) else (if 0 < (a0.length : Int) then (some ((a0.getD (0 : Int).toNat []).length : Int)) else none))
def assign_columns.Post (I : Imm) (w : World) (r : Int) (v : Value) (w' : World) : Prop :=
 ∃ (J : Imm), v = .int .i64 r ∧ Got w w' I J []
theorem assign_columns.calls (I0 : Imm) (a0 : List (List Int)) (Ap0 : Option Addr) (cp0 : Nat) (w : World) (hI : I0.at_ w) (hlp0 : a0.length ≤ cp0) (hrp0 : Rd (Ty.slice (Ty.int .i64)) I0 Ap0 a0) (r : Int) (h : assign_columns.f a0 = some r) :
  Calls Try.prog 29 [.slice Ap0 a0.length cp0].toArray w fun e w' => ∃ v, e = .returned v ∧ assign_columns.Post I0 w r v w' := by
 have H : (if (a0.length : Int) = 0 then (some 0) else (if 0 < (a0.length : Int) then (some ((a0.getD (0 : Int).toNat []).length : Int)) else none)) = some r := h
 clear h
 refine calls_body Try.func29 (by kernel_rfl) 10 (by kernel_rfl) (by kernel_rfl) ⟨w, fun _ => False, I0⟩ I0 [] [(0, .slice Ap0 a0.length cp0)] (by kernel_rfl) (Sat.start w _ I0 hI) ?_
 generalize w.heap.size = nx0
 show OK _ K29_0 _ _ _ _ _ _ _ _
 refine OK.sr ?_
 refine RL.st 1 [(0, .slice Ap0 a0.length cp0)] ?_
 refine OK.sq ?_
 refine OK.sr ?_
 refine RL.st 3 [(5, .bool ((a0.length : Int) == 0)), (0, .slice Ap0 a0.length cp0)] ?_
 refine OK.cd ((a0.length : Int) == 0) (fun hb => ?_) (fun hb => ?_)
 ·skip
  have hc := (beq_iff_eq.1 hb)
  rw [if_pos hc] at H
  clear hb
  refine OK.sr ?_
  refine RL.st 1 [(2, i6 0)] ?_
  refine OK.re ?_
  refine QN.thenR ?_
  obtain rfl := Option.some.inj H
  refine QN.body rfl [] (RFacts.nil _ _ _) (.no) (i6 0) (by kernel_rfl) (by kernel_rfl) (by kernel_rfl) ?_ _ (.inr rfl)
  exact fun w' hs' => ⟨_, rfl, I0, rfl, hs'.got _ .slnil⟩
 ·skip
  have hc := (beq_eq_false_iff_ne.1 hb)
  rw [if_neg hc] at H
  clear hb
  refine OK.skt ?_
  refine OK.sr ?_
  refine RL.s 1 [(6, .slice Ap0 a0.length cp0)] ?_
  have hib0 : (0 : Int) ≤ 0 := by decide
  obtain ⟨hib1, H⟩ := ifs H
  obtain ⟨g1_, o1_, hA1_, A1_, c1_, hl1_, hr1_, hc1_⟩ := Ty.slice_at hrp0 0 hib0 hib1
  refine RL.idx 1 .i64 0 hA1_ a0.length cp0 (some 7) (by kernel_rfl) (by kernel_rfl) (T := 22) (e := 24) (by kernel_rfl) (by kernel_rfl) hib0 hib1 (K' := [(7, pt g1_ (o1_ + (0 : Int).toNat * 1)), (6, .slice Ap0 a0.length cp0)]) (by kernel_rfl) ?_
  refine RL.simK (K' := [(2, i6 ((a0.getD (0 : Int).toNat []).length : Int))]) [(⟨g1_, o1_ + (0 : Int).toNat * 1, none⟩, .slice A1_ ((a0.getD (0 : Int).toNat []).length) c1_)] (RFacts.imm (hc1_ 0 _ rfl) (RFacts.nil _ _ _)) 3 [.r 0, .no, .no] (by kernel_rfl) (by kernel_rfl) ?_
  refine RL.nt ?_
  refine OK.re ?_
  obtain rfl := Option.some.inj H
  refine QN.body rfl [] (RFacts.nil _ _ _) (.no) (i6 ((a0.getD (0 : Int).toNat []).length : Int)) (by kernel_rfl) (by kernel_rfl) (by kernel_rfl) ?_ _ (.inr rfl)
  exact fun w' hs' => ⟨_, rfl, I0, rfl, hs'.got _ .slnil⟩

end Go.Proofs.Ytdmhbcgmimfjcaa
namespace Go.Proofs.Ytdmhbcgmimfjcaa
open Go Go.Proofs.Ytdmhbcgmimfjcaa.RW
set_option linter.unusedVariables false
set_option maxRecDepth 100000
set_option maxHeartbeats 8000000

/-! ### slices_Min_int64_int64: function 38, slices.Min[[]int64,int64] -/
noncomputable def K38_0 : Code := cBody Try.f38
def slices_Min_int64_int64.k1  (x1 : Int) : Option (Int) := (some x1)
def slices_Min_int64_int64.l1 (a0 : List Int) : Nat → Int → Int → Option (Int)
 | 0, _, _ => none
 | k + 1, x2, x3 => (if x3 < (a0.length : Int) then (if 0 ≤ x3 then (if x3 < (a0.length : Int) then (slices_Min_int64_int64.l1 a0 k (iMin x2 (a0.getD (x3).toNat 0)) (W .i64 (x3 + 1))) else none) else none) else (some x2))
def slices_Min_int64_int64.f (k : Nat) (a0 : List Int) : Option (Int) := (if (a0.length : Int) < 1 then none else (if 0 < (a0.length : Int) then ((slices_Min_int64_int64.l1 a0 k (a0.getD (0 : Int).toNat 0) 1).bind (slices_Min_int64_int64.k1)) else none))
def slices_Min_int64_int64.Post (I : Imm) (w : World) (r : Int) (v : Value) (w' : World) : Prop :=
 ∃ (J : Imm), v = .int .i64 r ∧ Got w w' I J []
theorem slices_Min_int64_int64.calls (k : Nat) (I0 : Imm) (a0 : List Int) (Ap0 : Option Addr) (cp0 : Nat) (w : World) (hI : I0.at_ w) (hlp0 : a0.length ≤ cp0) (hrp0 : Rd (Ty.int .i64) I0 Ap0 a0) (r : Int) (h : slices_Min_int64_int64.f k a0 = some r) :
  Calls Try.prog 38 [.slice Ap0 a0.length cp0].toArray w fun e w' => ∃ v, e = .returned v ∧ slices_Min_int64_int64.Post I0 w r v w' := by
 have H : (if (a0.length : Int) < 1 then none else (if 0 < (a0.length : Int) then ((slices_Min_int64_int64.l1 a0 k (a0.getD (0 : Int).toNat 0) 1).bind (slices_Min_int64_int64.k1)) else none)) = some r := h
 clear h
 refine calls_body Try.func38 (by kernel_rfl) 25 (by kernel_rfl) (by kernel_rfl) ⟨w, fun _ => False, I0⟩ I0 [] [(0, .slice Ap0 a0.length cp0)] (by kernel_rfl) (Sat.start w _ I0 hI) ?_
 generalize w.heap.size = nx0
 show OK _ K38_0 _ _ _ _ _ _ _ _
 refine OK.sr ?_
 refine RL.st 1 [(0, .slice Ap0 a0.length cp0)] ?_
 refine OK.sq ?_
 refine OK.sr ?_
 refine RL.st 3 [(7, .bool (decide ((a0.length : Int) < 1))), (0, .slice Ap0 a0.length cp0)] ?_
 refine OK.cd (decide ((a0.length : Int) < 1)) (fun hb => ?_) (fun hb => ?_)
 ·skip
  have hc := (of_decide_eq_true hb)
  rw [if_pos hc] at H
  clear hb
  refine OK.rg ?_
  cases H
 ·skip
  have hc := (of_decide_eq_false hb)
  rw [if_neg hc] at H
  clear hb
  refine OK.skt ?_
  refine OK.sr ?_
  refine RL.s 1 [(9, .slice Ap0 a0.length cp0), (0, .slice Ap0 a0.length cp0)] ?_
  have hib0 : (0 : Int) ≤ 0 := by decide
  obtain ⟨hib1, H⟩ := ifs H
  obtain ⟨g1_, o1_, hA1_, hc1_⟩ := Ty.int_at hrp0 0 hib0 hib1
  refine RL.idx 1 .i64 0 hA1_ a0.length cp0 (some 10) (by kernel_rfl) (by kernel_rfl) (T := 24) (e := 2) (by kernel_rfl) (by kernel_rfl) hib0 hib1 (K' := [(10, pt g1_ (o1_ + (0 : Int).toNat * 1)), (9, .slice Ap0 a0.length cp0), (0, .slice Ap0 a0.length cp0)]) (by kernel_rfl) ?_
  refine RL.simK (K' := [(3, i6 (a0.getD (0 : Int).toNat 0)), (0, .slice Ap0 a0.length cp0)]) [(⟨g1_, o1_ + (0 : Int).toNat * 1, none⟩, i6 (a0.getD (0 : Int).toNat 0))] (RFacts.imm (hc1_ 0 _ rfl) (RFacts.nil _ _ _)) 2 [.r 0, .no] (by kernel_rfl) (by kernel_rfl) ?_
  refine RL.nt ?_
  refine OK.sq ?_
  refine OK.sr ?_
  refine RL.st 1 [(4, i6 1), (3, i6 (a0.getD (0 : Int).toNat 0)), (0, .slice Ap0 a0.length cp0)] ?_
  refine OK.join (fun K' I' _ L' X' => ∃ (x1 : Int), K' = [(3, i6 x1)] ∧ L' = [] ∧ X' = [] ∧ Imm.le I0 I' ∧ slices_Min_int64_int64.k1 x1 = some r) ?_ ?_
  ·rintro _ I1 nx1 _ _ ⟨x1, rfl, rfl, rfl, hi1, H⟩
   rw [slices_Min_int64_int64.k1] at H
   refine QN.then_ ?_
   refine OK.sr ?_
   refine RL.st 2 [(2, i6 x1)] ?_
   refine OK.re ?_
   obtain rfl := Option.some.inj H
   refine QN.body rfl [] (RFacts.nil _ _ _) (.no) (i6 x1) (by kernel_rfl) (by kernel_rfl) (by kernel_rfl) ?_ _ (.inr rfl)
   exact fun w' hs' => ⟨_, rfl, I1, rfl, hs'.got _ .slnil⟩
  ·intro Q_1 hJ1 hQ1
   obtain ⟨y1, H, HK1⟩ := bnd H
   refine OK.bk 0 ?_
   refine OK.sub (K' := [(0, .slice Ap0 a0.length cp0), (3, i6 (a0.getD (0 : Int).toNat 0)), (4, i6 1)]) (L' := []) (by kernel_rfl) .slnil (.refl _) ?_
   refine OK.lp (fun n_ K' I' _ L' X' => ∃ (x2 : Int) (x3 : Int), K' = [(0, .slice Ap0 a0.length cp0), (3, i6 x2), (4, i6 x3)] ∧ L' = [] ∧ X' = [] ∧ Imm.le I0 I' ∧ slices_Min_int64_int64.l1 a0 n_ x2 x3 = some y1) k ⟨(a0.getD (0 : Int).toNat 0), 1, rfl, rfl, rfl, (Imm.le_refl _), H⟩ ?_ ?_
   ·rintro _ _ _ _ _ ⟨x2, x3, rfl, rfl, rfl, _, H⟩
    cases H
   ·rintro kq1 _ I2 nx2 _ _ ⟨x2, x3, rfl, rfl, rfl, hi2, H⟩ Q_l1 hJ2 hQ2
    rw [slices_Min_int64_int64.l1] at H
    refine OK.sq ?_
    refine OK.sr ?_
    refine RL.st 4 [(15, .bool (decide (x3 < (a0.length : Int)))), (0, .slice Ap0 a0.length cp0), (3, i6 x2), (4, i6 x3)] ?_
    refine OK.cd (decide (x3 < (a0.length : Int))) (fun hb => ?_) (fun hb => ?_)
    ·skip
     have hc := (of_decide_eq_true hb)
     rw [if_pos hc] at H
     clear hb
     refine OK.skt ?_
     refine OK.sq ?_
     refine OK.bk 1 ?_
     refine OK.rg ?_
     refine RL.s 3 [(20, i6 x3), (19, .slice Ap0 a0.length cp0), (18, i6 x2), (0, .slice Ap0 a0.length cp0), (3, i6 x2), (4, i6 x3)] ?_
     obtain ⟨hib0, H⟩ := ifs H
     obtain ⟨hib1, H⟩ := ifs H
     obtain ⟨g2_, o2_, hA2_, hc2_⟩ := Ty.int_at (Rd.ext hi2 hrp0) x3 hib0 hib1
     refine RL.idx 1 .i64 x3 hA2_ a0.length cp0 (some 21) (by kernel_rfl) (by kernel_rfl) (T := 24) (e := 2) (by kernel_rfl) (by kernel_rfl) hib0 hib1 (K' := [(21, pt g2_ (o2_ + (x3).toNat * 1)), (20, i6 x3), (19, .slice Ap0 a0.length cp0), (18, i6 x2), (0, .slice Ap0 a0.length cp0), (3, i6 x2), (4, i6 x3)]) (by kernel_rfl) ?_
     refine RL.simK (K' := [(3, i6 (iMin x2 (a0.getD (x3).toNat 0))), (0, .slice Ap0 a0.length cp0), (4, i6 x3)]) [(⟨g2_, o2_ + (x3).toNat * 1, none⟩, i6 (a0.getD (x3).toNat 0))] (RFacts.imm (hc2_ 0 _ rfl) (RFacts.nil _ _ _)) 3 [.r 0, .no, .no] (by kernel_rfl) (by kernel_rfl) ?_
     refine RL.nil (by kernel_rfl) ?_
     refine QN.blkN ?_
     refine QN.then_ ?_
     refine OK.rg ?_
     refine RL.s 3 [(4, i6 (W .i64 (x3 + 1))), (3, i6 (iMin x2 (a0.getD (x3).toNat 0))), (0, .slice Ap0 a0.length cp0)] ?_
     refine RL.nil (by kernel_rfl) ?_
     exact QN.sb (hJ2 _ _ _ _ _ ⟨iMin x2 (a0.getD (x3).toNat 0), W .i64 (x3 + 1), rfl, rfl, rfl, hi2, H⟩) .slnil (.refl _)
    ·skip
     have hc := (of_decide_eq_false hb)
     rw [if_neg hc] at H
     clear hb
     refine OK.ex 0 ?_
     refine QN.thenE ?_
     refine QN.outE hQ2 ?_
     refine QN.blkE ?_
     obtain rfl := Option.some.inj H
     exact QN.sb (hJ1 _ _ _ _ _ ⟨x2, rfl, rfl, rfl, hi2, HK1⟩) .slnil (.refl _)

end Go.Proofs.Ytdmhbcgmimfjcaa
namespace Go.Proofs.Ytdmhbcgmimfjcaa
open Go Go.Proofs.Ytdmhbcgmimfjcaa.RW
set_option linter.unusedVariables false
set_option maxRecDepth 100000
set_option maxHeartbeats 8000000

/-! ### assign_dualss0: function 34, armillary/assign.duals -/
noncomputable def K34s0_0 : Code := cBody Try.f34
noncomputable def O34s0_7 : List Oper := cOps (cL (cR (cR K34s0_0)))
noncomputable def O34s0_27 : List Oper := cOps (cR (cL (cL (cR (cR (cL (cL (cR (cL (cR (cR (cR K34s0_0))))))))))))
noncomputable def O34s0_49 : List Oper := cOps (cR (cL (cL (cR (cR (cL (cL (cR (cL (cR (cR (cR (cR K34s0_0)))))))))))))
def assign_dualss0.k1 (x1 : List Int) (x2 : List Int) : Option (S26) := (some (⟨x1, x2⟩ : S26))
def assign_dualss0.l1 (b0 : S58) (t1 : Int) (t2 : Int) : Nat → (List Int) → Int → Option (List Int)
 | 0, _, _ => none
 | k + 1, x3, x4 => (if x4 < ((List.replicate (t2).toNat (0 : Int)).length : Int) then (if 0 ≤ x4 then (if x4 < (12 : Int) then (if 0 ≤ x4 then (if x4 < (x3.length : Int) then (assign_dualss0.l1 b0 t1 t2 k (x3.set (x4).toNat (W .i64 ((b0.f2.getD ((x4).toNat) 0) - t1))) (W .i64 (x4 + 1))) else none) else none) else none) else none) else (some x3))
def assign_dualss0.k2 (k : Nat) (b0 : S58) (t1 : Int) (t2 : Int) (x1 : List Int) : Option (S26) := ((assign_dualss0.l1 b0 t1 t2 k (List.replicate (t2).toNat (0 : Int)) 0).bind (assign_dualss0.k1 x1))
def assign_dualss0.l2 (a0 : List (List Int)) (b0 : S58) (t1 : Int) : Nat → (List Int) → Int → Option (List Int)
 | 0, _, _ => none
 | k + 1, x5, x6 => (if x6 < ((List.replicate ((a0.length : Int)).toNat (0 : Int)).length : Int) then (if 0 ≤ x6 then (if x6 < (12 : Int) then (if 0 ≤ x6 then (if x6 < (x5.length : Int) then (assign_dualss0.l2 a0 b0 t1 k (x5.set (x6).toNat (W .i64 ((b0.f1.getD ((x6).toNat) 0) + t1))) (W .i64 (x6 + 1))) else none) else none) else none) else none) else (some x5))
def assign_dualss0.f (k : Nat) (a0 : List (List Int)) (b0 : S58) : Option (S26) := ((slices_Min_int64_int64.f k (b0.f2.take 12)).bind fun t1 => (if 0 ≤ (a0.length : Int) then (if (a0.length : Int) ≤ 35184372088832 then ((assign_columns.f a0).bind fun t2 => (if 0 ≤ t2 then (if t2 ≤ 35184372088832 then ((assign_dualss0.l2 a0 b0 t1 k (List.replicate ((a0.length : Int)).toNat (0 : Int)) 0).bind (assign_dualss0.k2 k b0 t1 t2)) else none) else none)) else none) else none))
def assign_dualss0.Post (S : Nat → Prop) (gb0 : Nat) (a0 : List (List Int)) (Aa0 : Option Addr) (ca0 : Nat) (b0 : S58) (I : Imm) (w : World) (r : S26) (v : Value) (w' : World) : Prop :=
 ∃ (J : Imm) (Ar0_0 : Option Addr) (cr0_0 : Nat) (csr0_0 : List Value) (Ar0_1 : Option Addr) (cr0_1 : Nat) (csr0_1 : List Value), v = .agg #[.slice Ar0_0 r.f0.length cr0_0, .slice Ar0_1 r.f1.length cr0_1] ∧ Sat ⟨w, S, I⟩ J w'.heap.size [⟨gb0, ((arrV (Value.int .i64) 0 12 b0.f0) ++ ((arrV (Value.int .i64) 0 12 b0.f1) ++ (arrV (Value.int .i64) 0 12 b0.f2))), 58⟩] [orow 2 1 Ar0_0 r.f0.length cr0_0 csr0_0, orow 2 1 Ar0_1 r.f1.length cr0_1 csr0_1] w' ∧ Reps (Ty.int .i64) J r.f0 csr0_0 ∧ Reps (Ty.int .i64) J r.f1 csr0_1
noncomputable def a34s0_7n : List Nat := [0, 1, 3, 0, 8, 24, 63, 0, 255]
theorem a34s0_7 : ancs O34s0_7 [] = a34s0_7n := by kernel_rfl
theorem a34s0_7o : drawOk O34s0_7 a34s0_7n 8 = true := by kernel_rfl
noncomputable def u34d1l (a0 : List (List Int)) (t2 : Int) : List Ld :=
 [⟨2, fun x => .slice ((x 0).1) ((List.replicate ((a0.length : Int)).toNat (0 : Int)).length) ((x 0).2.1), fun x => [orow 2 1 (x 0).1 (List.replicate ((a0.length : Int)).toNat (0 : Int)).length (x 0).2.1 (x 0).2.2], fun x J => Reps (Ty.int .i64) J (List.replicate ((a0.length : Int)).toNat (0 : Int)) (x 0).2.2 ∧ True, fun x J J' h f => ⟨Reps.ext h f.1, trivial⟩⟩,
  ⟨4, fun x => i6 t2, fun x => [], fun x J => True, fun x J J' h f => trivial⟩,
  ⟨5, fun x => .slice ((x 0).1) ((List.replicate (t2).toNat (0 : Int)).length) ((x 0).2.1), fun x => [orow 2 1 (x 0).1 (List.replicate (t2).toNat (0 : Int)).length (x 0).2.1 (x 0).2.2], fun x J => Reps (Ty.int .i64) J (List.replicate (t2).toNat (0 : Int)) (x 0).2.2 ∧ True, fun x J J' h f => ⟨Reps.ext h f.1, trivial⟩⟩,
  ⟨7, fun x => pt ((x 0).2.1) 0, fun x => [RW.kblk (x 0).2.1 26 [.slice none 0 0, .slice none 0 0]], fun x J => True, fun x J J' h f => trivial⟩]
noncomputable def u34d1g  : List (Nat × ((Nat → Wt) → Value)) := []
noncomputable def u34d1q (nx0 : Nat) (gb0 : Nat) (a0 : List (List Int)) (Aa0 : Option Addr) (ca0 : Nat) (b0 : S58) (t1 : Int) (t2 : Int) (u : Nat → Wt) : Option (List Value × List (Nat × Value) × List (Nat × Nat)) := qSim Try.prog [] [⟨gb0, ((arrV (Value.int .i64) 0 12 b0.f0) ++ ((arrV (Value.int .i64) 0 12 b0.f1) ++ (arrV (Value.int .i64) 0 12 b0.f2))), 58⟩, ⟨nx0, [.slice none 0 0, .slice none 0 0], 26⟩] O34s0_7 ⟨60, []⟩ (Ld.vl (u34d1l a0 t2)) u34d1g u [.no, .no, .no, .no, .no, .no, .no, .no] 0 (O34s0_7.take 8) [(5, i6 t1), (4, pt nx0 0), (0, .slice Aa0 a0.length ca0), (1, pt gb0 0)]
noncomputable def u34d1s (a0 : List (List Int)) (Aa0 : Option Addr) (ca0 : Nat) (t2 : Int) (u : Nat → Wt) : List Value := [.slice Aa0 a0.length ca0, i6 (a0.length : Int), .slice ((u 2 0).1) ((List.replicate ((a0.length : Int)).toNat (0 : Int)).length) ((u 2 0).2.1), .slice Aa0 a0.length ca0, i6 t2, .slice ((u 5 0).1) ((List.replicate (t2).toNat (0 : Int)).length) ((u 5 0).2.1), .agg #[.slice ((u 2 0).1) ((List.replicate ((a0.length : Int)).toNat (0 : Int)).length) ((u 2 0).2.1), .slice ((u 5 0).1) ((List.replicate (t2).toNat (0 : Int)).length) ((u 5 0).2.1)], pt ((u 7 0).2.1) 0]
noncomputable def u34d1f (nx0 : Nat) (gb0 : Nat) (a0 : List (List Int)) (Aa0 : Option Addr) (ca0 : Nat) (t1 : Int) (t2 : Int) (i : Nat) (u : Nat → Wt) : List (Nat × Value) := foldPut ⟨60, []⟩ [(5, i6 t1), (4, pt nx0 0), (0, .slice Aa0 a0.length ca0), (1, pt gb0 0)] (O34s0_7.take i) (((u34d1s a0 Aa0 ca0 t2) u).take i)
theorem u34d1v (nx0 : Nat) (gb0 : Nat) (a0 : List (List Int)) (Aa0 : Option Addr) (ca0 : Nat) (b0 : S58) (t1 : Int) (t2 : Int) (u : Nat → Wt) : (u34d1q nx0 gb0 a0 Aa0 ca0 b0 t1 t2 u).map (fun x => (x.1, x.2.1)) = some ((u34d1s a0 Aa0 ca0 t2) u, (u34d1f nx0 gb0 a0 Aa0 ca0 t1 t2 8) u) := by kernel_rfl
theorem u34d1e (nx0 : Nat) (gb0 : Nat) (a0 : List (List Int)) (Aa0 : Option Addr) (ca0 : Nat) (b0 : S58) (t1 : Int) (t2 : Int) (u : Nat → Wt) : (u34d1q nx0 gb0 a0 Aa0 ca0 b0 t1 t2 u).map (fun x => x.2.2.map (·.1)) = (u34d1q nx0 gb0 a0 Aa0 ca0 b0 t1 t2 u).map (fun x => x.2.2.map (·.2)) := by kernel_rfl
noncomputable def a34s0_49n : List Nat := [0, 1, 0, 0, 0, 8, 40, 120, 248, 0, 1016, 2047, 4095]
theorem a34s0_49 : ancs O34s0_49 [] = a34s0_49n := by kernel_rfl
theorem a34s0_49o : drawOk O34s0_49 a34s0_49n 11 = true := by kernel_rfl
noncomputable def u34d2l  : List Ld :=
 []
noncomputable def u34d2g (gb0 : Nat) (x4 : Int) : List (Nat × ((Nat → Wt) → Value)) := [(7, fun u => pt gb0 (24 + (x4).toNat * 1))]
noncomputable def u34d2q (nx0 : Nat) (gb0 : Nat) (b0 : S58) (t1 : Int) (t2 : Int) (c3 : Nat) (x1 : List Int) (A4 : Option Addr) (c4 : Nat) (x3 : List Int) (A6 : Option Addr) (c6 : Nat) (x4 : Int) (u : Nat → Wt) : Option (List Value × List (Nat × Value) × List (Nat × Nat)) := qSim Try.prog [(⟨gb0, 24 + (x4).toNat * 1, none⟩, i6 (b0.f2.getD ((x4).toNat) 0))] [⟨gb0, ((arrV (Value.int .i64) 0 12 b0.f0) ++ ((arrV (Value.int .i64) 0 12 b0.f1) ++ (arrV (Value.int .i64) 0 12 b0.f2))), 58⟩, ⟨nx0, [.slice none 0 0, .slice none 0 0], 26⟩, ⟨c3, [.slice A4 x1.length c4, .slice A6 x3.length c6], 26⟩] O34s0_49 ⟨60, []⟩ (Ld.vl u34d2l) (u34d2g gb0 x4) u [.no, .l 2, .no, .no, .no, .no, .no, .no, .r 0, .no, .no] 0 (O34s0_49.take 11) [(8, i6 x4), (1, pt gb0 0), (4, pt nx0 0), (5, i6 t1), (6, pt c3 0), (42, i6 ((List.replicate (t2).toNat (0 : Int)).length : Int)), (43, i6 x4)]
noncomputable def u34d2s (gb0 : Nat) (b0 : S58) (t1 : Int) (c3 : Nat) (x3 : List Int) (A6 : Option Addr) (c6 : Nat) (x4 : Int) (u : Nat → Wt) : List Value := [pt c3 1, .slice A6 x3.length c6, i6 x4, pt gb0 0, i6 x4, pt gb0 0, pt gb0 24, pt gb0 (24 + (x4).toNat * 1), i6 (b0.f2.getD ((x4).toNat) 0), i6 t1, i6 (W .i64 ((b0.f2.getD ((x4).toNat) 0) - t1))]
noncomputable def u34d2f (nx0 : Nat) (gb0 : Nat) (b0 : S58) (t1 : Int) (t2 : Int) (c3 : Nat) (x3 : List Int) (A6 : Option Addr) (c6 : Nat) (x4 : Int) (i : Nat) (u : Nat → Wt) : List (Nat × Value) := foldPut ⟨60, []⟩ [(8, i6 x4), (1, pt gb0 0), (4, pt nx0 0), (5, i6 t1), (6, pt c3 0), (42, i6 ((List.replicate (t2).toNat (0 : Int)).length : Int)), (43, i6 x4)] (O34s0_49.take i) (((u34d2s gb0 b0 t1 c3 x3 A6 c6 x4) u).take i)
theorem u34d2v (nx0 : Nat) (gb0 : Nat) (b0 : S58) (t1 : Int) (t2 : Int) (c3 : Nat) (x1 : List Int) (A4 : Option Addr) (c4 : Nat) (x3 : List Int) (A6 : Option Addr) (c6 : Nat) (x4 : Int) (u : Nat → Wt) : (u34d2q nx0 gb0 b0 t1 t2 c3 x1 A4 c4 x3 A6 c6 x4 u).map (fun x => (x.1, x.2.1)) = some ((u34d2s gb0 b0 t1 c3 x3 A6 c6 x4) u, (u34d2f nx0 gb0 b0 t1 t2 c3 x3 A6 c6 x4 11) u) := by kernel_rfl
theorem u34d2e (nx0 : Nat) (gb0 : Nat) (b0 : S58) (t1 : Int) (t2 : Int) (c3 : Nat) (x1 : List Int) (A4 : Option Addr) (c4 : Nat) (x3 : List Int) (A6 : Option Addr) (c6 : Nat) (x4 : Int) (u : Nat → Wt) : (u34d2q nx0 gb0 b0 t1 t2 c3 x1 A4 c4 x3 A6 c6 x4 u).map (fun x => x.2.2.map (·.1)) = (u34d2q nx0 gb0 b0 t1 t2 c3 x1 A4 c4 x3 A6 c6 x4 u).map (fun x => x.2.2.map (·.2)) := by kernel_rfl
noncomputable def a34s0_27n : List Nat := [0, 1, 0, 0, 0, 8, 40, 120, 248, 0, 1016, 2047, 4095]
theorem a34s0_27 : ancs O34s0_27 [] = a34s0_27n := by kernel_rfl
theorem a34s0_27o : drawOk O34s0_27 a34s0_27n 11 = true := by kernel_rfl
noncomputable def u34d3l  : List Ld :=
 []
noncomputable def u34d3g (gb0 : Nat) (x6 : Int) : List (Nat × ((Nat → Wt) → Value)) := [(7, fun u => pt gb0 (12 + (x6).toNat * 1))]
noncomputable def u34d3q (nx0 : Nat) (gb0 : Nat) (a0 : List (List Int)) (b0 : S58) (t1 : Int) (t2 : Int) (A2 : Option Addr) (c2 : Nat) (c3 : Nat) (x5 : List Int) (A7 : Option Addr) (c7 : Nat) (x6 : Int) (u : Nat → Wt) : Option (List Value × List (Nat × Value) × List (Nat × Nat)) := qSim Try.prog [(⟨gb0, 12 + (x6).toNat * 1, none⟩, i6 (b0.f1.getD ((x6).toNat) 0))] [⟨gb0, ((arrV (Value.int .i64) 0 12 b0.f0) ++ ((arrV (Value.int .i64) 0 12 b0.f1) ++ (arrV (Value.int .i64) 0 12 b0.f2))), 58⟩, ⟨nx0, [.slice none 0 0, .slice none 0 0], 26⟩, ⟨c3, [.slice A7 x5.length c7, .slice A2 ((List.replicate (t2).toNat (0 : Int)).length) c2], 26⟩] O34s0_27 ⟨60, []⟩ (Ld.vl u34d3l) (u34d3g gb0 x6) u [.no, .l 2, .no, .no, .no, .no, .no, .no, .r 0, .no, .no] 0 (O34s0_27.take 11) [(7, i6 x6), (1, pt gb0 0), (4, pt nx0 0), (5, i6 t1), (6, pt c3 0), (23, i6 ((List.replicate ((a0.length : Int)).toNat (0 : Int)).length : Int)), (24, i6 x6)]
noncomputable def u34d3s (gb0 : Nat) (b0 : S58) (t1 : Int) (c3 : Nat) (x5 : List Int) (A7 : Option Addr) (c7 : Nat) (x6 : Int) (u : Nat → Wt) : List Value := [pt c3 0, .slice A7 x5.length c7, i6 x6, pt gb0 0, i6 x6, pt gb0 0, pt gb0 12, pt gb0 (12 + (x6).toNat * 1), i6 (b0.f1.getD ((x6).toNat) 0), i6 t1, i6 (W .i64 ((b0.f1.getD ((x6).toNat) 0) + t1))]
noncomputable def u34d3f (nx0 : Nat) (gb0 : Nat) (a0 : List (List Int)) (b0 : S58) (t1 : Int) (c3 : Nat) (x5 : List Int) (A7 : Option Addr) (c7 : Nat) (x6 : Int) (i : Nat) (u : Nat → Wt) : List (Nat × Value) := foldPut ⟨60, []⟩ [(7, i6 x6), (1, pt gb0 0), (4, pt nx0 0), (5, i6 t1), (6, pt c3 0), (23, i6 ((List.replicate ((a0.length : Int)).toNat (0 : Int)).length : Int)), (24, i6 x6)] (O34s0_27.take i) (((u34d3s gb0 b0 t1 c3 x5 A7 c7 x6) u).take i)
theorem u34d3v (nx0 : Nat) (gb0 : Nat) (a0 : List (List Int)) (b0 : S58) (t1 : Int) (t2 : Int) (A2 : Option Addr) (c2 : Nat) (c3 : Nat) (x5 : List Int) (A7 : Option Addr) (c7 : Nat) (x6 : Int) (u : Nat → Wt) : (u34d3q nx0 gb0 a0 b0 t1 t2 A2 c2 c3 x5 A7 c7 x6 u).map (fun x => (x.1, x.2.1)) = some ((u34d3s gb0 b0 t1 c3 x5 A7 c7 x6) u, (u34d3f nx0 gb0 a0 b0 t1 c3 x5 A7 c7 x6 11) u) := by kernel_rfl
theorem u34d3e (nx0 : Nat) (gb0 : Nat) (a0 : List (List Int)) (b0 : S58) (t1 : Int) (t2 : Int) (A2 : Option Addr) (c2 : Nat) (c3 : Nat) (x5 : List Int) (A7 : Option Addr) (c7 : Nat) (x6 : Int) (u : Nat → Wt) : (u34d3q nx0 gb0 a0 b0 t1 t2 A2 c2 c3 x5 A7 c7 x6 u).map (fun x => x.2.2.map (·.1)) = (u34d3q nx0 gb0 a0 b0 t1 t2 A2 c2 c3 x5 A7 c7 x6 u).map (fun x => x.2.2.map (·.2)) := by kernel_rfl
theorem assign_dualss0.calls (k : Nat) (I0 : Imm) (gb0 : Nat) (a0 : List (List Int)) (Aa0 : Option Addr) (ca0 : Nat) (b0 : S58) (w : World) (hs : Sat ⟨w, SM [⟨gb0, ((arrV (Value.int .i64) 0 12 b0.f0) ++ ((arrV (Value.int .i64) 0 12 b0.f1) ++ (arrV (Value.int .i64) 0 12 b0.f2))), 58⟩] [], I0⟩ I0 w.heap.size [⟨gb0, ((arrV (Value.int .i64) 0 12 b0.f0) ++ ((arrV (Value.int .i64) 0 12 b0.f1) ++ (arrV (Value.int .i64) 0 12 b0.f2))), 58⟩] [] w) (hla0 : a0.length ≤ ca0) (hra0 : Rd (Ty.slice (Ty.int .i64)) I0 Aa0 a0) (hzb0_0 : 12 ≤ b0.f0.length) (hzb0_1 : 12 ≤ b0.f1.length) (hzb0_2 : 12 ≤ b0.f2.length) (r : S26) (h : assign_dualss0.f k a0 b0 = some r) :
  Calls Try.prog 34 [.slice Aa0 a0.length ca0, pt gb0 0].toArray w fun e w' => ∃ v, e = .returned v ∧ assign_dualss0.Post (SM [⟨gb0, ((arrV (Value.int .i64) 0 12 b0.f0) ++ ((arrV (Value.int .i64) 0 12 b0.f1) ++ (arrV (Value.int .i64) 0 12 b0.f2))), 58⟩] []) gb0 a0 Aa0 ca0 b0 I0 w r v w' := by
 have H : ((slices_Min_int64_int64.f k (b0.f2.take 12)).bind fun t1 => (if 0 ≤ (a0.length : Int) then (if (a0.length : Int) ≤ 35184372088832 then ((assign_columns.f a0).bind fun t2 => (if 0 ≤ t2 then (if t2 ≤ 35184372088832 then ((assign_dualss0.l2 a0 b0 t1 k (List.replicate ((a0.length : Int)).toNat (0 : Int)) 0).bind (assign_dualss0.k2 k b0 t1 t2)) else none) else none)) else none) else none)) = some r := h
 clear h
 refine calls_bodyL Try.func34 (by kernel_rfl) 60 (by kernel_rfl) (by kernel_rfl) ⟨w, SM [⟨gb0, ((arrV (Value.int .i64) 0 12 b0.f0) ++ ((arrV (Value.int .i64) 0 12 b0.f1) ++ (arrV (Value.int .i64) 0 12 b0.f2))), 58⟩] [], I0⟩ I0 [⟨gb0, ((arrV (Value.int .i64) 0 12 b0.f0) ++ ((arrV (Value.int .i64) 0 12 b0.f1) ++ (arrV (Value.int .i64) 0 12 b0.f2))), 58⟩] [] [(0, .slice Aa0 a0.length ca0), (1, pt gb0 0)] (by kernel_rfl) hs ?_
 generalize w.heap.size = nx0
 show OK _ K34s0_0 _ _ _ _ _ _ _ _
 refine OK.sr ?_
 refine RL.spt 1 [(4, pt nx0 0), (0, .slice Aa0 a0.length ca0), (1, pt gb0 0)] (nx0 + 1) [⟨gb0, ((arrV (Value.int .i64) 0 12 b0.f0) ++ ((arrV (Value.int .i64) 0 12 b0.f1) ++ (arrV (Value.int .i64) 0 12 b0.f2))), 58⟩, ⟨nx0, [.slice none 0 0, .slice none 0 0], 26⟩] ?_
 refine OK.sr ?_
 refine RL.s 3 [(11, pt gb0 24), (4, pt nx0 0), (0, .slice Aa0 a0.length ca0), (1, pt gb0 0)] ?_
 refine RL.s 1 [(12, .slice (some ⟨gb0, 24, none⟩) 12 12), (11, pt gb0 24), (4, pt nx0 0), (0, .slice Aa0 a0.length ca0), (1, pt gb0 0)] ?_
 have hv1 := take_len (n := 12) hzb0_2
 refine RL.norm (K' := [(12, .slice (some ⟨gb0, 24, none⟩) ((b0.f2.take 12).length) 12), (11, pt gb0 24), (4, pt nx0 0), (0, .slice Aa0 a0.length ca0), (1, pt gb0 0)]) (by rw [hv1]) rfl rfl rfl ?_
 obtain ⟨t1, hA1, H⟩ := bnd H
 refine RL.callP 38 [.slice (some ⟨gb0, 24, none⟩) ((b0.f2.take 12).length) 12] (some 13) (fun w v w' => ∃ I', Imm.le I0 I' ∧ slices_Min_int64_int64.Post I' w t1 v w') (by kernel_rfl) (by kernel_rfl) (fun w hs => ?_) ?_
 ·skip
  obtain ⟨JL1, hj1, hw10, hs⟩ := Sat.lendB (i := 0) (b := ⟨gb0, ((arrV (Value.int .i64) 0 12 b0.f0) ++ ((arrV (Value.int .i64) 0 12 b0.f1) ++ (arrV (Value.int .i64) 0 12 b0.f2))), 58⟩) hs (by kernel_rfl)
  have hw1 := rd_view (g := gb0) (cs := ((arrV (Value.int .i64) 0 12 b0.f0) ++ ((arrV (Value.int .i64) 0 12 b0.f1) ++ (arrV (Value.int .i64) 0 12 b0.f2)))) (enc := (Value.int .i64)) (z := 0) (n := 12) (l := b0.f2) (pre := ((arrV (Value.int .i64) 0 12 b0.f0) ++ (arrV (Value.int .i64) 0 12 b0.f1))) (post := []) (q := 24) (h1 := fun _ => rfl) hw10 (by kernel_rfl) (by kernel_rfl) hzb0_2 (by decide)
  exact (slices_Min_int64_int64.calls k JL1 (b0.f2.take 12) (some ⟨gb0, 24, none⟩) 12 _ hs.im (Nat.le_of_eq hv1) hw1 t1 hA1).mono (fun e w' ⟨v, hv, hp⟩ => ⟨v, hv, JL1, hj1, hp⟩)
 rintro w v w' hs ⟨I', hle, J, rfl, hg⟩
 refine RL.resume (X' := []) rfl (hs.call (hg.back hle)) ?_
 clear hs hg hle I' J
 generalize w'.heap.size = nx1
 clear w w'
 refine RL.st 1 [(5, i6 t1), (4, pt nx0 0), (0, .slice Aa0 a0.length ca0), (1, pt gb0 0)] ?_
 refine OK.sq ?_
 obtain ⟨hm1, H⟩ := ifs H
 obtain ⟨hm2, H⟩ := ifs H
 obtain ⟨t2, hA2, H⟩ := bnd H
 obtain ⟨hm3, H⟩ := ifs H
 obtain ⟨hm4, H⟩ := ifs H
 refine OK.drawnC 2 8 O34s0_7 a34s0_7n (by kernel_rfl) (by kernel_rfl) (u34d1l a0 t2) u34d1g [] (RI.nil _) [.no, .no, .no, .no, .no, .no, .no, .no] a34s0_7 a34s0_7o (by kernel_rfl) (by kernel_rfl) (u34d1s a0 Aa0 ca0 t2) (u34d1f nx0 gb0 a0 Aa0 ca0 t1 t2 8) (u34d1v nx0 gb0 a0 Aa0 ca0 b0 t1 t2) (u34d1e nx0 gb0 a0 Aa0 ca0 b0 t1 t2) [u34d1f nx0 gb0 a0 Aa0 ca0 t1 t2 2, u34d1f nx0 gb0 a0 Aa0 ca0 t1 t2 4, u34d1f nx0 gb0 a0 Aa0 ca0 t1 t2 5, u34d1f nx0 gb0 a0 Aa0 ca0 t1 t2 7] (framesOk.cons (fun u => rfl) (framesOk.cons (fun u => rfl) (framesOk.cons (fun u => rfl) (framesOk.cons (fun u => rfl) framesOk.nil)))) ?_ [] framesOk.nil ?_ ?_
 ·refine LoudsG.cons ?_ (LoudsG.cons ?_ (LoudsG.cons ?_ (LoudsG.cons ?_ (LoudsG.nil))))
  ·intro D u J w hp hJ hs hF
   refine (Does.makeL (T := 24) (e := 2) hs.im (a0.length : Int) .i64 .i64 (i6 0) (0) (Ty.int .i64) 8 (by kernel_rfl) (by kernel_rfl) (by kernel_rfl) (by kernel_rfl) rfl hm1 (by omega) (by omega)).mono ?_
   rintro v w' ⟨rfl, hg, hp⟩
   exact ⟨fun _ => (_, _, _), J, rfl, hg, hp, trivial⟩
  ·intro D u J w hp hJ hs hF
   refine Does.call 29 [.slice Aa0 a0.length ca0] (by kernel_rfl) ((assign_columns.calls J a0 Aa0 ca0 w hs.im hla0 (Rd.ext hJ hra0) t2 hA2).mono ?_)
   rintro e w' ⟨v, rfl, J2, rfl, hg⟩
   exact ⟨_, rfl, fun _ => (none, 0, []), J2, rfl, hg, trivial⟩
  ·intro D u J w hp hJ hs hF
   refine (Does.makeL (T := 24) (e := 2) hs.im t2 .i64 .i64 (i6 0) (0) (Ty.int .i64) 8 (by kernel_rfl) (by kernel_rfl) (by kernel_rfl) (by kernel_rfl) rfl hm3 (by omega) (by omega)).mono ?_
   rintro v w' ⟨rfl, hg, hp⟩
   exact ⟨fun _ => (_, _, _), J, rfl, hg, hp, trivial⟩
  ·intro D u J w hp hJ hs hF
   refine (Does.make hs.im (fun n_ => pt n_ 0) (cs := [.slice none 0 0, .slice none 0 0]) (ty := 26) (fun n_ => by kernel_rfl)).mono ?_
   rintro v w' ⟨rfl, hg⟩
   exact ⟨fun _ => (none, w.heap.size, []), J, rfl, hg, trivial⟩
 ·refine Givens.nil
 intro u I1 nx2 hi1 hF
 have hf1 := ((hF.1 rfl).1)
 have hf2 := ((hF.2.2.1 rfl).1)
 clear hF
 refine RL.norm (K' := [(6, pt ((u 7 0).2.1) 0), (20, .agg #[.slice ((u 2 0).1) ((List.replicate ((a0.length : Int)).toNat (0 : Int)).length) ((u 2 0).2.1), .slice ((u 5 0).1) ((List.replicate (t2).toNat (0 : Int)).length) ((u 5 0).2.1)]), (19, .slice ((u 5 0).1) ((List.replicate (t2).toNat (0 : Int)).length) ((u 5 0).2.1)), (18, i6 t2), (17, .slice Aa0 a0.length ca0), (16, .slice ((u 2 0).1) ((List.replicate ((a0.length : Int)).toNat (0 : Int)).length) ((u 2 0).2.1)), (15, i6 (a0.length : Int)), (14, .slice Aa0 a0.length ca0), (5, i6 t1), (4, pt nx0 0), (0, .slice Aa0 a0.length ca0), (1, pt gb0 0)]) (X' := [orow 2 1 (u 2 0).1 ((List.replicate ((a0.length : Int)).toNat (0 : Int)).length) (u 2 0).2.1 (u 2 0).2.2, orow 2 1 (u 5 0).1 ((List.replicate (t2).toNat (0 : Int)).length) (u 5 0).2.1 (u 5 0).2.2, RW.kblk (u 7 0).2.1 26 [.slice none 0 0, .slice none 0 0]]) (by kernel_rfl) rfl rfl rfl ?_
 revert hf1 hf2
 generalize (u 2 0).1 = A1
 generalize (u 2 0).2.1 = c1
 generalize (u 2 0).2.2 = cs1
 generalize (u 5 0).1 = A2
 generalize (u 5 0).2.1 = c2
 generalize (u 5 0).2.2 = cs2
 generalize (u 7 0).1 = A3
 generalize (u 7 0).2.1 = c3
 generalize (u 7 0).2.2 = cs3
 intro hf1 hf2
 clear u
 refine RL.kblk (g := c3) (ty := 26) (cs := [.slice none 0 0, .slice none 0 0]) 2 (by kernel_rfl) ?_
 show RL _ _ _ 8 _ [(6, pt c3 0), (20, .agg #[.slice A1 ((List.replicate ((a0.length : Int)).toNat (0 : Int)).length) c1, .slice A2 ((List.replicate (t2).toNat (0 : Int)).length) c2]), (19, .slice A2 ((List.replicate (t2).toNat (0 : Int)).length) c2), (18, i6 t2), (17, .slice Aa0 a0.length ca0), (16, .slice A1 ((List.replicate ((a0.length : Int)).toNat (0 : Int)).length) c1), (15, i6 (a0.length : Int)), (14, .slice Aa0 a0.length ca0), (5, i6 t1), (4, pt nx0 0), (0, .slice Aa0 a0.length ca0), (1, pt gb0 0)] _ _ _ [⟨gb0, ((arrV (Value.int .i64) 0 12 b0.f0) ++ ((arrV (Value.int .i64) 0 12 b0.f1) ++ (arrV (Value.int .i64) 0 12 b0.f2))), 58⟩, ⟨nx0, [.slice none 0 0, .slice none 0 0], 26⟩, ⟨c3, [.slice none 0 0, .slice none 0 0], 26⟩] [orow 2 1 A1 ((List.replicate ((a0.length : Int)).toNat (0 : Int)).length) c1 cs1, orow 2 1 A2 ((List.replicate (t2).toNat (0 : Int)).length) c2 cs2]
 refine RL.simP (K' := [(6, pt c3 0), (5, i6 t1), (4, pt nx0 0), (1, pt gb0 0)]) (nx' := nx2) (L' := [⟨gb0, ((arrV (Value.int .i64) 0 12 b0.f0) ++ ((arrV (Value.int .i64) 0 12 b0.f1) ++ (arrV (Value.int .i64) 0 12 b0.f2))), 58⟩, ⟨nx0, [.slice none 0 0, .slice none 0 0], 26⟩, ⟨c3, [.slice A1 ((List.replicate ((a0.length : Int)).toNat (0 : Int)).length) c1, .slice A2 ((List.replicate (t2).toNat (0 : Int)).length) c2], 26⟩]) [] (RFacts.nil _ _ _) 1 [.l 2] (by kernel_rfl) (by kernel_rfl) ?_
 refine RL.nt ?_
 refine OK.sq ?_
 refine OK.sr ?_
 refine RL.simK (K' := [(24, i6 0), (23, i6 ((List.replicate ((a0.length : Int)).toNat (0 : Int)).length : Int)), (6, pt c3 0), (5, i6 t1), (4, pt nx0 0), (1, pt gb0 0)]) [] (RFacts.nil _ _ _) 4 [.no, .l 2, .no, .no] (by kernel_rfl) (by kernel_rfl) ?_
 refine RL.nt ?_
 refine OK.join (fun K' I' _ L' X' => ∃ (x1 : List Int) (A4 : Option Addr) (c4 : Nat) (cs4 : List Value), K' = [(1, pt gb0 0), (4, pt nx0 0), (5, i6 t1), (6, pt c3 0)] ∧ L' = [⟨gb0, ((arrV (Value.int .i64) 0 12 b0.f0) ++ ((arrV (Value.int .i64) 0 12 b0.f1) ++ (arrV (Value.int .i64) 0 12 b0.f2))), 58⟩, ⟨nx0, [.slice none 0 0, .slice none 0 0], 26⟩, ⟨c3, [.slice A4 x1.length c4, .slice A2 ((List.replicate (t2).toNat (0 : Int)).length) c2], 26⟩] ∧ X' = [orow 2 1 A4 x1.length c4 cs4, orow 2 1 A2 ((List.replicate (t2).toNat (0 : Int)).length) c2 cs2] ∧ Imm.le I1 I' ∧ Reps (Ty.int .i64) I' x1 cs4 ∧ assign_dualss0.k2 k b0 t1 t2 x1 = some r) ?_ ?_
 ·rintro _ I2 nx3 _ _ ⟨x1, A4, c4, cs4, rfl, rfl, rfl, hi2, hp1, H⟩
  rw [assign_dualss0.k2] at H
  refine QN.then_ ?_
  refine OK.sq ?_
  refine OK.sr ?_
  refine RL.simK (K' := [(43, i6 0), (42, i6 ((List.replicate (t2).toNat (0 : Int)).length : Int)), (1, pt gb0 0), (4, pt nx0 0), (5, i6 t1), (6, pt c3 0)]) [] (RFacts.nil _ _ _) 4 [.no, .l 2, .no, .no] (by kernel_rfl) (by kernel_rfl) ?_
  refine RL.nt ?_
  refine OK.join (fun K' I' _ L' X' => ∃ (x2 : List Int) (A5 : Option Addr) (c5 : Nat) (cs5 : List Value), K' = [(4, pt nx0 0), (6, pt c3 0)] ∧ L' = [⟨gb0, ((arrV (Value.int .i64) 0 12 b0.f0) ++ ((arrV (Value.int .i64) 0 12 b0.f1) ++ (arrV (Value.int .i64) 0 12 b0.f2))), 58⟩, ⟨nx0, [.slice none 0 0, .slice none 0 0], 26⟩, ⟨c3, [.slice A4 x1.length c4, .slice A5 x2.length c5], 26⟩] ∧ X' = [orow 2 1 A4 x1.length c4 cs4, orow 2 1 A5 x2.length c5 cs5] ∧ Imm.le I2 I' ∧ Reps (Ty.int .i64) I' x2 cs5 ∧ assign_dualss0.k1 x1 x2 = some r) ?_ ?_
  ·rintro _ I3 nx4 _ _ ⟨x2, A5, c5, cs5, rfl, rfl, rfl, hi3, hp2, H⟩
   rw [assign_dualss0.k1] at H
   refine QN.then_ ?_
   refine OK.sr ?_
   refine RL.simP (K' := [(4, pt nx0 0)]) (nx' := nx4) (L' := [⟨gb0, ((arrV (Value.int .i64) 0 12 b0.f0) ++ ((arrV (Value.int .i64) 0 12 b0.f1) ++ (arrV (Value.int .i64) 0 12 b0.f2))), 58⟩, ⟨nx0, [.slice A4 x1.length c4, .slice A5 x2.length c5], 26⟩, ⟨c3, [.slice A4 x1.length c4, .slice A5 x2.length c5], 26⟩]) [] (RFacts.nil _ _ _) 2 [.l 2, .l 1] (by kernel_rfl) (by kernel_rfl) ?_
   refine RL.nt ?_
   refine OK.re ?_
   obtain rfl := Option.some.inj H
   refine QN.body rfl [] (RFacts.nil _ _ _) (.l 1) (.agg #[.slice A4 x1.length c4, .slice A5 x2.length c5]) (by kernel_rfl) (by kernel_rfl) (by kernel_rfl) ?_ _ (.inr rfl)
   exact fun w' hs' => ⟨_, rfl, I3, A4, c4, cs4, A5, c5, cs5, rfl, ((hs'.fin.selB [0] (by kernel_rfl)).sel [0, 1] (by kernel_rfl)), (Reps.ext hi3 hp1), hp2⟩
  ·intro Q_1 hJ2 hQ2
   obtain ⟨y2, H, HK2⟩ := bnd H
   refine OK.bk 2 ?_
   refine OK.sub (K' := [(1, pt gb0 0), (4, pt nx0 0), (5, i6 t1), (6, pt c3 0), (42, i6 ((List.replicate (t2).toNat (0 : Int)).length : Int)), (43, i6 0)]) (L' := [⟨gb0, ((arrV (Value.int .i64) 0 12 b0.f0) ++ ((arrV (Value.int .i64) 0 12 b0.f1) ++ (arrV (Value.int .i64) 0 12 b0.f2))), 58⟩, ⟨nx0, [.slice none 0 0, .slice none 0 0], 26⟩, ⟨c3, [.slice A4 x1.length c4, .slice A2 ((List.replicate (t2).toNat (0 : Int)).length) c2], 26⟩]) (by kernel_rfl) (.cons_cons _ (.cons_cons _ (.cons_cons _ .slnil))) (.refl _) ?_
   refine OK.lp (fun n_ K' I' _ L' X' => ∃ (x3 : List Int) (x4 : Int) (A6 : Option Addr) (c6 : Nat) (cs6 : List Value), K' = [(1, pt gb0 0), (4, pt nx0 0), (5, i6 t1), (6, pt c3 0), (42, i6 ((List.replicate (t2).toNat (0 : Int)).length : Int)), (43, i6 x4)] ∧ L' = [⟨gb0, ((arrV (Value.int .i64) 0 12 b0.f0) ++ ((arrV (Value.int .i64) 0 12 b0.f1) ++ (arrV (Value.int .i64) 0 12 b0.f2))), 58⟩, ⟨nx0, [.slice none 0 0, .slice none 0 0], 26⟩, ⟨c3, [.slice A4 x1.length c4, .slice A6 x3.length c6], 26⟩] ∧ X' = [orow 2 1 A4 x1.length c4 cs4, orow 2 1 A6 x3.length c6 cs6] ∧ Imm.le I2 I' ∧ Reps (Ty.int .i64) I' x3 cs6 ∧ assign_dualss0.l1 b0 t1 t2 n_ x3 x4 = some y2) k ⟨(List.replicate (t2).toNat (0 : Int)), 0, A2, c2, cs2, rfl, rfl, rfl, (Imm.le_refl _), (Reps.ext hi2 hf2), H⟩ ?_ ?_
   ·rintro _ _ _ _ _ ⟨x3, x4, A6, c6, cs6, rfl, rfl, rfl, _, hp3, H⟩
    cases H
   ·rintro kq1 _ I4 nx5 _ _ ⟨x3, x4, A6, c6, cs6, rfl, rfl, rfl, hi4, hp3, H⟩ Q_l1 hJ3 hQ3
    rw [assign_dualss0.l1] at H
    refine OK.sr ?_
    refine RL.st 1 [(44, .bool (decide (x4 < ((List.replicate (t2).toNat (0 : Int)).length : Int)))), (1, pt gb0 0), (4, pt nx0 0), (5, i6 t1), (6, pt c3 0), (42, i6 ((List.replicate (t2).toNat (0 : Int)).length : Int)), (43, i6 x4)] ?_
    refine OK.sq ?_
    refine OK.cd (decide (x4 < ((List.replicate (t2).toNat (0 : Int)).length : Int))) (fun hb => ?_) (fun hb => ?_)
    ·skip
     have hc := (of_decide_eq_true hb)
     rw [if_pos hc] at H
     clear hb
     refine OK.skt ?_
     refine OK.sq ?_
     refine OK.bk 3 ?_
     refine OK.sr ?_
     refine RL.st 2 [(8, i6 x4), (1, pt gb0 0), (4, pt nx0 0), (5, i6 t1), (6, pt c3 0), (42, i6 ((List.replicate (t2).toNat (0 : Int)).length : Int)), (43, i6 x4)] ?_
     obtain ⟨hi0_1, H⟩ := ifs H
     obtain ⟨hi1_1, H⟩ := ifs H
     refine OK.drawnC 11 11 O34s0_49 a34s0_49n (by kernel_rfl) (by kernel_rfl) u34d2l (u34d2g gb0 x4) [(⟨gb0, 24 + (x4).toNat * 1, none⟩, i6 (b0.f2.getD ((x4).toNat) 0))] (RI.arr (g := gb0) (ty := 58) (cs := ((arrV (Value.int .i64) 0 12 b0.f0) ++ ((arrV (Value.int .i64) 0 12 b0.f1) ++ (arrV (Value.int .i64) 0 12 b0.f2)))) (Value.int .i64) 0 12 b0.f2 ((arrV (Value.int .i64) 0 12 b0.f0) ++ (arrV (Value.int .i64) 0 12 b0.f1)) [] 24 ((x4).toNat) 0 (by kernel_rfl) (by kernel_rfl) (by kernel_rfl) (by omega) (24 + (x4).toNat * 1) (by omega) (RI.nil _)) [.no, .l 2, .no, .no, .no, .no, .no, .no, .r 0, .no, .no] a34s0_49 a34s0_49o (by kernel_rfl) (by kernel_rfl) (u34d2s gb0 b0 t1 c3 x3 A6 c6 x4) (u34d2f nx0 gb0 b0 t1 t2 c3 x3 A6 c6 x4 11) (u34d2v nx0 gb0 b0 t1 t2 c3 x1 A4 c4 x3 A6 c6 x4) (u34d2e nx0 gb0 b0 t1 t2 c3 x1 A4 c4 x3 A6 c6 x4) [] framesOk.nil ?_ [u34d2f nx0 gb0 b0 t1 t2 c3 x3 A6 c6 x4 7] (framesOk.cons (fun u => rfl) framesOk.nil) ?_ ?_
     ·refine LoudsG.nil
     ·refine Givens.cons (fun u w =>  ?_) (fun _ _ _ => rfl) (Givens.nil)
      ·exact giv_idxArr (T := 52) (e := 2) 1 .i64 x4 gb0 (24) 12 (by kernel_rfl) (by kernel_rfl) (by kernel_rfl) hi0_1 hi1_1 w
     intro u I5 nx6 hi5 hF
     clear hF
     refine RL.norm (K' := [(56, i6 (W .i64 ((b0.f2.getD ((x4).toNat) 0) - t1))), (55, i6 t1), (54, i6 (b0.f2.getD ((x4).toNat) 0)), (53, pt gb0 (24 + (x4).toNat * 1)), (52, pt gb0 24), (51, pt gb0 0), (50, i6 x4), (49, pt gb0 0), (48, i6 x4), (47, .slice A6 x3.length c6), (46, pt c3 1), (8, i6 x4), (1, pt gb0 0), (4, pt nx0 0), (5, i6 t1), (6, pt c3 0), (42, i6 ((List.replicate (t2).toNat (0 : Int)).length : Int)), (43, i6 x4)]) (X' := [orow 2 1 A4 x1.length c4 cs4, orow 2 1 A6 x3.length c6 cs6]) (by kernel_rfl) rfl rfl rfl ?_
     obtain ⟨hib0, H⟩ := ifs H
     obtain ⟨hib1, H⟩ := ifs H
     have hx01_ := hib0; have hx11_ := hib1
     refine RL.ownAddr (e := 2) (sz := 1) (S := A6) (n := x3.length) (cap := c6) (cs := cs6) 1 (by kernel_rfl) (by omega) (fun g1_ hA1_ => ?_)
     have hc1_ := Ty.int_own (Reps.ext hi5 hp3) x4 hib0 hib1
     refine RL.idx 1 .i64 x4 hA1_ x3.length c6 (some 57) (by kernel_rfl) (by kernel_rfl) (T := 24) (e := 2) (by kernel_rfl) (by kernel_rfl) hib0 hib1 (K' := [(57, pt g1_ (0 + (x4).toNat * 1)), (56, i6 (W .i64 ((b0.f2.getD ((x4).toNat) 0) - t1))), (55, i6 t1), (54, i6 (b0.f2.getD ((x4).toNat) 0)), (53, pt gb0 (24 + (x4).toNat * 1)), (52, pt gb0 24), (51, pt gb0 0), (50, i6 x4), (49, pt gb0 0), (48, i6 x4), (47, .slice A6 x3.length c6), (46, pt c3 1), (8, i6 x4), (1, pt gb0 0), (4, pt nx0 0), (5, i6 t1), (6, pt c3 0), (42, i6 ((List.replicate (t2).toNat (0 : Int)).length : Int)), (43, i6 x4)]) (by kernel_rfl) ?_
     refine RL.storeL (T := 2) (e := 2) 1 1 hA1_ c6 x4 cs6 [i6 (W .i64 ((b0.f2.getD ((x4).toNat) 0) - t1))] (i6 (W .i64 ((b0.f2.getD ((x4).toNat) 0) - t1))) (Ty.int .i64) x3 (W .i64 ((b0.f2.getD ((x4).toNat) 0) - t1)) (by kernel_rfl) (by kernel_rfl) (by kernel_rfl) (by kernel_rfl) (by kernel_rfl) rfl (by kernel_rfl) (Reps.ext hi5 hp3) hx01_ hx11_ (fun cs7 hp4 => ?_)
     refine RL.sub (K' := [(56, i6 (W .i64 ((b0.f2.getD ((x4).toNat) 0) - t1))), (55, i6 t1), (54, i6 (b0.f2.getD ((x4).toNat) 0)), (53, pt gb0 (24 + (x4).toNat * 1)), (52, pt gb0 24), (51, pt gb0 0), (50, i6 x4), (49, pt gb0 0), (48, i6 x4), (47, .slice A6 x3.length c6), (46, pt c3 1), (8, i6 x4), (1, pt gb0 0), (4, pt nx0 0), (5, i6 t1), (6, pt c3 0), (42, i6 ((List.replicate (t2).toNat (0 : Int)).length : Int)), (43, i6 x4)]) (L' := [⟨gb0, ((arrV (Value.int .i64) 0 12 b0.f0) ++ ((arrV (Value.int .i64) 0 12 b0.f1) ++ (arrV (Value.int .i64) 0 12 b0.f2))), 58⟩, ⟨nx0, [.slice none 0 0, .slice none 0 0], 26⟩, ⟨c3, [.slice A4 x1.length c4, .slice A6 x3.length c6], 26⟩]) (X' := [orow 2 1 A4 x1.length c4 cs4, orow 2 1 A6 ((x3.set (x4).toNat (W .i64 ((b0.f2.getD ((x4).toNat) 0) - t1))).length) c6 cs7]) (by kernel_rfl) (.refl _) (.refl _) ?_
     refine RL.norm (K' := [(56, i6 (W .i64 ((b0.f2.getD ((x4).toNat) 0) - t1))), (55, i6 t1), (54, i6 (b0.f2.getD ((x4).toNat) 0)), (53, pt gb0 (24 + (x4).toNat * 1)), (52, pt gb0 24), (51, pt gb0 0), (50, i6 x4), (49, pt gb0 0), (48, i6 x4), (47, .slice A6 ((x3.set (x4).toNat (W .i64 ((b0.f2.getD ((x4).toNat) 0) - t1))).length) c6), (46, pt c3 1), (8, i6 x4), (1, pt gb0 0), (4, pt nx0 0), (5, i6 t1), (6, pt c3 0), (42, i6 ((List.replicate (t2).toNat (0 : Int)).length : Int)), (43, i6 x4)]) (L' := [⟨gb0, ((arrV (Value.int .i64) 0 12 b0.f0) ++ ((arrV (Value.int .i64) 0 12 b0.f1) ++ (arrV (Value.int .i64) 0 12 b0.f2))), 58⟩, ⟨nx0, [.slice none 0 0, .slice none 0 0], 26⟩, ⟨c3, [.slice A4 x1.length c4, .slice A6 ((x3.set (x4).toNat (W .i64 ((b0.f2.getD ((x4).toNat) 0) - t1))).length) c6], 26⟩]) (by simp only [List.length_set]) rfl (by first | rfl | simp only [List.length_set]) rfl ?_
     refine RL.nil (by kernel_rfl) ?_
     refine QN.sub (K' := [(1, pt gb0 0), (4, pt nx0 0), (5, i6 t1), (6, pt c3 0), (42, i6 ((List.replicate (t2).toNat (0 : Int)).length : Int)), (43, i6 x4)]) (L' := [⟨gb0, ((arrV (Value.int .i64) 0 12 b0.f0) ++ ((arrV (Value.int .i64) 0 12 b0.f1) ++ (arrV (Value.int .i64) 0 12 b0.f2))), 58⟩, ⟨nx0, [.slice none 0 0, .slice none 0 0], 26⟩, ⟨c3, [.slice A4 x1.length c4, .slice A6 ((x3.set (x4).toNat (W .i64 ((b0.f2.getD ((x4).toNat) 0) - t1))).length) c6], 26⟩]) (by kernel_rfl) (.cons_cons _ (.cons_cons _ (.cons_cons _ .slnil))) (.refl _) ?_
     refine QN.blkN ?_
     refine QN.then_ ?_
     refine OK.rg ?_
     refine RL.s 2 [(43, i6 (W .i64 (x4 + 1))), (1, pt gb0 0), (4, pt nx0 0), (5, i6 t1), (6, pt c3 0), (42, i6 ((List.replicate (t2).toNat (0 : Int)).length : Int))] ?_
     refine RL.nil (by kernel_rfl) ?_
     exact QN.sb (hJ3 _ _ _ _ _ ⟨x3.set (x4).toNat (W .i64 ((b0.f2.getD ((x4).toNat) 0) - t1)), W .i64 (x4 + 1), A6, c6, cs7, rfl, rfl, rfl, (Imm.le_trans hi4 hi5), hp4, H⟩) (.cons_cons _ (.cons_cons _ (.cons_cons _ .slnil))) (.refl _)
    ·skip
     have hc := (of_decide_eq_false hb)
     rw [if_neg hc] at H
     clear hb
     refine OK.ex 2 ?_
     refine QN.thenE ?_
     refine QN.outE hQ3 ?_
     refine QN.blkE ?_
     obtain rfl := Option.some.inj H
     exact QN.sb (hJ2 _ _ _ _ _ ⟨x3, A6, c6, cs6, rfl, rfl, rfl, hi4, hp3, HK2⟩) (.cons_cons _ (.cons_cons _ (.cons_cons _ .slnil))) (.refl _)
 ·intro Q_2 hJ1 hQ1
  obtain ⟨y1, H, HK1⟩ := bnd H
  refine OK.bk 0 ?_
  refine OK.sub (K' := [(1, pt gb0 0), (4, pt nx0 0), (5, i6 t1), (6, pt c3 0), (23, i6 ((List.replicate ((a0.length : Int)).toNat (0 : Int)).length : Int)), (24, i6 0)]) (L' := [⟨gb0, ((arrV (Value.int .i64) 0 12 b0.f0) ++ ((arrV (Value.int .i64) 0 12 b0.f1) ++ (arrV (Value.int .i64) 0 12 b0.f2))), 58⟩, ⟨nx0, [.slice none 0 0, .slice none 0 0], 26⟩, ⟨c3, [.slice A1 ((List.replicate ((a0.length : Int)).toNat (0 : Int)).length) c1, .slice A2 ((List.replicate (t2).toNat (0 : Int)).length) c2], 26⟩]) (by kernel_rfl) (.cons_cons _ (.cons_cons _ (.cons_cons _ .slnil))) (.refl _) ?_
  refine OK.lp (fun n_ K' I' _ L' X' => ∃ (x5 : List Int) (x6 : Int) (A7 : Option Addr) (c7 : Nat) (cs8 : List Value), K' = [(1, pt gb0 0), (4, pt nx0 0), (5, i6 t1), (6, pt c3 0), (23, i6 ((List.replicate ((a0.length : Int)).toNat (0 : Int)).length : Int)), (24, i6 x6)] ∧ L' = [⟨gb0, ((arrV (Value.int .i64) 0 12 b0.f0) ++ ((arrV (Value.int .i64) 0 12 b0.f1) ++ (arrV (Value.int .i64) 0 12 b0.f2))), 58⟩, ⟨nx0, [.slice none 0 0, .slice none 0 0], 26⟩, ⟨c3, [.slice A7 x5.length c7, .slice A2 ((List.replicate (t2).toNat (0 : Int)).length) c2], 26⟩] ∧ X' = [orow 2 1 A7 x5.length c7 cs8, orow 2 1 A2 ((List.replicate (t2).toNat (0 : Int)).length) c2 cs2] ∧ Imm.le I1 I' ∧ Reps (Ty.int .i64) I' x5 cs8 ∧ assign_dualss0.l2 a0 b0 t1 n_ x5 x6 = some y1) k ⟨(List.replicate ((a0.length : Int)).toNat (0 : Int)), 0, A1, c1, cs1, rfl, rfl, rfl, (Imm.le_refl _), hf1, H⟩ ?_ ?_
  ·rintro _ _ _ _ _ ⟨x5, x6, A7, c7, cs8, rfl, rfl, rfl, _, hp5, H⟩
   cases H
  ·rintro kq2 _ I6 nx7 _ _ ⟨x5, x6, A7, c7, cs8, rfl, rfl, rfl, hi6, hp5, H⟩ Q_l2 hJ4 hQ4
   rw [assign_dualss0.l2] at H
   refine OK.sr ?_
   refine RL.st 1 [(25, .bool (decide (x6 < ((List.replicate ((a0.length : Int)).toNat (0 : Int)).length : Int)))), (1, pt gb0 0), (4, pt nx0 0), (5, i6 t1), (6, pt c3 0), (23, i6 ((List.replicate ((a0.length : Int)).toNat (0 : Int)).length : Int)), (24, i6 x6)] ?_
   refine OK.sq ?_
   refine OK.cd (decide (x6 < ((List.replicate ((a0.length : Int)).toNat (0 : Int)).length : Int))) (fun hb => ?_) (fun hb => ?_)
   ·skip
    have hc := (of_decide_eq_true hb)
    rw [if_pos hc] at H
    clear hb
    refine OK.skt ?_
    refine OK.sq ?_
    refine OK.bk 1 ?_
    refine OK.sr ?_
    refine RL.st 2 [(7, i6 x6), (1, pt gb0 0), (4, pt nx0 0), (5, i6 t1), (6, pt c3 0), (23, i6 ((List.replicate ((a0.length : Int)).toNat (0 : Int)).length : Int)), (24, i6 x6)] ?_
    obtain ⟨hi0_2, H⟩ := ifs H
    obtain ⟨hi1_2, H⟩ := ifs H
    refine OK.drawnC 6 11 O34s0_27 a34s0_27n (by kernel_rfl) (by kernel_rfl) u34d3l (u34d3g gb0 x6) [(⟨gb0, 12 + (x6).toNat * 1, none⟩, i6 (b0.f1.getD ((x6).toNat) 0))] (RI.arr (g := gb0) (ty := 58) (cs := ((arrV (Value.int .i64) 0 12 b0.f0) ++ ((arrV (Value.int .i64) 0 12 b0.f1) ++ (arrV (Value.int .i64) 0 12 b0.f2)))) (Value.int .i64) 0 12 b0.f1 (arrV (Value.int .i64) 0 12 b0.f0) (arrV (Value.int .i64) 0 12 b0.f2) 12 ((x6).toNat) 0 (by kernel_rfl) (by kernel_rfl) (by kernel_rfl) (by omega) (12 + (x6).toNat * 1) (by omega) (RI.nil _)) [.no, .l 2, .no, .no, .no, .no, .no, .no, .r 0, .no, .no] a34s0_27 a34s0_27o (by kernel_rfl) (by kernel_rfl) (u34d3s gb0 b0 t1 c3 x5 A7 c7 x6) (u34d3f nx0 gb0 a0 b0 t1 c3 x5 A7 c7 x6 11) (u34d3v nx0 gb0 a0 b0 t1 t2 A2 c2 c3 x5 A7 c7 x6) (u34d3e nx0 gb0 a0 b0 t1 t2 A2 c2 c3 x5 A7 c7 x6) [] framesOk.nil ?_ [u34d3f nx0 gb0 a0 b0 t1 c3 x5 A7 c7 x6 7] (framesOk.cons (fun u => rfl) framesOk.nil) ?_ ?_
    ·refine LoudsG.nil
    ·refine Givens.cons (fun u w =>  ?_) (fun _ _ _ => rfl) (Givens.nil)
     ·exact giv_idxArr (T := 52) (e := 2) 1 .i64 x6 gb0 (12) 12 (by kernel_rfl) (by kernel_rfl) (by kernel_rfl) hi0_2 hi1_2 w
    intro u I7 nx8 hi7 hF
    clear hF
    refine RL.norm (K' := [(37, i6 (W .i64 ((b0.f1.getD ((x6).toNat) 0) + t1))), (36, i6 t1), (35, i6 (b0.f1.getD ((x6).toNat) 0)), (34, pt gb0 (12 + (x6).toNat * 1)), (33, pt gb0 12), (32, pt gb0 0), (31, i6 x6), (30, pt gb0 0), (29, i6 x6), (28, .slice A7 x5.length c7), (27, pt c3 0), (7, i6 x6), (1, pt gb0 0), (4, pt nx0 0), (5, i6 t1), (6, pt c3 0), (23, i6 ((List.replicate ((a0.length : Int)).toNat (0 : Int)).length : Int)), (24, i6 x6)]) (X' := [orow 2 1 A7 x5.length c7 cs8, orow 2 1 A2 ((List.replicate (t2).toNat (0 : Int)).length) c2 cs2]) (by kernel_rfl) rfl rfl rfl ?_
    obtain ⟨hib0, H⟩ := ifs H
    obtain ⟨hib1, H⟩ := ifs H
    have hx02_ := hib0; have hx12_ := hib1
    refine RL.ownAddr (e := 2) (sz := 1) (S := A7) (n := x5.length) (cap := c7) (cs := cs8) 0 (by kernel_rfl) (by omega) (fun g2_ hA2_ => ?_)
    have hc2_ := Ty.int_own (Reps.ext hi7 hp5) x6 hib0 hib1
    refine RL.idx 1 .i64 x6 hA2_ x5.length c7 (some 38) (by kernel_rfl) (by kernel_rfl) (T := 24) (e := 2) (by kernel_rfl) (by kernel_rfl) hib0 hib1 (K' := [(38, pt g2_ (0 + (x6).toNat * 1)), (37, i6 (W .i64 ((b0.f1.getD ((x6).toNat) 0) + t1))), (36, i6 t1), (35, i6 (b0.f1.getD ((x6).toNat) 0)), (34, pt gb0 (12 + (x6).toNat * 1)), (33, pt gb0 12), (32, pt gb0 0), (31, i6 x6), (30, pt gb0 0), (29, i6 x6), (28, .slice A7 x5.length c7), (27, pt c3 0), (7, i6 x6), (1, pt gb0 0), (4, pt nx0 0), (5, i6 t1), (6, pt c3 0), (23, i6 ((List.replicate ((a0.length : Int)).toNat (0 : Int)).length : Int)), (24, i6 x6)]) (by kernel_rfl) ?_
    refine RL.storeL (T := 2) (e := 2) 1 0 hA2_ c7 x6 cs8 [i6 (W .i64 ((b0.f1.getD ((x6).toNat) 0) + t1))] (i6 (W .i64 ((b0.f1.getD ((x6).toNat) 0) + t1))) (Ty.int .i64) x5 (W .i64 ((b0.f1.getD ((x6).toNat) 0) + t1)) (by kernel_rfl) (by kernel_rfl) (by kernel_rfl) (by kernel_rfl) (by kernel_rfl) rfl (by kernel_rfl) (Reps.ext hi7 hp5) hx02_ hx12_ (fun cs9 hp6 => ?_)
    refine RL.sub (K' := [(37, i6 (W .i64 ((b0.f1.getD ((x6).toNat) 0) + t1))), (36, i6 t1), (35, i6 (b0.f1.getD ((x6).toNat) 0)), (34, pt gb0 (12 + (x6).toNat * 1)), (33, pt gb0 12), (32, pt gb0 0), (31, i6 x6), (30, pt gb0 0), (29, i6 x6), (28, .slice A7 x5.length c7), (27, pt c3 0), (7, i6 x6), (1, pt gb0 0), (4, pt nx0 0), (5, i6 t1), (6, pt c3 0), (23, i6 ((List.replicate ((a0.length : Int)).toNat (0 : Int)).length : Int)), (24, i6 x6)]) (L' := [⟨gb0, ((arrV (Value.int .i64) 0 12 b0.f0) ++ ((arrV (Value.int .i64) 0 12 b0.f1) ++ (arrV (Value.int .i64) 0 12 b0.f2))), 58⟩, ⟨nx0, [.slice none 0 0, .slice none 0 0], 26⟩, ⟨c3, [.slice A7 x5.length c7, .slice A2 ((List.replicate (t2).toNat (0 : Int)).length) c2], 26⟩]) (X' := [orow 2 1 A7 ((x5.set (x6).toNat (W .i64 ((b0.f1.getD ((x6).toNat) 0) + t1))).length) c7 cs9, orow 2 1 A2 ((List.replicate (t2).toNat (0 : Int)).length) c2 cs2]) (by kernel_rfl) (.refl _) (.refl _) ?_
    refine RL.norm (K' := [(37, i6 (W .i64 ((b0.f1.getD ((x6).toNat) 0) + t1))), (36, i6 t1), (35, i6 (b0.f1.getD ((x6).toNat) 0)), (34, pt gb0 (12 + (x6).toNat * 1)), (33, pt gb0 12), (32, pt gb0 0), (31, i6 x6), (30, pt gb0 0), (29, i6 x6), (28, .slice A7 ((x5.set (x6).toNat (W .i64 ((b0.f1.getD ((x6).toNat) 0) + t1))).length) c7), (27, pt c3 0), (7, i6 x6), (1, pt gb0 0), (4, pt nx0 0), (5, i6 t1), (6, pt c3 0), (23, i6 ((List.replicate ((a0.length : Int)).toNat (0 : Int)).length : Int)), (24, i6 x6)]) (L' := [⟨gb0, ((arrV (Value.int .i64) 0 12 b0.f0) ++ ((arrV (Value.int .i64) 0 12 b0.f1) ++ (arrV (Value.int .i64) 0 12 b0.f2))), 58⟩, ⟨nx0, [.slice none 0 0, .slice none 0 0], 26⟩, ⟨c3, [.slice A7 ((x5.set (x6).toNat (W .i64 ((b0.f1.getD ((x6).toNat) 0) + t1))).length) c7, .slice A2 ((List.replicate (t2).toNat (0 : Int)).length) c2], 26⟩]) (by simp only [List.length_set]) rfl (by first | rfl | simp only [List.length_set]) rfl ?_
    refine RL.nil (by kernel_rfl) ?_
    refine QN.sub (K' := [(1, pt gb0 0), (4, pt nx0 0), (5, i6 t1), (6, pt c3 0), (23, i6 ((List.replicate ((a0.length : Int)).toNat (0 : Int)).length : Int)), (24, i6 x6)]) (L' := [⟨gb0, ((arrV (Value.int .i64) 0 12 b0.f0) ++ ((arrV (Value.int .i64) 0 12 b0.f1) ++ (arrV (Value.int .i64) 0 12 b0.f2))), 58⟩, ⟨nx0, [.slice none 0 0, .slice none 0 0], 26⟩, ⟨c3, [.slice A7 ((x5.set (x6).toNat (W .i64 ((b0.f1.getD ((x6).toNat) 0) + t1))).length) c7, .slice A2 ((List.replicate (t2).toNat (0 : Int)).length) c2], 26⟩]) (by kernel_rfl) (.cons_cons _ (.cons_cons _ (.cons_cons _ .slnil))) (.refl _) ?_
    refine QN.blkN ?_
    refine QN.then_ ?_
    refine OK.rg ?_
    refine RL.s 2 [(24, i6 (W .i64 (x6 + 1))), (1, pt gb0 0), (4, pt nx0 0), (5, i6 t1), (6, pt c3 0), (23, i6 ((List.replicate ((a0.length : Int)).toNat (0 : Int)).length : Int))] ?_
    refine RL.nil (by kernel_rfl) ?_
    exact QN.sb (hJ4 _ _ _ _ _ ⟨x5.set (x6).toNat (W .i64 ((b0.f1.getD ((x6).toNat) 0) + t1)), W .i64 (x6 + 1), A7, c7, cs9, rfl, rfl, rfl, (Imm.le_trans hi6 hi7), hp6, H⟩) (.cons_cons _ (.cons_cons _ (.cons_cons _ .slnil))) (.refl _)
   ·skip
    have hc := (of_decide_eq_false hb)
    rw [if_neg hc] at H
    clear hb
    refine OK.ex 0 ?_
    refine QN.thenE ?_
    refine QN.outE hQ4 ?_
    refine QN.blkE ?_
    obtain rfl := Option.some.inj H
    exact QN.sb (hJ1 _ _ _ _ _ ⟨x5, A7, c7, cs8, rfl, rfl, rfl, hi6, hp5, HK1⟩) (.cons_cons _ (.cons_cons _ (.cons_cons _ .slnil))) (.refl _)

end Go.Proofs.Ytdmhbcgmimfjcaa
namespace Go.Proofs.Ytdmhbcgmimfjcaa
open Go Go.Proofs.Ytdmhbcgmimfjcaa.RW
set_option linter.unusedVariables false
set_option maxRecDepth 100000
set_option maxHeartbeats 8000000

/-! ### assign_Solve: function 14, armillary/assign.Solve -/
noncomputable def K14_0 : Code := cBody Try.f14
noncomputable def O14_13 : List Oper := cOps (cL (cR (cR (cR (cR K14_0)))))
def assign_Solve.k1 (k : Nat) (a0 : List (List Int)) (t3 : S58) (x1 : List Int) : Option (List Int × S26) := ((assign_dualss0.f k a0 t3).bind fun t5 => (some (x1, t5)))
def assign_Solve.k3  : List Bool × Int × List Int → Option (List Bool × Int × List Int)
 | (x9, x10, x11) => (some (x9, x10, x11))
def assign_Solve.l2 (a0 : List (List Int)) (x3 : Int) (x4 : List Int) (x5 : Int) : Nat → (List Bool) → Int → Option (List Bool × Int × List Int)
 | 0, _, _ => none
 | k + 1, x12, x13 => (if x13 < ((a0.getD (x5).toNat []).length : Int) then (if 0 ≤ x13 then (if x13 < ((a0.getD (x5).toNat []).length : Int) then (if 0 ≤ x13 then (if x13 < (x12.length : Int) then (if (x12.getD (x13).toNat false) = true then (assign_Solve.l2 a0 x3 x4 x5 k x12 (W .i64 (x13 + 1))) else (if 0 ≤ x13 then (if x13 < (x12.length : Int) then ((assign_best.f k a0 (W .i64 (x5 + 1)) (x12.set (x13).toNat true)).bind fun t6 => (if (W .i64 (((a0.getD (x5).toNat []).getD (x13).toNat 0) + t6)) = x3 then (if 0 ≤ x5 then (if x5 < ((x4.set (x5).toNat (-1)).length : Int) then (some (x12.set (x13).toNat true, t6, (x4.set (x5).toNat (-1)).set (x5).toNat x13)) else none) else none) else (if 0 ≤ x13 then (if x13 < ((x12.set (x13).toNat true).length : Int) then (assign_Solve.l2 a0 x3 x4 x5 k ((x12.set (x13).toNat true).set (x13).toNat false) (W .i64 (x13 + 1))) else none) else none))) else none) else none)) else none) else none) else none) else none) else (some (x12, x3, x4.set (x5).toNat (-1))))
def assign_Solve.l1 (a0 : List (List Int)) : Nat → (List Bool) → Int → (List Int) → Int → Option (List Int)
 | 0, _, _, _, _ => none
 | k + 1, x2, x3, x4, x5 => (if x5 < (a0.length : Int) then ((if 0 ≤ x5 then (if x5 < (x4.length : Int) then (if 0 ≤ x5 then (if x5 < (a0.length : Int) then ((assign_Solve.l2 a0 x3 x4 x5 k x2 0).bind (assign_Solve.k3)) else none) else none) else none) else none).bind (fun (x6, x7, x8) => (assign_Solve.l1 a0 k x6 x7 x8 (W .i64 (x5 + 1))))) else (some x4))
def assign_Solve.f (k : Nat) (a0 : List (List Int)) : Option (List Int × S26) := ((assign_columns.f a0).bind fun t1 => (if 0 ≤ t1 then (if t1 ≤ 281474976710656 then ((assign_pad.f k a0 0 (List.replicate (t1).toNat (false : Bool))).bind fun t2 => ((assign_hungarians0.f k t2).bind fun t3 => ((assign_solution_values0.f k t3 t2).bind fun t4 => (if 0 ≤ (a0.length : Int) then (if (a0.length : Int) ≤ 35184372088832 then ((assign_Solve.l1 a0 k (List.replicate (t1).toNat (false : Bool)) t4 (List.replicate ((a0.length : Int)).toNat (0 : Int)) 0).bind (assign_Solve.k1 k a0 t3)) else none) else none)))) else none) else none))
def assign_Solve.Post (I : Imm) (w : World) (r : List Int × S26) (v : Value) (w' : World) : Prop :=
 ∃ (J : Imm) (A0 : Option Addr) (c0 : Nat) (cs0 : List Value) (A1_0 : Option Addr) (c1_0 : Nat) (cs1_0 : List Value) (A1_1 : Option Addr) (c1_1 : Nat) (cs1_1 : List Value), v = .tuple #[.slice A0 r.1.length c0, .agg #[.slice A1_0 r.2.f0.length c1_0, .slice A1_1 r.2.f1.length c1_1]] ∧ Got w w' I J [orow 3 1 A0 r.1.length c0 cs0, orow 2 1 A1_0 r.2.f0.length c1_0 cs1_0, orow 2 1 A1_1 r.2.f1.length c1_1 cs1_1] ∧ Reps (Ty.int .i64) J r.1 cs0 ∧ Reps (Ty.int .i64) J r.2.f0 cs1_0 ∧ Reps (Ty.int .i64) J r.2.f1 cs1_1
noncomputable def a14_13n : List Nat := [0, 0, 2, 6, 1, 31]
theorem a14_13 : ancs O14_13 [] = a14_13n := by kernel_rfl
theorem a14_13o : drawOk O14_13 a14_13n 5 = true := by kernel_rfl
noncomputable def u14d1l (a0 : List (List Int)) (t4 : Int) : List Ld :=
 [⟨0, fun x => i6 t4, fun x => [], fun x J => True, fun x J J' h f => trivial⟩,
  ⟨3, fun x => .slice ((x 0).1) ((List.replicate ((a0.length : Int)).toNat (0 : Int)).length) ((x 0).2.1), fun x => [orow 3 1 (x 0).1 (List.replicate ((a0.length : Int)).toNat (0 : Int)).length (x 0).2.1 (x 0).2.2], fun x J => Reps (Ty.int .i64) J (List.replicate ((a0.length : Int)).toNat (0 : Int)) (x 0).2.2 ∧ True, fun x J J' h f => ⟨Reps.ext h f.1, trivial⟩⟩]
noncomputable def u14d1g  : List (Nat × ((Nat → Wt) → Value)) := []
noncomputable def u14d1q (a0 : List (List Int)) (Ap0 : Option Addr) (cp0 : Nat) (nx0 : Nat) (t1 : Int) (nx1 : Nat) (t2 : List Int) (nx3 : Nat) (t3 : S58) (nx4 : Nat) (t4 : Int) (u : Nat → Wt) : Option (List Value × List (Nat × Value) × List (Nat × Nat)) := qSim Try.prog [] [⟨nx3, arrV (Value.int .i64) 0 144 t2, 54⟩, ⟨nx0, [.slice none 0 0, .slice none 0 0], 26⟩, ⟨nx4, ((arrV (Value.int .i64) 0 12 t3.f0) ++ ((arrV (Value.int .i64) 0 12 t3.f1) ++ (arrV (Value.int .i64) 0 12 t3.f2))), 58⟩] O14_13 ⟨72, []⟩ (Ld.vl (u14d1l a0 t4)) u14d1g u [.no, .no, .no, .no, .no] 0 (O14_13.take 5) [(6, pt nx4 0), (5, pt nx3 0), (4, .slice (some ⟨nx1, 0, none⟩) ((List.replicate (t1).toNat (false : Bool)).length) ((List.replicate (t1).toNat (false : Bool)).length)), (3, pt nx0 0), (0, .slice Ap0 a0.length cp0)]
noncomputable def u14d1s (a0 : List (List Int)) (Ap0 : Option Addr) (cp0 : Nat) (t4 : Int) (u : Nat → Wt) : List Value := [i6 t4, .slice Ap0 a0.length cp0, i6 (a0.length : Int), .slice ((u 3 0).1) ((List.replicate ((a0.length : Int)).toNat (0 : Int)).length) ((u 3 0).2.1), i6 t4]
noncomputable def u14d1f (a0 : List (List Int)) (Ap0 : Option Addr) (cp0 : Nat) (nx0 : Nat) (t1 : Int) (nx1 : Nat) (nx3 : Nat) (nx4 : Nat) (t4 : Int) (i : Nat) (u : Nat → Wt) : List (Nat × Value) := foldPut ⟨72, []⟩ [(6, pt nx4 0), (5, pt nx3 0), (4, .slice (some ⟨nx1, 0, none⟩) ((List.replicate (t1).toNat (false : Bool)).length) ((List.replicate (t1).toNat (false : Bool)).length)), (3, pt nx0 0), (0, .slice Ap0 a0.length cp0)] (O14_13.take i) (((u14d1s a0 Ap0 cp0 t4) u).take i)
theorem u14d1v (a0 : List (List Int)) (Ap0 : Option Addr) (cp0 : Nat) (nx0 : Nat) (t1 : Int) (nx1 : Nat) (t2 : List Int) (nx3 : Nat) (t3 : S58) (nx4 : Nat) (t4 : Int) (u : Nat → Wt) : (u14d1q a0 Ap0 cp0 nx0 t1 nx1 t2 nx3 t3 nx4 t4 u).map (fun x => (x.1, x.2.1)) = some ((u14d1s a0 Ap0 cp0 t4) u, (u14d1f a0 Ap0 cp0 nx0 t1 nx1 nx3 nx4 t4 5) u) := by kernel_rfl
theorem u14d1e (a0 : List (List Int)) (Ap0 : Option Addr) (cp0 : Nat) (nx0 : Nat) (t1 : Int) (nx1 : Nat) (t2 : List Int) (nx3 : Nat) (t3 : S58) (nx4 : Nat) (t4 : Int) (u : Nat → Wt) : (u14d1q a0 Ap0 cp0 nx0 t1 nx1 t2 nx3 t3 nx4 t4 u).map (fun x => x.2.2.map (·.1)) = (u14d1q a0 Ap0 cp0 nx0 t1 nx1 t2 nx3 t3 nx4 t4 u).map (fun x => x.2.2.map (·.2)) := by kernel_rfl
theorem assign_Solve.calls (k : Nat) (I0 : Imm) (a0 : List (List Int)) (Ap0 : Option Addr) (cp0 : Nat) (w : World) (hI : I0.at_ w) (hlp0 : a0.length ≤ cp0) (hrp0 : Rd (Ty.slice (Ty.int .i64)) I0 Ap0 a0) (r : List Int × S26) (h : assign_Solve.f k a0 = some r) :
  Calls Try.prog 14 [.slice Ap0 a0.length cp0].toArray w fun e w' => ∃ v, e = .returned v ∧ assign_Solve.Post I0 w r v w' := by
 have H : ((assign_columns.f a0).bind fun t1 => (if 0 ≤ t1 then (if t1 ≤ 281474976710656 then ((assign_pad.f k a0 0 (List.replicate (t1).toNat (false : Bool))).bind fun t2 => ((assign_hungarians0.f k t2).bind fun t3 => ((assign_solution_values0.f k t3 t2).bind fun t4 => (if 0 ≤ (a0.length : Int) then (if (a0.length : Int) ≤ 35184372088832 then ((assign_Solve.l1 a0 k (List.replicate (t1).toNat (false : Bool)) t4 (List.replicate ((a0.length : Int)).toNat (0 : Int)) 0).bind (assign_Solve.k1 k a0 t3)) else none) else none)))) else none) else none)) = some r := h
 clear h
 refine calls_body Try.func14 (by kernel_rfl) 72 (by kernel_rfl) (by kernel_rfl) ⟨w, fun _ => False, I0⟩ I0 [] [(0, .slice Ap0 a0.length cp0)] (by kernel_rfl) (Sat.start w _ I0 hI) ?_
 generalize w.heap.size = nx0
 show OK _ K14_0 _ _ _ _ _ _ _ _
 refine OK.sr ?_
 refine RL.spt 2 [(3, pt nx0 0), (0, .slice Ap0 a0.length cp0)] (nx0 + 1) [⟨nx0, [.slice none 0 0, .slice none 0 0], 26⟩] ?_
 refine OK.sr ?_
 refine RL.s 1 [(13, .slice Ap0 a0.length cp0), (3, pt nx0 0), (0, .slice Ap0 a0.length cp0)] ?_
 obtain ⟨t1, hA1, H⟩ := bnd H
 refine RL.callP 29 [.slice Ap0 a0.length cp0] (some 14) (fun w => assign_columns.Post I0 w t1) (by kernel_rfl) (by kernel_rfl) (fun w hs => assign_columns.calls I0 a0 Ap0 cp0 w hs.im hlp0 hrp0 t1 hA1) ?_
 rintro w v w' hs ⟨I1, rfl, hg⟩
 have hi1 := hg.le
 refine RL.resume (X' := []) rfl (hs.call hg) ?_
 clear hs hg
 generalize w'.heap.size = nx1
 clear w w'
 obtain ⟨hm1, H⟩ := ifs H
 obtain ⟨hm2, H⟩ := ifs H
 refine RL.makeL (T := 51) (e := 4) t1 .i64 .i64 (some 15) (.bool false) (false) Ty.bool 1 (by kernel_rfl) (by kernel_rfl) (by kernel_rfl) (by kernel_rfl) (by kernel_rfl) rfl hm1 (by omega) (by omega) (fun nx2 hp1 => ?_)
 refine RL.norm (K' := [(15, .slice (some ⟨nx1, 0, none⟩) ((List.replicate (t1).toNat (false : Bool)).length) ((List.replicate (t1).toNat (false : Bool)).length)), (14, i6 t1), (13, .slice Ap0 a0.length cp0), (3, pt nx0 0), (0, .slice Ap0 a0.length cp0)]) (X' := [orow 4 1 (some ⟨nx1, 0, none⟩) ((List.replicate (t1).toNat (false : Bool)).length) ((List.replicate (t1).toNat (false : Bool)).length) (List.replicate (t1).toNat (.bool false))]) (by kernel_rfl) rfl rfl (by kernel_rfl) ?_
 refine RL.st 1 [(4, .slice (some ⟨nx1, 0, none⟩) ((List.replicate (t1).toNat (false : Bool)).length) ((List.replicate (t1).toNat (false : Bool)).length)), (3, pt nx0 0), (0, .slice Ap0 a0.length cp0)] ?_
 refine OK.sr ?_
 refine RL.s 2 [(17, .slice (some ⟨nx1, 0, none⟩) ((List.replicate (t1).toNat (false : Bool)).length) ((List.replicate (t1).toNat (false : Bool)).length)), (16, .slice Ap0 a0.length cp0), (4, .slice (some ⟨nx1, 0, none⟩) ((List.replicate (t1).toNat (false : Bool)).length) ((List.replicate (t1).toNat (false : Bool)).length)), (3, pt nx0 0), (0, .slice Ap0 a0.length cp0)] ?_
 obtain ⟨t2, hA2, H⟩ := bnd H
 refine RL.callP 30 [.slice Ap0 a0.length cp0, i6 0, .slice (some ⟨nx1, 0, none⟩) ((List.replicate (t1).toNat (false : Bool)).length) ((List.replicate (t1).toNat (false : Bool)).length)] (some 18) (fun w v w' => ∃ I', Imm.le I1 I' ∧ assign_pad.Post I' w t2 v w') (by kernel_rfl) (by kernel_rfl) (fun w hs => ?_) ?_
 ·skip
  obtain ⟨JL1, hj1, hn1, hw1, hs⟩ := Sat.freeze (e := 4) (sz := 1) (S := (some ⟨nx1, 0, none⟩)) (n := (List.replicate (t1).toNat (false : Bool)).length) (cap := (List.replicate (t1).toNat (false : Bool)).length) (m := 0) hs (by kernel_rfl) hp1 rfl
  exact (assign_pad.calls k JL1 a0 Ap0 cp0 0 (List.replicate (t1).toNat (false : Bool)) (some ⟨nx1, 0, none⟩) ((List.replicate (t1).toNat (false : Bool)).length) _ hs.im hlp0 (Rd.ext hj1 (Rd.ext hi1 hrp0)) hn1 hw1 t2 hA2).mono (fun e w' ⟨v, hv, hp⟩ => ⟨v, hv, JL1, hj1, hp⟩)
 rintro w v w' hs ⟨I', hle, J, rfl, hg, hz1⟩
 refine RL.resume (X' := [orow 4 1 (some ⟨nx1, 0, none⟩) ((List.replicate (t1).toNat (false : Bool)).length) ((List.replicate (t1).toNat (false : Bool)).length) (List.replicate (t1).toNat (.bool false))]) rfl (hs.call (hg.back hle)) ?_
 clear hs hg hle I' J
 generalize w'.heap.size = nx3
 clear w w'
 refine RL.simP (K' := [(5, pt nx3 0), (4, .slice (some ⟨nx1, 0, none⟩) ((List.replicate (t1).toNat (false : Bool)).length) ((List.replicate (t1).toNat (false : Bool)).length)), (3, pt nx0 0), (0, .slice Ap0 a0.length cp0)]) (nx' := nx3 + 1) (L' := [⟨nx0, [.slice none 0 0, .slice none 0 0], 26⟩, ⟨nx3, arrV (Value.int .i64) 0 144 t2, 54⟩]) [] (RFacts.nil _ _ _) 2 [.no, .l 1] (by kernel_rfl) (by kernel_rfl) ?_
 refine RL.nt ?_
 refine OK.sr ?_
 refine RL.arrange (L' := [⟨nx3, arrV (Value.int .i64) 0 144 t2, 54⟩, ⟨nx0, [.slice none 0 0, .slice none 0 0], 26⟩]) (X' := [orow 4 1 (some ⟨nx1, 0, none⟩) ((List.replicate (t1).toNat (false : Bool)).length) ((List.replicate (t1).toNat (false : Bool)).length) (List.replicate (t1).toNat (.bool false))]) [1, 0] [0] (by kernel_rfl) (by kernel_rfl) (by kernel_rfl) (by kernel_rfl) ?_
 obtain ⟨t3, hA3, H⟩ := bnd H
 refine RL.callM (L1 := [⟨nx3, arrV (Value.int .i64) 0 144 t2, 54⟩]) (L2 := [⟨nx0, [.slice none 0 0, .slice none 0 0], 26⟩]) (X1 := []) (X2 := [orow 4 1 (some ⟨nx1, 0, none⟩) ((List.replicate (t1).toNat (false : Bool)).length) ((List.replicate (t1).toNat (false : Bool)).length) (List.replicate (t1).toNat (.bool false))]) rfl rfl 31 [pt nx3 0] (some 19) (fun w => assign_hungarians0.Post (SM [⟨nx3, arrV (Value.int .i64) 0 144 t2, 54⟩] []) nx3 t2 I1 w t3) (by kernel_rfl) (by kernel_rfl) (fun w hs => assign_hungarians0.calls k I1 nx3 t2 w hs hz1 t3 hA3) ?_
 rintro w v w' hs ⟨I2, rfl, hg, hz2, hz3, hz4⟩
 have hi2 : Imm.le I1 I2 := hg.le
 refine RL.resume (L' := [⟨nx3, arrV (Value.int .i64) 0 144 t2, 54⟩, ⟨nx0, [.slice none 0 0, .slice none 0 0], 26⟩]) (X' := [orow 4 1 (some ⟨nx1, 0, none⟩) ((List.replicate (t1).toNat (false : Bool)).length) ((List.replicate (t1).toNat (false : Bool)).length) (List.replicate (t1).toNat (.bool false))]) rfl (hs.outof hg) ?_
 clear hs hg
 generalize w'.heap.size = nx4
 clear w w'
 refine RL.simP (K' := [(6, pt nx4 0), (5, pt nx3 0), (4, .slice (some ⟨nx1, 0, none⟩) ((List.replicate (t1).toNat (false : Bool)).length) ((List.replicate (t1).toNat (false : Bool)).length)), (3, pt nx0 0), (0, .slice Ap0 a0.length cp0)]) (nx' := nx4 + 1) (L' := [⟨nx3, arrV (Value.int .i64) 0 144 t2, 54⟩, ⟨nx0, [.slice none 0 0, .slice none 0 0], 26⟩, ⟨nx4, ((arrV (Value.int .i64) 0 12 t3.f0) ++ ((arrV (Value.int .i64) 0 12 t3.f1) ++ (arrV (Value.int .i64) 0 12 t3.f2))), 58⟩]) [] (RFacts.nil _ _ _) 2 [.no, .l 2] (by kernel_rfl) (by kernel_rfl) ?_
 refine RL.nt ?_
 refine OK.sq ?_
 obtain ⟨t4, hA4, H⟩ := bnd H
 obtain ⟨hm3, H⟩ := ifs H
 obtain ⟨hm4, H⟩ := ifs H
 refine OK.drawnC 4 5 O14_13 a14_13n (by kernel_rfl) (by kernel_rfl) (u14d1l a0 t4) u14d1g [] (RI.nil _) [.no, .no, .no, .no, .no] a14_13 a14_13o (by kernel_rfl) (by kernel_rfl) (u14d1s a0 Ap0 cp0 t4) (u14d1f a0 Ap0 cp0 nx0 t1 nx1 nx3 nx4 t4 5) (u14d1v a0 Ap0 cp0 nx0 t1 nx1 t2 nx3 t3 nx4 t4) (u14d1e a0 Ap0 cp0 nx0 t1 nx1 t2 nx3 t3 nx4 t4) [u14d1f a0 Ap0 cp0 nx0 t1 nx1 nx3 nx4 t4 0, u14d1f a0 Ap0 cp0 nx0 t1 nx1 nx3 nx4 t4 3] (framesOk.cons (fun u => rfl) (framesOk.cons (fun u => rfl) framesOk.nil)) ?_ [] framesOk.nil ?_ ?_
 ·refine LoudsG.cons ?_ (LoudsG.cons ?_ (LoudsG.nil))
  ·intro D u J w hp hJ hs hF
   have hq : Sat _ _ _ ([⟨nx4, ((arrV (Value.int .i64) 0 12 t3.f0) ++ ((arrV (Value.int .i64) 0 12 t3.f1) ++ (arrV (Value.int .i64) 0 12 t3.f2))), 58⟩, ⟨nx3, arrV (Value.int .i64) 0 144 t2, 54⟩] ++ []) ([] ++ _) w := hs.selB [2, 0] (by kernel_rfl)
   refine Does.call 32 [pt nx4 0, pt nx3 0] (by kernel_rfl) ((assign_solution_values0.calls k J nx4 nx3 t3 t2 w (Sat.into hq) hz2 hz3 hz4 hz1 t4 hA4).mono ?_)
   rintro e w' ⟨v, rfl, J2, rfl, hg⟩
   exact ⟨_, rfl, fun _ => (none, 0, []), J2, rfl, Sat.quiet (fun b hb => hq.blk b (List.mem_append_left _ hb)) hg, trivial⟩
  ·intro D u J w hp hJ hs hF
   refine (Does.makeL (T := 23) (e := 3) hs.im (a0.length : Int) .i64 .i64 (i6 0) (0) (Ty.int .i64) 8 (by kernel_rfl) (by kernel_rfl) (by kernel_rfl) (by kernel_rfl) rfl hm3 (by omega) (by omega)).mono ?_
   rintro v w' ⟨rfl, hg, hp⟩
   exact ⟨fun _ => (_, _, _), J, rfl, hg, hp, trivial⟩
 ·refine Givens.nil
 intro u I3 nx5 hi3 hF
 have hf1 := ((hF.2.1 rfl).1)
 clear hF
 refine RL.norm (K' := [(7, i6 t4), (23, .slice ((u 3 0).1) ((List.replicate ((a0.length : Int)).toNat (0 : Int)).length) ((u 3 0).2.1)), (22, i6 (a0.length : Int)), (21, .slice Ap0 a0.length cp0), (20, i6 t4), (6, pt nx4 0), (5, pt nx3 0), (4, .slice (some ⟨nx1, 0, none⟩) ((List.replicate (t1).toNat (false : Bool)).length) ((List.replicate (t1).toNat (false : Bool)).length)), (3, pt nx0 0), (0, .slice Ap0 a0.length cp0)]) (X' := [orow 4 1 (some ⟨nx1, 0, none⟩) ((List.replicate (t1).toNat (false : Bool)).length) ((List.replicate (t1).toNat (false : Bool)).length) (List.replicate (t1).toNat (.bool false)), orow 3 1 (u 3 0).1 ((List.replicate ((a0.length : Int)).toNat (0 : Int)).length) (u 3 0).2.1 (u 3 0).2.2]) (by kernel_rfl) rfl rfl rfl ?_
 revert hf1
 generalize (u 3 0).1 = A1
 generalize (u 3 0).2.1 = c1
 generalize (u 3 0).2.2 = cs1
 intro hf1
 clear u
 refine RL.st 1 [(8, .slice A1 ((List.replicate ((a0.length : Int)).toNat (0 : Int)).length) c1), (7, i6 t4), (6, pt nx4 0), (4, .slice (some ⟨nx1, 0, none⟩) ((List.replicate (t1).toNat (false : Bool)).length) ((List.replicate (t1).toNat (false : Bool)).length)), (3, pt nx0 0), (0, .slice Ap0 a0.length cp0)] ?_
 refine OK.sq ?_
 refine OK.sr ?_
 refine RL.st 3 [(26, i6 0), (25, i6 (a0.length : Int)), (8, .slice A1 ((List.replicate ((a0.length : Int)).toNat (0 : Int)).length) c1), (7, i6 t4), (6, pt nx4 0), (4, .slice (some ⟨nx1, 0, none⟩) ((List.replicate (t1).toNat (false : Bool)).length) ((List.replicate (t1).toNat (false : Bool)).length)), (3, pt nx0 0), (0, .slice Ap0 a0.length cp0)] ?_
 refine OK.join (fun K' I' _ L' X' => ∃ (x1 : List Int) (A2 : Option Addr) (c2 : Nat) (cs2 : List Value), K' = [(0, .slice Ap0 a0.length cp0), (3, pt nx0 0), (6, pt nx4 0), (8, .slice A2 x1.length c2)] ∧ L' = [⟨nx3, arrV (Value.int .i64) 0 144 t2, 54⟩, ⟨nx0, [.slice none 0 0, .slice none 0 0], 26⟩, ⟨nx4, ((arrV (Value.int .i64) 0 12 t3.f0) ++ ((arrV (Value.int .i64) 0 12 t3.f1) ++ (arrV (Value.int .i64) 0 12 t3.f2))), 58⟩] ∧ X' = [orow 3 1 A2 x1.length c2 cs2] ∧ Imm.le I3 I' ∧ Reps (Ty.int .i64) I' x1 cs2 ∧ assign_Solve.k1 k a0 t3 x1 = some r) ?_ ?_
 ·rintro _ I4 nx6 _ _ ⟨x1, A2, c2, cs2, rfl, rfl, rfl, hi4, hp2, H⟩
  rw [assign_Solve.k1] at H
  refine QN.then_ ?_
  refine OK.sr ?_
  refine RL.s 2 [(70, .slice Ap0 a0.length cp0), (69, .slice A2 x1.length c2), (3, pt nx0 0), (6, pt nx4 0)] ?_
  refine RL.arrange (L' := [⟨nx4, ((arrV (Value.int .i64) 0 12 t3.f0) ++ ((arrV (Value.int .i64) 0 12 t3.f1) ++ (arrV (Value.int .i64) 0 12 t3.f2))), 58⟩, ⟨nx3, arrV (Value.int .i64) 0 144 t2, 54⟩, ⟨nx0, [.slice none 0 0, .slice none 0 0], 26⟩]) (X' := [orow 3 1 A2 x1.length c2 cs2]) [2, 0, 1] [0] (by kernel_rfl) (by kernel_rfl) (by kernel_rfl) (by kernel_rfl) ?_
  obtain ⟨t5, hA5, H⟩ := bnd H
  refine RL.callM (L1 := [⟨nx4, ((arrV (Value.int .i64) 0 12 t3.f0) ++ ((arrV (Value.int .i64) 0 12 t3.f1) ++ (arrV (Value.int .i64) 0 12 t3.f2))), 58⟩]) (L2 := [⟨nx3, arrV (Value.int .i64) 0 144 t2, 54⟩, ⟨nx0, [.slice none 0 0, .slice none 0 0], 26⟩]) (X1 := []) (X2 := [orow 3 1 A2 x1.length c2 cs2]) rfl rfl 34 [.slice Ap0 a0.length cp0, pt nx4 0] (some 71) (fun w => assign_dualss0.Post (SM [⟨nx4, ((arrV (Value.int .i64) 0 12 t3.f0) ++ ((arrV (Value.int .i64) 0 12 t3.f1) ++ (arrV (Value.int .i64) 0 12 t3.f2))), 58⟩] []) nx4 a0 Ap0 cp0 t3 I4 w t5) (by kernel_rfl) (by kernel_rfl) (fun w hs => assign_dualss0.calls k I4 nx4 a0 Ap0 cp0 t3 w hs hlp0 (Rd.ext (Imm.le_trans (Imm.le_trans (Imm.le_trans hi1 hi2) hi3) hi4) hrp0) hz2 hz3 hz4 t5 hA5) ?_
  rintro w v w' hs ⟨I5, A3, c3, cs3, A4, c4, cs4, rfl, hg, hp3, hp4⟩
  have hi5 : Imm.le I4 I5 := hg.le
  refine RL.resume (L' := [⟨nx4, ((arrV (Value.int .i64) 0 12 t3.f0) ++ ((arrV (Value.int .i64) 0 12 t3.f1) ++ (arrV (Value.int .i64) 0 12 t3.f2))), 58⟩, ⟨nx3, arrV (Value.int .i64) 0 144 t2, 54⟩, ⟨nx0, [.slice none 0 0, .slice none 0 0], 26⟩]) (X' := [orow 2 1 A3 t5.f0.length c3 cs3, orow 2 1 A4 t5.f1.length c4 cs4, orow 3 1 A2 x1.length c2 cs2]) rfl (hs.outof hg) ?_
  clear hs hg
  generalize w'.heap.size = nx7
  clear w w'
  refine RL.simP (K' := [(2, .slice A2 x1.length c2), (3, pt nx0 0)]) (nx' := nx7) (L' := [⟨nx4, ((arrV (Value.int .i64) 0 12 t3.f0) ++ ((arrV (Value.int .i64) 0 12 t3.f1) ++ (arrV (Value.int .i64) 0 12 t3.f2))), 58⟩, ⟨nx3, arrV (Value.int .i64) 0 144 t2, 54⟩, ⟨nx0, [.slice A3 t5.f0.length c3, .slice A4 t5.f1.length c4], 26⟩]) [] (RFacts.nil _ _ _) 2 [.no, .l 2] (by kernel_rfl) (by kernel_rfl) ?_
  refine RL.nt ?_
  refine OK.re ?_
  obtain rfl := Option.some.inj H
  refine QN.body rfl [] (RFacts.nil _ _ _) (.l 2) (.tuple #[.slice A2 x1.length c2, .agg #[.slice A3 t5.f0.length c3, .slice A4 t5.f1.length c4]]) (by kernel_rfl) (by kernel_rfl) (by kernel_rfl) ?_ _ (.inr rfl)
  exact fun w' hs' => ⟨_, rfl, I5, A2, c2, cs2, A3, c3, cs3, A4, c4, cs4, rfl, ((hs'.sel [2, 0, 1] (by kernel_rfl)).got _ (List.Sublist.refl _)), (Reps.ext hi5 hp2), hp3, hp4⟩
 ·intro Q_1 hJ1 hQ1
  obtain ⟨y1, H, HK1⟩ := bnd H
  refine OK.bk 0 ?_
  refine OK.sub (K' := [(0, .slice Ap0 a0.length cp0), (3, pt nx0 0), (4, .slice (some ⟨nx1, 0, none⟩) ((List.replicate (t1).toNat (false : Bool)).length) ((List.replicate (t1).toNat (false : Bool)).length)), (6, pt nx4 0), (7, i6 t4), (8, .slice A1 ((List.replicate ((a0.length : Int)).toNat (0 : Int)).length) c1), (25, i6 (a0.length : Int)), (26, i6 0)]) (L' := [⟨nx3, arrV (Value.int .i64) 0 144 t2, 54⟩, ⟨nx0, [.slice none 0 0, .slice none 0 0], 26⟩, ⟨nx4, ((arrV (Value.int .i64) 0 12 t3.f0) ++ ((arrV (Value.int .i64) 0 12 t3.f1) ++ (arrV (Value.int .i64) 0 12 t3.f2))), 58⟩]) (by kernel_rfl) (.cons_cons _ (.cons_cons _ (.cons_cons _ .slnil))) (.refl _) ?_
  refine OK.lp (fun n_ K' I' _ L' X' => ∃ (x2 : List Bool) (x3 : Int) (x4 : List Int) (x5 : Int) (A5 : Option Addr) (c5 : Nat) (cs5 : List Value) (A6 : Option Addr) (c6 : Nat) (cs6 : List Value), K' = [(0, .slice Ap0 a0.length cp0), (3, pt nx0 0), (4, .slice A5 x2.length c5), (6, pt nx4 0), (7, i6 x3), (8, .slice A6 x4.length c6), (25, i6 (a0.length : Int)), (26, i6 x5)] ∧ L' = [⟨nx3, arrV (Value.int .i64) 0 144 t2, 54⟩, ⟨nx0, [.slice none 0 0, .slice none 0 0], 26⟩, ⟨nx4, ((arrV (Value.int .i64) 0 12 t3.f0) ++ ((arrV (Value.int .i64) 0 12 t3.f1) ++ (arrV (Value.int .i64) 0 12 t3.f2))), 58⟩] ∧ X' = [orow 4 1 A5 x2.length c5 cs5, orow 3 1 A6 x4.length c6 cs6] ∧ Imm.le I3 I' ∧ Reps Ty.bool I' x2 cs5 ∧ Reps (Ty.int .i64) I' x4 cs6 ∧ assign_Solve.l1 a0 n_ x2 x3 x4 x5 = some y1) k ⟨List.replicate (t1).toNat (false : Bool), t4, (List.replicate ((a0.length : Int)).toNat (0 : Int)), 0, (some ⟨nx1, 0, none⟩), (List.replicate (t1).toNat (false : Bool)).length, (List.replicate (t1).toNat (.bool false)), A1, c1, cs1, rfl, rfl, rfl, (Imm.le_refl _), (Reps.ext (Imm.le_trans hi2 hi3) hp1), hf1, H⟩ ?_ ?_
  ·rintro _ _ _ _ _ ⟨x2, x3, x4, x5, A5, c5, cs5, A6, c6, cs6, rfl, rfl, rfl, _, hp5, hp6, H⟩
   cases H
  ·rintro kq1 _ I6 nx8 _ _ ⟨x2, x3, x4, x5, A5, c5, cs5, A6, c6, cs6, rfl, rfl, rfl, hi6, hp5, hp6, H⟩ Q_l1 hJ2 hQ2
   rw [assign_Solve.l1] at H
   refine OK.sr ?_
   refine RL.st 1 [(27, .bool (decide (x5 < (a0.length : Int)))), (0, .slice Ap0 a0.length cp0), (3, pt nx0 0), (4, .slice A5 x2.length c5), (6, pt nx4 0), (7, i6 x3), (8, .slice A6 x4.length c6), (25, i6 (a0.length : Int)), (26, i6 x5)] ?_
   refine OK.sq ?_
   refine OK.cd (decide (x5 < (a0.length : Int))) (fun hb => ?_) (fun hb => ?_)
   ·skip
    have hc := (of_decide_eq_true hb)
    rw [if_pos hc] at H
    clear hb
    refine OK.skt ?_
    refine OK.sq ?_
    refine OK.join (fun K' I' _ L' X' => ∃ (x6 : List Bool) (x7 : Int) (x8 : List Int) (A7 : Option Addr) (c7 : Nat) (cs7 : List Value) (A8 : Option Addr) (c8 : Nat) (cs8 : List Value), K' = [(0, .slice Ap0 a0.length cp0), (3, pt nx0 0), (4, .slice A7 x6.length c7), (6, pt nx4 0), (7, i6 x7), (8, .slice A8 x8.length c8), (25, i6 (a0.length : Int)), (26, i6 x5)] ∧ L' = [⟨nx3, arrV (Value.int .i64) 0 144 t2, 54⟩, ⟨nx0, [.slice none 0 0, .slice none 0 0], 26⟩, ⟨nx4, ((arrV (Value.int .i64) 0 12 t3.f0) ++ ((arrV (Value.int .i64) 0 12 t3.f1) ++ (arrV (Value.int .i64) 0 12 t3.f2))), 58⟩] ∧ X' = [orow 4 1 A7 x6.length c7 cs7, orow 3 1 A8 x8.length c8 cs8] ∧ Imm.le I6 I' ∧ Reps Ty.bool I' x6 cs7 ∧ Reps (Ty.int .i64) I' x8 cs8 ∧ (assign_Solve.l1 a0 kq1 x6 x7 x8 (W .i64 (x5 + 1))) = some y1) ?_ ?_
    ·rintro _ I7 nx9 _ _ ⟨x6, x7, x8, A7, c7, cs7, A8, c8, cs8, rfl, rfl, rfl, hi7, hp7, hp8, H⟩
     replace H : (assign_Solve.l1 a0 kq1 x6 x7 x8 (W .i64 (x5 + 1))) = some y1 := H
     refine QN.then_ ?_
     refine OK.rg ?_
     refine RL.s 2 [(26, i6 (W .i64 (x5 + 1))), (0, .slice Ap0 a0.length cp0), (3, pt nx0 0), (4, .slice A7 x6.length c7), (6, pt nx4 0), (7, i6 x7), (8, .slice A8 x8.length c8), (25, i6 (a0.length : Int))] ?_
     refine RL.nil (by kernel_rfl) ?_
     exact QN.sb (hJ2 _ _ _ _ _ ⟨x6, x7, x8, W .i64 (x5 + 1), A7, c7, cs7, A8, c8, cs8, rfl, rfl, rfl, (Imm.le_trans hi6 hi7), hp7, hp8, H⟩) (.cons_cons _ (.cons_cons _ (.cons_cons _ .slnil))) (.refl _)
    ·intro Q_2 hJ3 hQ3
     obtain ⟨y2, H, HK2⟩ := bnd H
     refine OK.bk 1 ?_
     refine OK.sr ?_
     refine RL.st 2 [(9, i6 x5), (0, .slice Ap0 a0.length cp0), (3, pt nx0 0), (4, .slice A5 x2.length c5), (6, pt nx4 0), (7, i6 x3), (8, .slice A6 x4.length c6), (25, i6 (a0.length : Int)), (26, i6 x5)] ?_
     refine OK.sr ?_
     refine RL.s 2 [(30, i6 x5), (29, .slice A6 x4.length c6), (9, i6 x5), (0, .slice Ap0 a0.length cp0), (3, pt nx0 0), (4, .slice A5 x2.length c5), (6, pt nx4 0), (7, i6 x3), (8, .slice A6 x4.length c6), (25, i6 (a0.length : Int)), (26, i6 x5)] ?_
     obtain ⟨hib0, H⟩ := ifs H
     obtain ⟨hib1, H⟩ := ifs H
     have hx01_ := hib0; have hx11_ := hib1
     refine RL.ownAddr (e := 3) (sz := 1) (S := A6) (n := x4.length) (cap := c6) (cs := cs6) 1 (by kernel_rfl) (by omega) (fun g1_ hA1_ => ?_)
     have hc1_ := Ty.int_own hp6 x5 hib0 hib1
     refine RL.idx 1 .i64 x5 hA1_ x4.length c6 (some 31) (by kernel_rfl) (by kernel_rfl) (T := 23) (e := 3) (by kernel_rfl) (by kernel_rfl) hib0 hib1 (K' := [(31, pt g1_ (0 + (x5).toNat * 1)), (30, i6 x5), (29, .slice A6 x4.length c6), (9, i6 x5), (0, .slice Ap0 a0.length cp0), (3, pt nx0 0), (4, .slice A5 x2.length c5), (6, pt nx4 0), (7, i6 x3), (8, .slice A6 x4.length c6), (25, i6 (a0.length : Int)), (26, i6 x5)]) (by kernel_rfl) ?_
     refine RL.storeL (T := 3) (e := 3) 1 1 hA1_ c6 x5 cs6 [i6 (-1)] (i6 (-1)) (Ty.int .i64) x4 (-1) (by kernel_rfl) (by kernel_rfl) (by kernel_rfl) (by kernel_rfl) (by kernel_rfl) rfl (by kernel_rfl) hp6 hx01_ hx11_ (fun cs9 hp9 => ?_)
     refine RL.sub (K' := [(30, i6 x5), (29, .slice A6 x4.length c6), (9, i6 x5), (0, .slice Ap0 a0.length cp0), (3, pt nx0 0), (4, .slice A5 x2.length c5), (6, pt nx4 0), (7, i6 x3), (8, .slice A6 x4.length c6), (25, i6 (a0.length : Int)), (26, i6 x5)]) (L' := [⟨nx3, arrV (Value.int .i64) 0 144 t2, 54⟩, ⟨nx0, [.slice none 0 0, .slice none 0 0], 26⟩, ⟨nx4, ((arrV (Value.int .i64) 0 12 t3.f0) ++ ((arrV (Value.int .i64) 0 12 t3.f1) ++ (arrV (Value.int .i64) 0 12 t3.f2))), 58⟩]) (X' := [orow 4 1 A5 x2.length c5 cs5, orow 3 1 A6 ((x4.set (x5).toNat (-1)).length) c6 cs9]) (by kernel_rfl) (.refl _) (.refl _) ?_
     refine RL.norm (K' := [(30, i6 x5), (29, .slice A6 ((x4.set (x5).toNat (-1)).length) c6), (9, i6 x5), (0, .slice Ap0 a0.length cp0), (3, pt nx0 0), (4, .slice A5 x2.length c5), (6, pt nx4 0), (7, i6 x3), (8, .slice A6 ((x4.set (x5).toNat (-1)).length) c6), (25, i6 (a0.length : Int)), (26, i6 x5)]) (L' := [⟨nx3, arrV (Value.int .i64) 0 144 t2, 54⟩, ⟨nx0, [.slice none 0 0, .slice none 0 0], 26⟩, ⟨nx4, ((arrV (Value.int .i64) 0 12 t3.f0) ++ ((arrV (Value.int .i64) 0 12 t3.f1) ++ (arrV (Value.int .i64) 0 12 t3.f2))), 58⟩]) (by simp only [List.length_set]) rfl (by first | rfl | simp only [List.length_set]) rfl ?_
     refine RL.nil (by kernel_rfl) ?_
     refine QN.sub (K' := [(9, i6 x5), (0, .slice Ap0 a0.length cp0), (3, pt nx0 0), (4, .slice A5 x2.length c5), (6, pt nx4 0), (7, i6 x3), (8, .slice A6 ((x4.set (x5).toNat (-1)).length) c6), (25, i6 (a0.length : Int)), (26, i6 x5)]) (L' := [⟨nx3, arrV (Value.int .i64) 0 144 t2, 54⟩, ⟨nx0, [.slice none 0 0, .slice none 0 0], 26⟩, ⟨nx4, ((arrV (Value.int .i64) 0 12 t3.f0) ++ ((arrV (Value.int .i64) 0 12 t3.f1) ++ (arrV (Value.int .i64) 0 12 t3.f2))), 58⟩]) (by kernel_rfl) (.cons_cons _ (.cons_cons _ (.cons_cons _ .slnil))) (.refl _) ?_
     refine QN.then_ ?_
     refine OK.sr ?_
     refine RL.s 2 [(33, i6 x5), (32, .slice Ap0 a0.length cp0), (9, i6 x5), (0, .slice Ap0 a0.length cp0), (3, pt nx0 0), (4, .slice A5 x2.length c5), (6, pt nx4 0), (7, i6 x3), (8, .slice A6 ((x4.set (x5).toNat (-1)).length) c6), (25, i6 (a0.length : Int)), (26, i6 x5)] ?_
     obtain ⟨hib0, H⟩ := ifs H
     obtain ⟨hib1, H⟩ := ifs H
     obtain ⟨g2_, o2_, hA2_, A2_, c2_, hl2_, hr2_, hc2_⟩ := Ty.slice_at (Rd.ext (Imm.le_trans (Imm.le_trans (Imm.le_trans hi1 hi2) hi3) hi6) hrp0) x5 hib0 hib1
     refine RL.idx 1 .i64 x5 hA2_ a0.length cp0 (some 34) (by kernel_rfl) (by kernel_rfl) (T := 22) (e := 24) (by kernel_rfl) (by kernel_rfl) hib0 hib1 (K' := [(34, pt g2_ (o2_ + (x5).toNat * 1)), (33, i6 x5), (32, .slice Ap0 a0.length cp0), (9, i6 x5), (0, .slice Ap0 a0.length cp0), (3, pt nx0 0), (4, .slice A5 x2.length c5), (6, pt nx4 0), (7, i6 x3), (8, .slice A6 ((x4.set (x5).toNat (-1)).length) c6), (25, i6 (a0.length : Int)), (26, i6 x5)]) (by kernel_rfl) ?_
     refine RL.simK (K' := [(37, i6 0), (36, i6 ((a0.getD (x5).toNat []).length : Int)), (35, .slice A2_ ((a0.getD (x5).toNat []).length) c2_), (9, i6 x5), (0, .slice Ap0 a0.length cp0), (3, pt nx0 0), (4, .slice A5 x2.length c5), (6, pt nx4 0), (7, i6 x3), (8, .slice A6 ((x4.set (x5).toNat (-1)).length) c6), (25, i6 (a0.length : Int)), (26, i6 x5)]) [(⟨g2_, o2_ + (x5).toNat * 1, none⟩, .slice A2_ ((a0.getD (x5).toNat []).length) c2_)] (RFacts.imm (hc2_ 0 _ rfl) (RFacts.nil _ _ _)) 3 [.r 0, .no, .no] (by kernel_rfl) (by kernel_rfl) ?_
     refine RL.nt ?_
     refine OK.join (fun K' I' _ L' X' => ∃ (x9 : List Bool) (x10 : Int) (x11 : List Int) (A9 : Option Addr) (c9 : Nat) (cs10 : List Value) (A10 : Option Addr) (c10 : Nat) (cs11 : List Value), K' = [(0, .slice Ap0 a0.length cp0), (3, pt nx0 0), (4, .slice A9 x9.length c9), (6, pt nx4 0), (7, i6 x10), (8, .slice A10 x11.length c10), (25, i6 (a0.length : Int)), (26, i6 x5)] ∧ L' = [⟨nx3, arrV (Value.int .i64) 0 144 t2, 54⟩, ⟨nx0, [.slice none 0 0, .slice none 0 0], 26⟩, ⟨nx4, ((arrV (Value.int .i64) 0 12 t3.f0) ++ ((arrV (Value.int .i64) 0 12 t3.f1) ++ (arrV (Value.int .i64) 0 12 t3.f2))), 58⟩] ∧ X' = [orow 4 1 A9 x9.length c9 cs10, orow 3 1 A10 x11.length c10 cs11] ∧ Imm.le I6 I' ∧ Reps Ty.bool I' x9 cs10 ∧ Reps (Ty.int .i64) I' x11 cs11 ∧ assign_Solve.k3 (x9, x10, x11) = some y2) ?_ ?_
     ·rintro _ I8 nx10 _ _ ⟨x9, x10, x11, A9, c9, cs10, A10, c10, cs11, rfl, rfl, rfl, hi8, hp10, hp11, H⟩
      rw [assign_Solve.k3] at H
      refine QN.blkN ?_
      obtain rfl := Option.some.inj H
      exact QN.sb (hJ3 _ _ _ _ _ ⟨x9, x10, x11, A9, c9, cs10, A10, c10, cs11, rfl, rfl, rfl, hi8, hp10, hp11, HK2⟩) (.cons_cons _ (.cons_cons _ (.cons_cons _ .slnil))) (.refl _)
     ·intro Q_3 hJ4 hQ4
      obtain ⟨y3, H, HK3⟩ := bnd H
      refine OK.bk 2 ?_
      refine OK.sub (K' := [(0, .slice Ap0 a0.length cp0), (3, pt nx0 0), (4, .slice A5 x2.length c5), (6, pt nx4 0), (7, i6 x3), (8, .slice A6 ((x4.set (x5).toNat (-1)).length) c6), (9, i6 x5), (25, i6 (a0.length : Int)), (26, i6 x5), (35, .slice A2_ ((a0.getD (x5).toNat []).length) c2_), (36, i6 ((a0.getD (x5).toNat []).length : Int)), (37, i6 0)]) (L' := [⟨nx3, arrV (Value.int .i64) 0 144 t2, 54⟩, ⟨nx0, [.slice none 0 0, .slice none 0 0], 26⟩, ⟨nx4, ((arrV (Value.int .i64) 0 12 t3.f0) ++ ((arrV (Value.int .i64) 0 12 t3.f1) ++ (arrV (Value.int .i64) 0 12 t3.f2))), 58⟩]) (by kernel_rfl) (.cons_cons _ (.cons_cons _ (.cons_cons _ .slnil))) (.refl _) ?_
      refine OK.lp (fun n_ K' I' _ L' X' => ∃ (x12 : List Bool) (x13 : Int) (A11 : Option Addr) (c11 : Nat) (cs12 : List Value), K' = [(0, .slice Ap0 a0.length cp0), (3, pt nx0 0), (4, .slice A11 x12.length c11), (6, pt nx4 0), (7, i6 x3), (8, .slice A6 ((x4.set (x5).toNat (-1)).length) c6), (9, i6 x5), (25, i6 (a0.length : Int)), (26, i6 x5), (35, .slice A2_ ((a0.getD (x5).toNat []).length) c2_), (36, i6 ((a0.getD (x5).toNat []).length : Int)), (37, i6 x13)] ∧ L' = [⟨nx3, arrV (Value.int .i64) 0 144 t2, 54⟩, ⟨nx0, [.slice none 0 0, .slice none 0 0], 26⟩, ⟨nx4, ((arrV (Value.int .i64) 0 12 t3.f0) ++ ((arrV (Value.int .i64) 0 12 t3.f1) ++ (arrV (Value.int .i64) 0 12 t3.f2))), 58⟩] ∧ X' = [orow 4 1 A11 x12.length c11 cs12, orow 3 1 A6 ((x4.set (x5).toNat (-1)).length) c6 cs9] ∧ Imm.le I6 I' ∧ Reps Ty.bool I' x12 cs12 ∧ assign_Solve.l2 a0 x3 x4 x5 n_ x12 x13 = some y3) kq1 ⟨x2, 0, A5, c5, cs5, rfl, rfl, rfl, (Imm.le_refl _), hp5, H⟩ ?_ ?_
      ·rintro _ _ _ _ _ ⟨x12, x13, A11, c11, cs12, rfl, rfl, rfl, _, hp12, H⟩
       cases H
      ·rintro kq2 _ I9 nx11 _ _ ⟨x12, x13, A11, c11, cs12, rfl, rfl, rfl, hi9, hp12, H⟩ Q_l2 hJ5 hQ5
       rw [assign_Solve.l2] at H
       refine OK.sr ?_
       refine RL.st 1 [(38, .bool (decide (x13 < ((a0.getD (x5).toNat []).length : Int)))), (0, .slice Ap0 a0.length cp0), (3, pt nx0 0), (4, .slice A11 x12.length c11), (6, pt nx4 0), (7, i6 x3), (8, .slice A6 ((x4.set (x5).toNat (-1)).length) c6), (9, i6 x5), (25, i6 (a0.length : Int)), (26, i6 x5), (35, .slice A2_ ((a0.getD (x5).toNat []).length) c2_), (36, i6 ((a0.getD (x5).toNat []).length : Int)), (37, i6 x13)] ?_
       refine OK.sq ?_
       refine OK.cd (decide (x13 < ((a0.getD (x5).toNat []).length : Int))) (fun hb => ?_) (fun hb => ?_)
       ·skip
        have hc := (of_decide_eq_true hb)
        rw [if_pos hc] at H
        clear hb
        refine OK.skt ?_
        refine OK.sq ?_
        refine OK.bk 3 ?_
        refine OK.sr ?_
        refine RL.s 1 [(39, i6 x13), (0, .slice Ap0 a0.length cp0), (3, pt nx0 0), (4, .slice A11 x12.length c11), (6, pt nx4 0), (7, i6 x3), (8, .slice A6 ((x4.set (x5).toNat (-1)).length) c6), (9, i6 x5), (25, i6 (a0.length : Int)), (26, i6 x5), (35, .slice A2_ ((a0.getD (x5).toNat []).length) c2_), (36, i6 ((a0.getD (x5).toNat []).length : Int)), (37, i6 x13)] ?_
        obtain ⟨hib0, H⟩ := ifs H
        obtain ⟨hib1, H⟩ := ifs H
        obtain ⟨g3_, o3_, hA3_, hc3_⟩ := Ty.int_at (Rd.ext hi9 hr2_) x13 hib0 hib1
        refine RL.idx 1 .i64 x13 hA3_ ((a0.getD (x5).toNat []).length) c2_ (some 40) (by kernel_rfl) (by kernel_rfl) (T := 24) (e := 2) (by kernel_rfl) (by kernel_rfl) hib0 hib1 (K' := [(40, pt g3_ (o3_ + (x13).toNat * 1)), (39, i6 x13), (0, .slice Ap0 a0.length cp0), (3, pt nx0 0), (4, .slice A11 x12.length c11), (6, pt nx4 0), (7, i6 x3), (8, .slice A6 ((x4.set (x5).toNat (-1)).length) c6), (9, i6 x5), (25, i6 (a0.length : Int)), (26, i6 x5), (35, .slice A2_ ((a0.getD (x5).toNat []).length) c2_), (36, i6 ((a0.getD (x5).toNat []).length : Int)), (37, i6 x13)]) (by kernel_rfl) ?_
        refine RL.simK (K' := [(11, i6 ((a0.getD (x5).toNat []).getD (x13).toNat 0)), (10, i6 x13), (0, .slice Ap0 a0.length cp0), (3, pt nx0 0), (4, .slice A11 x12.length c11), (6, pt nx4 0), (7, i6 x3), (8, .slice A6 ((x4.set (x5).toNat (-1)).length) c6), (9, i6 x5), (25, i6 (a0.length : Int)), (26, i6 x5), (35, .slice A2_ ((a0.getD (x5).toNat []).length) c2_), (36, i6 ((a0.getD (x5).toNat []).length : Int)), (37, i6 x13)]) [(⟨g3_, o3_ + (x13).toNat * 1, none⟩, i6 ((a0.getD (x5).toNat []).getD (x13).toNat 0))] (RFacts.imm (hc3_ 0 _ rfl) (RFacts.nil _ _ _)) 3 [.r 0, .no, .no] (by kernel_rfl) (by kernel_rfl) ?_
        refine RL.nt ?_
        refine OK.sq ?_
        refine OK.sr ?_
        refine RL.s 2 [(43, i6 x13), (42, .slice A11 x12.length c11), (11, i6 ((a0.getD (x5).toNat []).getD (x13).toNat 0)), (10, i6 x13), (0, .slice Ap0 a0.length cp0), (3, pt nx0 0), (4, .slice A11 x12.length c11), (6, pt nx4 0), (7, i6 x3), (8, .slice A6 ((x4.set (x5).toNat (-1)).length) c6), (9, i6 x5), (25, i6 (a0.length : Int)), (26, i6 x5), (35, .slice A2_ ((a0.getD (x5).toNat []).length) c2_), (36, i6 ((a0.getD (x5).toNat []).length : Int)), (37, i6 x13)] ?_
        obtain ⟨hib0, H⟩ := ifs H
        obtain ⟨hib1, H⟩ := ifs H
        have hx04_ := hib0; have hx14_ := hib1
        refine RL.ownAddr (e := 4) (sz := 1) (S := A11) (n := x12.length) (cap := c11) (cs := cs12) 0 (by kernel_rfl) (by omega) (fun g4_ hA4_ => ?_)
        have hc4_ := Ty.bool_own hp12 x13 hib0 hib1
        refine RL.idx 1 .i64 x13 hA4_ x12.length c11 (some 44) (by kernel_rfl) (by kernel_rfl) (T := 51) (e := 4) (by kernel_rfl) (by kernel_rfl) hib0 hib1 (K' := [(44, pt g4_ (0 + (x13).toNat * 1)), (43, i6 x13), (42, .slice A11 x12.length c11), (11, i6 ((a0.getD (x5).toNat []).getD (x13).toNat 0)), (10, i6 x13), (0, .slice Ap0 a0.length cp0), (3, pt nx0 0), (4, .slice A11 x12.length c11), (6, pt nx4 0), (7, i6 x3), (8, .slice A6 ((x4.set (x5).toNat (-1)).length) c6), (9, i6 x5), (25, i6 (a0.length : Int)), (26, i6 x5), (35, .slice A2_ ((a0.getD (x5).toNat []).length) c2_), (36, i6 ((a0.getD (x5).toNat []).length : Int)), (37, i6 x13)]) (by kernel_rfl) ?_
        refine RL.simK (K' := [(45, .bool (x12.getD (x13).toNat false)), (11, i6 ((a0.getD (x5).toNat []).getD (x13).toNat 0)), (10, i6 x13), (0, .slice Ap0 a0.length cp0), (3, pt nx0 0), (4, .slice A11 x12.length c11), (6, pt nx4 0), (7, i6 x3), (8, .slice A6 ((x4.set (x5).toNat (-1)).length) c6), (9, i6 x5), (25, i6 (a0.length : Int)), (26, i6 x5), (35, .slice A2_ ((a0.getD (x5).toNat []).length) c2_), (36, i6 ((a0.getD (x5).toNat []).length : Int)), (37, i6 x13)]) [(⟨g4_, 0 + (x13).toNat * 1, none⟩, .bool (x12.getD (x13).toNat false))] (RFacts.ownQ (e := 4) (sz := 1) (S := A11) (n := x12.length) (cap := c11) (cs := cs12) 0 (by kernel_rfl) hA4_ (0 + (x13).toNat * 1) ((x13).toNat * 1 + 0) (by omega) (hc4_ 0 _ rfl) (RFacts.nil _ _ _)) 1 [.r 0] (by kernel_rfl) (by kernel_rfl) ?_
        refine RL.nt ?_
        refine OK.cd (x12.getD (x13).toNat false) (fun hb => ?_) (fun hb => ?_)
        ·skip
         have hc := hb
         rw [if_pos hc] at H
         clear hb
         refine OK.ex 3 ?_
         refine QN.thenE ?_
         refine QN.blkE ?_
         refine QN.then_ ?_
         refine OK.rg ?_
         refine RL.s 2 [(37, i6 (W .i64 (x13 + 1))), (0, .slice Ap0 a0.length cp0), (3, pt nx0 0), (4, .slice A11 x12.length c11), (6, pt nx4 0), (7, i6 x3), (8, .slice A6 ((x4.set (x5).toNat (-1)).length) c6), (9, i6 x5), (25, i6 (a0.length : Int)), (26, i6 x5), (35, .slice A2_ ((a0.getD (x5).toNat []).length) c2_), (36, i6 ((a0.getD (x5).toNat []).length : Int))] ?_
         refine RL.nil (by kernel_rfl) ?_
         exact QN.sb (hJ5 _ _ _ _ _ ⟨x12, W .i64 (x13 + 1), A11, c11, cs12, rfl, rfl, rfl, hi9, hp12, H⟩) (.cons_cons _ (.cons_cons _ (.cons_cons _ .slnil))) (.refl _)
        ·skip
         have hc := (Bool.eq_false_iff.1 hb)
         rw [if_neg hc] at H
         clear hb
         refine OK.skt ?_
         refine OK.sr ?_
         refine RL.s 2 [(47, i6 x13), (46, .slice A11 x12.length c11), (11, i6 ((a0.getD (x5).toNat []).getD (x13).toNat 0)), (10, i6 x13), (0, .slice Ap0 a0.length cp0), (3, pt nx0 0), (4, .slice A11 x12.length c11), (6, pt nx4 0), (7, i6 x3), (8, .slice A6 ((x4.set (x5).toNat (-1)).length) c6), (9, i6 x5), (25, i6 (a0.length : Int)), (26, i6 x5), (35, .slice A2_ ((a0.getD (x5).toNat []).length) c2_), (36, i6 ((a0.getD (x5).toNat []).length : Int)), (37, i6 x13)] ?_
         obtain ⟨hib0, H⟩ := ifs H
         obtain ⟨hib1, H⟩ := ifs H
         have hx05_ := hib0; have hx15_ := hib1
         refine RL.ownAddr (e := 4) (sz := 1) (S := A11) (n := x12.length) (cap := c11) (cs := cs12) 0 (by kernel_rfl) (by omega) (fun g5_ hA5_ => ?_)
         have hc5_ := Ty.bool_own hp12 x13 hib0 hib1
         refine RL.idx 1 .i64 x13 hA5_ x12.length c11 (some 48) (by kernel_rfl) (by kernel_rfl) (T := 51) (e := 4) (by kernel_rfl) (by kernel_rfl) hib0 hib1 (K' := [(48, pt g5_ (0 + (x13).toNat * 1)), (47, i6 x13), (46, .slice A11 x12.length c11), (11, i6 ((a0.getD (x5).toNat []).getD (x13).toNat 0)), (10, i6 x13), (0, .slice Ap0 a0.length cp0), (3, pt nx0 0), (4, .slice A11 x12.length c11), (6, pt nx4 0), (7, i6 x3), (8, .slice A6 ((x4.set (x5).toNat (-1)).length) c6), (9, i6 x5), (25, i6 (a0.length : Int)), (26, i6 x5), (35, .slice A2_ ((a0.getD (x5).toNat []).length) c2_), (36, i6 ((a0.getD (x5).toNat []).length : Int)), (37, i6 x13)]) (by kernel_rfl) ?_
         refine RL.storeL (T := 4) (e := 4) 1 0 hA5_ c11 x13 cs12 [.bool true] (.bool true) Ty.bool x12 true (by kernel_rfl) (by kernel_rfl) (by kernel_rfl) (by kernel_rfl) (by kernel_rfl) rfl (by kernel_rfl) hp12 hx05_ hx15_ (fun cs13 hp13 => ?_)
         refine RL.sub (K' := [(47, i6 x13), (46, .slice A11 x12.length c11), (11, i6 ((a0.getD (x5).toNat []).getD (x13).toNat 0)), (10, i6 x13), (0, .slice Ap0 a0.length cp0), (3, pt nx0 0), (4, .slice A11 x12.length c11), (6, pt nx4 0), (7, i6 x3), (8, .slice A6 ((x4.set (x5).toNat (-1)).length) c6), (9, i6 x5), (25, i6 (a0.length : Int)), (26, i6 x5), (35, .slice A2_ ((a0.getD (x5).toNat []).length) c2_), (36, i6 ((a0.getD (x5).toNat []).length : Int)), (37, i6 x13)]) (L' := [⟨nx3, arrV (Value.int .i64) 0 144 t2, 54⟩, ⟨nx0, [.slice none 0 0, .slice none 0 0], 26⟩, ⟨nx4, ((arrV (Value.int .i64) 0 12 t3.f0) ++ ((arrV (Value.int .i64) 0 12 t3.f1) ++ (arrV (Value.int .i64) 0 12 t3.f2))), 58⟩]) (X' := [orow 4 1 A11 ((x12.set (x13).toNat true).length) c11 cs13, orow 3 1 A6 ((x4.set (x5).toNat (-1)).length) c6 cs9]) (by kernel_rfl) (.refl _) (.refl _) ?_
         refine RL.norm (K' := [(47, i6 x13), (46, .slice A11 ((x12.set (x13).toNat true).length) c11), (11, i6 ((a0.getD (x5).toNat []).getD (x13).toNat 0)), (10, i6 x13), (0, .slice Ap0 a0.length cp0), (3, pt nx0 0), (4, .slice A11 ((x12.set (x13).toNat true).length) c11), (6, pt nx4 0), (7, i6 x3), (8, .slice A6 ((x4.set (x5).toNat (-1)).length) c6), (9, i6 x5), (25, i6 (a0.length : Int)), (26, i6 x5), (35, .slice A2_ ((a0.getD (x5).toNat []).length) c2_), (36, i6 ((a0.getD (x5).toNat []).length : Int)), (37, i6 x13)]) (L' := [⟨nx3, arrV (Value.int .i64) 0 144 t2, 54⟩, ⟨nx0, [.slice none 0 0, .slice none 0 0], 26⟩, ⟨nx4, ((arrV (Value.int .i64) 0 12 t3.f0) ++ ((arrV (Value.int .i64) 0 12 t3.f1) ++ (arrV (Value.int .i64) 0 12 t3.f2))), 58⟩]) (by simp only [List.length_set]) rfl (by first | rfl | simp only [List.length_set]) rfl ?_
         refine RL.nil (by kernel_rfl) ?_
         refine QN.sub (K' := [(11, i6 ((a0.getD (x5).toNat []).getD (x13).toNat 0)), (10, i6 x13), (0, .slice Ap0 a0.length cp0), (3, pt nx0 0), (4, .slice A11 ((x12.set (x13).toNat true).length) c11), (6, pt nx4 0), (7, i6 x3), (8, .slice A6 ((x4.set (x5).toNat (-1)).length) c6), (9, i6 x5), (25, i6 (a0.length : Int)), (26, i6 x5), (35, .slice A2_ ((a0.getD (x5).toNat []).length) c2_), (36, i6 ((a0.getD (x5).toNat []).length : Int)), (37, i6 x13)]) (L' := [⟨nx3, arrV (Value.int .i64) 0 144 t2, 54⟩, ⟨nx0, [.slice none 0 0, .slice none 0 0], 26⟩, ⟨nx4, ((arrV (Value.int .i64) 0 12 t3.f0) ++ ((arrV (Value.int .i64) 0 12 t3.f1) ++ (arrV (Value.int .i64) 0 12 t3.f2))), 58⟩]) (by kernel_rfl) (.cons_cons _ (.cons_cons _ (.cons_cons _ .slnil))) (.refl _) ?_
         refine QN.then_ ?_
         refine OK.sq ?_
         refine OK.sr ?_
         refine RL.s 4 [(52, .slice A11 ((x12.set (x13).toNat true).length) c11), (51, i6 (W .i64 (x5 + 1))), (49, .slice Ap0 a0.length cp0), (11, i6 ((a0.getD (x5).toNat []).getD (x13).toNat 0)), (10, i6 x13), (0, .slice Ap0 a0.length cp0), (3, pt nx0 0), (4, .slice A11 ((x12.set (x13).toNat true).length) c11), (6, pt nx4 0), (7, i6 x3), (8, .slice A6 ((x4.set (x5).toNat (-1)).length) c6), (9, i6 x5), (25, i6 (a0.length : Int)), (26, i6 x5), (35, .slice A2_ ((a0.getD (x5).toNat []).length) c2_), (36, i6 ((a0.getD (x5).toNat []).length : Int)), (37, i6 x13)] ?_
         obtain ⟨t6, hA6, H⟩ := bnd H
         refine RL.callP 33 [.slice Ap0 a0.length cp0, i6 (W .i64 (x5 + 1)), .slice A11 ((x12.set (x13).toNat true).length) c11] (some 53) (fun w v w' => ∃ I', Imm.le I9 I' ∧ assign_best.Post I' w t6 v w') (by kernel_rfl) (by kernel_rfl) (fun w hs => ?_) ?_
         ·skip
          obtain ⟨JL2, hj2, hn2, hw2, hs⟩ := Sat.freeze (e := 4) (sz := 1) (S := A11) (n := (x12.set (x13).toNat true).length) (cap := c11) (m := 0) hs (by kernel_rfl) hp13 rfl
          exact (assign_best.calls kq2 JL2 a0 Ap0 cp0 (W .i64 (x5 + 1)) (x12.set (x13).toNat true) A11 c11 _ hs.im hlp0 (Rd.ext hj2 (Rd.ext (Imm.le_trans (Imm.le_trans (Imm.le_trans (Imm.le_trans hi1 hi2) hi3) hi6) hi9) hrp0)) hn2 hw2 t6 hA6).mono (fun e w' ⟨v, hv, hp⟩ => ⟨v, hv, JL2, hj2, hp⟩)
         rintro w v w' hs ⟨I', hle, J, rfl, hg⟩
         refine RL.resume (X' := [orow 4 1 A11 ((x12.set (x13).toNat true).length) c11 cs13, orow 3 1 A6 ((x4.set (x5).toNat (-1)).length) c6 cs9]) rfl (hs.call (hg.back hle)) ?_
         clear hs hg hle I' J
         generalize w'.heap.size = nx12
         clear w w'
         refine RL.st 1 [(12, i6 t6), (11, i6 ((a0.getD (x5).toNat []).getD (x13).toNat 0)), (10, i6 x13), (0, .slice Ap0 a0.length cp0), (3, pt nx0 0), (4, .slice A11 ((x12.set (x13).toNat true).length) c11), (6, pt nx4 0), (7, i6 x3), (8, .slice A6 ((x4.set (x5).toNat (-1)).length) c6), (9, i6 x5), (25, i6 (a0.length : Int)), (26, i6 x5), (35, .slice A2_ ((a0.getD (x5).toNat []).length) c2_), (36, i6 ((a0.getD (x5).toNat []).length : Int)), (37, i6 x13)] ?_
         refine OK.sr ?_
         refine RL.st 5 [(58, .bool ((W .i64 (((a0.getD (x5).toNat []).getD (x13).toNat 0) + t6)) == x3)), (12, i6 t6), (10, i6 x13), (0, .slice Ap0 a0.length cp0), (3, pt nx0 0), (4, .slice A11 ((x12.set (x13).toNat true).length) c11), (6, pt nx4 0), (7, i6 x3), (8, .slice A6 ((x4.set (x5).toNat (-1)).length) c6), (9, i6 x5), (25, i6 (a0.length : Int)), (26, i6 x5), (35, .slice A2_ ((a0.getD (x5).toNat []).length) c2_), (36, i6 ((a0.getD (x5).toNat []).length : Int)), (37, i6 x13)] ?_
         refine OK.cd ((W .i64 (((a0.getD (x5).toNat []).getD (x13).toNat 0) + t6)) == x3) (fun hb => ?_) (fun hb => ?_)
         ·skip
          have hc := (beq_iff_eq.1 hb)
          rw [if_pos hc] at H
          clear hb
          refine OK.sr ?_
          refine RL.s 4 [(62, i6 t6), (61, i6 x13), (60, i6 x5), (59, .slice A6 ((x4.set (x5).toNat (-1)).length) c6), (0, .slice Ap0 a0.length cp0), (3, pt nx0 0), (4, .slice A11 ((x12.set (x13).toNat true).length) c11), (6, pt nx4 0), (7, i6 x3), (8, .slice A6 ((x4.set (x5).toNat (-1)).length) c6), (25, i6 (a0.length : Int)), (26, i6 x5)] ?_
          obtain ⟨hib0, H⟩ := ifs H
          obtain ⟨hib1, H⟩ := ifs H
          have hx06_ := hib0; have hx16_ := hib1
          refine RL.ownAddr (e := 3) (sz := 1) (S := A6) (n := (x4.set (x5).toNat (-1)).length) (cap := c6) (cs := cs9) 1 (by kernel_rfl) (by omega) (fun g6_ hA6_ => ?_)
          have hc6_ := Ty.int_own (Reps.ext hi9 hp9) x5 hib0 hib1
          refine RL.idx 1 .i64 x5 hA6_ ((x4.set (x5).toNat (-1)).length) c6 (some 63) (by kernel_rfl) (by kernel_rfl) (T := 23) (e := 3) (by kernel_rfl) (by kernel_rfl) hib0 hib1 (K' := [(63, pt g6_ (0 + (x5).toNat * 1)), (62, i6 t6), (61, i6 x13), (60, i6 x5), (59, .slice A6 ((x4.set (x5).toNat (-1)).length) c6), (0, .slice Ap0 a0.length cp0), (3, pt nx0 0), (4, .slice A11 ((x12.set (x13).toNat true).length) c11), (6, pt nx4 0), (7, i6 x3), (8, .slice A6 ((x4.set (x5).toNat (-1)).length) c6), (25, i6 (a0.length : Int)), (26, i6 x5)]) (by kernel_rfl) ?_
          refine RL.storeL (T := 3) (e := 3) 1 1 hA6_ c6 x5 cs9 [i6 x13] (i6 x13) (Ty.int .i64) (x4.set (x5).toNat (-1)) x13 (by kernel_rfl) (by kernel_rfl) (by kernel_rfl) (by kernel_rfl) (by kernel_rfl) rfl (by kernel_rfl) (Reps.ext hi9 hp9) hx06_ hx16_ (fun cs14 hp14 => ?_)
          refine RL.sub (K' := [(62, i6 t6), (61, i6 x13), (60, i6 x5), (59, .slice A6 ((x4.set (x5).toNat (-1)).length) c6), (0, .slice Ap0 a0.length cp0), (3, pt nx0 0), (4, .slice A11 ((x12.set (x13).toNat true).length) c11), (6, pt nx4 0), (7, i6 x3), (8, .slice A6 ((x4.set (x5).toNat (-1)).length) c6), (25, i6 (a0.length : Int)), (26, i6 x5)]) (L' := [⟨nx3, arrV (Value.int .i64) 0 144 t2, 54⟩, ⟨nx0, [.slice none 0 0, .slice none 0 0], 26⟩, ⟨nx4, ((arrV (Value.int .i64) 0 12 t3.f0) ++ ((arrV (Value.int .i64) 0 12 t3.f1) ++ (arrV (Value.int .i64) 0 12 t3.f2))), 58⟩]) (X' := [orow 4 1 A11 ((x12.set (x13).toNat true).length) c11 cs13, orow 3 1 A6 (((x4.set (x5).toNat (-1)).set (x5).toNat x13).length) c6 cs14]) (by kernel_rfl) (.refl _) (.refl _) ?_
          refine RL.norm (K' := [(62, i6 t6), (61, i6 x13), (60, i6 x5), (59, .slice A6 (((x4.set (x5).toNat (-1)).set (x5).toNat x13).length) c6), (0, .slice Ap0 a0.length cp0), (3, pt nx0 0), (4, .slice A11 ((x12.set (x13).toNat true).length) c11), (6, pt nx4 0), (7, i6 x3), (8, .slice A6 (((x4.set (x5).toNat (-1)).set (x5).toNat x13).length) c6), (25, i6 (a0.length : Int)), (26, i6 x5)]) (L' := [⟨nx3, arrV (Value.int .i64) 0 144 t2, 54⟩, ⟨nx0, [.slice none 0 0, .slice none 0 0], 26⟩, ⟨nx4, ((arrV (Value.int .i64) 0 12 t3.f0) ++ ((arrV (Value.int .i64) 0 12 t3.f1) ++ (arrV (Value.int .i64) 0 12 t3.f2))), 58⟩]) (by simp only [List.length_set]) rfl (by first | rfl | simp only [List.length_set]) rfl ?_
          refine RL.st 1 [(7, i6 t6), (0, .slice Ap0 a0.length cp0), (3, pt nx0 0), (4, .slice A11 ((x12.set (x13).toNat true).length) c11), (6, pt nx4 0), (8, .slice A6 (((x4.set (x5).toNat (-1)).set (x5).toNat x13).length) c6), (25, i6 (a0.length : Int)), (26, i6 x5)] ?_
          refine OK.ex 2 ?_
          refine QN.thenE ?_
          refine QN.blkX (by decide) ?_
          refine QN.thenE ?_
          refine QN.outE hQ5 ?_
          refine QN.blkE ?_
          obtain rfl := Option.some.inj H
          exact QN.sb (hJ4 _ _ _ _ _ ⟨x12.set (x13).toNat true, t6, (x4.set (x5).toNat (-1)).set (x5).toNat x13, A11, c11, cs13, A6, c6, cs14, rfl, rfl, rfl, hi9, hp13, hp14, HK3⟩) (.cons_cons _ (.cons_cons _ (.cons_cons _ .slnil))) (.refl _)
         ·skip
          have hc := (beq_eq_false_iff_ne.1 hb)
          rw [if_neg hc] at H
          clear hb
          refine OK.skt ?_
          refine OK.rg ?_
          refine RL.s 2 [(65, i6 x13), (64, .slice A11 ((x12.set (x13).toNat true).length) c11), (0, .slice Ap0 a0.length cp0), (3, pt nx0 0), (4, .slice A11 ((x12.set (x13).toNat true).length) c11), (6, pt nx4 0), (7, i6 x3), (8, .slice A6 ((x4.set (x5).toNat (-1)).length) c6), (9, i6 x5), (25, i6 (a0.length : Int)), (26, i6 x5), (35, .slice A2_ ((a0.getD (x5).toNat []).length) c2_), (36, i6 ((a0.getD (x5).toNat []).length : Int)), (37, i6 x13)] ?_
          obtain ⟨hib0, H⟩ := ifs H
          obtain ⟨hib1, H⟩ := ifs H
          have hx07_ := hib0; have hx17_ := hib1
          refine RL.ownAddr (e := 4) (sz := 1) (S := A11) (n := (x12.set (x13).toNat true).length) (cap := c11) (cs := cs13) 0 (by kernel_rfl) (by omega) (fun g7_ hA7_ => ?_)
          have hc7_ := Ty.bool_own hp13 x13 hib0 hib1
          refine RL.idx 1 .i64 x13 hA7_ ((x12.set (x13).toNat true).length) c11 (some 66) (by kernel_rfl) (by kernel_rfl) (T := 51) (e := 4) (by kernel_rfl) (by kernel_rfl) hib0 hib1 (K' := [(66, pt g7_ (0 + (x13).toNat * 1)), (65, i6 x13), (64, .slice A11 ((x12.set (x13).toNat true).length) c11), (0, .slice Ap0 a0.length cp0), (3, pt nx0 0), (4, .slice A11 ((x12.set (x13).toNat true).length) c11), (6, pt nx4 0), (7, i6 x3), (8, .slice A6 ((x4.set (x5).toNat (-1)).length) c6), (9, i6 x5), (25, i6 (a0.length : Int)), (26, i6 x5), (35, .slice A2_ ((a0.getD (x5).toNat []).length) c2_), (36, i6 ((a0.getD (x5).toNat []).length : Int)), (37, i6 x13)]) (by kernel_rfl) ?_
          refine RL.storeL (T := 4) (e := 4) 1 0 hA7_ c11 x13 cs13 [.bool false] (.bool false) Ty.bool (x12.set (x13).toNat true) false (by kernel_rfl) (by kernel_rfl) (by kernel_rfl) (by kernel_rfl) (by kernel_rfl) rfl (by kernel_rfl) hp13 hx07_ hx17_ (fun cs15 hp15 => ?_)
          refine RL.sub (K' := [(65, i6 x13), (64, .slice A11 ((x12.set (x13).toNat true).length) c11), (0, .slice Ap0 a0.length cp0), (3, pt nx0 0), (4, .slice A11 ((x12.set (x13).toNat true).length) c11), (6, pt nx4 0), (7, i6 x3), (8, .slice A6 ((x4.set (x5).toNat (-1)).length) c6), (9, i6 x5), (25, i6 (a0.length : Int)), (26, i6 x5), (35, .slice A2_ ((a0.getD (x5).toNat []).length) c2_), (36, i6 ((a0.getD (x5).toNat []).length : Int)), (37, i6 x13)]) (L' := [⟨nx3, arrV (Value.int .i64) 0 144 t2, 54⟩, ⟨nx0, [.slice none 0 0, .slice none 0 0], 26⟩, ⟨nx4, ((arrV (Value.int .i64) 0 12 t3.f0) ++ ((arrV (Value.int .i64) 0 12 t3.f1) ++ (arrV (Value.int .i64) 0 12 t3.f2))), 58⟩]) (X' := [orow 4 1 A11 (((x12.set (x13).toNat true).set (x13).toNat false).length) c11 cs15, orow 3 1 A6 ((x4.set (x5).toNat (-1)).length) c6 cs9]) (by kernel_rfl) (.refl _) (.refl _) ?_
          refine RL.norm (K' := [(65, i6 x13), (64, .slice A11 (((x12.set (x13).toNat true).set (x13).toNat false).length) c11), (0, .slice Ap0 a0.length cp0), (3, pt nx0 0), (4, .slice A11 (((x12.set (x13).toNat true).set (x13).toNat false).length) c11), (6, pt nx4 0), (7, i6 x3), (8, .slice A6 ((x4.set (x5).toNat (-1)).length) c6), (9, i6 x5), (25, i6 (a0.length : Int)), (26, i6 x5), (35, .slice A2_ ((a0.getD (x5).toNat []).length) c2_), (36, i6 ((a0.getD (x5).toNat []).length : Int)), (37, i6 x13)]) (L' := [⟨nx3, arrV (Value.int .i64) 0 144 t2, 54⟩, ⟨nx0, [.slice none 0 0, .slice none 0 0], 26⟩, ⟨nx4, ((arrV (Value.int .i64) 0 12 t3.f0) ++ ((arrV (Value.int .i64) 0 12 t3.f1) ++ (arrV (Value.int .i64) 0 12 t3.f2))), 58⟩]) (by simp only [List.length_set]) rfl (by first | rfl | simp only [List.length_set]) rfl ?_
          refine RL.nil (by kernel_rfl) ?_
          refine QN.sub (K' := [(0, .slice Ap0 a0.length cp0), (3, pt nx0 0), (4, .slice A11 (((x12.set (x13).toNat true).set (x13).toNat false).length) c11), (6, pt nx4 0), (7, i6 x3), (8, .slice A6 ((x4.set (x5).toNat (-1)).length) c6), (9, i6 x5), (25, i6 (a0.length : Int)), (26, i6 x5), (35, .slice A2_ ((a0.getD (x5).toNat []).length) c2_), (36, i6 ((a0.getD (x5).toNat []).length : Int)), (37, i6 x13)]) (L' := [⟨nx3, arrV (Value.int .i64) 0 144 t2, 54⟩, ⟨nx0, [.slice none 0 0, .slice none 0 0], 26⟩, ⟨nx4, ((arrV (Value.int .i64) 0 12 t3.f0) ++ ((arrV (Value.int .i64) 0 12 t3.f1) ++ (arrV (Value.int .i64) 0 12 t3.f2))), 58⟩]) (by kernel_rfl) (.cons_cons _ (.cons_cons _ (.cons_cons _ .slnil))) (.refl _) ?_
          refine QN.blkN ?_
          refine QN.then_ ?_
          refine OK.rg ?_
          refine RL.s 2 [(37, i6 (W .i64 (x13 + 1))), (0, .slice Ap0 a0.length cp0), (3, pt nx0 0), (4, .slice A11 (((x12.set (x13).toNat true).set (x13).toNat false).length) c11), (6, pt nx4 0), (7, i6 x3), (8, .slice A6 ((x4.set (x5).toNat (-1)).length) c6), (9, i6 x5), (25, i6 (a0.length : Int)), (26, i6 x5), (35, .slice A2_ ((a0.getD (x5).toNat []).length) c2_), (36, i6 ((a0.getD (x5).toNat []).length : Int))] ?_
          refine RL.nil (by kernel_rfl) ?_
          exact QN.sb (hJ5 _ _ _ _ _ ⟨(x12.set (x13).toNat true).set (x13).toNat false, W .i64 (x13 + 1), A11, c11, cs15, rfl, rfl, rfl, hi9, hp15, H⟩) (.cons_cons _ (.cons_cons _ (.cons_cons _ .slnil))) (.refl _)
       ·skip
        have hc := (of_decide_eq_false hb)
        rw [if_neg hc] at H
        clear hb
        refine OK.ex 2 ?_
        refine QN.thenE ?_
        refine QN.outE hQ5 ?_
        refine QN.blkE ?_
        obtain rfl := Option.some.inj H
        exact QN.sb (hJ4 _ _ _ _ _ ⟨x12, x3, x4.set (x5).toNat (-1), A11, c11, cs12, A6, c6, cs9, rfl, rfl, rfl, hi9, hp12, (Reps.ext hi9 hp9), HK3⟩) (.cons_cons _ (.cons_cons _ (.cons_cons _ .slnil))) (.refl _)
   ·skip
    have hc := (of_decide_eq_false hb)
    rw [if_neg hc] at H
    clear hb
    refine OK.ex 0 ?_
    refine QN.thenE ?_
    refine QN.outE hQ2 ?_
    refine QN.blkE ?_
    obtain rfl := Option.some.inj H
    refine QN.sel (K' := [(0, .slice Ap0 a0.length cp0), (3, pt nx0 0), (6, pt nx4 0), (8, .slice A6 x4.length c6)]) (L' := [⟨nx3, arrV (Value.int .i64) 0 144 t2, 54⟩, ⟨nx0, [.slice none 0 0, .slice none 0 0], 26⟩, ⟨nx4, ((arrV (Value.int .i64) 0 12 t3.f0) ++ ((arrV (Value.int .i64) 0 12 t3.f1) ++ (arrV (Value.int .i64) 0 12 t3.f2))), 58⟩]) [1] (by kernel_rfl) (by kernel_rfl) (.cons_cons _ (.cons_cons _ (.cons_cons _ .slnil))) ?_
    refine QN.norm (X' := [orow 3 1 A6 x4.length c6 cs6]) rfl rfl rfl (by kernel_rfl) ?_
    exact hJ1 _ _ _ _ _ ⟨x4, A6, c6, cs6, rfl, rfl, rfl, hi6, hp6, HK1⟩

end Go.Proofs.Ytdmhbcgmimfjcaa
namespace Go.Proofs.Ytdmhbcgmimfjcaa.hun
open Go Go.Proofs.Ytdmhbcgmimfjcaa Go.Proofs.Ytdmhbcgmimfjcaa.RW
set_option linter.unusedVariables false
set_option maxRecDepth 100000
set_option maxHeartbeats 4000000
section
variable {w : List (List Int)} {m : Nat}
theorem columns (h : Vw w m) : assign_columns.f w = some (m : Int) := by
  unfold assign_columns.f
  by_cases e : w.length = 0
  · rw [if_pos (by omega), h.z e]; rfl
  · have h1 := h.rl 0 (by omega)
    have h2 : (w.getD 0 []).length = m := h1
    rw [if_neg (by omega), if_pos (by omega)]
    show some ((w.getD 0 []).length : Int) = _
    rw [h2]
theorem pw_le (h : Vw w m) {first : Nat} {used : List Bool} (r j : Nat) : 0 ≤ pw w m first used r j ∧ pw w m first used r j ≤ 1073741824 := by
  by_cases e : first ≤ r ∧ r < w.length ∧ j < m ∧ gb used j = false
  · rw [show pw w m first used r j = we w r j from if_pos e]; exact h.eb r j e.2.1 e.2.2.1
  · rw [show pw w m first used r j = 0 from if_neg e]; omega
/-- The search over the padded matrix. -/
theorem searched (h : Vw w m) {used : List Bool} (hu : used.length = m) {first k : Nat} (hk : 600 ≤ k) (hf : first ≤ w.length) :
    ∃ (b : List Int) (s : S58), assign_pad.f k w (first : Int) used = some b ∧ assign_hungarians0.f k b = some s ∧ Mt 12 s.f0 ∧ Pt 1073741824 12 b s.f0 s.f1 s.f2 ∧ (∀ r j, r < 12 → j < 12 → wt b r j = pw w m first used r j) ∧
      assign_solution_values0.f k s b = some (sm (fun j => wt b (g s.f0 j).toNat j) 12) ∧ 0 ≤ sm (fun j => wt b (g s.f0 j).toNat j) 12 ∧ sm (fun j => wt b (g s.f0 j).toNat j) 12 ≤ 12884901888 := by
  obtain ⟨b, e1, h1, h2⟩ := pad h hu (k := k) (by omega) hf
  have hw : ∀ r j, r < 12 → j < 12 → 0 ≤ wt b r j ∧ wt b r j ≤ 1073741824 := fun r j hr hj => by rw [h2 r j hr hj]; exact pw_le h r j
  obtain ⟨s, e2, mt, pt⟩ := hungarian (M := 1073741824) (by omega) (by omega) hw (k := k) (by omega)
  have hall := (tight_sum mt pt).2
  have h3 := sm_bounds (f := fun j => wt b (g s.f0 j).toNat j) (B := 1073741824) 12 (fun j hj => hw _ j (by have := hall j hj; omega) hj)
  exact ⟨b, s, e1, e2, mt, pt, h2, value (by omega) (by omega) hw mt (by omega), h3.1, by omega⟩
theorem best_spec (h : Vw w m) {used : List Bool} (hu : used.length = m) {first k : Nat} (hk : 600 ≤ k) (hf : first ≤ w.length) : ∃ V, assign_best.f k w (first : Int) used = some V ∧ Opt w m first (gb used) V ∧ 0 ≤ V ∧ V ≤ 12884901888 := by
  obtain ⟨b, s, e1, e2, mt, pt, h2, e3, h3, h4⟩ := searched h hu hk hf
  obtain ⟨j0, hj0, hm⟩ := min12 (g s.f2) 12 (by omega)
  obtain ⟨ho, _⟩ := found h hu h2 mt pt ⟨j0, hj0, rfl⟩ hm
  refine ⟨_, ?_, ho, h3, h4⟩
  unfold assign_best.f
  rw [e1, Option.bind_some, e2, Option.bind_some, e3]
  rfl
/-! ### the dual solution -/
theorem min_spec (l : List Int) (hl : l.length = 12) {k : Nat} (hk : 14 ≤ k) : ∃ t, slices_Min_int64_int64.f k l = some t ∧ (∃ j0, j0 < 12 ∧ g l j0 = t) ∧ ∀ j, j < 12 → t ≤ g l j := by
  have key : ∀ (d k n : Nat) (t : Int), d + n = 12 → d < k → (∃ j0, j0 < n ∧ g l j0 = t) → (∀ j, j < n → t ≤ g l j) → ∃ t', slices_Min_int64_int64.l1 l k t (n : Int) = some t' ∧ (∃ j0, j0 < 12 ∧ g l j0 = t') ∧ ∀ j, j < 12 → t' ≤ g l j := by
    intro d
    induction d with
    | zero =>
      intro k n t hd hk h1 h2
      obtain ⟨k, rfl⟩ : ∃ m, k = m + 1 := ⟨k - 1, by omega⟩
      obtain rfl : n = 12 := by omega
      refine ⟨t, ?_, h1, h2⟩
      simp only [slices_Min_int64_int64.l1]
      rw [if_neg (by omega)]
    | succ d ih =>
      intro k n t hd hk h1 h2
      obtain ⟨k, rfl⟩ : ∃ m, k = m + 1 := ⟨k - 1, by omega⟩
      simp only [slices_Min_int64_int64.l1, tn]
      rw [if_pos (by omega), if_pos (by omega), if_pos (by omega), Wn (by omega)]
      have hmin : iMin t (l.getD n 0) = if g l n < t then g l n else t := rfl
      refine ih k (n + 1) _ (by omega) (by omega) ?_ (fun j hj => ?_)
      · rw [hmin]
        split
        · exact ⟨n, by omega, rfl⟩
        · obtain ⟨j0, h3, h4⟩ := h1
          exact ⟨j0, by omega, h4⟩
      · rw [hmin]
        by_cases e : j = n
        · subst e; split <;> omega
        · have := h2 j (by omega)
          split <;> omega
  obtain ⟨t, e, h1, h2⟩ := key 11 k 1 (g l 0) rfl (by omega) ⟨0, by omega, rfl⟩ (fun j hj => by
    obtain rfl : j = 0 := by omega
    exact Int.le_refl _)
  refine ⟨t, ?_, h1, h2⟩
  unfold slices_Min_int64_int64.f
  rw [if_neg (by omega), if_pos (by omega)]
  rw [show slices_Min_int64_int64.l1 l k (l.getD (0 : Int).toNat 0) 1 = some t from e]
  rfl
theorem duals_spec (h : Vw w m) {s : S58} (hul : s.f1.length = 12) (hvl : s.f2.length = 12) (hub : ∀ r, r < 12 → -14000000000 ≤ g s.f1 r ∧ g s.f1 r ≤ 14000000000) (hvb : ∀ j, j < 12 → 0 ≤ g s.f2 j ∧ g s.f2 j ≤ 14000000000) {k : Nat} (hk : 40 ≤ k) :
    ∃ (d : S26) (t : Int), assign_dualss0.f k w s = some d ∧ (∃ j0, j0 < 12 ∧ g s.f2 j0 = t) ∧ (∀ j, j < 12 → t ≤ g s.f2 j) ∧ d.f0.length = w.length ∧ d.f1.length = m ∧ (∀ i, i < w.length → g d.f0 i = g s.f1 i + t) ∧ ∀ j, j < m → g d.f1 j = g s.f2 j - t := by
  have hn := h.nr
  have hm := h.mr
  obtain ⟨t, e1, ht, htm⟩ := min_spec s.f2 hvl (k := k) (by omega)
  have htb : 0 ≤ t ∧ t ≤ 14000000000 := by obtain ⟨j0, h1, h2⟩ := ht; have := hvb j0 h1; omega
  have keyU : ∀ (d k n : Nat) (x : List Int), d + n = w.length → d < k → x.length = w.length → (∀ i, i < n → g x i = g s.f1 i + t) → ∃ x', assign_dualss0.l2 w s t k x (n : Int) = some x' ∧ x'.length = w.length ∧ ∀ i, i < w.length → g x' i = g s.f1 i + t := by
    intro d
    induction d with
    | zero =>
      intro k n x hd hk hx h1
      obtain ⟨k, rfl⟩ : ∃ m, k = m + 1 := ⟨k - 1, by omega⟩
      refine ⟨x, ?_, hx, fun i hi => h1 i (by omega)⟩
      simp only [assign_dualss0.l2, tn, List.length_replicate]
      rw [if_neg (by omega)]
    | succ d ih =>
      intro k n x hd hk hx h1
      obtain ⟨k, rfl⟩ : ∃ m, k = m + 1 := ⟨k - 1, by omega⟩
      have h2 := hub n (by omega)
      simp only [assign_dualss0.l2, tn, List.length_replicate]
      rw [if_pos (by omega), if_pos (by omega), if_pos (by omega), if_pos (by omega), if_pos (by omega), Wn (by omega)]
      rw [show W .i64 (s.f1.getD n 0 + t) = g s.f1 n + t from W64 (by show _ ≤ g s.f1 n + t; omega) (by show g s.f1 n + t ≤ _; omega)]
      refine ih k (n + 1) _ (by omega) (by omega) (by rw [List.length_set]; exact hx) (fun i hi => ?_)
      rw [gset (by omega)]
      split
      · rename_i e; rw [e]
      · exact h1 i (by omega)
  have keyV : ∀ (d k n : Nat) (x : List Int), d + n = m → d < k → x.length = m → (∀ i, i < n → g x i = g s.f2 i - t) → ∃ x', assign_dualss0.l1 s t (m : Int) k x (n : Int) = some x' ∧ x'.length = m ∧ ∀ i, i < m → g x' i = g s.f2 i - t := by
    intro d
    induction d with
    | zero =>
      intro k n x hd hk hx h1
      obtain ⟨k, rfl⟩ : ∃ m, k = m + 1 := ⟨k - 1, by omega⟩
      refine ⟨x, ?_, hx, fun i hi => h1 i (by omega)⟩
      simp only [assign_dualss0.l1, tn, List.length_replicate]
      rw [if_neg (by omega)]
    | succ d ih =>
      intro k n x hd hk hx h1
      obtain ⟨k, rfl⟩ : ∃ m, k = m + 1 := ⟨k - 1, by omega⟩
      have h2 := hvb n (by omega)
      simp only [assign_dualss0.l1, tn, List.length_replicate]
      rw [if_pos (by omega), if_pos (by omega), if_pos (by omega), if_pos (by omega), if_pos (by omega), Wn (by omega)]
      rw [show W .i64 (s.f2.getD n 0 - t) = g s.f2 n - t from W64 (by show _ ≤ g s.f2 n - t; omega) (by show g s.f2 n - t ≤ _; omega)]
      refine ih k (n + 1) _ (by omega) (by omega) (by rw [List.length_set]; exact hx) (fun i hi => ?_)
      rw [gset (by omega)]
      split
      · rename_i e; rw [e]
      · exact h1 i (by omega)
  obtain ⟨xu, e2, h1, h2⟩ := keyU w.length k 0 (List.replicate w.length 0) (by omega) (by omega) (by simp) (fun i hi => by omega)
  obtain ⟨xv, e3, h3, h4⟩ := keyV m k 0 (List.replicate m 0) (by omega) (by omega) (by simp) (fun i hi => by omega)
  refine ⟨⟨xu, xv⟩, t, ?_, ht, htm, h1, h3, h2, h4⟩
  unfold assign_dualss0.f
  rw [List.take_of_length_le (by omega), e1, Option.bind_some, if_pos (by omega), if_pos (by omega), columns h, Option.bind_some, if_pos (by omega), if_pos (by omega)]
  rw [show assign_dualss0.l2 w s t k (List.replicate ((w.length : Int)).toNat 0) 0 = some xu from by rw [tn]; exact e2, Option.bind_some]
  simp only [assign_dualss0.k2, tn]
  rw [show assign_dualss0.l1 s t (m : Int) k (List.replicate m 0) 0 = some xv from e3]
  rfl
end
end Go.Proofs.Ytdmhbcgmimfjcaa.hun
namespace Go.Proofs.Ytdmhbcgmimfjcaa.hun
open Go Go.Proofs.Ytdmhbcgmimfjcaa Go.Proofs.Ytdmhbcgmimfjcaa.RW
set_option linter.unusedVariables false
set_option maxRecDepth 100000
set_option maxHeartbeats 4000000
section
variable {w : List (List Int)} {m : Nat}
/-- One more column is used. -/
abbrev plus (used : Nat → Bool) (j : Nat) : Nat → Bool := fun j' => if j' = j then true else used j'
/-- Row i takes column j. -/
theorem Opt.take {i j : Nat} {used : Nat → Bool} {V Vj : Int} (hi : i < w.length) (hj : j < m) (hu : used j = false) (h : Opt w m i used V) (hr : Opt w m (i + 1) (plus used j) Vj) : we w i j + Vj ≤ V := by
  obtain ⟨a, ha, hv⟩ := hr.2
  have hai : a i = -1 := by
    rcases ha.rg i hi with h1 | h1
    · exact h1
    · omega
  have hA : IsA w m i used (fun i' => if i' = i then (j : Int) else a i') := by
    refine ⟨fun i' hi' => ?_, fun i' i'' hi' hi'' h0 he => ?_⟩
    · show (if i' = i then (j : Int) else a i') = -1 ∨ i ≤ i' ∧ 0 ≤ (if i' = i then (j : Int) else a i') ∧ (if i' = i then (j : Int) else a i') < (m : Int) ∧ used (if i' = i then (j : Int) else a i').toNat = false
      by_cases e : i' = i
      · rw [if_pos e, tn]
        exact .inr ⟨by omega, by omega, by omega, hu⟩
      · rw [if_neg e]
        refine (ha.rg i' hi').imp id (fun ⟨h1, h2, h3, h4⟩ => ⟨by omega, h2, h3, ?_⟩)
        have h4' : (if (a i').toNat = j then true else used (a i').toNat) = false := h4
        split at h4'
        · cases h4'
        · exact h4'
    · have h0' : 0 ≤ (if i' = i then (j : Int) else a i') := h0
      have he' : (if i' = i then (j : Int) else a i') = (if i'' = i then (j : Int) else a i'') := he
      have hnj : ∀ q, q < w.length → a q ≠ (j : Int) := fun q hq e => by
        obtain ⟨_, _, _, h4⟩ := (ha.rg q hq).resolve_left (by omega)
        have h4' : (if (a q).toNat = j then true else used (a q).toNat) = false := h4
        rw [if_pos (by omega)] at h4'
        cases h4'
      by_cases e1 : i' = i <;> by_cases e2 : i'' = i
      · omega
      · rw [if_pos e1, if_neg e2] at he'
        exact absurd he'.symm (hnj i'' hi'')
      · rw [if_neg e1, if_pos e2] at he'
        exact absurd he' (hnj i' hi')
      · rw [if_neg e1] at h0'
        rw [if_neg e1, if_neg e2] at he'
        exact ha.inj i' i'' hi' hi'' h0' he'
  have h1 := h.1 _ hA
  have h2 : val w (fun i' => if i' = i then (j : Int) else a i') = val w a + we w i j := by
    have e1 : val w (fun i' => if i' = i then (j : Int) else a i') = sm (fun i' => if i' = i then we w i j else (if a i' = -1 then 0 else we w i' (a i').toNat)) w.length := sm_congr _ (fun i' hi' => by
      show (if (if i' = i then (j : Int) else a i') = -1 then 0 else we w i' (if i' = i then (j : Int) else a i').toNat) = _
      by_cases e : i' = i
      · rw [if_pos e, if_pos e, if_neg (by omega), tn, e]
      · rw [if_neg e, if_neg e])
    rw [e1, sm_upd (fun i' => if a i' = -1 then 0 else we w i' (a i').toNat) i (we w i j) w.length hi]
    have e2 : (if a i = -1 then 0 else we w i (a i).toNat) = 0 := if_pos hai
    show val w a - (if a i = -1 then 0 else we w i (a i).toNat) + we w i j = _
    omega
  omega
/-- Row i takes none, where no column is as good. -/
theorem Opt.skip {i : Nat} {used : Nat → Bool} {V : Int} (hi : i < w.length) (h : Opt w m i used V) (hs : ∀ j, j < m → used j = false → ∃ Vj, Opt w m (i + 1) (plus used j) Vj ∧ we w i j + Vj < V) : Opt w m (i + 1) used V := by
  have up : ∀ a, IsA w m (i + 1) used a → IsA w m i used a := fun a ha => ⟨fun i' hi' => (ha.rg i' hi').imp id (fun ⟨h1, h2⟩ => ⟨by omega, h2⟩), ha.inj⟩
  refine ⟨fun a ha => h.1 a (up a ha), ?_⟩
  obtain ⟨a, ha, hv⟩ := h.2
  refine ⟨a, ⟨fun i' hi' => ?_, ha.inj⟩, hv⟩
  rcases ha.rg i' hi' with h1 | ⟨h1, h2, h3, h4⟩
  · exact .inl h1
  · by_cases e : i' = i
    · exfalso
      subst e
      obtain ⟨Vj, h5, h6⟩ := hs (a i').toNat (by omega) h4
      have hA : IsA w m (i' + 1) (plus used (a i').toNat) (fun q => if q = i' then -1 else a q) := by
        refine ⟨fun q hq => ?_, fun q q' hq hq' h0 he => ?_⟩
        · show (if q = i' then -1 else a q) = -1 ∨ i' + 1 ≤ q ∧ 0 ≤ (if q = i' then -1 else a q) ∧ (if q = i' then -1 else a q) < (m : Int) ∧ (if (if q = i' then -1 else a q).toNat = (a i').toNat then true else used (if q = i' then -1 else a q).toNat) = false
          by_cases e : q = i'
          · rw [if_pos e]; exact .inl rfl
          · rw [if_neg e]
            rcases ha.rg q hq with h7 | ⟨h7, h8, h9, h10⟩
            · exact .inl h7
            · refine .inr ⟨by omega, h8, h9, ?_⟩
              rw [if_neg (fun h11 => e (ha.inj q i' hq hi h8 (by omega)))]
              exact h10
        · have h0' : 0 ≤ (if q = i' then -1 else a q) := h0
          have he' : (if q = i' then -1 else a q) = (if q' = i' then -1 else a q') := he
          by_cases e1 : q = i'
          · rw [if_pos e1] at h0'; omega
          · rw [if_neg e1] at h0' he'
            by_cases e2 : q' = i'
            · rw [if_pos e2] at he'; omega
            · rw [if_neg e2] at he'
              exact ha.inj q q' hq hq' h0' he'
      have h7 := h5.1 _ hA
      have h8 : val w (fun q => if q = i' then -1 else a q) = val w a - we w i' (a i').toNat := by
        have e1 : val w (fun q => if q = i' then -1 else a q) = sm (fun q => if q = i' then 0 else (if a q = -1 then 0 else we w q (a q).toNat)) w.length := sm_congr _ (fun q hq => by
          show (if (if q = i' then -1 else a q) = -1 then 0 else we w q (if q = i' then -1 else a q).toNat) = _
          by_cases e : q = i'
          · rw [if_pos e, if_pos e, if_pos rfl]
          · rw [if_neg e, if_neg e])
        rw [e1, sm_upd (fun q => if a q = -1 then 0 else we w q (a q).toNat) i' 0 w.length hi]
        have e2 : (if a i' = -1 then 0 else we w i' (a i').toNat) = we w i' (a i').toNat := if_neg (by omega)
        show val w a - (if a i' = -1 then 0 else we w i' (a i').toNat) + 0 = _
        omega
      omega
    · exact .inr ⟨by omega, h2, h3, h4⟩
theorem set_same {l : List Bool} {j : Nat} (hj : j < l.length) (h : gb l j = false) : (l.set j true).set j false = l := by
  rw [List.set_set]
  have h1 : l[j] = false := by
    have h2 : l.getD j false = false := h
    rw [List.getD_eq_getElem?_getD, List.getElem?_eq_getElem hj] at h2
    exact h2
  have := List.set_getElem_self hj
  rw [h1] at this
  exact this
theorem gb_plus {l : List Bool} {j : Nat} (hj : j < l.length) : gb (l.set j true) = plus (gb l) j := by
  funext q
  exact gbset hj true q
/-- One row of Solve. -/
theorem pick (h : Vw w m) {used : List Bool} (hu : used.length = m) {i : Nat} (hi : i < w.length) {V : Int} (hV : Opt w m i (gb used) V) {l : List Int} (hl : l.length = w.length) : ∀ (d k n : Nat), d + n = m → d + 650 ≤ k → (∀ j, j < n → gb used j = false → ∃ Vj, Opt w m (i + 1) (plus (gb used) j) Vj ∧ we w i j + Vj < V) →
    (∃ (j : Nat) (Vj : Int), j < m ∧ gb used j = false ∧ Opt w m (i + 1) (plus (gb used) j) Vj ∧ we w i j + Vj = V ∧ (∀ j', j' < j → gb used j' = false → ∃ Vj, Opt w m (i + 1) (plus (gb used) j') Vj ∧ we w i j' + Vj < V) ∧
      assign_Solve.l2 w V l (i : Int) k used (n : Int) = some (used.set j true, Vj, (l.set i (-1)).set i (j : Int))) ∨
    (∀ j, j < m → gb used j = false → ∃ Vj, Opt w m (i + 1) (plus (gb used) j) Vj ∧ we w i j + Vj < V) ∧ assign_Solve.l2 w V l (i : Int) k used (n : Int) = some (used, V, l.set i (-1)) := by
  have hn12 := h.nr
  have hm12 := h.mr
  have hrl := h.rl i hi
  intro d
  induction d with
  | zero =>
    intro k n hd hk hall
    obtain ⟨k, rfl⟩ : ∃ m, k = m + 1 := ⟨k - 1, by omega⟩
    refine .inr ⟨fun j hj => hall j (by omega), ?_⟩
    simp only [assign_Solve.l2, tn]
    rw [if_neg (by show ¬ (n : Int) < ((row w i).length : Int); omega)]
  | succ d ih =>
    intro k n hd hk hall
    obtain ⟨k, rfl⟩ : ∃ m, k = m + 1 := ⟨k - 1, by omega⟩
    have hn : n < m := by omega
    simp only [assign_Solve.l2, tn]
    rw [if_pos (by show (n : Int) < ((row w i).length : Int); omega), if_pos (by omega), if_pos (by show (n : Int) < ((row w i).length : Int); omega), if_pos (by omega), if_pos (by omega), Wn (by omega)]
    cases hd' : gb used n with
    | true =>
      rw [if_pos hd']
      refine ih k (n + 1) (by omega) (by omega) (fun j hj hj2 => ?_)
      by_cases e : j = n
      · rw [e, hd'] at hj2; cases hj2
      · exact hall j (by omega) hj2
    | false =>
      rw [if_neg (by show ¬ gb used n = true; rw [hd']; decide), if_pos (by omega), if_pos (by omega), Wn (by omega)]
      obtain ⟨Vj, e1, h1, h2, h3⟩ := best_spec h (used := used.set n true) (by rw [List.length_set]; exact hu) (first := i + 1) (k := k) (by omega) (by omega)
      rw [gb_plus (by omega)] at h1
      rw [e1, Option.bind_some]
      have h4 := h.eb i n hi hn
      rw [show W .i64 ((w.getD i []).getD n 0 + Vj) = we w i n + Vj from W64 (by show _ ≤ we w i n + Vj; omega) (by show we w i n + Vj ≤ _; omega)]
      by_cases heq : we w i n + Vj = V
      · rw [if_pos heq, if_pos (by omega), if_pos (by rw [List.length_set]; omega)]
        exact .inl ⟨n, Vj, hn, hd', h1, heq, hall, rfl⟩
      · rw [if_neg heq, if_pos (by omega), if_pos (by rw [List.length_set]; omega), set_same (by omega) hd']
        have h5 := hV.take hi hn hd' h1
        refine ih k (n + 1) (by omega) (by omega) (fun j hj hj2 => ?_)
        by_cases e : j = n
        · rw [e]; exact ⟨Vj, h1, by omega⟩
        · exact hall j (by omega) hj2
/-! ### all rows -/
/-- Column j is taken by a row ahead of row i. -/
def taken (a : Nat → Int) (i j : Nat) : Bool := (List.range i).any fun i' => a i' == (j : Int)
theorem taken_iff {a : Nat → Int} {i j : Nat} : taken a i j = true ↔ ∃ i', i' < i ∧ a i' = (j : Int) := by
  unfold taken
  rw [List.any_eq_true]
  constructor
  · rintro ⟨i', h1, h2⟩
    exact ⟨i', List.mem_range.1 h1, by simpa using h2⟩
  · rintro ⟨i', h1, h2⟩
    exact ⟨i', List.mem_range.2 h1, by simpa using h2⟩
theorem taken_succ {a : Nat → Int} {i : Nat} (j : Nat) : taken a (i + 1) j = (taken a i j || a i == (j : Int)) := by
  unfold taken
  rw [List.range_succ, List.any_append]
  simp
theorem taken_congr {a a' : Nat → Int} {i : Nat} (h : ∀ i', i' < i → a i' = a' i') (j : Nat) : taken a i j = taken a' i j := by
  have key : ∀ {a a' : Nat → Int}, (∀ i', i' < i → a i' = a' i') → taken a i j = true → taken a' i j = true := fun h ht => by
    obtain ⟨i', h1, h2⟩ := taken_iff.1 ht
    exact taken_iff.2 ⟨i', h1, by rw [← h i' h1]; exact h2⟩
  cases h1 : taken a i j with
  | true => exact (key h h1).symm
  | false =>
    cases h2 : taken a' i j with
    | false => rfl
    | true => rw [key (fun i' hi => (h i' hi).symm) h2] at h1; cases h1
/-- What the rows ahead of row i bring. -/
def ahead (w : List (List Int)) (a : Nat → Int) (i : Nat) : Int := sm (fun i' => if a i' = -1 then 0 else we w i' (a i').toNat) i
/-- The choices of the rows ahead of row i: valid, and the first that are best. -/
structure Chosen (w : List (List Int)) (m : Nat) (V0 : Int) (a : Nat → Int) (i : Nat) : Prop where
  rg : ∀ i', i' < i → a i' = -1 ∨ (0 ≤ a i' ∧ a i' < (m : Int) ∧ taken a i' (a i').toNat = false)
  lex : ∀ i', i' < i → ∀ j, j < m → taken a i' j = false → (a i' = -1 ∨ (j : Int) < a i') → ∃ Vj, Opt w m (i' + 1) (plus (taken a i') j) Vj ∧ ahead w a i' + we w i' j + Vj < V0
theorem Chosen.congr {V0 : Int} {a a' : Nat → Int} {i : Nat} (e : ∀ i', i' < i → a i' = a' i') (h : Chosen w m V0 a i) : Chosen w m V0 a' i := by
  have ht : ∀ i', i' < i → taken a i' = taken a' i' := fun i' hi' => funext (fun j => taken_congr (fun q hq => e q (by omega)) j)
  have hs : ∀ i', i' < i → ahead w a i' = ahead w a' i' := fun i' hi' => sm_congr _ (fun q hq => by rw [e q (by omega)])
  refine ⟨fun i' hi' => ?_, fun i' hi' j hj h1 h2 => ?_⟩
  · rw [← ht i' hi', ← e i' hi']; exact h.rg i' hi'
  · rw [← ht i' hi'] at h1 ⊢
    rw [← e i' hi'] at h2
    rw [← hs i' hi']
    exact h.lex i' hi' j hj h1 h2
theorem choose (h : Vw w m) {V0 : Int} : ∀ (d k i : Nat) (used : List Bool) (V : Int) (l : List Int), d + i = w.length → d + 700 ≤ k → used.length = m → l.length = w.length → Opt w m i (gb used) V → (∀ j, j < m → gb used j = taken (g l) i j) → ahead w (g l) i + V = V0 → Chosen w m V0 (g l) i →
    ∃ l', assign_Solve.l1 w k used V l (i : Int) = some l' ∧ l'.length = w.length ∧ Chosen w m V0 (g l') w.length ∧ ahead w (g l') w.length = V0 := by
  have hn12 := h.nr
  have hm12 := h.mr
  intro d
  induction d with
  | zero =>
    intro k i used V l hd hk hu hl hV ht hs hc
    obtain ⟨k, rfl⟩ : ∃ m, k = m + 1 := ⟨k - 1, by omega⟩
    obtain rfl : i = w.length := by omega
    refine ⟨l, ?_, hl, hc, ?_⟩
    · simp only [assign_Solve.l1]
      rw [if_neg (by omega)]
    · obtain ⟨a, ha, hv⟩ := hV.2
      have h0 : val w a = 0 := by
        have e1 : val w a = sm (fun _ => 0) w.length := sm_congr _ (fun i' hi' => by
          rcases ha.rg i' hi' with h1 | h1
          · exact if_pos h1
          · omega)
        rw [e1, sm_const]; simp
      omega
  | succ d ih =>
    intro k i used V l hd hk hu hl hV ht hs hc
    obtain ⟨k, rfl⟩ : ∃ m, k = m + 1 := ⟨k - 1, by omega⟩
    have hi : i < w.length := by omega
    have hteq : Opt w m i (taken (g l) i) V := hV.congr ht
    have conv : ∀ {j : Nat} {Vj : Int}, Opt w m (i + 1) (plus (gb used) j) Vj → Opt w m (i + 1) (plus (taken (g l) i) j) Vj := fun {j Vj} ho => ho.congr (fun q hq => by
      show (if q = j then true else gb used q) = if q = j then true else taken (g l) i q
      rw [ht q hq])
    rcases pick h hu hi hV hl m k 0 (by omega) (by omega) (fun j hj => by omega) with ⟨j, Vj, hj, hju, ho, heq, hlt, e⟩ | ⟨hlt, e⟩
    · -- a column is taken
      have hkey : ∀ q, g ((l.set i (-1)).set i (j : Int)) q = if q = i then (j : Int) else g l q := fun q => by
        rw [gset (by rw [List.length_set]; omega)]
        split
        · rfl
        · rename_i e; rw [gset (by omega), if_neg e]
      have hlow : ∀ q, q < i → g l q = g ((l.set i (-1)).set i (j : Int)) q := fun q hq => by rw [hkey, if_neg (by omega)]
      have hti : taken (g ((l.set i (-1)).set i (j : Int))) i = taken (g l) i := funext (fun q => (taken_congr hlow q).symm)
      have hsi : ahead w (g ((l.set i (-1)).set i (j : Int))) i = ahead w (g l) i := (sm_congr _ (fun q hq => by rw [hlow q hq])).symm
      have hgi : g ((l.set i (-1)).set i (j : Int)) i = (j : Int) := by rw [hkey, if_pos rfl]
      obtain ⟨l', e2, h2⟩ := ih k (i + 1) (used.set j true) Vj ((l.set i (-1)).set i (j : Int)) (by omega) (by omega) (by rw [List.length_set]; exact hu) (by rw [List.length_set, List.length_set]; exact hl) (by rw [gb_plus (by omega)]; exact ho) (fun q hq => by
          rw [taken_succ, hti, hgi, ← ht q hq, gbset (by omega)]
          by_cases e : q = j
          · subst e; simp
          · have : ((j : Int) == (q : Int)) = false := beq_eq_false_iff_ne.2 (by omega)
            rw [if_neg e, this, Bool.or_false]) (by
          show sm _ (i + 1) + Vj = V0
          simp only [sm]
          have h3 : sm (fun i' => if g ((l.set i (-1)).set i (j : Int)) i' = -1 then 0 else we w i' (g ((l.set i (-1)).set i (j : Int)) i').toNat) i = ahead w (g l) i := hsi
          rw [h3, hgi, if_neg (by omega), tn]
          omega) (by
          have hc' := hc.congr hlow
          refine ⟨fun i' hi' => ?_, fun i' hi' q hq h3 h4 => ?_⟩
          · by_cases e : i' = i
            · subst e
              rw [hgi, tn, hti, ← ht j hj]
              exact .inr ⟨by omega, by omega, hju⟩
            · exact hc'.rg i' (by omega)
          · by_cases e : i' = i
            · subst e
              rw [hti] at h3 ⊢
              rw [hgi] at h4
              rw [hsi]
              obtain ⟨Vq, h5, h6⟩ := hlt q (by omega) (by rw [ht q hq]; exact h3)
              exact ⟨Vq, conv h5, by omega⟩
            · exact hc'.lex i' (by omega) q hq h3 h4)
      refine ⟨l', ?_, h2⟩
      simp only [assign_Solve.l1]
      rw [if_pos (by omega), if_pos (by omega), if_pos (by omega), if_pos (by omega), if_pos (by omega), show assign_Solve.l2 w V l (i : Int) k used 0 = _ from e]
      simp only [Option.bind_some, assign_Solve.k3]
      rw [Wn (by omega)]
      exact e2
    · -- none is
      have hkey : ∀ q, g (l.set i (-1)) q = if q = i then -1 else g l q := fun q => gset (by omega) _ q
      have hlow : ∀ q, q < i → g l q = g (l.set i (-1)) q := fun q hq => by rw [hkey, if_neg (by omega)]
      have hti : taken (g (l.set i (-1))) i = taken (g l) i := funext (fun q => (taken_congr hlow q).symm)
      have hsi : ahead w (g (l.set i (-1))) i = ahead w (g l) i := (sm_congr _ (fun q hq => by rw [hlow q hq])).symm
      have hgi : g (l.set i (-1)) i = -1 := by rw [hkey, if_pos rfl]
      obtain ⟨l', e2, h2⟩ := ih k (i + 1) used V (l.set i (-1)) (by omega) (by omega) hu (by rw [List.length_set]; exact hl) (hV.skip hi hlt) (fun q hq => by
          rw [taken_succ, hti, hgi, ← ht q hq]
          have : ¬ (-1 : Int) = (q : Int) := by omega
          simp [this]) (by
          show sm _ (i + 1) + V = V0
          simp only [sm]
          have h3 : sm (fun i' => if g (l.set i (-1)) i' = -1 then 0 else we w i' (g (l.set i (-1)) i').toNat) i = ahead w (g l) i := hsi
          rw [h3, hgi, if_pos rfl]
          omega) (by
          have hc' := hc.congr hlow
          refine ⟨fun i' hi' => ?_, fun i' hi' q hq h3 h4 => ?_⟩
          · by_cases e : i' = i
            · subst e; exact .inl hgi
            · exact hc'.rg i' (by omega)
          · by_cases e : i' = i
            · subst e
              rw [hti] at h3 ⊢
              rw [hsi]
              obtain ⟨Vq, h5, h6⟩ := hlt q hq (by rw [ht q hq]; exact h3)
              exact ⟨Vq, conv h5, by omega⟩
            · exact hc'.lex i' (by omega) q hq h3 h4)
      refine ⟨l', ?_, h2⟩
      simp only [assign_Solve.l1]
      rw [if_pos (by omega), if_pos (by omega), if_pos (by omega), if_pos (by omega), if_pos (by omega), show assign_Solve.l2 w V l (i : Int) k used 0 = _ from e]
      simp only [Option.bind_some, assign_Solve.k3]
      rw [Wn (by omega)]
      exact e2
/-- What the law's text knows of Solve. -/
structure Solved (w : List (List Int)) (m : Nat) (l : List Int) (d : S26) (V : Int) : Prop where
  ll : l.length = w.length
  opt : Opt w m 0 (fun _ => false) V
  isa : IsA w m 0 (fun _ => false) (g l)
  val : val w (g l) = V
  ch : Chosen w m V (g l) w.length
  vb : 0 ≤ V ∧ V ≤ 12884901888
  ul : d.f0.length = w.length
  vl : d.f1.length = m
  up : ∀ i, i < w.length → 0 ≤ g d.f0 i ∧ g d.f0 i ≤ V
  vp : ∀ j, j < m → 0 ≤ g d.f1 j ∧ g d.f1 j ≤ V
  feas : ∀ i j, i < w.length → j < m → we w i j ≤ g d.f0 i + g d.f1 j
  sum : sm (g d.f0) w.length + sm (g d.f1) m = V
theorem sm_one {f : Nat → Int} : ∀ (n i : Nat), i < n → (∀ j, j < n → 0 ≤ f j) → f i ≤ sm f n
  | n + 1, i, hi, h => by
    have h0 : 0 ≤ sm f n := sm_mono (f := f) n 0 (by omega) (fun j _ hj => h j (by omega))
    have h1 := h n (by omega)
    simp only [sm]
    by_cases e : i = n
    · subst e; omega
    · have := sm_one n i (by omega) (fun j hj => h j (by omega)); omega
theorem Chosen.isa {V0 : Int} {a : Nat → Int} (h : Chosen w m V0 a w.length) : IsA w m 0 (fun _ => false) a := by
  refine ⟨fun i hi => (h.rg i hi).imp id (fun h1 => ⟨Nat.zero_le _, h1.1, h1.2.1, rfl⟩), fun i i' hi hi' h0 he => ?_⟩
  have key : ∀ i i', i < i' → i' < w.length → 0 ≤ a i → a i = a i' → False := fun i i' hlt hi' h0 he => by
    obtain ⟨_, _, h3⟩ := (h.rg i' hi').resolve_left (by omega)
    have : taken a i' (a i').toNat = true := taken_iff.2 ⟨i, hlt, by omega⟩
    rw [this] at h3
    cases h3
  rcases Nat.lt_or_ge i i' with h1 | h1
  · exact (key i i' h1 hi' h0 he).elim
  · rcases Nat.lt_or_ge i' i with h2 | h2
    · exact (key i' i h2 hi (by omega) he.symm).elim
    · omega
theorem solve (h : Vw w m) {k : Nat} (hk : 800 ≤ k) : ∃ (l : List Int) (d : S26) (V : Int), assign_Solve.f k w = some (l, d) ∧ Solved w m l d V := by
  have hn := h.nr
  have hm := h.mr
  obtain ⟨b, s, e1, e2, mt, pt, h2, e3, h3, h4⟩ := searched h (used := List.replicate m false) (by simp) (first := 0) (k := k) (by omega) (by omega)
  have hbU : ∀ r, r < 12 → -14000000000 ≤ g s.f1 r ∧ g s.f1 r ≤ 14000000000 := fun r hr => by have := pt.ub r hr; omega
  have hbV : ∀ j, j < 12 → 0 ≤ g s.f2 j ∧ g s.f2 j ≤ 14000000000 := fun j hj => by have h5 := pt.vb j hj; have h6 := pt.vpos j hj; omega
  obtain ⟨d, t, e4, ht, htm, hd0, hd1, hdU, hdV⟩ := duals_spec h pt.ul pt.vl hbU hbV (k := k) (by omega)
  obtain ⟨ho, hU, hf, hsum⟩ := found h (by simp) h2 mt pt ht htm
  generalize hV : sm (fun j => wt b (g s.f0 j).toNat j) 12 = V at *
  have hrep : ∀ j, j < m → gb (List.replicate m false) j = false := fun j hj => gbrep hj
  obtain ⟨l, e5, hl, hc, hs⟩ := choose h (V0 := V) w.length k 0 (List.replicate m false) V (List.replicate w.length 0) (by omega) (by omega) (by simp) (by simp) ho (fun j hj => by
      rw [hrep j hj]; rfl) (by show sm _ 0 + V = V; simp [sm]) ⟨fun i' hi' => by omega, fun i' hi' => by omega⟩
  have hD : ∀ j, j < m → 0 ≤ g d.f1 j := fun j hj => by rw [hdV j hj]; have := htm j (by omega); omega
  have hUp : ∀ i, i < w.length → 0 ≤ g d.f0 i := fun i hi => by rw [hdU i hi]; exact hU i (by omega)
  have hsum' : sm (g d.f0) w.length + sm (g d.f1) m = V := by
    rw [sm_congr w.length hdU, sm_congr m hdV]; exact hsum
  have hp0 : 0 ≤ sm (g d.f0) w.length := sm_mono (f := g d.f0) w.length 0 (by omega) (fun j _ hj => hUp j hj)
  have hp1 : 0 ≤ sm (g d.f1) m := sm_mono (f := g d.f1) m 0 (by omega) (fun j _ hj => hD j hj)
  refine ⟨l, d, V, ?_, hl, ho.congr hrep, hc.isa, hs, hc, ⟨h3, h4⟩, hd0, hd1, fun i hi => ⟨hUp i hi, ?_⟩, fun j hj => ⟨hD j hj, ?_⟩, fun i j hi hj => ?_, hsum'⟩
  · unfold assign_Solve.f
    rw [columns h, Option.bind_some, if_pos (by omega), if_pos (by omega)]
    simp only [tn]
    rw [show assign_pad.f k w 0 (List.replicate m false) = some b from e1, Option.bind_some, e2, Option.bind_some, e3, Option.bind_some, if_pos (by omega), if_pos (by omega)]
    rw [show assign_Solve.l1 w k (List.replicate m false) V (List.replicate w.length 0) 0 = some l from e5, Option.bind_some]
    simp only [assign_Solve.k1]
    rw [e4]
    rfl
  · have := sm_one (f := g d.f0) w.length i hi (fun j hj => hUp j hj); omega
  · have := sm_one (f := g d.f1) m j hj (fun j hj => hD j hj); omega
  · rw [hdU i hi, hdV j hj]
    have h5 := hf i j (by omega) (by omega)
    rw [h2 i j (by omega) (by omega), show pw w m 0 (List.replicate m false) i j = we w i j from if_pos ⟨Nat.zero_le _, hi, hj, hrep j hj⟩] at h5
    exact h5
end
end Go.Proofs.Ytdmhbcgmimfjcaa.hun
