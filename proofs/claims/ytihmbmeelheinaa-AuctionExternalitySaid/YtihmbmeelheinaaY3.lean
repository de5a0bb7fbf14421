/- Words of the walk, the functions' walks and plain laws, joined; no conditions beyond those that the theorems name. -/
import Derived.Test.YtihmbmeelheinaaY2
namespace Go.Proofs.Ytihmbmeelheinaa
open Go Go.Proofs.Ytihmbmeelheinaa.RW
set_option linter.unusedVariables false
set_option maxRecDepth 100000
set_option maxHeartbeats 8000000

/-! ### auction_Valid: function 12, armillary/auction.Valid -/
noncomputable def K12_0 : Code := cBody Try.f12
def auction_Valid.k1  (x2 : Bool) : Option (Bool) := (some x2)
def auction_Valid.k2 (k : Nat) (a0 : List S48) : (Unit) ⊕ (Bool) → Option (Bool)
 | .inl () => (((auction_distincts0.f k a0).bind fun t1 => (if (t1.length : Int) ≤ 12 then ((auction_distincts1.f k a0).bind fun t2 => (some (decide ((t2.length : Int) ≤ 12)))) else (some false))).bind (auction_Valid.k1))
 | .inr r_ => some r_
def auction_Valid.k4  (x4 : Bool) : Option ((Unit) ⊕ (Bool)) := (if x4 = true then (some (Sum.inr false)) else (some (Sum.inl ())))
def auction_Valid.k5 (a0 : List S48) (x3 : Int) : (Unit) ⊕ (Bool) → Option ((Unit) ⊕ (Bool))
 | .inl () => ((if ((a0.getD (x3).toNat z48).f2) < 1 then (some true) else (some (decide (((a0.getD (x3).toNat z48).f2) > 1073741824)))).bind (auction_Valid.k4))
 | .inr r_ => some (Sum.inr r_)
def auction_Valid.l2 (a0 : List S48) (x3 : Int) : Nat → Int → Option ((Unit) ⊕ (Bool))
 | 0, _ => none
 | k + 1, x5 => (if x5 < 2 then (if 0 ≤ x5 then (if x5 < (2 : Int) then ((if ([(a0.getD (x3).toNat z48).f0, (a0.getD (x3).toNat z48).f1].getD ((x5).toNat) 0) < 0 then (some true) else (some (decide (([(a0.getD (x3).toNat z48).f0, (a0.getD (x3).toNat z48).f1].getD ((x5).toNat) 0) > 1000)))).bind (fun x6 => (if x6 = true then (some (Sum.inr false)) else (auction_Valid.l2 a0 x3 k (W .i64 (x5 + 1)))))) else none) else none) else (some (Sum.inl ())))
def auction_Valid.l1 (a0 : List S48) : Nat → Int → Option ((Unit) ⊕ (Bool))
 | 0, _ => none
 | k + 1, x3 => (if x3 < (a0.length : Int) then ((if 0 ≤ x3 then (if x3 < (a0.length : Int) then ((auction_Valid.l2 a0 x3 k 0).bind (auction_Valid.k5 a0 x3)) else none) else none).bind (fun s_ => match s_ with | .inl _ => (auction_Valid.l1 a0 k (W .i64 (x3 + 1))) | .inr r_ => some (Sum.inr r_))) else (some (Sum.inl ())))
def auction_Valid.k7 (k : Nat) (a0 : List S48) (x1 : Bool) : Option (Bool) := (if x1 = true then (some false) else ((auction_Valid.l1 a0 k 0).bind (auction_Valid.k2 k a0)))
def auction_Valid.f (k : Nat) (a0 : List S48) : Option (Bool) := ((if (a0.length : Int) > 64 then (some true) else ((auction_values.f k a0).bind fun t3 => (some ((t3.length : Int) != (a0.length : Int))))).bind (auction_Valid.k7 k a0))
def auction_Valid.Post (I : Imm) (w : World) (r : Bool) (v : Value) (w' : World) : Prop :=
 ∃ (J : Imm), v = .bool r ∧ Got w w' I J []
theorem auction_Valid.calls (k : Nat) (I0 : Imm) (a0 : List S48) (Ap0 : Option Addr) (cp0 : Nat) (w : World) (hI : I0.at_ w) (hlp0 : a0.length ≤ cp0) (hrp0 : Rd t48 I0 Ap0 a0) (r : Bool) (h : auction_Valid.f k a0 = some r) :
  Calls Try.prog 12 [.slice Ap0 a0.length cp0].toArray w fun e w' => ∃ v, e = .returned v ∧ auction_Valid.Post I0 w r v w' := by
 have H : ((if (a0.length : Int) > 64 then (some true) else ((auction_values.f k a0).bind fun t3 => (some ((t3.length : Int) != (a0.length : Int))))).bind (auction_Valid.k7 k a0)) = some r := h
 clear h
 refine calls_body Try.func12 (by kernel_rfl) 58 (by kernel_rfl) (by kernel_rfl) ⟨w, fun _ => False, I0⟩ I0 [] [(0, .slice Ap0 a0.length cp0)] (by kernel_rfl) (Sat.start w _ I0 hI) ?_
 generalize w.heap.size = nx0
 show OK _ K12_0 _ _ _ _ _ _ _ _
 refine OK.sr ?_
 refine RL.st 1 [(0, .slice Ap0 a0.length cp0)] ?_
 refine OK.sq ?_
 refine OK.sq ?_
 refine OK.join (fun K' I' _ L' X' => ∃ (x1 : Bool), K' = [(0, .slice Ap0 a0.length cp0), (17, .bool x1)] ∧ L' = [] ∧ X' = [] ∧ Imm.le I0 I' ∧ auction_Valid.k7 k a0 x1 = some r) ?_ ?_
 ·rintro _ I1 nx1 _ _ ⟨x1, rfl, rfl, rfl, hi1, H⟩
  rw [auction_Valid.k7] at H
  refine QN.then_ ?_
  refine OK.cd x1 (fun hb => ?_) (fun hb => ?_)
  ·skip
   have hc := hb
   rw [if_pos hc] at H
   clear hb
   refine OK.sr ?_
   refine RL.st 1 [(2, .bool false)] ?_
   refine OK.re ?_
   refine QN.thenR ?_
   obtain rfl := Option.some.inj H
   refine QN.body rfl [] (RFacts.nil _ _ _) (.no) (.bool false) (by kernel_rfl) (by kernel_rfl) (by kernel_rfl) ?_ _ (.inr rfl)
   exact fun w' hs' => ⟨_, rfl, I1, rfl, hs'.got _ .slnil⟩
  ·skip
   have hc := (Bool.eq_false_iff.1 hb)
   rw [if_neg hc] at H
   clear hb
   refine OK.skt ?_
   refine OK.sq ?_
   refine OK.sr ?_
   refine RL.st 3 [(20, i6 0), (19, i6 (a0.length : Int)), (18, .slice Ap0 a0.length cp0), (0, .slice Ap0 a0.length cp0)] ?_
   refine OK.join (fun K' I' _ L' X' => K' = [(0, .slice Ap0 a0.length cp0)] ∧ L' = [] ∧ X' = [] ∧ Imm.le I1 I' ∧ auction_Valid.k2 k a0 (Sum.inl ()) = some r) ?_ ?_
   ·rintro _ I2 nx2 _ _ ⟨rfl, rfl, rfl, hi2, H⟩
    rw [auction_Valid.k2] at H
    refine QN.then_ ?_
    refine OK.sq ?_
    refine OK.join (fun K' I' _ L' X' => ∃ (x2 : Bool), K' = [(2, .bool x2)] ∧ L' = [] ∧ X' = [] ∧ Imm.le I2 I' ∧ auction_Valid.k1 x2 = some r) ?_ ?_
    ·rintro _ I3 nx3 _ _ ⟨x2, rfl, rfl, rfl, hi3, H⟩
     rw [auction_Valid.k1] at H
     refine QN.then_ ?_
     refine OK.re ?_
     obtain rfl := Option.some.inj H
     refine QN.body rfl [] (RFacts.nil _ _ _) (.no) (.bool x2) (by kernel_rfl) (by kernel_rfl) (by kernel_rfl) ?_ _ (.inr rfl)
     exact fun w' hs' => ⟨_, rfl, I3, rfl, hs'.got _ .slnil⟩
    ·intro Q_1 hJ3 hQ3
     obtain ⟨y3, H, HK3⟩ := bnd H
     refine OK.rg ?_
     refine RL.s 1 [(48, .slice Ap0 a0.length cp0), (0, .slice Ap0 a0.length cp0)] ?_
     obtain ⟨t1, hA1, H⟩ := bnd H
     refine RL.callM (L1 := []) (L2 := []) (X1 := []) (X2 := []) rfl rfl 29 [.slice Ap0 a0.length cp0, .func (.func 30) #[] #[]] (some 49) (fun w => auction_distincts0.Post (SM [] []) a0 Ap0 cp0 I2 w t1) (by kernel_rfl) (by kernel_rfl) (fun w hs => auction_distincts0.calls k I2 a0 Ap0 cp0 w hs hlp0 (Rd.ext (Imm.le_trans hi1 hi2) hrp0) t1 hA1) ?_
     rintro w v w' hs ⟨I4, A1, c1, cs1, rfl, hg, hp1⟩
     have hi4 : Imm.le I2 I4 := hg.le
     refine RL.resume (L' := []) (X' := [orow 3 1 A1 t1.length c1 cs1]) rfl (hs.outof hg) ?_
     clear hs hg
     generalize w'.heap.size = nx4
     clear w w'
     refine RL.s 3 [(52, .bool (decide ((t1.length : Int) ≤ 12))), (0, .slice Ap0 a0.length cp0)] ?_
     refine RL.cases (decide ((t1.length : Int) ≤ 12)) (fun hb => ?_) (fun hb => ?_)
     ·have hc := (of_decide_eq_true hb)
      rw [hb]
      rw [if_pos hc] at H; clear hb
      refine RL.s 1 [(53, .slice Ap0 a0.length cp0), (52, .bool true)] ?_
      obtain ⟨t2, hA2, H⟩ := bnd H
      refine RL.callM (L1 := []) (L2 := []) (X1 := []) (X2 := [orow 3 1 A1 t1.length c1 cs1]) rfl rfl 29 [.slice Ap0 a0.length cp0, .func (.func 31) #[] #[]] (some 54) (fun w => auction_distincts1.Post (SM [] []) a0 Ap0 cp0 I4 w t2) (by kernel_rfl) (by kernel_rfl) (fun w hs => auction_distincts1.calls k I4 a0 Ap0 cp0 w hs hlp0 (Rd.ext (Imm.le_trans (Imm.le_trans hi1 hi2) hi4) hrp0) t2 hA2) ?_
      rintro w v w' hs ⟨I5, A2, c2, cs2, rfl, hg, hp2⟩
      have hi5 : Imm.le I4 I5 := hg.le
      refine RL.resume (L' := []) (X' := [orow 3 1 A2 t2.length c2 cs2, orow 3 1 A1 t1.length c1 cs1]) rfl (hs.outof hg) ?_
      clear hs hg
      generalize w'.heap.size = nx5
      clear w w'
      refine RL.s 4 [(2, .bool (decide ((t2.length : Int) ≤ 12)))] ?_
      refine RL.nil (by kernel_rfl) ?_
      obtain rfl := Option.some.inj H
      refine QN.sel (K' := [(2, .bool (decide ((t2.length : Int) ≤ 12)))]) (L' := []) [] (by kernel_rfl) (by kernel_rfl) .slnil ?_
      refine QN.norm (X' := []) rfl rfl rfl (by kernel_rfl) ?_
      exact hJ3 _ _ _ _ _ ⟨(decide ((t2.length : Int) ≤ 12)), rfl, rfl, rfl, (Imm.le_trans hi4 hi5), HK3⟩
     ·have hc := (of_decide_eq_false hb)
      rw [hb]
      rw [if_neg hc] at H; clear hb
      refine RL.s 6 [(2, .bool false)] ?_
      refine RL.nil (by kernel_rfl) ?_
      obtain rfl := Option.some.inj H
      refine QN.sel (K' := [(2, .bool false)]) (L' := []) [] (by kernel_rfl) (by kernel_rfl) .slnil ?_
      refine QN.norm (X' := []) rfl rfl rfl (by kernel_rfl) ?_
      exact hJ3 _ _ _ _ _ ⟨false, rfl, rfl, rfl, hi4, HK3⟩
   ·intro Q_2 hJ2 hQ2
    obtain ⟨y2, H, HK2⟩ := bnd H
    refine OK.bk 0 ?_
    refine OK.sub (K' := [(0, .slice Ap0 a0.length cp0), (18, .slice Ap0 a0.length cp0), (19, i6 (a0.length : Int)), (20, i6 0)]) (L' := []) (by kernel_rfl) .slnil (.refl _) ?_
    refine OK.lp (fun n_ K' I' _ L' X' => ∃ (x3 : Int), K' = [(0, .slice Ap0 a0.length cp0), (18, .slice Ap0 a0.length cp0), (19, i6 (a0.length : Int)), (20, i6 x3)] ∧ L' = [] ∧ X' = [] ∧ Imm.le I1 I' ∧ auction_Valid.l1 a0 n_ x3 = some y2) k ⟨0, rfl, rfl, rfl, (Imm.le_refl _), H⟩ ?_ ?_
    ·rintro _ _ _ _ _ ⟨x3, rfl, rfl, rfl, _, H⟩
     cases H
    ·rintro kq1 _ I6 nx6 _ _ ⟨x3, rfl, rfl, rfl, hi6, H⟩ Q_l1 hJ4 hQ4
     rw [auction_Valid.l1] at H
     refine OK.sr ?_
     refine RL.st 1 [(21, .bool (decide (x3 < (a0.length : Int)))), (0, .slice Ap0 a0.length cp0), (18, .slice Ap0 a0.length cp0), (19, i6 (a0.length : Int)), (20, i6 x3)] ?_
     refine OK.sq ?_
     refine OK.cd (decide (x3 < (a0.length : Int))) (fun hb => ?_) (fun hb => ?_)
     ·skip
      have hc := (of_decide_eq_true hb)
      rw [if_pos hc] at H
      clear hb
      refine OK.skt ?_
      refine OK.sq ?_
      refine OK.join (fun K' I' _ L' X' => K' = [(0, .slice Ap0 a0.length cp0), (18, .slice Ap0 a0.length cp0), (19, i6 (a0.length : Int)), (20, i6 x3)] ∧ L' = [] ∧ X' = [] ∧ Imm.le I6 I' ∧ (auction_Valid.l1 a0 kq1 (W .i64 (x3 + 1))) = some y2) ?_ ?_
      ·rintro _ I7 nx7 _ _ ⟨rfl, rfl, rfl, hi7, H⟩
       replace H : (auction_Valid.l1 a0 kq1 (W .i64 (x3 + 1))) = some y2 := H
       refine QN.then_ ?_
       refine OK.rg ?_
       refine RL.s 2 [(20, i6 (W .i64 (x3 + 1))), (0, .slice Ap0 a0.length cp0), (18, .slice Ap0 a0.length cp0), (19, i6 (a0.length : Int))] ?_
       refine RL.nil (by kernel_rfl) ?_
       exact QN.sb (hJ4 _ _ _ _ _ ⟨W .i64 (x3 + 1), rfl, rfl, rfl, (Imm.le_trans hi6 hi7), H⟩) .slnil (.refl _)
      ·intro Q_3 hJ5 hQ5
       obtain ⟨y4, H, HK4⟩ := bnd H
       refine OK.bk 1 ?_
       refine OK.sr ?_
       obtain ⟨hib0, H⟩ := ifs H
       obtain ⟨hib1, H⟩ := ifs H
       obtain ⟨g1_, o1_, hA1_, hc1_⟩ := t48_at (Rd.ext (Imm.le_trans hi1 hi6) hrp0) x3 hib0 hib1
       refine RL.idx 3 .i64 x3 hA1_ a0.length cp0 (some 22) (by kernel_rfl) (by kernel_rfl) (T := 22) (e := 48) (by kernel_rfl) (by kernel_rfl) hib0 hib1 (K' := [(22, pt g1_ (o1_ + (x3).toNat * 3)), (21, .bool (decide (x3 < (a0.length : Int)))), (0, .slice Ap0 a0.length cp0), (18, .slice Ap0 a0.length cp0), (19, i6 (a0.length : Int)), (20, i6 x3)]) (by kernel_rfl) ?_
       refine RL.simP (K' := [(4, pt nx6 0), (0, .slice Ap0 a0.length cp0), (18, .slice Ap0 a0.length cp0), (19, i6 (a0.length : Int)), (20, i6 x3)]) (nx' := nx6 + 1) (L' := [⟨nx6, [i6 ((a0.getD (x3).toNat z48).f0), i6 ((a0.getD (x3).toNat z48).f1), i6 ((a0.getD (x3).toNat z48).f2)], 48⟩]) [(⟨g1_, o1_ + (x3).toNat * 3, none⟩, i6 ((a0.getD (x3).toNat z48).f0)), (⟨g1_, o1_ + (x3).toNat * 3 + 1, none⟩, i6 ((a0.getD (x3).toNat z48).f1)), (⟨g1_, o1_ + (x3).toNat * 3 + 2, none⟩, i6 ((a0.getD (x3).toNat z48).f2))] (RFacts.imm (hc1_ 0 _ rfl) (RFacts.imm (hc1_ 1 _ rfl) (RFacts.imm (hc1_ 2 _ rfl) (RFacts.nil _ _ _)))) 3 [.r 0, .no, .l 0] (by kernel_rfl) (by kernel_rfl) ?_
       refine RL.nt ?_
       refine OK.sq ?_
       refine OK.sr ?_
       refine RL.simK (K' := [(29, i6 0), (28, .agg #[i6 ((a0.getD (x3).toNat z48).f0), i6 ((a0.getD (x3).toNat z48).f1)]), (4, pt nx6 0), (0, .slice Ap0 a0.length cp0), (18, .slice Ap0 a0.length cp0), (19, i6 (a0.length : Int)), (20, i6 x3)]) [] (RFacts.nil _ _ _) 6 [.no, .l 0, .no, .l 0, .no, .no] (by kernel_rfl) (by kernel_rfl) ?_
       refine RL.nt ?_
       refine OK.join (fun K' I' _ L' X' => K' = [(0, .slice Ap0 a0.length cp0), (4, pt nx6 0), (18, .slice Ap0 a0.length cp0), (19, i6 (a0.length : Int)), (20, i6 x3)] ∧ L' = [⟨nx6, [i6 ((a0.getD (x3).toNat z48).f0), i6 ((a0.getD (x3).toNat z48).f1), i6 ((a0.getD (x3).toNat z48).f2)], 48⟩] ∧ X' = [] ∧ Imm.le I6 I' ∧ auction_Valid.k5 a0 x3 (Sum.inl ()) = some y4) ?_ ?_
       ·rintro _ I8 nx8 _ _ ⟨rfl, rfl, rfl, hi8, H⟩
        rw [auction_Valid.k5] at H
        refine QN.then_ ?_
        refine OK.sq ?_
        refine OK.join (fun K' I' _ L' X' => ∃ (x4 : Bool), K' = [(0, .slice Ap0 a0.length cp0), (18, .slice Ap0 a0.length cp0), (19, i6 (a0.length : Int)), (20, i6 x3), (46, .bool x4)] ∧ L' = [⟨nx6, [i6 ((a0.getD (x3).toNat z48).f0), i6 ((a0.getD (x3).toNat z48).f1), i6 ((a0.getD (x3).toNat z48).f2)], 48⟩] ∧ X' = [] ∧ Imm.le I8 I' ∧ auction_Valid.k4 x4 = some y4) ?_ ?_
        ·rintro _ I9 nx9 _ _ ⟨x4, rfl, rfl, rfl, hi9, H⟩
         rw [auction_Valid.k4] at H
         refine QN.then_ ?_
         refine OK.cd x4 (fun hb => ?_) (fun hb => ?_)
         ·skip
          have hc := hb
          rw [if_pos hc] at H
          clear hb
          refine OK.sr ?_
          refine RL.st 1 [(2, .bool false)] ?_
          refine OK.re ?_
          refine QN.blkR ?_
          refine QN.outR hQ5 ?_
          refine QN.thenR ?_
          refine QN.outR hQ4 ?_
          refine QN.blkR ?_
          refine QN.outR hQ2 ?_
          refine QN.thenR ?_
          obtain rfl := Option.some.inj H
          replace H : some (Sum.inr false) = some y2 := HK4
          obtain rfl := Option.some.inj H
          replace H : some false = some r := HK2
          obtain rfl := Option.some.inj H
          refine QN.body rfl [] (RFacts.nil _ _ _) (.no) (.bool false) (by kernel_rfl) (by kernel_rfl) (by kernel_rfl) ?_ _ (.inr rfl)
          exact fun w' hs' => ⟨_, rfl, I9, rfl, hs'.got _ .slnil⟩
         ·skip
          have hc := (Bool.eq_false_iff.1 hb)
          rw [if_neg hc] at H
          clear hb
          refine OK.sk ?_
          refine QN.blkN ?_
          obtain rfl := Option.some.inj H
          exact QN.sb (hJ5 _ _ _ _ _ ⟨rfl, rfl, rfl, (Imm.le_trans hi8 hi9), HK4⟩) (.cons _ .slnil) (.refl _)
        ·intro Q_4 hJ7 hQ7
         obtain ⟨y6, H, HK6⟩ := bnd H
         refine OK.rg ?_
         refine RL.simK (K' := [(42, .bool (decide (((a0.getD (x3).toNat z48).f2) < 1))), (0, .slice Ap0 a0.length cp0), (4, pt nx6 0), (18, .slice Ap0 a0.length cp0), (19, i6 (a0.length : Int)), (20, i6 x3)]) [] (RFacts.nil _ _ _) 4 [.no, .l 0, .no, .no] (by kernel_rfl) (by kernel_rfl) ?_
         refine RL.cases (decide (((a0.getD (x3).toNat z48).f2) < 1)) (fun hb => ?_) (fun hb => ?_)
         ·have hc := (of_decide_eq_true hb)
          rw [hb]
          rw [if_pos hc] at H; clear hb
          refine RL.s 4 [(46, .bool true), (0, .slice Ap0 a0.length cp0), (18, .slice Ap0 a0.length cp0), (19, i6 (a0.length : Int)), (20, i6 x3)] ?_
          refine RL.nil (by kernel_rfl) ?_
          obtain rfl := Option.some.inj H
          exact QN.sb (hJ7 _ _ _ _ _ ⟨true, rfl, rfl, rfl, (Imm.le_refl _), HK6⟩) (.cons_cons _ .slnil) (.refl _)
         ·have hc := (of_decide_eq_false hb)
          rw [hb]
          rw [if_neg hc] at H; clear hb
          refine RL.simK (K' := [(46, .bool (decide (((a0.getD (x3).toNat z48).f2) > 1073741824))), (0, .slice Ap0 a0.length cp0), (18, .slice Ap0 a0.length cp0), (19, i6 (a0.length : Int)), (20, i6 x3)]) [] (RFacts.nil _ _ _) 4 [.no, .l 0, .no, .no] (by kernel_rfl) (by kernel_rfl) ?_
          refine RL.nil (by kernel_rfl) ?_
          obtain rfl := Option.some.inj H
          exact QN.sb (hJ7 _ _ _ _ _ ⟨(decide (((a0.getD (x3).toNat z48).f2) > 1073741824)), rfl, rfl, rfl, (Imm.le_refl _), HK6⟩) (.cons_cons _ .slnil) (.refl _)
       ·intro Q_5 hJ6 hQ6
        obtain ⟨y5, H, HK5⟩ := bnd H
        refine OK.bk 2 ?_
        refine OK.sub (K' := [(0, .slice Ap0 a0.length cp0), (4, pt nx6 0), (18, .slice Ap0 a0.length cp0), (19, i6 (a0.length : Int)), (20, i6 x3), (28, .agg #[i6 ((a0.getD (x3).toNat z48).f0), i6 ((a0.getD (x3).toNat z48).f1)]), (29, i6 0)]) (L' := [⟨nx6, [i6 ((a0.getD (x3).toNat z48).f0), i6 ((a0.getD (x3).toNat z48).f1), i6 ((a0.getD (x3).toNat z48).f2)], 48⟩]) (by kernel_rfl) (.cons_cons _ .slnil) (.refl _) ?_
        refine OK.lp (fun n_ K' I' _ L' X' => ∃ (x5 : Int), K' = [(0, .slice Ap0 a0.length cp0), (4, pt nx6 0), (18, .slice Ap0 a0.length cp0), (19, i6 (a0.length : Int)), (20, i6 x3), (28, .agg #[i6 ((a0.getD (x3).toNat z48).f0), i6 ((a0.getD (x3).toNat z48).f1)]), (29, i6 x5)] ∧ L' = [⟨nx6, [i6 ((a0.getD (x3).toNat z48).f0), i6 ((a0.getD (x3).toNat z48).f1), i6 ((a0.getD (x3).toNat z48).f2)], 48⟩] ∧ X' = [] ∧ Imm.le I6 I' ∧ auction_Valid.l2 a0 x3 n_ x5 = some y5) kq1 ⟨0, rfl, rfl, rfl, (Imm.le_refl _), H⟩ ?_ ?_
        ·rintro _ _ _ _ _ ⟨x5, rfl, rfl, rfl, _, H⟩
         cases H
        ·rintro kq2 _ I10 nx10 _ _ ⟨x5, rfl, rfl, rfl, hi10, H⟩ Q_l2 hJ8 hQ8
         rw [auction_Valid.l2] at H
         refine OK.sr ?_
         refine RL.st 1 [(30, .bool (decide (x5 < 2))), (0, .slice Ap0 a0.length cp0), (4, pt nx6 0), (18, .slice Ap0 a0.length cp0), (19, i6 (a0.length : Int)), (20, i6 x3), (28, .agg #[i6 ((a0.getD (x3).toNat z48).f0), i6 ((a0.getD (x3).toNat z48).f1)]), (29, i6 x5)] ?_
         refine OK.sq ?_
         refine OK.cd (decide (x5 < 2)) (fun hb => ?_) (fun hb => ?_)
         ·skip
          have hc := (of_decide_eq_true hb)
          rw [if_pos hc] at H
          clear hb
          refine OK.skt ?_
          refine OK.sq ?_
          refine OK.bk 3 ?_
          refine OK.sr ?_
          obtain ⟨hib0, H⟩ := ifs H
          obtain ⟨hib1, H⟩ := ifs H
          refine RL.idxAgg (T := 56) (e := 3) (cs := (arrV (Value.int .i64) 0 2 [(a0.getD (x3).toNat z48).f0, (a0.getD (x3).toNat z48).f1]).toArray) (Value.int .i64) 0 2 2 [(a0.getD (x3).toNat z48).f0, (a0.getD (x3).toNat z48).f1] .i64 x5 (some 31) (by kernel_rfl) (by kernel_rfl) (by kernel_rfl) (by kernel_rfl) rfl (by kernel_rfl) (by kernel_rfl) hib0 hib1 (K' := [(31, i6 ([(a0.getD (x3).toNat z48).f0, (a0.getD (x3).toNat z48).f1].getD ((x5).toNat) 0)), (30, .bool (decide (x5 < 2))), (0, .slice Ap0 a0.length cp0), (4, pt nx6 0), (18, .slice Ap0 a0.length cp0), (19, i6 (a0.length : Int)), (20, i6 x3), (28, .agg #[i6 ((a0.getD (x3).toNat z48).f0), i6 ((a0.getD (x3).toNat z48).f1)]), (29, i6 x5)]) (by kernel_rfl) ?_
          refine RL.st 1 [(6, i6 ([(a0.getD (x3).toNat z48).f0, (a0.getD (x3).toNat z48).f1].getD ((x5).toNat) 0)), (0, .slice Ap0 a0.length cp0), (4, pt nx6 0), (18, .slice Ap0 a0.length cp0), (19, i6 (a0.length : Int)), (20, i6 x3), (28, .agg #[i6 ((a0.getD (x3).toNat z48).f0), i6 ((a0.getD (x3).toNat z48).f1)]), (29, i6 x5)] ?_
          refine OK.sq ?_
          refine OK.join (fun K' I' _ L' X' => ∃ (x6 : Bool), K' = [(0, .slice Ap0 a0.length cp0), (4, pt nx6 0), (18, .slice Ap0 a0.length cp0), (19, i6 (a0.length : Int)), (20, i6 x3), (28, .agg #[i6 ((a0.getD (x3).toNat z48).f0), i6 ((a0.getD (x3).toNat z48).f1)]), (29, i6 x5), (37, .bool x6)] ∧ L' = [⟨nx6, [i6 ((a0.getD (x3).toNat z48).f0), i6 ((a0.getD (x3).toNat z48).f1), i6 ((a0.getD (x3).toNat z48).f2)], 48⟩] ∧ X' = [] ∧ Imm.le I10 I' ∧ (if x6 = true then (some (Sum.inr false)) else (auction_Valid.l2 a0 x3 kq2 (W .i64 (x5 + 1)))) = some y5) ?_ ?_
          ·rintro _ I11 nx11 _ _ ⟨x6, rfl, rfl, rfl, hi11, H⟩
           replace H : (if x6 = true then (some (Sum.inr false)) else (auction_Valid.l2 a0 x3 kq2 (W .i64 (x5 + 1)))) = some y5 := H
           refine QN.then_ ?_
           refine OK.cd x6 (fun hb => ?_) (fun hb => ?_)
           ·skip
            have hc := hb
            rw [if_pos hc] at H
            clear hb
            refine OK.sr ?_
            refine RL.st 1 [(2, .bool false)] ?_
            refine OK.re ?_
            refine QN.blkR ?_
            refine QN.thenR ?_
            refine QN.outR hQ8 ?_
            refine QN.blkR ?_
            refine QN.outR hQ6 ?_
            refine QN.thenR ?_
            refine QN.blkR ?_
            refine QN.outR hQ5 ?_
            refine QN.thenR ?_
            refine QN.outR hQ4 ?_
            refine QN.blkR ?_
            refine QN.outR hQ2 ?_
            refine QN.thenR ?_
            obtain rfl := Option.some.inj H
            replace H : some (Sum.inr false) = some y4 := HK5
            obtain rfl := Option.some.inj H
            replace H : some (Sum.inr false) = some y2 := HK4
            obtain rfl := Option.some.inj H
            replace H : some false = some r := HK2
            obtain rfl := Option.some.inj H
            refine QN.body rfl [] (RFacts.nil _ _ _) (.no) (.bool false) (by kernel_rfl) (by kernel_rfl) (by kernel_rfl) ?_ _ (.inr rfl)
            exact fun w' hs' => ⟨_, rfl, I11, rfl, hs'.got _ .slnil⟩
           ·skip
            have hc := (Bool.eq_false_iff.1 hb)
            rw [if_neg hc] at H
            clear hb
            refine OK.sk ?_
            refine QN.blkN ?_
            refine QN.then_ ?_
            refine OK.rg ?_
            refine RL.s 2 [(29, i6 (W .i64 (x5 + 1))), (0, .slice Ap0 a0.length cp0), (4, pt nx6 0), (18, .slice Ap0 a0.length cp0), (19, i6 (a0.length : Int)), (20, i6 x3), (28, .agg #[i6 ((a0.getD (x3).toNat z48).f0), i6 ((a0.getD (x3).toNat z48).f1)])] ?_
            refine RL.nil (by kernel_rfl) ?_
            exact QN.sb (hJ8 _ _ _ _ _ ⟨W .i64 (x5 + 1), rfl, rfl, rfl, (Imm.le_trans hi10 hi11), H⟩) (.cons_cons _ .slnil) (.refl _)
          ·intro Q_6 hJ9 hQ9
           obtain ⟨y7, H, HK7⟩ := bnd H
           refine OK.rg ?_
           refine RL.s 3 [(34, .bool (decide (([(a0.getD (x3).toNat z48).f0, (a0.getD (x3).toNat z48).f1].getD ((x5).toNat) 0) < 0))), (6, i6 ([(a0.getD (x3).toNat z48).f0, (a0.getD (x3).toNat z48).f1].getD ((x5).toNat) 0)), (0, .slice Ap0 a0.length cp0), (4, pt nx6 0), (18, .slice Ap0 a0.length cp0), (19, i6 (a0.length : Int)), (20, i6 x3), (28, .agg #[i6 ((a0.getD (x3).toNat z48).f0), i6 ((a0.getD (x3).toNat z48).f1)]), (29, i6 x5)] ?_
           refine RL.cases (decide (([(a0.getD (x3).toNat z48).f0, (a0.getD (x3).toNat z48).f1].getD ((x5).toNat) 0) < 0)) (fun hb => ?_) (fun hb => ?_)
           ·have hc := (of_decide_eq_true hb)
            rw [hb]
            rw [if_pos hc] at H; clear hb
            refine RL.s 3 [(37, .bool true), (0, .slice Ap0 a0.length cp0), (4, pt nx6 0), (18, .slice Ap0 a0.length cp0), (19, i6 (a0.length : Int)), (20, i6 x3), (28, .agg #[i6 ((a0.getD (x3).toNat z48).f0), i6 ((a0.getD (x3).toNat z48).f1)]), (29, i6 x5)] ?_
            refine RL.nil (by kernel_rfl) ?_
            obtain rfl := Option.some.inj H
            exact QN.sb (hJ9 _ _ _ _ _ ⟨true, rfl, rfl, rfl, (Imm.le_refl _), HK7⟩) (.cons_cons _ .slnil) (.refl _)
           ·have hc := (of_decide_eq_false hb)
            rw [hb]
            rw [if_neg hc] at H; clear hb
            refine RL.s 3 [(37, .bool (decide (([(a0.getD (x3).toNat z48).f0, (a0.getD (x3).toNat z48).f1].getD ((x5).toNat) 0) > 1000))), (0, .slice Ap0 a0.length cp0), (4, pt nx6 0), (18, .slice Ap0 a0.length cp0), (19, i6 (a0.length : Int)), (20, i6 x3), (28, .agg #[i6 ((a0.getD (x3).toNat z48).f0), i6 ((a0.getD (x3).toNat z48).f1)]), (29, i6 x5)] ?_
            refine RL.nil (by kernel_rfl) ?_
            obtain rfl := Option.some.inj H
            exact QN.sb (hJ9 _ _ _ _ _ ⟨(decide (([(a0.getD (x3).toNat z48).f0, (a0.getD (x3).toNat z48).f1].getD ((x5).toNat) 0) > 1000)), rfl, rfl, rfl, (Imm.le_refl _), HK7⟩) (.cons_cons _ .slnil) (.refl _)
         ·skip
          have hc := (of_decide_eq_false hb)
          rw [if_neg hc] at H
          clear hb
          refine OK.ex 2 ?_
          refine QN.thenE ?_
          refine QN.outE hQ8 ?_
          refine QN.blkE ?_
          obtain rfl := Option.some.inj H
          exact QN.sb (hJ6 _ _ _ _ _ ⟨rfl, rfl, rfl, hi10, HK5⟩) (.cons_cons _ .slnil) (.refl _)
     ·skip
      have hc := (of_decide_eq_false hb)
      rw [if_neg hc] at H
      clear hb
      refine OK.ex 0 ?_
      refine QN.thenE ?_
      refine QN.outE hQ4 ?_
      refine QN.blkE ?_
      obtain rfl := Option.some.inj H
      exact QN.sb (hJ2 _ _ _ _ _ ⟨rfl, rfl, rfl, hi6, HK2⟩) .slnil (.refl _)
 ·intro Q_7 hJ1 hQ1
  obtain ⟨y1, H, HK1⟩ := bnd H
  refine OK.rg ?_
  refine RL.s 4 [(10, .bool (decide ((a0.length : Int) > 64))), (0, .slice Ap0 a0.length cp0)] ?_
  refine RL.cases (decide ((a0.length : Int) > 64)) (fun hb => ?_) (fun hb => ?_)
  ·have hc := (of_decide_eq_true hb)
   rw [hb]
   rw [if_pos hc] at H; clear hb
   refine RL.s 7 [(17, .bool true), (0, .slice Ap0 a0.length cp0)] ?_
   refine RL.nil (by kernel_rfl) ?_
   obtain rfl := Option.some.inj H
   exact QN.sb (hJ1 _ _ _ _ _ ⟨true, rfl, rfl, rfl, (Imm.le_refl _), HK1⟩) .slnil (.refl _)
  ·have hc := (of_decide_eq_false hb)
   rw [hb]
   rw [if_neg hc] at H; clear hb
   refine RL.s 1 [(11, .slice Ap0 a0.length cp0), (10, .bool false), (0, .slice Ap0 a0.length cp0)] ?_
   obtain ⟨t3, hA3, H⟩ := bnd H
   refine RL.callP 28 [.slice Ap0 a0.length cp0] (some 12) (fun w => auction_values.Post I0 w t3) (by kernel_rfl) (by kernel_rfl) (fun w hs => auction_values.calls k I0 a0 Ap0 cp0 w hs.im hlp0 hrp0 t3 hA3) ?_
   rintro w v w' hs ⟨I12, g1, rfl, hg, hm1⟩
   have hi12 := hg.le
   refine RL.resume (X' := []) rfl (hs.call hg) ?_
   clear hs hg
   generalize w'.heap.size = nx12
   clear w w'
   refine RL.lenF (ty := 3) (mt54).und (some 13) (by kernel_rfl) hm1 (by kernel_rfl) (K' := [(13, i6 (t3.length : Int)), (12, .map (some g1)), (11, .slice Ap0 a0.length cp0), (10, .bool false), (0, .slice Ap0 a0.length cp0)]) (by kernel_rfl) ?_
   refine RL.s 4 [(17, .bool ((t3.length : Int) != (a0.length : Int))), (0, .slice Ap0 a0.length cp0)] ?_
   refine RL.nil (by kernel_rfl) ?_
   obtain rfl := Option.some.inj H
   exact QN.sb (hJ1 _ _ _ _ _ ⟨((t3.length : Int) != (a0.length : Int)), rfl, rfl, rfl, hi12, HK1⟩) .slnil (.refl _)

end Go.Proofs.Ytihmbmeelheinaa
namespace Go.Proofs.Ytihmbmeelheinaa
open Go Go.Proofs.Ytihmbmeelheinaa.RW
set_option linter.unusedVariables false
set_option maxRecDepth 100000
set_option maxHeartbeats 8000000

/-! ### auction_Tabulate: function 17, armillary/auction.Tabulate -/
noncomputable def K17_0 : Code := cBody Try.f17
noncomputable def O17_47 : List Oper := cOps (cR (cL (cL (cR (cR (cL (cL (cR (cR (cR (cL (cL (cR (cR (cL (cL (cR (cL (cR (cR (cR K17_0)))))))))))))))))))))
def auction_Tabulate.k1 (t1 : List Int) (t2 : List Int) (x1 : List (List Int)) : Option (List Int × List Int × List (List Int)) := (some (t1, t2, x1))
def auction_Tabulate.k3 (x2 : List (List Int)) (x3 : Int) (x5 : List Int) : Option (List (List Int)) := (some (x2.set (x3).toNat x5))
def auction_Tabulate.l2 (t1 : List Int) (t2 : List Int) (t3 : (List ((Int × Int) × Int))) (x2 : List (List Int)) (x3 : Int) : Nat → Int → (List Int) → Option (List Int)
 | 0, _, _ => none
 | k + 1, x6, x7 => (if x6 < (t2.length : Int) then (if 0 ≤ x6 then (if x6 < (t2.length : Int) then (if 0 ≤ x3 then (if x3 < (x2.length : Int) then (if 0 ≤ x6 then (if x6 < (x7.length : Int) then (auction_Tabulate.l2 t1 t2 t3 x2 x3 k (W .i64 (x6 + 1)) (x7.set (x6).toNat ((mget t3 ((t1.getD (x3).toNat 0), (t2.getD (x6).toNat 0))).getD 0))) else none) else none) else none) else none) else none) else none) else (some x7))
def auction_Tabulate.l1 (t1 : List Int) (t2 : List Int) (t3 : (List ((Int × Int) × Int))) : Nat → (List (List Int)) → Int → Option (List (List Int))
 | 0, _, _ => none
 | k + 1, x2, x3 => (if x3 < (t1.length : Int) then ((if 0 ≤ x3 then (if x3 < (t1.length : Int) then (if 0 ≤ (t2.length : Int) then (if (t2.length : Int) ≤ 35184372088832 then (if 0 ≤ x3 then (if x3 < (x2.length : Int) then ((auction_Tabulate.l2 t1 t2 t3 x2 x3 k 0 (List.replicate ((t2.length : Int)).toNat (0 : Int))).bind (auction_Tabulate.k3 x2 x3)) else none) else none) else none) else none) else none) else none).bind (fun x4 => (auction_Tabulate.l1 t1 t2 t3 k x4 (W .i64 (x3 + 1))))) else (some x2))
def auction_Tabulate.f (k : Nat) (a0 : List S48) : Option (List Int × List Int × List (List Int)) := ((auction_distincts0.f k a0).bind fun t1 => ((auction_distincts1.f k a0).bind fun t2 => ((auction_values.f k a0).bind fun t3 => (if 0 ≤ (t1.length : Int) then (if (t1.length : Int) ≤ 11728124029610 then ((auction_Tabulate.l1 t1 t2 t3 k (List.replicate ((t1.length : Int)).toNat ([] : List Int)) 0).bind (auction_Tabulate.k1 t1 t2)) else none) else none))))
def auction_Tabulate.Post (I : Imm) (w : World) (r : List Int × List Int × List (List Int)) (v : Value) (w' : World) : Prop :=
 ∃ (J : Imm) (A0 : Option Addr) (c0 : Nat) (cs0 : List Value) (A1 : Option Addr) (c1 : Nat) (cs1 : List Value) (A2 : Option Addr) (c2 : Nat) (cs2 : List Value), v = .tuple #[.slice A0 r.1.length c0, .slice A1 r.2.1.length c1, .slice A2 r.2.2.length c2] ∧ Got w w' I J [orow 3 1 A0 r.1.length c0 cs0, orow 3 1 A1 r.2.1.length c1 cs1, orow 27 1 A2 r.2.2.length c2 cs2] ∧ Reps (Ty.int .i64) J r.1 cs0 ∧ Reps (Ty.int .i64) J r.2.1 cs1 ∧ Reps (Ty.slice (Ty.int .i64)) J r.2.2 cs2
noncomputable def a17_47n : List Nat := [0, 0, 3, 7, 0, 0, 0, 0, 192, 480, 1023, 2047]
theorem a17_47 : ancs O17_47 [] = a17_47n := by kernel_rfl
theorem a17_47o : drawOk O17_47 a17_47n 10 = true := by kernel_rfl
noncomputable def u17d1l  : List Ld :=
 []
noncomputable def u17d1g (t1 : List Int) (t2 : List Int) (t3 : (List ((Int × Int) × Int))) (x3 : Int) (x6 : Int) (g4_ : Nat) : List (Nat × ((Nat → Wt) → Value)) := [(2, fun u => pt g4_ (0 + (x3).toNat * 1)), (9, fun u => i6 ((mget t3 ((t1.getD (x3).toNat 0), (t2.getD (x6).toNat 0))).getD 0))]
noncomputable def u17d1q (t1 : List Int) (A1 : Option Addr) (c1 : Nat) (t2 : List Int) (A2 : Option Addr) (c2 : Nat) (t3 : (List ((Int × Int) × Int))) (g1 : Nat) (x2 : List (List Int)) (A4 : Option Addr) (c4 : Nat) (x3 : Int) (nx6 : Nat) (x6 : Int) (g4_ : Nat) (u : Nat → Wt) : Option (List Value × List (Nat × Value) × List (Nat × Nat)) := qSim Try.prog [(⟨g4_, 0 + (x3).toNat * 1, none⟩, .slice (some ⟨nx6, 0, none⟩) ((List.replicate ((t2.length : Int)).toNat (0 : Int)).length) ((List.replicate ((t2.length : Int)).toNat (0 : Int)).length))] [] O17_47 ⟨58, []⟩ (Ld.vl u17d1l) (u17d1g t1 t2 t3 x3 x6 g4_) u [.no, .no, .no, .r 0, .no, .no, .no, .no, .no, .no] 0 (O17_47.take 10) [(12, i6 (t2.getD (x6).toNat 0)), (11, i6 x6), (5, .slice A1 t1.length c1), (6, .slice A2 t2.length c2), (7, .map (some g1)), (8, .slice A4 x2.length c4), (9, i6 x3), (10, i6 (t1.getD (x3).toNat 0)), (22, .slice A1 t1.length c1), (23, i6 (t1.length : Int)), (24, i6 x3), (35, .slice A2 t2.length c2), (36, i6 (t2.length : Int)), (37, i6 x6)]
noncomputable def u17d1s (t1 : List Int) (t2 : List Int) (t3 : (List ((Int × Int) × Int))) (g1 : Nat) (x2 : List (List Int)) (A4 : Option Addr) (c4 : Nat) (x3 : Int) (nx6 : Nat) (x6 : Int) (g4_ : Nat) (u : Nat → Wt) : List Value := [.slice A4 x2.length c4, i6 x3, pt g4_ (0 + (x3).toNat * 1), .slice (some ⟨nx6, 0, none⟩) ((List.replicate ((t2.length : Int)).toNat (0 : Int)).length) ((List.replicate ((t2.length : Int)).toNat (0 : Int)).length), i6 x6, .map (some g1), i6 (t1.getD (x3).toNat 0), i6 (t2.getD (x6).toNat 0), .agg #[i6 (t1.getD (x3).toNat 0), i6 (t2.getD (x6).toNat 0)], i6 ((mget t3 ((t1.getD (x3).toNat 0), (t2.getD (x6).toNat 0))).getD 0)]
noncomputable def u17d1f (t1 : List Int) (A1 : Option Addr) (c1 : Nat) (t2 : List Int) (A2 : Option Addr) (c2 : Nat) (t3 : (List ((Int × Int) × Int))) (g1 : Nat) (x2 : List (List Int)) (A4 : Option Addr) (c4 : Nat) (x3 : Int) (nx6 : Nat) (x6 : Int) (g4_ : Nat) (i : Nat) (u : Nat → Wt) : List (Nat × Value) := foldPut ⟨58, []⟩ [(12, i6 (t2.getD (x6).toNat 0)), (11, i6 x6), (5, .slice A1 t1.length c1), (6, .slice A2 t2.length c2), (7, .map (some g1)), (8, .slice A4 x2.length c4), (9, i6 x3), (10, i6 (t1.getD (x3).toNat 0)), (22, .slice A1 t1.length c1), (23, i6 (t1.length : Int)), (24, i6 x3), (35, .slice A2 t2.length c2), (36, i6 (t2.length : Int)), (37, i6 x6)] (O17_47.take i) (((u17d1s t1 t2 t3 g1 x2 A4 c4 x3 nx6 x6 g4_) u).take i)
theorem u17d1v (t1 : List Int) (A1 : Option Addr) (c1 : Nat) (t2 : List Int) (A2 : Option Addr) (c2 : Nat) (t3 : (List ((Int × Int) × Int))) (g1 : Nat) (x2 : List (List Int)) (A4 : Option Addr) (c4 : Nat) (x3 : Int) (nx6 : Nat) (x6 : Int) (g4_ : Nat) (u : Nat → Wt) : (u17d1q t1 A1 c1 t2 A2 c2 t3 g1 x2 A4 c4 x3 nx6 x6 g4_ u).map (fun x => (x.1, x.2.1)) = some ((u17d1s t1 t2 t3 g1 x2 A4 c4 x3 nx6 x6 g4_) u, (u17d1f t1 A1 c1 t2 A2 c2 t3 g1 x2 A4 c4 x3 nx6 x6 g4_ 10) u) := by kernel_rfl
theorem u17d1e (t1 : List Int) (A1 : Option Addr) (c1 : Nat) (t2 : List Int) (A2 : Option Addr) (c2 : Nat) (t3 : (List ((Int × Int) × Int))) (g1 : Nat) (x2 : List (List Int)) (A4 : Option Addr) (c4 : Nat) (x3 : Int) (nx6 : Nat) (x6 : Int) (g4_ : Nat) (u : Nat → Wt) : (u17d1q t1 A1 c1 t2 A2 c2 t3 g1 x2 A4 c4 x3 nx6 x6 g4_ u).map (fun x => x.2.2.map (·.1)) = (u17d1q t1 A1 c1 t2 A2 c2 t3 g1 x2 A4 c4 x3 nx6 x6 g4_ u).map (fun x => x.2.2.map (·.2)) := by kernel_rfl
theorem auction_Tabulate.calls (k : Nat) (I0 : Imm) (a0 : List S48) (Ap0 : Option Addr) (cp0 : Nat) (w : World) (hI : I0.at_ w) (hlp0 : a0.length ≤ cp0) (hrp0 : Rd t48 I0 Ap0 a0) (r : List Int × List Int × List (List Int)) (h : auction_Tabulate.f k a0 = some r) :
  Calls Try.prog 17 [.slice Ap0 a0.length cp0].toArray w fun e w' => ∃ v, e = .returned v ∧ auction_Tabulate.Post I0 w r v w' := by
 have H : ((auction_distincts0.f k a0).bind fun t1 => ((auction_distincts1.f k a0).bind fun t2 => ((auction_values.f k a0).bind fun t3 => (if 0 ≤ (t1.length : Int) then (if (t1.length : Int) ≤ 11728124029610 then ((auction_Tabulate.l1 t1 t2 t3 k (List.replicate ((t1.length : Int)).toNat ([] : List Int)) 0).bind (auction_Tabulate.k1 t1 t2)) else none) else none)))) = some r := h
 clear h
 refine calls_body Try.func17 (by kernel_rfl) 58 (by kernel_rfl) (by kernel_rfl) ⟨w, fun _ => False, I0⟩ I0 [] [(0, .slice Ap0 a0.length cp0)] (by kernel_rfl) (Sat.start w _ I0 hI) ?_
 generalize w.heap.size = nx0
 show OK _ K17_0 _ _ _ _ _ _ _ _
 refine OK.sr ?_
 refine RL.st 3 [(0, .slice Ap0 a0.length cp0)] ?_
 refine OK.sr ?_
 refine RL.s 1 [(13, .slice Ap0 a0.length cp0), (0, .slice Ap0 a0.length cp0)] ?_
 obtain ⟨t1, hA1, H⟩ := bnd H
 refine RL.callM (L1 := []) (L2 := []) (X1 := []) (X2 := []) rfl rfl 29 [.slice Ap0 a0.length cp0, .func (.func 30) #[] #[]] (some 14) (fun w => auction_distincts0.Post (SM [] []) a0 Ap0 cp0 I0 w t1) (by kernel_rfl) (by kernel_rfl) (fun w hs => auction_distincts0.calls k I0 a0 Ap0 cp0 w hs hlp0 hrp0 t1 hA1) ?_
 rintro w v w' hs ⟨I1, A1, c1, cs1, rfl, hg, hp1⟩
 have hi1 : Imm.le I0 I1 := hg.le
 refine RL.resume (L' := []) (X' := [orow 3 1 A1 t1.length c1 cs1]) rfl (hs.outof hg) ?_
 clear hs hg
 generalize w'.heap.size = nx1
 clear w w'
 refine RL.s 1 [(15, .slice Ap0 a0.length cp0), (14, .slice A1 t1.length c1), (0, .slice Ap0 a0.length cp0)] ?_
 obtain ⟨t2, hA2, H⟩ := bnd H
 refine RL.callM (L1 := []) (L2 := []) (X1 := []) (X2 := [orow 3 1 A1 t1.length c1 cs1]) rfl rfl 29 [.slice Ap0 a0.length cp0, .func (.func 31) #[] #[]] (some 16) (fun w => auction_distincts1.Post (SM [] []) a0 Ap0 cp0 I1 w t2) (by kernel_rfl) (by kernel_rfl) (fun w hs => auction_distincts1.calls k I1 a0 Ap0 cp0 w hs hlp0 (Rd.ext hi1 hrp0) t2 hA2) ?_
 rintro w v w' hs ⟨I2, A2, c2, cs2, rfl, hg, hp2⟩
 have hi2 : Imm.le I1 I2 := hg.le
 refine RL.resume (L' := []) (X' := [orow 3 1 A2 t2.length c2 cs2, orow 3 1 A1 t1.length c1 cs1]) rfl (hs.outof hg) ?_
 clear hs hg
 generalize w'.heap.size = nx2
 clear w w'
 refine RL.s 1 [(17, .slice Ap0 a0.length cp0), (16, .slice A2 t2.length c2), (14, .slice A1 t1.length c1)] ?_
 obtain ⟨t3, hA3, H⟩ := bnd H
 refine RL.callP 28 [.slice Ap0 a0.length cp0] (some 18) (fun w => auction_values.Post I2 w t3) (by kernel_rfl) (by kernel_rfl) (fun w hs => auction_values.calls k I2 a0 Ap0 cp0 w hs.im hlp0 (Rd.ext (Imm.le_trans hi1 hi2) hrp0) t3 hA3) ?_
 rintro w v w' hs ⟨I3, g1, rfl, hg, hm1⟩
 have hi3 := hg.le
 refine RL.resume (X' := [orow 3 1 A2 t2.length c2 cs2, orow 3 1 A1 t1.length c1 cs1]) rfl (hs.call hg) ?_
 clear hs hg
 generalize w'.heap.size = nx3
 clear w w'
 refine RL.st 3 [(7, .map (some g1)), (6, .slice A2 t2.length c2), (5, .slice A1 t1.length c1)] ?_
 refine OK.sr ?_
 refine RL.s 2 [(20, i6 (t1.length : Int)), (7, .map (some g1)), (6, .slice A2 t2.length c2), (5, .slice A1 t1.length c1)] ?_
 obtain ⟨hm2, H⟩ := ifs H
 obtain ⟨hm3, H⟩ := ifs H
 refine RL.makeL (T := 33) (e := 27) (t1.length : Int) .i64 .i64 (some 21) (.slice none 0 0) ([]) (Ty.slice (Ty.int .i64)) 24 (by kernel_rfl) (by kernel_rfl) (by kernel_rfl) (by kernel_rfl) (by kernel_rfl) ⟨none, 0, rfl, Nat.le_refl _, Rd.nil _ _ _⟩ hm2 (by omega) (by omega) (fun nx4 hp3 => ?_)
 refine RL.norm (K' := [(21, .slice (some ⟨nx3, 0, none⟩) ((List.replicate ((t1.length : Int)).toNat ([] : List Int)).length) ((List.replicate ((t1.length : Int)).toNat ([] : List Int)).length)), (20, i6 (t1.length : Int)), (7, .map (some g1)), (6, .slice A2 t2.length c2), (5, .slice A1 t1.length c1)]) (X' := [orow 3 1 A2 t2.length c2 cs2, orow 3 1 A1 t1.length c1 cs1, orow 27 1 (some ⟨nx3, 0, none⟩) ((List.replicate ((t1.length : Int)).toNat ([] : List Int)).length) ((List.replicate ((t1.length : Int)).toNat ([] : List Int)).length) (List.replicate ((t1.length : Int)).toNat (.slice none 0 0))]) (by kernel_rfl) rfl rfl (by kernel_rfl) ?_
 refine RL.st 1 [(8, .slice (some ⟨nx3, 0, none⟩) ((List.replicate ((t1.length : Int)).toNat ([] : List Int)).length) ((List.replicate ((t1.length : Int)).toNat ([] : List Int)).length)), (7, .map (some g1)), (6, .slice A2 t2.length c2), (5, .slice A1 t1.length c1)] ?_
 refine OK.sq ?_
 refine OK.sr ?_
 refine RL.st 3 [(24, i6 0), (23, i6 (t1.length : Int)), (22, .slice A1 t1.length c1), (8, .slice (some ⟨nx3, 0, none⟩) ((List.replicate ((t1.length : Int)).toNat ([] : List Int)).length) ((List.replicate ((t1.length : Int)).toNat ([] : List Int)).length)), (7, .map (some g1)), (6, .slice A2 t2.length c2), (5, .slice A1 t1.length c1)] ?_
 refine OK.join (fun K' I' _ L' X' => ∃ (x1 : List (List Int)) (A3 : Option Addr) (c3 : Nat) (cs3 : List Value), K' = [(5, .slice A1 t1.length c1), (6, .slice A2 t2.length c2), (8, .slice A3 x1.length c3)] ∧ L' = [] ∧ X' = [orow 3 1 A1 t1.length c1 cs1, orow 3 1 A2 t2.length c2 cs2, orow 27 1 A3 x1.length c3 cs3] ∧ Imm.le I3 I' ∧ Reps (Ty.slice (Ty.int .i64)) I' x1 cs3 ∧ auction_Tabulate.k1 t1 t2 x1 = some r) ?_ ?_
 ·rintro _ I4 nx5 _ _ ⟨x1, A3, c3, cs3, rfl, rfl, rfl, hi4, hp4, H⟩
  rw [auction_Tabulate.k1] at H
  refine QN.then_ ?_
  refine OK.sr ?_
  refine RL.st 6 [(4, .slice A3 x1.length c3), (3, .slice A2 t2.length c2), (2, .slice A1 t1.length c1)] ?_
  refine OK.re ?_
  obtain rfl := Option.some.inj H
  refine QN.body rfl [] (RFacts.nil _ _ _) (.no) (.tuple #[.slice A1 t1.length c1, .slice A2 t2.length c2, .slice A3 x1.length c3]) (by kernel_rfl) (by kernel_rfl) (by kernel_rfl) ?_ _ (.inr rfl)
  exact fun w' hs' => ⟨_, rfl, I4, A1, c1, cs1, A2, c2, cs2, A3, c3, cs3, rfl, hs'.got _ (.cons_cons _ (.cons_cons _ (.cons_cons _ .slnil))), (Reps.ext (Imm.le_trans (Imm.le_trans hi2 hi3) hi4) hp1), (Reps.ext (Imm.le_trans hi3 hi4) hp2), hp4⟩
 ·intro Q_1 hJ1 hQ1
  obtain ⟨y1, H, HK1⟩ := bnd H
  refine OK.bk 0 ?_
  refine OK.sel (K' := [(5, .slice A1 t1.length c1), (6, .slice A2 t2.length c2), (7, .map (some g1)), (8, .slice (some ⟨nx3, 0, none⟩) ((List.replicate ((t1.length : Int)).toNat ([] : List Int)).length) ((List.replicate ((t1.length : Int)).toNat ([] : List Int)).length)), (22, .slice A1 t1.length c1), (23, i6 (t1.length : Int)), (24, i6 0)]) (L' := []) [1, 0, 2] (by kernel_rfl) (by kernel_rfl) .slnil ?_
  refine OK.norm (X' := [orow 3 1 A1 t1.length c1 cs1, orow 3 1 A2 t2.length c2 cs2, orow 27 1 (some ⟨nx3, 0, none⟩) ((List.replicate ((t1.length : Int)).toNat ([] : List Int)).length) ((List.replicate ((t1.length : Int)).toNat ([] : List Int)).length) (List.replicate ((t1.length : Int)).toNat (.slice none 0 0))]) rfl rfl rfl (by kernel_rfl) ?_
  refine OK.lp (fun n_ K' I' _ L' X' => ∃ (x2 : List (List Int)) (x3 : Int) (A4 : Option Addr) (c4 : Nat) (cs4 : List Value), K' = [(5, .slice A1 t1.length c1), (6, .slice A2 t2.length c2), (7, .map (some g1)), (8, .slice A4 x2.length c4), (22, .slice A1 t1.length c1), (23, i6 (t1.length : Int)), (24, i6 x3)] ∧ L' = [] ∧ X' = [orow 3 1 A1 t1.length c1 cs1, orow 3 1 A2 t2.length c2 cs2, orow 27 1 A4 x2.length c4 cs4] ∧ Imm.le I3 I' ∧ Reps (Ty.slice (Ty.int .i64)) I' x2 cs4 ∧ auction_Tabulate.l1 t1 t2 t3 n_ x2 x3 = some y1) k ⟨List.replicate ((t1.length : Int)).toNat ([] : List Int), 0, (some ⟨nx3, 0, none⟩), (List.replicate ((t1.length : Int)).toNat ([] : List Int)).length, (List.replicate ((t1.length : Int)).toNat (.slice none 0 0)), rfl, rfl, rfl, (Imm.le_refl _), hp3, H⟩ ?_ ?_
  ·rintro _ _ _ _ _ ⟨x2, x3, A4, c4, cs4, rfl, rfl, rfl, _, hp5, H⟩
   cases H
  ·rintro kq1 _ I5 nx6 _ _ ⟨x2, x3, A4, c4, cs4, rfl, rfl, rfl, hi5, hp5, H⟩ Q_l1 hJ2 hQ2
   rw [auction_Tabulate.l1] at H
   refine OK.sr ?_
   refine RL.st 1 [(25, .bool (decide (x3 < (t1.length : Int)))), (5, .slice A1 t1.length c1), (6, .slice A2 t2.length c2), (7, .map (some g1)), (8, .slice A4 x2.length c4), (22, .slice A1 t1.length c1), (23, i6 (t1.length : Int)), (24, i6 x3)] ?_
   refine OK.sq ?_
   refine OK.cd (decide (x3 < (t1.length : Int))) (fun hb => ?_) (fun hb => ?_)
   ·skip
    have hc := (of_decide_eq_true hb)
    rw [if_pos hc] at H
    clear hb
    refine OK.skt ?_
    refine OK.sq ?_
    refine OK.join (fun K' I' _ L' X' => ∃ (x4 : List (List Int)) (A5 : Option Addr) (c5 : Nat) (cs5 : List Value), K' = [(5, .slice A1 t1.length c1), (6, .slice A2 t2.length c2), (7, .map (some g1)), (8, .slice A5 x4.length c5), (22, .slice A1 t1.length c1), (23, i6 (t1.length : Int)), (24, i6 x3)] ∧ L' = [] ∧ X' = [orow 3 1 A1 t1.length c1 cs1, orow 3 1 A2 t2.length c2 cs2, orow 27 1 A5 x4.length c5 cs5] ∧ Imm.le I5 I' ∧ Reps (Ty.slice (Ty.int .i64)) I' x4 cs5 ∧ (auction_Tabulate.l1 t1 t2 t3 kq1 x4 (W .i64 (x3 + 1))) = some y1) ?_ ?_
    ·rintro _ I6 nx7 _ _ ⟨x4, A5, c5, cs5, rfl, rfl, rfl, hi6, hp6, H⟩
     replace H : (auction_Tabulate.l1 t1 t2 t3 kq1 x4 (W .i64 (x3 + 1))) = some y1 := H
     refine QN.then_ ?_
     refine OK.rg ?_
     refine RL.s 2 [(24, i6 (W .i64 (x3 + 1))), (5, .slice A1 t1.length c1), (6, .slice A2 t2.length c2), (7, .map (some g1)), (8, .slice A5 x4.length c5), (22, .slice A1 t1.length c1), (23, i6 (t1.length : Int))] ?_
     refine RL.nil (by kernel_rfl) ?_
     exact QN.sb (hJ2 _ _ _ _ _ ⟨x4, W .i64 (x3 + 1), A5, c5, cs5, rfl, rfl, rfl, (Imm.le_trans hi5 hi6), hp6, H⟩) .slnil (.refl _)
    ·intro Q_2 hJ3 hQ3
     obtain ⟨y2, H, HK2⟩ := bnd H
     refine OK.bk 1 ?_
     refine OK.sr ?_
     refine RL.s 1 [(26, i6 x3), (5, .slice A1 t1.length c1), (6, .slice A2 t2.length c2), (7, .map (some g1)), (8, .slice A4 x2.length c4), (22, .slice A1 t1.length c1), (23, i6 (t1.length : Int)), (24, i6 x3)] ?_
     obtain ⟨hib0, H⟩ := ifs H
     obtain ⟨hib1, H⟩ := ifs H
     have hx01_ := hib0; have hx11_ := hib1
     refine RL.ownAddr (e := 3) (sz := 1) (S := A1) (n := t1.length) (cap := c1) (cs := cs1) 0 (by kernel_rfl) (by omega) (fun g1_ hA1_ => ?_)
     have hc1_ := Ty.int_own (Reps.ext (Imm.le_trans (Imm.le_trans hi2 hi3) hi5) hp1) x3 hib0 hib1
     refine RL.idx 1 .i64 x3 hA1_ t1.length c1 (some 27) (by kernel_rfl) (by kernel_rfl) (T := 26) (e := 3) (by kernel_rfl) (by kernel_rfl) hib0 hib1 (K' := [(27, pt g1_ (0 + (x3).toNat * 1)), (26, i6 x3), (5, .slice A1 t1.length c1), (6, .slice A2 t2.length c2), (7, .map (some g1)), (8, .slice A4 x2.length c4), (22, .slice A1 t1.length c1), (23, i6 (t1.length : Int)), (24, i6 x3)]) (by kernel_rfl) ?_
     refine RL.simK (K' := [(10, i6 (t1.getD (x3).toNat 0)), (9, i6 x3), (5, .slice A1 t1.length c1), (6, .slice A2 t2.length c2), (7, .map (some g1)), (8, .slice A4 x2.length c4), (22, .slice A1 t1.length c1), (23, i6 (t1.length : Int)), (24, i6 x3)]) [(⟨g1_, 0 + (x3).toNat * 1, none⟩, i6 (t1.getD (x3).toNat 0))] (RFacts.ownQ (e := 3) (sz := 1) (S := A1) (n := t1.length) (cap := c1) (cs := cs1) 0 (by kernel_rfl) hA1_ (0 + (x3).toNat * 1) ((x3).toNat * 1 + 0) (by omega) (hc1_ 0 _ rfl) (RFacts.nil _ _ _)) 3 [.r 0, .no, .no] (by kernel_rfl) (by kernel_rfl) ?_
     refine RL.nt ?_
     refine OK.sr ?_
     refine RL.s 4 [(32, i6 (t2.length : Int)), (30, i6 x3), (29, .slice A4 x2.length c4), (10, i6 (t1.getD (x3).toNat 0)), (9, i6 x3), (5, .slice A1 t1.length c1), (6, .slice A2 t2.length c2), (7, .map (some g1)), (8, .slice A4 x2.length c4), (22, .slice A1 t1.length c1), (23, i6 (t1.length : Int)), (24, i6 x3)] ?_
     obtain ⟨hm4, H⟩ := ifs H
     obtain ⟨hm5, H⟩ := ifs H
     refine RL.makeL (T := 27) (e := 2) (t2.length : Int) .i64 .i64 (some 33) (i6 0) (0) (Ty.int .i64) 8 (by kernel_rfl) (by kernel_rfl) (by kernel_rfl) (by kernel_rfl) (by kernel_rfl) rfl hm4 (by omega) (by omega) (fun nx8 hp7 => ?_)
     refine RL.norm (K' := [(33, .slice (some ⟨nx6, 0, none⟩) ((List.replicate ((t2.length : Int)).toNat (0 : Int)).length) ((List.replicate ((t2.length : Int)).toNat (0 : Int)).length)), (32, i6 (t2.length : Int)), (30, i6 x3), (29, .slice A4 x2.length c4), (10, i6 (t1.getD (x3).toNat 0)), (9, i6 x3), (5, .slice A1 t1.length c1), (6, .slice A2 t2.length c2), (7, .map (some g1)), (8, .slice A4 x2.length c4), (22, .slice A1 t1.length c1), (23, i6 (t1.length : Int)), (24, i6 x3)]) (X' := [orow 3 1 A1 t1.length c1 cs1, orow 3 1 A2 t2.length c2 cs2, orow 27 1 A4 x2.length c4 cs4, orow 2 1 (some ⟨nx6, 0, none⟩) ((List.replicate ((t2.length : Int)).toNat (0 : Int)).length) ((List.replicate ((t2.length : Int)).toNat (0 : Int)).length) (List.replicate ((t2.length : Int)).toNat (i6 0))]) (by kernel_rfl) rfl rfl (by kernel_rfl) ?_
     obtain ⟨hib0, H⟩ := ifs H
     obtain ⟨hib1, H⟩ := ifs H
     have hx02_ := hib0; have hx12_ := hib1
     refine RL.ownAddr (e := 27) (sz := 1) (S := A4) (n := x2.length) (cap := c4) (cs := cs4) 2 (by kernel_rfl) (by omega) (fun g2_ hA2_ => ?_)
     obtain ⟨A2_, c2_, hl2_, hr2_, hc2_⟩ := Ty.slice_own hp5 x3 hib0 hib1
     refine RL.idx 1 .i64 x3 hA2_ x2.length c4 (some 34) (by kernel_rfl) (by kernel_rfl) (T := 33) (e := 27) (by kernel_rfl) (by kernel_rfl) hib0 hib1 (K' := [(34, pt g2_ (0 + (x3).toNat * 1)), (33, .slice (some ⟨nx6, 0, none⟩) ((List.replicate ((t2.length : Int)).toNat (0 : Int)).length) ((List.replicate ((t2.length : Int)).toNat (0 : Int)).length)), (32, i6 (t2.length : Int)), (30, i6 x3), (29, .slice A4 x2.length c4), (10, i6 (t1.getD (x3).toNat 0)), (9, i6 x3), (5, .slice A1 t1.length c1), (6, .slice A2 t2.length c2), (7, .map (some g1)), (8, .slice A4 x2.length c4), (22, .slice A1 t1.length c1), (23, i6 (t1.length : Int)), (24, i6 x3)]) (by kernel_rfl) ?_
     refine RL.storeH (T := 27) (e := 27) 2 hA2_ c4 x3 cs4 (some ⟨nx6, 0, none⟩) ((List.replicate ((t2.length : Int)).toNat (0 : Int)).length) ((List.replicate ((t2.length : Int)).toNat (0 : Int)).length) (Ty.int .i64) x2 (by kernel_rfl) (by kernel_rfl) (by kernel_rfl) (by kernel_rfl) hp5 hx02_ hx12_ (fun cs6 hc1 hp8 => ?_)
     refine RL.sub (K' := [(33, .slice (some ⟨nx6, 0, none⟩) ((List.replicate ((t2.length : Int)).toNat (0 : Int)).length) ((List.replicate ((t2.length : Int)).toNat (0 : Int)).length)), (32, i6 (t2.length : Int)), (30, i6 x3), (29, .slice A4 x2.length c4), (10, i6 (t1.getD (x3).toNat 0)), (9, i6 x3), (5, .slice A1 t1.length c1), (6, .slice A2 t2.length c2), (7, .map (some g1)), (8, .slice A4 x2.length c4), (22, .slice A1 t1.length c1), (23, i6 (t1.length : Int)), (24, i6 x3)]) (L' := []) (X' := [orow 3 1 A1 t1.length c1 cs1, orow 3 1 A2 t2.length c2 cs2, orow 27 1 A4 x2.length c4 cs6, orow 2 1 (some ⟨nx6, 0, none⟩) ((List.replicate ((t2.length : Int)).toNat (0 : Int)).length) ((List.replicate ((t2.length : Int)).toNat (0 : Int)).length) (List.replicate ((t2.length : Int)).toNat (i6 0))]) (by kernel_rfl) (.refl _) (.refl _) ?_
     refine RL.nil (by kernel_rfl) ?_
     refine QN.sub (K' := [(10, i6 (t1.getD (x3).toNat 0)), (9, i6 x3), (5, .slice A1 t1.length c1), (6, .slice A2 t2.length c2), (7, .map (some g1)), (8, .slice A4 x2.length c4), (22, .slice A1 t1.length c1), (23, i6 (t1.length : Int)), (24, i6 x3)]) (L' := []) (by kernel_rfl) .slnil (.refl _) ?_
     refine QN.then_ ?_
     refine OK.sr ?_
     refine RL.st 3 [(37, i6 0), (36, i6 (t2.length : Int)), (35, .slice A2 t2.length c2), (10, i6 (t1.getD (x3).toNat 0)), (9, i6 x3), (5, .slice A1 t1.length c1), (6, .slice A2 t2.length c2), (7, .map (some g1)), (8, .slice A4 x2.length c4), (22, .slice A1 t1.length c1), (23, i6 (t1.length : Int)), (24, i6 x3)] ?_
     refine OK.join (fun K' I' _ L' X' => ∃ (x5 : List Int) (cs7 : List Value), K' = [(5, .slice A1 t1.length c1), (6, .slice A2 t2.length c2), (7, .map (some g1)), (8, .slice A4 x2.length c4), (22, .slice A1 t1.length c1), (23, i6 (t1.length : Int)), (24, i6 x3)] ∧ L' = [] ∧ X' = [orow 3 1 A1 t1.length c1 cs1, orow 3 1 A2 t2.length c2 cs2, orow 27 1 A4 x2.length c4 cs6, orow 2 1 (some ⟨nx6, 0, none⟩) x5.length ((List.replicate ((t2.length : Int)).toNat (0 : Int)).length) cs7] ∧ Imm.le I5 I' ∧ Reps (Ty.int .i64) I' x5 cs7 ∧ x5.length = (List.replicate ((t2.length : Int)).toNat (0 : Int)).length ∧ auction_Tabulate.k3 x2 x3 x5 = some y2) ?_ ?_
     ·rintro _ I7 nx9 _ _ ⟨x5, cs7, rfl, rfl, rfl, hi7, hp9, hz1, H⟩
      rw [auction_Tabulate.k3] at H
      refine QN.blkN ?_
      refine QN.freeze (e := 2) (sz := 1) (S := (some ⟨nx6, 0, none⟩)) (n := x5.length) (cap := (List.replicate ((t2.length : Int)).toNat (0 : Int)).length) 3 (by kernel_rfl) hp9 rfl (fun I8 hi8 hl1 hr1 => ?_)
      skip
      have hp10 := hp8 _ x5 (Imm.le_trans hi7 hi8) (by first | rfl | assumption | (simp only [List.length_set]; done) | (simp only [List.length_set]; assumption)) hl1 hr1
      refine QN.norm (K' := [(5, .slice A1 t1.length c1), (6, .slice A2 t2.length c2), (7, .map (some g1)), (8, .slice A4 ((x2.set (x3).toNat x5).length) c4), (22, .slice A1 t1.length c1), (23, i6 (t1.length : Int)), (24, i6 x3)]) (L' := []) (X' := [orow 3 1 A1 t1.length c1 cs1, orow 3 1 A2 t2.length c2 cs2, orow 27 1 A4 ((x2.set (x3).toNat x5).length) c4 cs6]) (by first | (simp only [List.length_set]; done) | (simp only [List.length_set]; rfl)) rfl (by first | rfl | simp only [List.length_set]) (by first | (simp only [List.length_set]; done) | (simp only [List.length_set]; rfl)) ?_
      obtain rfl := Option.some.inj H
      exact QN.sb (hJ3 _ _ _ _ _ ⟨x2.set (x3).toNat x5, A4, c4, cs6, rfl, rfl, rfl, (Imm.le_trans hi7 hi8), hp10, HK2⟩) .slnil (.refl _)
     ·intro Q_3 hJ4 hQ4
      obtain ⟨y3, H, HK3⟩ := bnd H
      refine OK.bk 2 ?_
      refine OK.sub (K' := [(5, .slice A1 t1.length c1), (6, .slice A2 t2.length c2), (7, .map (some g1)), (8, .slice A4 x2.length c4), (9, i6 x3), (10, i6 (t1.getD (x3).toNat 0)), (22, .slice A1 t1.length c1), (23, i6 (t1.length : Int)), (24, i6 x3), (35, .slice A2 t2.length c2), (36, i6 (t2.length : Int)), (37, i6 0)]) (L' := []) (by kernel_rfl) .slnil (.refl _) ?_
      refine OK.lp (fun n_ K' I' _ L' X' => ∃ (x6 : Int) (x7 : List Int) (cs8 : List Value), K' = [(5, .slice A1 t1.length c1), (6, .slice A2 t2.length c2), (7, .map (some g1)), (8, .slice A4 x2.length c4), (9, i6 x3), (10, i6 (t1.getD (x3).toNat 0)), (22, .slice A1 t1.length c1), (23, i6 (t1.length : Int)), (24, i6 x3), (35, .slice A2 t2.length c2), (36, i6 (t2.length : Int)), (37, i6 x6)] ∧ L' = [] ∧ X' = [orow 3 1 A1 t1.length c1 cs1, orow 3 1 A2 t2.length c2 cs2, orow 27 1 A4 x2.length c4 cs6, orow 2 1 (some ⟨nx6, 0, none⟩) x7.length ((List.replicate ((t2.length : Int)).toNat (0 : Int)).length) cs8] ∧ Imm.le I5 I' ∧ Reps (Ty.int .i64) I' x7 cs8 ∧ x7.length = (List.replicate ((t2.length : Int)).toNat (0 : Int)).length ∧ auction_Tabulate.l2 t1 t2 t3 x2 x3 n_ x6 x7 = some y3) kq1 ⟨0, List.replicate ((t2.length : Int)).toNat (0 : Int), (List.replicate ((t2.length : Int)).toNat (i6 0)), rfl, rfl, rfl, (Imm.le_refl _), hp7, (by first | rfl | assumption | (simp only [List.length_set]; done) | (simp only [List.length_set]; assumption)), H⟩ ?_ ?_
      ·rintro _ _ _ _ _ ⟨x6, x7, cs8, rfl, rfl, rfl, _, hp11, hz2, H⟩
       cases H
      ·rintro kq2 _ I9 nx10 _ _ ⟨x6, x7, cs8, rfl, rfl, rfl, hi9, hp11, hz2, H⟩ Q_l2 hJ5 hQ5
       rw [auction_Tabulate.l2] at H
       refine OK.sr ?_
       refine RL.st 1 [(38, .bool (decide (x6 < (t2.length : Int)))), (5, .slice A1 t1.length c1), (6, .slice A2 t2.length c2), (7, .map (some g1)), (8, .slice A4 x2.length c4), (9, i6 x3), (10, i6 (t1.getD (x3).toNat 0)), (22, .slice A1 t1.length c1), (23, i6 (t1.length : Int)), (24, i6 x3), (35, .slice A2 t2.length c2), (36, i6 (t2.length : Int)), (37, i6 x6)] ?_
       refine OK.sq ?_
       refine OK.cd (decide (x6 < (t2.length : Int))) (fun hb => ?_) (fun hb => ?_)
       ·skip
        have hc := (of_decide_eq_true hb)
        rw [if_pos hc] at H
        clear hb
        refine OK.skt ?_
        refine OK.sq ?_
        refine OK.bk 3 ?_
        refine OK.sr ?_
        refine RL.s 1 [(39, i6 x6), (5, .slice A1 t1.length c1), (6, .slice A2 t2.length c2), (7, .map (some g1)), (8, .slice A4 x2.length c4), (9, i6 x3), (10, i6 (t1.getD (x3).toNat 0)), (22, .slice A1 t1.length c1), (23, i6 (t1.length : Int)), (24, i6 x3), (35, .slice A2 t2.length c2), (36, i6 (t2.length : Int)), (37, i6 x6)] ?_
        obtain ⟨hib0, H⟩ := ifs H
        obtain ⟨hib1, H⟩ := ifs H
        have hx03_ := hib0; have hx13_ := hib1
        refine RL.ownAddr (e := 3) (sz := 1) (S := A2) (n := t2.length) (cap := c2) (cs := cs2) 1 (by kernel_rfl) (by omega) (fun g3_ hA3_ => ?_)
        have hc3_ := Ty.int_own (Reps.ext (Imm.le_trans (Imm.le_trans hi3 hi5) hi9) hp2) x6 hib0 hib1
        refine RL.idx 1 .i64 x6 hA3_ t2.length c2 (some 40) (by kernel_rfl) (by kernel_rfl) (T := 26) (e := 3) (by kernel_rfl) (by kernel_rfl) hib0 hib1 (K' := [(40, pt g3_ (0 + (x6).toNat * 1)), (39, i6 x6), (5, .slice A1 t1.length c1), (6, .slice A2 t2.length c2), (7, .map (some g1)), (8, .slice A4 x2.length c4), (9, i6 x3), (10, i6 (t1.getD (x3).toNat 0)), (22, .slice A1 t1.length c1), (23, i6 (t1.length : Int)), (24, i6 x3), (35, .slice A2 t2.length c2), (36, i6 (t2.length : Int)), (37, i6 x6)]) (by kernel_rfl) ?_
        refine RL.simK (K' := [(12, i6 (t2.getD (x6).toNat 0)), (11, i6 x6), (5, .slice A1 t1.length c1), (6, .slice A2 t2.length c2), (7, .map (some g1)), (8, .slice A4 x2.length c4), (9, i6 x3), (10, i6 (t1.getD (x3).toNat 0)), (22, .slice A1 t1.length c1), (23, i6 (t1.length : Int)), (24, i6 x3), (35, .slice A2 t2.length c2), (36, i6 (t2.length : Int)), (37, i6 x6)]) [(⟨g3_, 0 + (x6).toNat * 1, none⟩, i6 (t2.getD (x6).toNat 0))] (RFacts.ownQ (e := 3) (sz := 1) (S := A2) (n := t2.length) (cap := c2) (cs := cs2) 1 (by kernel_rfl) hA3_ (0 + (x6).toNat * 1) ((x6).toNat * 1 + 0) (by omega) (hc3_ 0 _ rfl) (RFacts.nil _ _ _)) 3 [.r 0, .no, .no] (by kernel_rfl) (by kernel_rfl) ?_
        refine RL.nt ?_
        obtain ⟨hi0_1, H⟩ := ifs H
        obtain ⟨hi1_1, H⟩ := ifs H
        refine OK.ownAddr (e := 27) (sz := 1) (S := A4) (n := x2.length) (cap := c4) (cs := cs6) 2 (by kernel_rfl) (by omega) (fun g4_ hA4_ => ?_)
        refine OK.drawnC 10 10 O17_47 a17_47n (by kernel_rfl) (by kernel_rfl) u17d1l (u17d1g t1 t2 t3 x3 x6 g4_) [(⟨g4_, 0 + (x3).toNat * 1, none⟩, .slice (some ⟨nx6, 0, none⟩) ((List.replicate ((t2.length : Int)).toNat (0 : Int)).length) ((List.replicate ((t2.length : Int)).toNat (0 : Int)).length))] (RI.own (e := 27) (sz := 1) (S := A4) (n := x2.length) (cap := c4) (cs := cs6) 2 (by kernel_rfl) hA4_ (0 + (x3).toNat * 1) ((x3).toNat * 1 + 0) (by omega) hc1 (RI.nil _)) [.no, .no, .no, .r 0, .no, .no, .no, .no, .no, .no] a17_47 a17_47o (by kernel_rfl) (by kernel_rfl) (u17d1s t1 t2 t3 g1 x2 A4 c4 x3 nx6 x6 g4_) (u17d1f t1 A1 c1 t2 A2 c2 t3 g1 x2 A4 c4 x3 nx6 x6 g4_ 10) (u17d1v t1 A1 c1 t2 A2 c2 t3 g1 x2 A4 c4 x3 nx6 x6 g4_) (u17d1e t1 A1 c1 t2 A2 c2 t3 g1 x2 A4 c4 x3 nx6 x6 g4_) [] framesOk.nil ?_ [u17d1f t1 A1 c1 t2 A2 c2 t3 g1 x2 A4 c4 x3 nx6 x6 g4_ 2, u17d1f t1 A1 c1 t2 A2 c2 t3 g1 x2 A4 c4 x3 nx6 x6 g4_ 9] (framesOk.cons (fun u => rfl) (framesOk.cons (fun u => rfl) framesOk.nil)) ?_ ?_
        ·refine LoudsG.nil
        ·refine Givens.cons (fun u w =>  ?_) (fun _ _ _ => rfl) (Givens.consU (fun D u w hp hS =>  ?_) (fun _ _ _ => rfl) (Givens.nil))
         ·exact giv_idx (T := 33) (e := 27) 1 .i64 x3 hA4_ x2.length c4 (by kernel_rfl) (by kernel_rfl) (by kernel_rfl) hi0_1 hi1_1 w
         ·obtain ⟨J, hJ, hs, hF⟩ := hS
          exact giv_look2 mt54 ((t1.getD (x3).toNat 0), (t2.getD (x6).toNat 0)) ((Mp.ext (Imm.le_trans (Imm.le_trans hi5 hi9) hJ) hm1)) hs.im (by kernel_rfl)
        intro u I10 nx11 hi10 hF
        clear hF
        refine RL.norm (K' := [(51, i6 ((mget t3 ((t1.getD (x3).toNat 0), (t2.getD (x6).toNat 0))).getD 0)), (50, .agg #[i6 (t1.getD (x3).toNat 0), i6 (t2.getD (x6).toNat 0)]), (49, i6 (t2.getD (x6).toNat 0)), (48, i6 (t1.getD (x3).toNat 0)), (47, .map (some g1)), (46, i6 x6), (45, .slice (some ⟨nx6, 0, none⟩) ((List.replicate ((t2.length : Int)).toNat (0 : Int)).length) ((List.replicate ((t2.length : Int)).toNat (0 : Int)).length)), (44, pt g4_ (0 + (x3).toNat * 1)), (43, i6 x3), (42, .slice A4 x2.length c4), (12, i6 (t2.getD (x6).toNat 0)), (11, i6 x6), (5, .slice A1 t1.length c1), (6, .slice A2 t2.length c2), (7, .map (some g1)), (8, .slice A4 x2.length c4), (9, i6 x3), (10, i6 (t1.getD (x3).toNat 0)), (22, .slice A1 t1.length c1), (23, i6 (t1.length : Int)), (24, i6 x3), (35, .slice A2 t2.length c2), (36, i6 (t2.length : Int)), (37, i6 x6)]) (X' := [orow 3 1 A1 t1.length c1 cs1, orow 3 1 A2 t2.length c2 cs2, orow 27 1 A4 x2.length c4 cs6, orow 2 1 (some ⟨nx6, 0, none⟩) x7.length ((List.replicate ((t2.length : Int)).toNat (0 : Int)).length) cs8]) (by kernel_rfl) rfl rfl rfl ?_
        refine RL.norm (K' := [(51, i6 ((mget t3 ((t1.getD (x3).toNat 0), (t2.getD (x6).toNat 0))).getD 0)), (50, .agg #[i6 (t1.getD (x3).toNat 0), i6 (t2.getD (x6).toNat 0)]), (49, i6 (t2.getD (x6).toNat 0)), (48, i6 (t1.getD (x3).toNat 0)), (47, .map (some g1)), (46, i6 x6), (45, .slice (some ⟨nx6, 0, none⟩) x7.length ((List.replicate ((t2.length : Int)).toNat (0 : Int)).length)), (44, pt g4_ (0 + (x3).toNat * 1)), (43, i6 x3), (42, .slice A4 x2.length c4), (12, i6 (t2.getD (x6).toNat 0)), (11, i6 x6), (5, .slice A1 t1.length c1), (6, .slice A2 t2.length c2), (7, .map (some g1)), (8, .slice A4 x2.length c4), (9, i6 x3), (10, i6 (t1.getD (x3).toNat 0)), (22, .slice A1 t1.length c1), (23, i6 (t1.length : Int)), (24, i6 x3), (35, .slice A2 t2.length c2), (36, i6 (t2.length : Int)), (37, i6 x6)]) (by rw [show x7.length = (List.replicate ((t2.length : Int)).toNat (0 : Int)).length from by first | rfl | assumption | (simp only [List.length_set]; assumption)]) rfl rfl rfl ?_
        obtain ⟨hib0, H⟩ := ifs H
        obtain ⟨hib1, H⟩ := ifs H
        have hx05_ := hib0; have hx15_ := hib1
        refine RL.ownAddr (e := 2) (sz := 1) (S := (some ⟨nx6, 0, none⟩)) (n := x7.length) (cap := (List.replicate ((t2.length : Int)).toNat (0 : Int)).length) (cs := cs8) 3 (by kernel_rfl) (by omega) (fun g5_ hA5_ => ?_)
        have hc5_ := Ty.int_own (Reps.ext hi10 hp11) x6 hib0 hib1
        refine RL.idx 1 .i64 x6 hA5_ x7.length ((List.replicate ((t2.length : Int)).toNat (0 : Int)).length) (some 52) (by kernel_rfl) (by kernel_rfl) (T := 27) (e := 2) (by kernel_rfl) (by kernel_rfl) hib0 hib1 (K' := [(52, pt g5_ (0 + (x6).toNat * 1)), (51, i6 ((mget t3 ((t1.getD (x3).toNat 0), (t2.getD (x6).toNat 0))).getD 0)), (50, .agg #[i6 (t1.getD (x3).toNat 0), i6 (t2.getD (x6).toNat 0)]), (49, i6 (t2.getD (x6).toNat 0)), (48, i6 (t1.getD (x3).toNat 0)), (47, .map (some g1)), (46, i6 x6), (45, .slice (some ⟨nx6, 0, none⟩) x7.length ((List.replicate ((t2.length : Int)).toNat (0 : Int)).length)), (44, pt g4_ (0 + (x3).toNat * 1)), (43, i6 x3), (42, .slice A4 x2.length c4), (12, i6 (t2.getD (x6).toNat 0)), (11, i6 x6), (5, .slice A1 t1.length c1), (6, .slice A2 t2.length c2), (7, .map (some g1)), (8, .slice A4 x2.length c4), (9, i6 x3), (10, i6 (t1.getD (x3).toNat 0)), (22, .slice A1 t1.length c1), (23, i6 (t1.length : Int)), (24, i6 x3), (35, .slice A2 t2.length c2), (36, i6 (t2.length : Int)), (37, i6 x6)]) (by kernel_rfl) ?_
        refine RL.storeL (T := 2) (e := 2) 1 3 hA5_ ((List.replicate ((t2.length : Int)).toNat (0 : Int)).length) x6 cs8 [i6 ((mget t3 ((t1.getD (x3).toNat 0), (t2.getD (x6).toNat 0))).getD 0)] (i6 ((mget t3 ((t1.getD (x3).toNat 0), (t2.getD (x6).toNat 0))).getD 0)) (Ty.int .i64) x7 ((mget t3 ((t1.getD (x3).toNat 0), (t2.getD (x6).toNat 0))).getD 0) (by kernel_rfl) (by kernel_rfl) (by kernel_rfl) (by kernel_rfl) (by kernel_rfl) rfl (by kernel_rfl) (Reps.ext hi10 hp11) hx05_ hx15_ (fun cs9 hp12 => ?_)
        refine RL.sub (K' := [(51, i6 ((mget t3 ((t1.getD (x3).toNat 0), (t2.getD (x6).toNat 0))).getD 0)), (50, .agg #[i6 (t1.getD (x3).toNat 0), i6 (t2.getD (x6).toNat 0)]), (49, i6 (t2.getD (x6).toNat 0)), (48, i6 (t1.getD (x3).toNat 0)), (47, .map (some g1)), (46, i6 x6), (45, .slice (some ⟨nx6, 0, none⟩) x7.length ((List.replicate ((t2.length : Int)).toNat (0 : Int)).length)), (44, pt g4_ (0 + (x3).toNat * 1)), (43, i6 x3), (42, .slice A4 x2.length c4), (12, i6 (t2.getD (x6).toNat 0)), (11, i6 x6), (5, .slice A1 t1.length c1), (6, .slice A2 t2.length c2), (7, .map (some g1)), (8, .slice A4 x2.length c4), (9, i6 x3), (10, i6 (t1.getD (x3).toNat 0)), (22, .slice A1 t1.length c1), (23, i6 (t1.length : Int)), (24, i6 x3), (35, .slice A2 t2.length c2), (36, i6 (t2.length : Int)), (37, i6 x6)]) (L' := []) (X' := [orow 3 1 A1 t1.length c1 cs1, orow 3 1 A2 t2.length c2 cs2, orow 27 1 A4 x2.length c4 cs6, orow 2 1 (some ⟨nx6, 0, none⟩) ((x7.set (x6).toNat ((mget t3 ((t1.getD (x3).toNat 0), (t2.getD (x6).toNat 0))).getD 0)).length) ((List.replicate ((t2.length : Int)).toNat (0 : Int)).length) cs9]) (by kernel_rfl) (.refl _) (.refl _) ?_
        refine RL.norm (K' := [(51, i6 ((mget t3 ((t1.getD (x3).toNat 0), (t2.getD (x6).toNat 0))).getD 0)), (50, .agg #[i6 (t1.getD (x3).toNat 0), i6 (t2.getD (x6).toNat 0)]), (49, i6 (t2.getD (x6).toNat 0)), (48, i6 (t1.getD (x3).toNat 0)), (47, .map (some g1)), (46, i6 x6), (45, .slice (some ⟨nx6, 0, none⟩) ((x7.set (x6).toNat ((mget t3 ((t1.getD (x3).toNat 0), (t2.getD (x6).toNat 0))).getD 0)).length) ((List.replicate ((t2.length : Int)).toNat (0 : Int)).length)), (44, pt g4_ (0 + (x3).toNat * 1)), (43, i6 x3), (42, .slice A4 x2.length c4), (12, i6 (t2.getD (x6).toNat 0)), (11, i6 x6), (5, .slice A1 t1.length c1), (6, .slice A2 t2.length c2), (7, .map (some g1)), (8, .slice A4 x2.length c4), (9, i6 x3), (10, i6 (t1.getD (x3).toNat 0)), (22, .slice A1 t1.length c1), (23, i6 (t1.length : Int)), (24, i6 x3), (35, .slice A2 t2.length c2), (36, i6 (t2.length : Int)), (37, i6 x6)]) (L' := []) (by simp only [List.length_set]) rfl (by first | rfl | simp only [List.length_set]) rfl ?_
        refine RL.nil (by kernel_rfl) ?_
        refine QN.sub (K' := [(5, .slice A1 t1.length c1), (6, .slice A2 t2.length c2), (7, .map (some g1)), (8, .slice A4 x2.length c4), (9, i6 x3), (10, i6 (t1.getD (x3).toNat 0)), (22, .slice A1 t1.length c1), (23, i6 (t1.length : Int)), (24, i6 x3), (35, .slice A2 t2.length c2), (36, i6 (t2.length : Int)), (37, i6 x6)]) (L' := []) (by kernel_rfl) .slnil (.refl _) ?_
        refine QN.blkN ?_
        refine QN.then_ ?_
        refine OK.rg ?_
        refine RL.s 2 [(37, i6 (W .i64 (x6 + 1))), (5, .slice A1 t1.length c1), (6, .slice A2 t2.length c2), (7, .map (some g1)), (8, .slice A4 x2.length c4), (9, i6 x3), (10, i6 (t1.getD (x3).toNat 0)), (22, .slice A1 t1.length c1), (23, i6 (t1.length : Int)), (24, i6 x3), (35, .slice A2 t2.length c2), (36, i6 (t2.length : Int))] ?_
        refine RL.nil (by kernel_rfl) ?_
        exact QN.sb (hJ5 _ _ _ _ _ ⟨W .i64 (x6 + 1), x7.set (x6).toNat ((mget t3 ((t1.getD (x3).toNat 0), (t2.getD (x6).toNat 0))).getD 0), cs9, rfl, rfl, rfl, (Imm.le_trans hi9 hi10), hp12, (by first | rfl | assumption | (simp only [List.length_set]; done) | (simp only [List.length_set]; assumption)), H⟩) .slnil (.refl _)
       ·skip
        have hc := (of_decide_eq_false hb)
        rw [if_neg hc] at H
        clear hb
        refine OK.ex 2 ?_
        refine QN.thenE ?_
        refine QN.outE hQ5 ?_
        refine QN.blkE ?_
        obtain rfl := Option.some.inj H
        exact QN.sb (hJ4 _ _ _ _ _ ⟨x7, cs8, rfl, rfl, rfl, hi9, hp11, (by first | rfl | assumption | (simp only [List.length_set]; done) | (simp only [List.length_set]; assumption)), HK3⟩) .slnil (.refl _)
   ·skip
    have hc := (of_decide_eq_false hb)
    rw [if_neg hc] at H
    clear hb
    refine OK.ex 0 ?_
    refine QN.thenE ?_
    refine QN.outE hQ2 ?_
    refine QN.blkE ?_
    obtain rfl := Option.some.inj H
    exact QN.sb (hJ1 _ _ _ _ _ ⟨x2, A4, c4, cs4, rfl, rfl, rfl, hi5, hp5, HK1⟩) .slnil (.refl _)

end Go.Proofs.Ytihmbmeelheinaa
namespace Go.Proofs.Ytihmbmeelheinaa
open Go Go.Proofs.Ytihmbmeelheinaa.RW
set_option linter.unusedVariables false
set_option maxRecDepth 100000
set_option maxHeartbeats 8000000

/-! ### assign_columns: function 46, armillary/assign.columns -/
noncomputable def K46_0 : Code := cBody Try.f46
def assign_columns.f (a0 : List (List Int)) : Option (Int) := (if (a0.length : Int) = 0 then (some 0) else (if 0 < (a0.length : Int) then (some ((a0.getD (0 : Int).toNat []).length : Int)) else none))
def assign_columns.Post (I : Imm) (w : World) (r : Int) (v : Value) (w' : World) : Prop :=
 ∃ (J : Imm), v = .int .i64 r ∧ Got w w' I J []
theorem assign_columns.calls (I0 : Imm) (a0 : List (List Int)) (Ap0 : Option Addr) (cp0 : Nat) (w : World) (hI : I0.at_ w) (hlp0 : a0.length ≤ cp0) (hrp0 : Rd (Ty.slice (Ty.int .i64)) I0 Ap0 a0) (r : Int) (h : assign_columns.f a0 = some r) :
  Calls Try.prog 46 [.slice Ap0 a0.length cp0].toArray w fun e w' => ∃ v, e = .returned v ∧ assign_columns.Post I0 w r v w' := by
 have H : (if (a0.length : Int) = 0 then (some 0) else (if 0 < (a0.length : Int) then (some ((a0.getD (0 : Int).toNat []).length : Int)) else none)) = some r := h
 clear h
 refine calls_body Try.func46 (by kernel_rfl) 10 (by kernel_rfl) (by kernel_rfl) ⟨w, fun _ => False, I0⟩ I0 [] [(0, .slice Ap0 a0.length cp0)] (by kernel_rfl) (Sat.start w _ I0 hI) ?_
 generalize w.heap.size = nx0
 show OK _ K46_0 _ _ _ _ _ _ _ _
 refine OK.sr ?_
 refine RL.st 1 [(0, .slice Ap0 a0.length cp0)] ?_
 refine OK.sq ?_
 refine OK.sr ?_
 refine RL.st 3 [(5, .bool ((a0.length : Int) == 0)), (0, .slice Ap0 a0.length cp0)] ?_
 refine OK.cd ((a0.length : Int) == 0) (fun hb => ?_) (fun hb => ?_)
 ·skip
  have hc := (beq_iff_eq.1 hb)
  rw [if_pos hc] at H
  clear hb
  refine OK.sr ?_
  refine RL.st 1 [(2, i6 0)] ?_
  refine OK.re ?_
  refine QN.thenR ?_
  obtain rfl := Option.some.inj H
  refine QN.body rfl [] (RFacts.nil _ _ _) (.no) (i6 0) (by kernel_rfl) (by kernel_rfl) (by kernel_rfl) ?_ _ (.inr rfl)
  exact fun w' hs' => ⟨_, rfl, I0, rfl, hs'.got _ .slnil⟩
 ·skip
  have hc := (beq_eq_false_iff_ne.1 hb)
  rw [if_neg hc] at H
  clear hb
  refine OK.skt ?_
  refine OK.sr ?_
  refine RL.s 1 [(6, .slice Ap0 a0.length cp0)] ?_
  have hib0 : (0 : Int) ≤ 0 := by decide
  obtain ⟨hib1, H⟩ := ifs H
  obtain ⟨g1_, o1_, hA1_, A1_, c1_, hl1_, hr1_, hc1_⟩ := Ty.slice_at hrp0 0 hib0 hib1
  refine RL.idx 1 .i64 0 hA1_ a0.length cp0 (some 7) (by kernel_rfl) (by kernel_rfl) (T := 33) (e := 27) (by kernel_rfl) (by kernel_rfl) hib0 hib1 (K' := [(7, pt g1_ (o1_ + (0 : Int).toNat * 1)), (6, .slice Ap0 a0.length cp0)]) (by kernel_rfl) ?_
  refine RL.simK (K' := [(2, i6 ((a0.getD (0 : Int).toNat []).length : Int))]) [(⟨g1_, o1_ + (0 : Int).toNat * 1, none⟩, .slice A1_ ((a0.getD (0 : Int).toNat []).length) c1_)] (RFacts.imm (hc1_ 0 _ rfl) (RFacts.nil _ _ _)) 3 [.r 0, .no, .no] (by kernel_rfl) (by kernel_rfl) ?_
  refine RL.nt ?_
  refine OK.re ?_
  obtain rfl := Option.some.inj H
  refine QN.body rfl [] (RFacts.nil _ _ _) (.no) (i6 ((a0.getD (0 : Int).toNat []).length : Int)) (by kernel_rfl) (by kernel_rfl) (by kernel_rfl) ?_ _ (.inr rfl)
  exact fun w' hs' => ⟨_, rfl, I0, rfl, hs'.got _ .slnil⟩

end Go.Proofs.Ytihmbmeelheinaa
namespace Go.Proofs.Ytihmbmeelheinaa
open Go Go.Proofs.Ytihmbmeelheinaa.RW
set_option linter.unusedVariables false
set_option maxRecDepth 100000
set_option maxHeartbeats 8000000

/-! ### assign_pad: function 47, armillary/assign.pad -/
noncomputable def K47_0 : Code := cBody Try.f47
def assign_pad.k1  (x1 : List Int) : Option (List Int) := (some x1)
def assign_pad.k3  (x5 : List Int) : Option (List Int) := (some x5)
def assign_pad.l2 (a0 : List (List Int)) (a2 : List Bool) (x3 : Int) : Nat → (List Int) → Int → Option (List Int)
 | 0, _, _ => none
 | k + 1, x6, x7 => (if x7 < ((a0.getD (x3).toNat []).length : Int) then (if 0 ≤ x7 then (if x7 < ((a0.getD (x3).toNat []).length : Int) then (if 0 ≤ x7 then (if x7 < (a2.length : Int) then ((if (a2.getD (x7).toNat false) = true then (some x6) else (if 0 ≤ x3 then (if x3 < (12 : Int) then (if 0 ≤ x7 then (if x7 < (12 : Int) then (some (x6.set ((x3).toNat * 12 + (x7).toNat) ((a0.getD (x3).toNat []).getD (x7).toNat 0))) else none) else none) else none) else none)).bind (fun x8 => (assign_pad.l2 a0 a2 x3 k x8 (W .i64 (x7 + 1))))) else none) else none) else none) else none) else (some x6))
def assign_pad.l1 (a0 : List (List Int)) (a2 : List Bool) : Nat → (List Int) → Int → Option (List Int)
 | 0, _, _ => none
 | k + 1, x2, x3 => (if x3 < (a0.length : Int) then ((if 0 ≤ x3 then (if x3 < (a0.length : Int) then ((assign_pad.l2 a0 a2 x3 k x2 0).bind (assign_pad.k3)) else none) else none).bind (fun x4 => (assign_pad.l1 a0 a2 k x4 (W .i64 (x3 + 1))))) else (some x2))
def assign_pad.f (k : Nat) (a0 : List (List Int)) (a1 : Int) (a2 : List Bool) : Option (List Int) := ((assign_pad.l1 a0 a2 k (List.replicate 144 0) a1).bind (assign_pad.k1))
def assign_pad.Post (I : Imm) (w : World) (r : List Int) (v : Value) (w' : World) : Prop :=
 ∃ (J : Imm), v = .agg (arrV (Value.int .i64) 0 144 r).toArray ∧ Got w w' I J [] ∧ 144 ≤ r.length
theorem assign_pad.calls (k : Nat) (I0 : Imm) (a0 : List (List Int)) (Ap0 : Option Addr) (cp0 : Nat) (a1 : Int) (a2 : List Bool) (Ap2 : Option Addr) (cp2 : Nat) (w : World) (hI : I0.at_ w) (hlp0 : a0.length ≤ cp0) (hrp0 : Rd (Ty.slice (Ty.int .i64)) I0 Ap0 a0) (hlp2 : a2.length ≤ cp2) (hrp2 : Rd Ty.bool I0 Ap2 a2) (r : List Int) (h : assign_pad.f k a0 a1 a2 = some r) :
  Calls Try.prog 47 [.slice Ap0 a0.length cp0, i6 a1, .slice Ap2 a2.length cp2].toArray w fun e w' => ∃ v, e = .returned v ∧ assign_pad.Post I0 w r v w' := by
 have H : ((assign_pad.l1 a0 a2 k (List.replicate 144 0) a1).bind (assign_pad.k1)) = some r := h
 clear h
 refine calls_body Try.func47 (by kernel_rfl) 40 (by kernel_rfl) (by kernel_rfl) ⟨w, fun _ => False, I0⟩ I0 [] [(0, .slice Ap0 a0.length cp0), (1, i6 a1), (2, .slice Ap2 a2.length cp2)] (by kernel_rfl) (Sat.start w _ I0 hI) ?_
 generalize w.heap.size = nx0
 show OK _ K47_0 _ _ _ _ _ _ _ _
 refine OK.sr ?_
 refine RL.spt 1 [(6, pt nx0 0), (0, .slice Ap0 a0.length cp0), (1, i6 a1), (2, .slice Ap2 a2.length cp2)] (nx0 + 1) [⟨nx0, arrV (Value.int .i64) 0 144 (List.replicate 144 0), 85⟩] ?_
 refine OK.sr ?_
 refine RL.spt 1 [(7, pt (nx0 + 1) 0), (6, pt nx0 0), (0, .slice Ap0 a0.length cp0), (1, i6 a1), (2, .slice Ap2 a2.length cp2)] (nx0 + 2) [⟨nx0, arrV (Value.int .i64) 0 144 (List.replicate 144 0), 85⟩, ⟨nx0 + 1, arrV (Value.int .i64) 0 144 (List.replicate 144 0), 85⟩] ?_
 refine OK.sq ?_
 refine OK.sr ?_
 refine RL.st 2 [(8, i6 a1), (7, pt (nx0 + 1) 0), (6, pt nx0 0), (0, .slice Ap0 a0.length cp0), (2, .slice Ap2 a2.length cp2)] ?_
 refine OK.join (fun K' I' _ L' X' => ∃ (x1 : List Int), K' = [(6, pt nx0 0), (7, pt (nx0 + 1) 0)] ∧ L' = [⟨nx0, arrV (Value.int .i64) 0 144 (List.replicate 144 0), 85⟩, ⟨nx0 + 1, arrV (Value.int .i64) 0 144 x1, 85⟩] ∧ X' = [] ∧ Imm.le I0 I' ∧ 144 ≤ x1.length ∧ assign_pad.k1 x1 = some r) ?_ ?_
 ·rintro _ I1 nx1 _ _ ⟨x1, rfl, rfl, rfl, hi1, hz1, H⟩
  rw [assign_pad.k1] at H
  refine QN.then_ ?_
  refine OK.sr ?_
  refine RL.simP (K' := [(6, pt nx0 0)]) (nx' := nx1) (L' := [⟨nx0, arrV (Value.int .i64) 0 144 x1, 85⟩, ⟨nx0 + 1, arrV (Value.int .i64) 0 144 x1, 85⟩]) [] (RFacts.nil _ _ _) 2 [.l 1, .l 0] (by kernel_rfl) (by kernel_rfl) ?_
  refine RL.nt ?_
  refine OK.re ?_
  obtain rfl := Option.some.inj H
  refine QN.body rfl [] (RFacts.nil _ _ _) (.l 0) (.agg (arrV (Value.int .i64) 0 144 x1).toArray) (by kernel_rfl) (by kernel_rfl) (by kernel_rfl) ?_ _ (.inr rfl)
  exact fun w' hs' => ⟨_, rfl, I1, rfl, hs'.got _ .slnil, hz1⟩
 ·intro Q_1 hJ1 hQ1
  obtain ⟨y1, H, HK1⟩ := bnd H
  refine OK.bk 0 ?_
  refine OK.sub (K' := [(0, .slice Ap0 a0.length cp0), (2, .slice Ap2 a2.length cp2), (6, pt nx0 0), (7, pt (nx0 + 1) 0), (8, i6 a1)]) (L' := [⟨nx0, arrV (Value.int .i64) 0 144 (List.replicate 144 0), 85⟩, ⟨nx0 + 1, arrV (Value.int .i64) 0 144 (List.replicate 144 0), 85⟩]) (by kernel_rfl) (.cons_cons _ (.cons_cons _ .slnil)) (.refl _) ?_
  refine OK.lp (fun n_ K' I' _ L' X' => ∃ (x2 : List Int) (x3 : Int), K' = [(0, .slice Ap0 a0.length cp0), (2, .slice Ap2 a2.length cp2), (6, pt nx0 0), (7, pt (nx0 + 1) 0), (8, i6 x3)] ∧ L' = [⟨nx0, arrV (Value.int .i64) 0 144 (List.replicate 144 0), 85⟩, ⟨nx0 + 1, arrV (Value.int .i64) 0 144 x2, 85⟩] ∧ X' = [] ∧ Imm.le I0 I' ∧ 144 ≤ x2.length ∧ assign_pad.l1 a0 a2 n_ x2 x3 = some y1) k ⟨(List.replicate 144 0), a1, rfl, rfl, rfl, (Imm.le_refl _), (Nat.le_of_eq List.length_replicate.symm), H⟩ ?_ ?_
  ·rintro _ _ _ _ _ ⟨x2, x3, rfl, rfl, rfl, _, hz2, H⟩
   cases H
  ·rintro kq1 _ I2 nx2 _ _ ⟨x2, x3, rfl, rfl, rfl, hi2, hz2, H⟩ Q_l1 hJ2 hQ2
   rw [assign_pad.l1] at H
   refine OK.sq ?_
   refine OK.sr ?_
   refine RL.st 4 [(15, .bool (decide (x3 < (a0.length : Int)))), (0, .slice Ap0 a0.length cp0), (2, .slice Ap2 a2.length cp2), (6, pt nx0 0), (7, pt (nx0 + 1) 0), (8, i6 x3)] ?_
   refine OK.cd (decide (x3 < (a0.length : Int))) (fun hb => ?_) (fun hb => ?_)
   ·skip
    have hc := (of_decide_eq_true hb)
    rw [if_pos hc] at H
    clear hb
    refine OK.skt ?_
    refine OK.sq ?_
    refine OK.join (fun K' I' _ L' X' => ∃ (x4 : List Int), K' = [(0, .slice Ap0 a0.length cp0), (2, .slice Ap2 a2.length cp2), (6, pt nx0 0), (7, pt (nx0 + 1) 0), (8, i6 x3)] ∧ L' = [⟨nx0, arrV (Value.int .i64) 0 144 (List.replicate 144 0), 85⟩, ⟨nx0 + 1, arrV (Value.int .i64) 0 144 x4, 85⟩] ∧ X' = [] ∧ Imm.le I2 I' ∧ 144 ≤ x4.length ∧ (assign_pad.l1 a0 a2 kq1 x4 (W .i64 (x3 + 1))) = some y1) ?_ ?_
    ·rintro _ I3 nx3 _ _ ⟨x4, rfl, rfl, rfl, hi3, hz3, H⟩
     replace H : (assign_pad.l1 a0 a2 kq1 x4 (W .i64 (x3 + 1))) = some y1 := H
     refine QN.then_ ?_
     refine OK.rg ?_
     refine RL.s 3 [(8, i6 (W .i64 (x3 + 1))), (0, .slice Ap0 a0.length cp0), (2, .slice Ap2 a2.length cp2), (6, pt nx0 0), (7, pt (nx0 + 1) 0)] ?_
     refine RL.nil (by kernel_rfl) ?_
     exact QN.sb (hJ2 _ _ _ _ _ ⟨x4, W .i64 (x3 + 1), rfl, rfl, rfl, (Imm.le_trans hi2 hi3), hz3, H⟩) (.cons_cons _ (.cons_cons _ .slnil)) (.refl _)
    ·intro Q_2 hJ3 hQ3
     obtain ⟨y2, H, HK2⟩ := bnd H
     refine OK.bk 1 ?_
     refine OK.sr ?_
     refine RL.s 2 [(19, i6 x3), (18, .slice Ap0 a0.length cp0), (0, .slice Ap0 a0.length cp0), (2, .slice Ap2 a2.length cp2), (6, pt nx0 0), (7, pt (nx0 + 1) 0), (8, i6 x3)] ?_
     obtain ⟨hib0, H⟩ := ifs H
     obtain ⟨hib1, H⟩ := ifs H
     obtain ⟨g1_, o1_, hA1_, A1_, c1_, hl1_, hr1_, hc1_⟩ := Ty.slice_at (Rd.ext hi2 hrp0) x3 hib0 hib1
     refine RL.idx 1 .i64 x3 hA1_ a0.length cp0 (some 20) (by kernel_rfl) (by kernel_rfl) (T := 33) (e := 27) (by kernel_rfl) (by kernel_rfl) hib0 hib1 (K' := [(20, pt g1_ (o1_ + (x3).toNat * 1)), (19, i6 x3), (18, .slice Ap0 a0.length cp0), (0, .slice Ap0 a0.length cp0), (2, .slice Ap2 a2.length cp2), (6, pt nx0 0), (7, pt (nx0 + 1) 0), (8, i6 x3)]) (by kernel_rfl) ?_
     refine RL.simK (K' := [(23, i6 0), (22, i6 ((a0.getD (x3).toNat []).length : Int)), (21, .slice A1_ ((a0.getD (x3).toNat []).length) c1_), (0, .slice Ap0 a0.length cp0), (2, .slice Ap2 a2.length cp2), (6, pt nx0 0), (7, pt (nx0 + 1) 0), (8, i6 x3)]) [(⟨g1_, o1_ + (x3).toNat * 1, none⟩, .slice A1_ ((a0.getD (x3).toNat []).length) c1_)] (RFacts.imm (hc1_ 0 _ rfl) (RFacts.nil _ _ _)) 3 [.r 0, .no, .no] (by kernel_rfl) (by kernel_rfl) ?_
     refine RL.nt ?_
     refine OK.join (fun K' I' _ L' X' => ∃ (x5 : List Int), K' = [(0, .slice Ap0 a0.length cp0), (2, .slice Ap2 a2.length cp2), (6, pt nx0 0), (7, pt (nx0 + 1) 0), (8, i6 x3)] ∧ L' = [⟨nx0, arrV (Value.int .i64) 0 144 (List.replicate 144 0), 85⟩, ⟨nx0 + 1, arrV (Value.int .i64) 0 144 x5, 85⟩] ∧ X' = [] ∧ Imm.le I2 I' ∧ 144 ≤ x5.length ∧ assign_pad.k3 x5 = some y2) ?_ ?_
     ·rintro _ I4 nx4 _ _ ⟨x5, rfl, rfl, rfl, hi4, hz4, H⟩
      rw [assign_pad.k3] at H
      refine QN.blkN ?_
      obtain rfl := Option.some.inj H
      exact QN.sb (hJ3 _ _ _ _ _ ⟨x5, rfl, rfl, rfl, hi4, hz4, HK2⟩) (.cons_cons _ (.cons_cons _ .slnil)) (.refl _)
     ·intro Q_3 hJ4 hQ4
      obtain ⟨y3, H, HK3⟩ := bnd H
      refine OK.bk 2 ?_
      refine OK.sub (K' := [(0, .slice Ap0 a0.length cp0), (2, .slice Ap2 a2.length cp2), (6, pt nx0 0), (7, pt (nx0 + 1) 0), (8, i6 x3), (21, .slice A1_ ((a0.getD (x3).toNat []).length) c1_), (22, i6 ((a0.getD (x3).toNat []).length : Int)), (23, i6 0)]) (L' := [⟨nx0, arrV (Value.int .i64) 0 144 (List.replicate 144 0), 85⟩, ⟨nx0 + 1, arrV (Value.int .i64) 0 144 x2, 85⟩]) (by kernel_rfl) (.cons_cons _ (.cons_cons _ .slnil)) (.refl _) ?_
      refine OK.lp (fun n_ K' I' _ L' X' => ∃ (x6 : List Int) (x7 : Int), K' = [(0, .slice Ap0 a0.length cp0), (2, .slice Ap2 a2.length cp2), (6, pt nx0 0), (7, pt (nx0 + 1) 0), (8, i6 x3), (21, .slice A1_ ((a0.getD (x3).toNat []).length) c1_), (22, i6 ((a0.getD (x3).toNat []).length : Int)), (23, i6 x7)] ∧ L' = [⟨nx0, arrV (Value.int .i64) 0 144 (List.replicate 144 0), 85⟩, ⟨nx0 + 1, arrV (Value.int .i64) 0 144 x6, 85⟩] ∧ X' = [] ∧ Imm.le I2 I' ∧ 144 ≤ x6.length ∧ assign_pad.l2 a0 a2 x3 n_ x6 x7 = some y3) kq1 ⟨x2, 0, rfl, rfl, rfl, (Imm.le_refl _), hz2, H⟩ ?_ ?_
      ·rintro _ _ _ _ _ ⟨x6, x7, rfl, rfl, rfl, _, hz5, H⟩
       cases H
      ·rintro kq2 _ I5 nx5 _ _ ⟨x6, x7, rfl, rfl, rfl, hi5, hz5, H⟩ Q_l2 hJ5 hQ5
       rw [assign_pad.l2] at H
       refine OK.sr ?_
       refine RL.st 1 [(24, .bool (decide (x7 < ((a0.getD (x3).toNat []).length : Int)))), (0, .slice Ap0 a0.length cp0), (2, .slice Ap2 a2.length cp2), (6, pt nx0 0), (7, pt (nx0 + 1) 0), (8, i6 x3), (21, .slice A1_ ((a0.getD (x3).toNat []).length) c1_), (22, i6 ((a0.getD (x3).toNat []).length : Int)), (23, i6 x7)] ?_
       refine OK.sq ?_
       refine OK.cd (decide (x7 < ((a0.getD (x3).toNat []).length : Int))) (fun hb => ?_) (fun hb => ?_)
       ·skip
        have hc := (of_decide_eq_true hb)
        rw [if_pos hc] at H
        clear hb
        refine OK.skt ?_
        refine OK.sq ?_
        refine OK.bk 3 ?_
        refine OK.sr ?_
        refine RL.s 1 [(25, i6 x7), (0, .slice Ap0 a0.length cp0), (2, .slice Ap2 a2.length cp2), (6, pt nx0 0), (7, pt (nx0 + 1) 0), (8, i6 x3), (21, .slice A1_ ((a0.getD (x3).toNat []).length) c1_), (22, i6 ((a0.getD (x3).toNat []).length : Int)), (23, i6 x7)] ?_
        obtain ⟨hib0, H⟩ := ifs H
        obtain ⟨hib1, H⟩ := ifs H
        obtain ⟨g2_, o2_, hA2_, hc2_⟩ := Ty.int_at (Rd.ext hi5 hr1_) x7 hib0 hib1
        refine RL.idx 1 .i64 x7 hA2_ ((a0.getD (x3).toNat []).length) c1_ (some 26) (by kernel_rfl) (by kernel_rfl) (T := 27) (e := 2) (by kernel_rfl) (by kernel_rfl) hib0 hib1 (K' := [(26, pt g2_ (o2_ + (x7).toNat * 1)), (25, i6 x7), (0, .slice Ap0 a0.length cp0), (2, .slice Ap2 a2.length cp2), (6, pt nx0 0), (7, pt (nx0 + 1) 0), (8, i6 x3), (21, .slice A1_ ((a0.getD (x3).toNat []).length) c1_), (22, i6 ((a0.getD (x3).toNat []).length : Int)), (23, i6 x7)]) (by kernel_rfl) ?_
        refine RL.simK (K' := [(10, i6 ((a0.getD (x3).toNat []).getD (x7).toNat 0)), (9, i6 x7), (0, .slice Ap0 a0.length cp0), (2, .slice Ap2 a2.length cp2), (6, pt nx0 0), (7, pt (nx0 + 1) 0), (8, i6 x3), (21, .slice A1_ ((a0.getD (x3).toNat []).length) c1_), (22, i6 ((a0.getD (x3).toNat []).length : Int)), (23, i6 x7)]) [(⟨g2_, o2_ + (x7).toNat * 1, none⟩, i6 ((a0.getD (x3).toNat []).getD (x7).toNat 0))] (RFacts.imm (hc2_ 0 _ rfl) (RFacts.nil _ _ _)) 3 [.r 0, .no, .no] (by kernel_rfl) (by kernel_rfl) ?_
        refine RL.nt ?_
        refine OK.sr ?_
        refine RL.s 2 [(29, i6 x7), (28, .slice Ap2 a2.length cp2), (10, i6 ((a0.getD (x3).toNat []).getD (x7).toNat 0)), (9, i6 x7), (0, .slice Ap0 a0.length cp0), (2, .slice Ap2 a2.length cp2), (6, pt nx0 0), (7, pt (nx0 + 1) 0), (8, i6 x3), (21, .slice A1_ ((a0.getD (x3).toNat []).length) c1_), (22, i6 ((a0.getD (x3).toNat []).length : Int)), (23, i6 x7)] ?_
        obtain ⟨hib0, H⟩ := ifs H
        obtain ⟨hib1, H⟩ := ifs H
        obtain ⟨g3_, o3_, hA3_, hc3_⟩ := Ty.bool_at (Rd.ext (Imm.le_trans hi2 hi5) hrp2) x7 hib0 hib1
        refine RL.idx 1 .i64 x7 hA3_ a2.length cp2 (some 30) (by kernel_rfl) (by kernel_rfl) (T := 44) (e := 4) (by kernel_rfl) (by kernel_rfl) hib0 hib1 (K' := [(30, pt g3_ (o3_ + (x7).toNat * 1)), (29, i6 x7), (28, .slice Ap2 a2.length cp2), (10, i6 ((a0.getD (x3).toNat []).getD (x7).toNat 0)), (9, i6 x7), (0, .slice Ap0 a0.length cp0), (2, .slice Ap2 a2.length cp2), (6, pt nx0 0), (7, pt (nx0 + 1) 0), (8, i6 x3), (21, .slice A1_ ((a0.getD (x3).toNat []).length) c1_), (22, i6 ((a0.getD (x3).toNat []).length : Int)), (23, i6 x7)]) (by kernel_rfl) ?_
        refine RL.simK (K' := [(32, .bool (!(a2.getD (x7).toNat false))), (10, i6 ((a0.getD (x3).toNat []).getD (x7).toNat 0)), (9, i6 x7), (0, .slice Ap0 a0.length cp0), (2, .slice Ap2 a2.length cp2), (6, pt nx0 0), (7, pt (nx0 + 1) 0), (8, i6 x3), (21, .slice A1_ ((a0.getD (x3).toNat []).length) c1_), (22, i6 ((a0.getD (x3).toNat []).length : Int)), (23, i6 x7)]) [(⟨g3_, o3_ + (x7).toNat * 1, none⟩, .bool (a2.getD (x7).toNat false))] (RFacts.imm (hc3_ 0 _ rfl) (RFacts.nil _ _ _)) 2 [.r 0, .no] (by kernel_rfl) (by kernel_rfl) ?_
        refine RL.nt ?_
        refine OK.join (fun K' I' _ L' X' => ∃ (x8 : List Int), K' = [(0, .slice Ap0 a0.length cp0), (2, .slice Ap2 a2.length cp2), (6, pt nx0 0), (7, pt (nx0 + 1) 0), (8, i6 x3), (21, .slice A1_ ((a0.getD (x3).toNat []).length) c1_), (22, i6 ((a0.getD (x3).toNat []).length : Int)), (23, i6 x7)] ∧ L' = [⟨nx0, arrV (Value.int .i64) 0 144 (List.replicate 144 0), 85⟩, ⟨nx0 + 1, arrV (Value.int .i64) 0 144 x8, 85⟩] ∧ X' = [] ∧ Imm.le I5 I' ∧ 144 ≤ x8.length ∧ (assign_pad.l2 a0 a2 x3 kq2 x8 (W .i64 (x7 + 1))) = some y3) ?_ ?_
        ·rintro _ I6 nx6 _ _ ⟨x8, rfl, rfl, rfl, hi6, hz6, H⟩
         replace H : (assign_pad.l2 a0 a2 x3 kq2 x8 (W .i64 (x7 + 1))) = some y3 := H
         refine QN.blkN ?_
         refine QN.then_ ?_
         refine OK.rg ?_
         refine RL.s 2 [(23, i6 (W .i64 (x7 + 1))), (0, .slice Ap0 a0.length cp0), (2, .slice Ap2 a2.length cp2), (6, pt nx0 0), (7, pt (nx0 + 1) 0), (8, i6 x3), (21, .slice A1_ ((a0.getD (x3).toNat []).length) c1_), (22, i6 ((a0.getD (x3).toNat []).length : Int))] ?_
         refine RL.nil (by kernel_rfl) ?_
         exact QN.sb (hJ5 _ _ _ _ _ ⟨x8, W .i64 (x7 + 1), rfl, rfl, rfl, (Imm.le_trans hi5 hi6), hz6, H⟩) (.cons_cons _ (.cons_cons _ .slnil)) (.refl _)
        ·intro Q_4 hJ6 hQ6
         obtain ⟨y4, H, HK4⟩ := bnd H
         refine OK.cd (!(a2.getD (x7).toNat false)) (fun hb => ?_) (fun hb => ?_)
         ·have hb : (a2.getD (x7).toNat false) = false := by simpa using hb
          have hc := (Bool.eq_false_iff.1 hb)
          rw [if_neg hc] at H
          clear hb
          refine OK.rg ?_
          refine RL.s 3 [(35, i6 ((a0.getD (x3).toNat []).getD (x7).toNat 0)), (34, i6 x7), (33, i6 x3), (0, .slice Ap0 a0.length cp0), (2, .slice Ap2 a2.length cp2), (6, pt nx0 0), (7, pt (nx0 + 1) 0), (8, i6 x3), (21, .slice A1_ ((a0.getD (x3).toNat []).length) c1_), (22, i6 ((a0.getD (x3).toNat []).length : Int)), (23, i6 x7)] ?_
          obtain ⟨hib0, H⟩ := ifs H
          obtain ⟨hib1, H⟩ := ifs H
          have ha04 := hib0; have ha14 := hib1
          refine RL.idxArr (T := 85) (e := 83) 12 .i64 x3 (nx0 + 1) (0) 12 (some 36) (by kernel_rfl) (by kernel_rfl) (by kernel_rfl) (by kernel_rfl) hib0 hib1 (K' := [(36, pt (nx0 + 1) (0 + (x3).toNat * 12)), (35, i6 ((a0.getD (x3).toNat []).getD (x7).toNat 0)), (34, i6 x7), (33, i6 x3), (0, .slice Ap0 a0.length cp0), (2, .slice Ap2 a2.length cp2), (6, pt nx0 0), (7, pt (nx0 + 1) 0), (8, i6 x3), (21, .slice A1_ ((a0.getD (x3).toNat []).length) c1_), (22, i6 ((a0.getD (x3).toNat []).length : Int)), (23, i6 x7)]) (by kernel_rfl) ?_
          obtain ⟨hib0, H⟩ := ifs H
          obtain ⟨hib1, H⟩ := ifs H
          have ha05 := hib0; have ha15 := hib1
          refine RL.idxArr (T := 83) (e := 2) 1 .i64 x7 (nx0 + 1) (0 + (x3).toNat * 12) 12 (some 37) (by kernel_rfl) (by kernel_rfl) (by kernel_rfl) (by kernel_rfl) hib0 hib1 (K' := [(37, pt (nx0 + 1) (0 + (x3).toNat * 12 + (x7).toNat * 1)), (36, pt (nx0 + 1) (0 + (x3).toNat * 12)), (35, i6 ((a0.getD (x3).toNat []).getD (x7).toNat 0)), (34, i6 x7), (33, i6 x3), (0, .slice Ap0 a0.length cp0), (2, .slice Ap2 a2.length cp2), (6, pt nx0 0), (7, pt (nx0 + 1) 0), (8, i6 x3), (21, .slice A1_ ((a0.getD (x3).toNat []).length) c1_), (22, i6 ((a0.getD (x3).toNat []).length : Int)), (23, i6 x7)]) (by kernel_rfl) ?_
          refine RL.stA (g := nx0 + 1) (ty := 85) (cs := arrV (Value.int .i64) 0 144 x6) (Value.int .i64) 0 144 x6 ((a0.getD (x3).toNat []).getD (x7).toNat 0) [] [] 0 ((x3).toNat * 12 + (x7).toNat) 1 (by kernel_rfl) (by kernel_rfl) (by kernel_rfl) (by omega) hz5 (0 + (x3).toNat * 12 + (x7).toNat * 1) (by omega) 2 (by kernel_rfl) (by kernel_rfl) (by kernel_rfl) (by rfl) (fun _ h => by cases h) (fun _ h => by cases h) (cs' := arrV (Value.int .i64) 0 144 (x6.set ((x3).toNat * 12 + (x7).toNat) ((a0.getD (x3).toNat []).getD (x7).toNat 0))) (by kernel_rfl) ?_
          refine RL.nil (by kernel_rfl) ?_
          refine QN.sub (K' := [(0, .slice Ap0 a0.length cp0), (2, .slice Ap2 a2.length cp2), (6, pt nx0 0), (7, pt (nx0 + 1) 0), (8, i6 x3), (21, .slice A1_ ((a0.getD (x3).toNat []).length) c1_), (22, i6 ((a0.getD (x3).toNat []).length : Int)), (23, i6 x7)]) (L' := [⟨nx0, arrV (Value.int .i64) 0 144 (List.replicate 144 0), 85⟩, ⟨nx0 + 1, arrV (Value.int .i64) 0 144 (x6.set ((x3).toNat * 12 + (x7).toNat) ((a0.getD (x3).toNat []).getD (x7).toNat 0)), 85⟩]) (by kernel_rfl) (.cons_cons _ (.cons_cons _ .slnil)) (.refl _) ?_
          obtain rfl := Option.some.inj H
          exact QN.sb (hJ6 _ _ _ _ _ ⟨(x6.set ((x3).toNat * 12 + (x7).toNat) ((a0.getD (x3).toNat []).getD (x7).toNat 0)), rfl, rfl, rfl, (Imm.le_refl _), (le_set hz5), HK4⟩) (.cons_cons _ (.cons_cons _ .slnil)) (.refl _)
         ·have hb : (a2.getD (x7).toNat false) = true := by simpa using hb
          have hc := hb
          rw [if_pos hc] at H
          clear hb
          refine OK.sk ?_
          obtain rfl := Option.some.inj H
          exact QN.sb (hJ6 _ _ _ _ _ ⟨x6, rfl, rfl, rfl, (Imm.le_refl _), hz5, HK4⟩) (.cons_cons _ (.cons_cons _ .slnil)) (.refl _)
       ·skip
        have hc := (of_decide_eq_false hb)
        rw [if_neg hc] at H
        clear hb
        refine OK.ex 2 ?_
        refine QN.thenE ?_
        refine QN.outE hQ5 ?_
        refine QN.blkE ?_
        obtain rfl := Option.some.inj H
        exact QN.sb (hJ4 _ _ _ _ _ ⟨x6, rfl, rfl, rfl, hi5, hz5, HK3⟩) (.cons_cons _ (.cons_cons _ .slnil)) (.refl _)
   ·skip
    have hc := (of_decide_eq_false hb)
    rw [if_neg hc] at H
    clear hb
    refine OK.ex 0 ?_
    refine QN.thenE ?_
    refine QN.outE hQ2 ?_
    refine QN.blkE ?_
    obtain rfl := Option.some.inj H
    exact QN.sb (hJ1 _ _ _ _ _ ⟨x2, rfl, rfl, rfl, hi2, hz2, HK1⟩) (.cons_cons _ (.cons_cons _ .slnil)) (.refl _)

end Go.Proofs.Ytihmbmeelheinaa
namespace Go.Proofs.Ytihmbmeelheinaa
open Go Go.Proofs.Ytihmbmeelheinaa.RW
set_option linter.unusedVariables false
set_option maxRecDepth 100000
set_option maxHeartbeats 8000000

/-! ### assign_solution_augment_1s0: function 60, (*armillary/assign.solution).augment$1 -/
noncomputable def K60s0_0 : Code := cBody Try.f60
noncomputable def O60s0_18 : List Oper := cOps (cR (cL (cL (cR (cR (cL (cL (cR (cL K60s0_0)))))))))
noncomputable def O60s0_43 : List Oper := cOps (cL (cR (cR (cL (cL (cR (cR (cL (cL (cR (cR K60s0_0)))))))))))
def assign_solution_augment_1s0.k1 (b2 : S89) (x1 : List Int) : List Int × List Int → Option (S89 × List Int)
 | (x2, x3) => (some ((⟨b2.f0, x1, x2⟩ : S89), x3))
def assign_solution_augment_1s0.l1 (a0 : Int) (b3 : List Bool) : Nat → (List Int) → (List Int) → Int → Option (List Int × List Int)
 | 0, _, _, _ => none
 | k + 1, x4, x5, x6 => (if x6 < 12 then (if 0 ≤ x6 then (if x6 < (12 : Int) then ((if (b3.getD ((x6).toNat) false) = true then (if 0 ≤ x6 then (if x6 < (12 : Int) then (if 0 ≤ x6 then (if x6 < (12 : Int) then (some ((x4.set ((x6).toNat) (W .i64 ((x4.getD ((x6).toNat) 0) + a0))), x5)) else none) else none) else none) else none) else (if 0 ≤ x6 then (if x6 < (12 : Int) then (if 0 ≤ x6 then (if x6 < (12 : Int) then (some (x4, (x5.set ((x6).toNat) (W .i64 ((x5.getD ((x6).toNat) 0) - a0))))) else none) else none) else none) else none)).bind (fun (x7, x8) => (assign_solution_augment_1s0.l1 a0 b3 k x7 x8 (W .i64 (x6 + 1))))) else none) else none) else (some (x4, x5)))
def assign_solution_augment_1s0.k3 (k : Nat) (a0 : Int) (b2 : S89) (b3 : List Bool) (b4 : List Int) (x1 : List Int) : Option (S89 × List Int) := ((assign_solution_augment_1s0.l1 a0 b3 k b2.f2 b4 0).bind (assign_solution_augment_1s0.k1 b2 x1))
def assign_solution_augment_1s0.l2 (a0 : Int) (b0_0 : List Int) : Nat → (List Int) → Int → Option (List Int)
 | 0, _, _ => none
 | k + 1, x9, x10 => (if x10 < (b0_0.length : Int) then (if 0 ≤ x10 then (if x10 < (b0_0.length : Int) then (if 0 ≤ (b0_0.getD (x10).toNat 0) then (if (b0_0.getD (x10).toNat 0) < (12 : Int) then (if 0 ≤ (b0_0.getD (x10).toNat 0) then (if (b0_0.getD (x10).toNat 0) < (12 : Int) then (assign_solution_augment_1s0.l2 a0 b0_0 k (x9.set (((b0_0.getD (x10).toNat 0)).toNat) (W .i64 ((x9.getD (((b0_0.getD (x10).toNat 0)).toNat) 0) - a0))) (W .i64 (x10 + 1))) else none) else none) else none) else none) else none) else none) else (some x9))
def assign_solution_augment_1s0.f (k : Nat) (a0 : Int) (b0_0 : List Int) (b2 : S89) (b3 : List Bool) (b4 : List Int) : Option (S89 × List Int) := ((assign_solution_augment_1s0.l2 a0 b0_0 k b2.f1 0).bind (assign_solution_augment_1s0.k3 k a0 b2 b3 b4))
def assign_solution_augment_1s0.Post (S : Nat → Prop) (gb0 : Nat) (gb1 : Nat) (gb2 : Nat) (gb3 : Nat) (gb4 : Nat) (a0 : Int) (b0_0 : List Int) (Ab0_0 : Option Addr) (cb0_0 : Nat) (csb0_0 : List Value) (b2 : S89) (b3 : List Bool) (b4 : List Int) (I : Imm) (w : World) (r : S89 × List Int) (v : Value) (w' : World) : Prop :=
 ∃ (J : Imm), v = .tuple #[] ∧ Sat ⟨w, S, I⟩ J w'.heap.size [⟨gb0, [.slice Ab0_0 b0_0.length cb0_0], 26⟩, ⟨gb1, [.pointer (some ⟨gb2, 0, none⟩)], 95⟩, ⟨gb2, ((arrV (Value.int .i64) 0 12 r.1.f0) ++ ((arrV (Value.int .i64) 0 12 r.1.f1) ++ (arrV (Value.int .i64) 0 12 r.1.f2))), 89⟩, ⟨gb3, arrV Value.bool false 12 b3, 104⟩, ⟨gb4, arrV (Value.int .i64) 0 12 r.2, 83⟩] [orow 3 1 Ab0_0 b0_0.length cb0_0 csb0_0] w' ∧ 12 ≤ r.1.f0.length ∧ 12 ≤ r.1.f1.length ∧ 12 ≤ r.1.f2.length ∧ 12 ≤ r.2.length
noncomputable def a60s0_43n : List Nat := [0, 0, 1, 5, 15, 31, 0, 127, 1, 257, 1023, 2047]
theorem a60s0_43 : ancs O60s0_43 [] = a60s0_43n := by kernel_rfl
theorem a60s0_43o : drawOk O60s0_43 a60s0_43n 10 = true := by kernel_rfl
noncomputable def u60d1l  : List Ld :=
 []
noncomputable def u60d1g (gb2 : Nat) (x6 : Int) : List (Nat × ((Nat → Wt) → Value)) := [(4, fun u => pt gb2 (24 + (x6).toNat * 1))]
noncomputable def u60d1q (gb0 : Nat) (gb1 : Nat) (gb2 : Nat) (gb3 : Nat) (gb4 : Nat) (a0 : Int) (b0_0 : List Int) (Ab0_0 : Option Addr) (cb0_0 : Nat) (b2 : S89) (b3 : List Bool) (x1 : List Int) (x4 : List Int) (x5 : List Int) (x6 : Int) (u : Nat → Wt) : Option (List Value × List (Nat × Value) × List (Nat × Nat)) := qSim Try.prog [(⟨gb2, 24 + (x6).toNat * 1, none⟩, i6 (x4.getD ((x6).toNat) 0))] [⟨gb0, [.slice Ab0_0 b0_0.length cb0_0], 26⟩, ⟨gb1, [pt gb2 0], 95⟩, ⟨gb2, ((arrV (Value.int .i64) 0 12 b2.f0) ++ ((arrV (Value.int .i64) 0 12 x1) ++ (arrV (Value.int .i64) 0 12 x4))), 89⟩, ⟨gb3, arrV Value.bool false 12 b3, 104⟩, ⟨gb4, arrV (Value.int .i64) 0 12 x5, 83⟩] O60s0_43 ⟨51, []⟩ (Ld.vl u60d1l) (u60d1g gb2 x6) u [.l 1, .no, .no, .no, .no, .r 0, .no, .no, .no, .no] 0 (O60s0_43.take 10) [(32, .bool (b3.getD ((x6).toNat) false)), (8, i6 x6), (0, i6 a0), (2, pt gb1 0), (3, pt gb3 0), (4, pt gb4 0), (27, i6 x6)]
noncomputable def u60d1s (gb2 : Nat) (a0 : Int) (x4 : List Int) (x6 : Int) (u : Nat → Wt) : List Value := [pt gb2 0, i6 x6, pt gb2 0, pt gb2 24, pt gb2 (24 + (x6).toNat * 1), i6 (x4.getD ((x6).toNat) 0), i6 a0, i6 (W .i64 ((x4.getD ((x6).toNat) 0) + a0)), pt gb2 0, pt gb2 24]
noncomputable def u60d1f (gb1 : Nat) (gb2 : Nat) (gb3 : Nat) (gb4 : Nat) (a0 : Int) (b3 : List Bool) (x4 : List Int) (x6 : Int) (i : Nat) (u : Nat → Wt) : List (Nat × Value) := foldPut ⟨51, []⟩ [(32, .bool (b3.getD ((x6).toNat) false)), (8, i6 x6), (0, i6 a0), (2, pt gb1 0), (3, pt gb3 0), (4, pt gb4 0), (27, i6 x6)] (O60s0_43.take i) (((u60d1s gb2 a0 x4 x6) u).take i)
theorem u60d1v (gb0 : Nat) (gb1 : Nat) (gb2 : Nat) (gb3 : Nat) (gb4 : Nat) (a0 : Int) (b0_0 : List Int) (Ab0_0 : Option Addr) (cb0_0 : Nat) (b2 : S89) (b3 : List Bool) (x1 : List Int) (x4 : List Int) (x5 : List Int) (x6 : Int) (u : Nat → Wt) : (u60d1q gb0 gb1 gb2 gb3 gb4 a0 b0_0 Ab0_0 cb0_0 b2 b3 x1 x4 x5 x6 u).map (fun x => (x.1, x.2.1)) = some ((u60d1s gb2 a0 x4 x6) u, (u60d1f gb1 gb2 gb3 gb4 a0 b3 x4 x6 10) u) := by kernel_rfl
theorem u60d1e (gb0 : Nat) (gb1 : Nat) (gb2 : Nat) (gb3 : Nat) (gb4 : Nat) (a0 : Int) (b0_0 : List Int) (Ab0_0 : Option Addr) (cb0_0 : Nat) (b2 : S89) (b3 : List Bool) (x1 : List Int) (x4 : List Int) (x5 : List Int) (x6 : Int) (u : Nat → Wt) : (u60d1q gb0 gb1 gb2 gb3 gb4 a0 b0_0 Ab0_0 cb0_0 b2 b3 x1 x4 x5 x6 u).map (fun x => x.2.2.map (·.1)) = (u60d1q gb0 gb1 gb2 gb3 gb4 a0 b0_0 Ab0_0 cb0_0 b2 b3 x1 x4 x5 x6 u).map (fun x => x.2.2.map (·.2)) := by kernel_rfl
noncomputable def a60s0_18n : List Nat := [0, 0, 1, 5, 15, 31, 0, 127, 1, 257, 1023, 2047]
theorem a60s0_18 : ancs O60s0_18 [] = a60s0_18n := by kernel_rfl
theorem a60s0_18o : drawOk O60s0_18 a60s0_18n 10 = true := by kernel_rfl
noncomputable def u60d2l  : List Ld :=
 []
noncomputable def u60d2g (gb2 : Nat) (b0_0 : List Int) (x10 : Int) : List (Nat × ((Nat → Wt) → Value)) := [(4, fun u => pt gb2 (12 + ((b0_0.getD (x10).toNat 0)).toNat * 1))]
noncomputable def u60d2q (gb0 : Nat) (gb1 : Nat) (gb2 : Nat) (gb3 : Nat) (gb4 : Nat) (a0 : Int) (b0_0 : List Int) (Ab0_0 : Option Addr) (cb0_0 : Nat) (b2 : S89) (b3 : List Bool) (b4 : List Int) (x9 : List Int) (x10 : Int) (u : Nat → Wt) : Option (List Value × List (Nat × Value) × List (Nat × Nat)) := qSim Try.prog [(⟨gb2, 12 + ((b0_0.getD (x10).toNat 0)).toNat * 1, none⟩, i6 (x9.getD (((b0_0.getD (x10).toNat 0)).toNat) 0))] [⟨gb0, [.slice Ab0_0 b0_0.length cb0_0], 26⟩, ⟨gb1, [pt gb2 0], 95⟩, ⟨gb2, ((arrV (Value.int .i64) 0 12 b2.f0) ++ ((arrV (Value.int .i64) 0 12 x9) ++ (arrV (Value.int .i64) 0 12 b2.f2))), 89⟩, ⟨gb3, arrV Value.bool false 12 b3, 104⟩, ⟨gb4, arrV (Value.int .i64) 0 12 b4, 83⟩] O60s0_18 ⟨51, []⟩ (Ld.vl u60d2l) (u60d2g gb2 b0_0 x10) u [.l 1, .no, .no, .no, .no, .r 0, .no, .no, .no, .no] 0 (O60s0_18.take 10) [(7, i6 (b0_0.getD (x10).toNat 0)), (0, i6 a0), (2, pt gb1 0), (3, pt gb3 0), (4, pt gb4 0), (9, .slice Ab0_0 b0_0.length cb0_0), (10, i6 (b0_0.length : Int)), (11, i6 x10)]
noncomputable def u60d2s (gb2 : Nat) (a0 : Int) (b0_0 : List Int) (x9 : List Int) (x10 : Int) (u : Nat → Wt) : List Value := [pt gb2 0, i6 (b0_0.getD (x10).toNat 0), pt gb2 0, pt gb2 12, pt gb2 (12 + ((b0_0.getD (x10).toNat 0)).toNat * 1), i6 (x9.getD (((b0_0.getD (x10).toNat 0)).toNat) 0), i6 a0, i6 (W .i64 ((x9.getD (((b0_0.getD (x10).toNat 0)).toNat) 0) - a0)), pt gb2 0, pt gb2 12]
noncomputable def u60d2f (gb1 : Nat) (gb2 : Nat) (gb3 : Nat) (gb4 : Nat) (a0 : Int) (b0_0 : List Int) (Ab0_0 : Option Addr) (cb0_0 : Nat) (x9 : List Int) (x10 : Int) (i : Nat) (u : Nat → Wt) : List (Nat × Value) := foldPut ⟨51, []⟩ [(7, i6 (b0_0.getD (x10).toNat 0)), (0, i6 a0), (2, pt gb1 0), (3, pt gb3 0), (4, pt gb4 0), (9, .slice Ab0_0 b0_0.length cb0_0), (10, i6 (b0_0.length : Int)), (11, i6 x10)] (O60s0_18.take i) (((u60d2s gb2 a0 b0_0 x9 x10) u).take i)
theorem u60d2v (gb0 : Nat) (gb1 : Nat) (gb2 : Nat) (gb3 : Nat) (gb4 : Nat) (a0 : Int) (b0_0 : List Int) (Ab0_0 : Option Addr) (cb0_0 : Nat) (b2 : S89) (b3 : List Bool) (b4 : List Int) (x9 : List Int) (x10 : Int) (u : Nat → Wt) : (u60d2q gb0 gb1 gb2 gb3 gb4 a0 b0_0 Ab0_0 cb0_0 b2 b3 b4 x9 x10 u).map (fun x => (x.1, x.2.1)) = some ((u60d2s gb2 a0 b0_0 x9 x10) u, (u60d2f gb1 gb2 gb3 gb4 a0 b0_0 Ab0_0 cb0_0 x9 x10 10) u) := by kernel_rfl
theorem u60d2e (gb0 : Nat) (gb1 : Nat) (gb2 : Nat) (gb3 : Nat) (gb4 : Nat) (a0 : Int) (b0_0 : List Int) (Ab0_0 : Option Addr) (cb0_0 : Nat) (b2 : S89) (b3 : List Bool) (b4 : List Int) (x9 : List Int) (x10 : Int) (u : Nat → Wt) : (u60d2q gb0 gb1 gb2 gb3 gb4 a0 b0_0 Ab0_0 cb0_0 b2 b3 b4 x9 x10 u).map (fun x => x.2.2.map (·.1)) = (u60d2q gb0 gb1 gb2 gb3 gb4 a0 b0_0 Ab0_0 cb0_0 b2 b3 b4 x9 x10 u).map (fun x => x.2.2.map (·.2)) := by kernel_rfl
theorem assign_solution_augment_1s0.calls (k : Nat) (I0 : Imm) (gb0 : Nat) (gb1 : Nat) (gb2 : Nat) (gb3 : Nat) (gb4 : Nat) (a0 : Int) (b0_0 : List Int) (Ab0_0 : Option Addr) (cb0_0 : Nat) (csb0_0 : List Value) (b2 : S89) (b3 : List Bool) (b4 : List Int) (w : World) (hs : Sat ⟨w, SM [⟨gb0, [.slice Ab0_0 b0_0.length cb0_0], 26⟩, ⟨gb1, [pt gb2 0], 95⟩, ⟨gb2, ((arrV (Value.int .i64) 0 12 b2.f0) ++ ((arrV (Value.int .i64) 0 12 b2.f1) ++ (arrV (Value.int .i64) 0 12 b2.f2))), 89⟩, ⟨gb3, arrV Value.bool false 12 b3, 104⟩, ⟨gb4, arrV (Value.int .i64) 0 12 b4, 83⟩] [orow 3 1 Ab0_0 b0_0.length cb0_0 csb0_0], I0⟩ I0 w.heap.size [⟨gb0, [.slice Ab0_0 b0_0.length cb0_0], 26⟩, ⟨gb1, [pt gb2 0], 95⟩, ⟨gb2, ((arrV (Value.int .i64) 0 12 b2.f0) ++ ((arrV (Value.int .i64) 0 12 b2.f1) ++ (arrV (Value.int .i64) 0 12 b2.f2))), 89⟩, ⟨gb3, arrV Value.bool false 12 b3, 104⟩, ⟨gb4, arrV (Value.int .i64) 0 12 b4, 83⟩] [orow 3 1 Ab0_0 b0_0.length cb0_0 csb0_0] w) (hpb0_0 : Reps (Ty.int .i64) I0 b0_0 csb0_0) (hzb2_0 : 12 ≤ b2.f0.length) (hzb2_1 : 12 ≤ b2.f1.length) (hzb2_2 : 12 ≤ b2.f2.length) (hzb3 : 12 ≤ b3.length) (hzb4 : 12 ≤ b4.length) (r : S89 × List Int) (h : assign_solution_augment_1s0.f k a0 b0_0 b2 b3 b4 = some r) :
  Calls Try.prog 60 [i6 a0, pt gb0 0, pt gb1 0, pt gb3 0, pt gb4 0].toArray w fun e w' => ∃ v, e = .returned v ∧ assign_solution_augment_1s0.Post (SM [⟨gb0, [.slice Ab0_0 b0_0.length cb0_0], 26⟩, ⟨gb1, [pt gb2 0], 95⟩, ⟨gb2, ((arrV (Value.int .i64) 0 12 b2.f0) ++ ((arrV (Value.int .i64) 0 12 b2.f1) ++ (arrV (Value.int .i64) 0 12 b2.f2))), 89⟩, ⟨gb3, arrV Value.bool false 12 b3, 104⟩, ⟨gb4, arrV (Value.int .i64) 0 12 b4, 83⟩] [orow 3 1 Ab0_0 b0_0.length cb0_0 csb0_0]) gb0 gb1 gb2 gb3 gb4 a0 b0_0 Ab0_0 cb0_0 csb0_0 b2 b3 b4 I0 w r v w' := by
 have H : ((assign_solution_augment_1s0.l2 a0 b0_0 k b2.f1 0).bind (assign_solution_augment_1s0.k3 k a0 b2 b3 b4)) = some r := h
 clear h
 refine calls_bodyL Try.func60 (by kernel_rfl) 51 (by kernel_rfl) (by kernel_rfl) ⟨w, SM [⟨gb0, [.slice Ab0_0 b0_0.length cb0_0], 26⟩, ⟨gb1, [pt gb2 0], 95⟩, ⟨gb2, ((arrV (Value.int .i64) 0 12 b2.f0) ++ ((arrV (Value.int .i64) 0 12 b2.f1) ++ (arrV (Value.int .i64) 0 12 b2.f2))), 89⟩, ⟨gb3, arrV Value.bool false 12 b3, 104⟩, ⟨gb4, arrV (Value.int .i64) 0 12 b4, 83⟩] [orow 3 1 Ab0_0 b0_0.length cb0_0 csb0_0], I0⟩ I0 [⟨gb0, [.slice Ab0_0 b0_0.length cb0_0], 26⟩, ⟨gb1, [pt gb2 0], 95⟩, ⟨gb2, ((arrV (Value.int .i64) 0 12 b2.f0) ++ ((arrV (Value.int .i64) 0 12 b2.f1) ++ (arrV (Value.int .i64) 0 12 b2.f2))), 89⟩, ⟨gb3, arrV Value.bool false 12 b3, 104⟩, ⟨gb4, arrV (Value.int .i64) 0 12 b4, 83⟩] [orow 3 1 Ab0_0 b0_0.length cb0_0 csb0_0] [(0, i6 a0), (1, pt gb0 0), (2, pt gb1 0), (3, pt gb3 0), (4, pt gb4 0)] (by kernel_rfl) hs ?_
 generalize w.heap.size = nx0
 show OK _ K60s0_0 _ _ _ _ _ _ _ _
 refine OK.sq ?_
 refine OK.sr ?_
 refine RL.simK (K' := [(11, i6 0), (10, i6 (b0_0.length : Int)), (9, .slice Ab0_0 b0_0.length cb0_0), (0, i6 a0), (2, pt gb1 0), (3, pt gb3 0), (4, pt gb4 0)]) [] (RFacts.nil _ _ _) 3 [.l 0, .no, .no] (by kernel_rfl) (by kernel_rfl) ?_
 refine RL.nt ?_
 refine OK.join (fun K' I' _ L' X' => ∃ (x1 : List Int), K' = [(0, i6 a0), (2, pt gb1 0), (3, pt gb3 0), (4, pt gb4 0)] ∧ L' = [⟨gb0, [.slice Ab0_0 b0_0.length cb0_0], 26⟩, ⟨gb1, [pt gb2 0], 95⟩, ⟨gb2, ((arrV (Value.int .i64) 0 12 b2.f0) ++ ((arrV (Value.int .i64) 0 12 x1) ++ (arrV (Value.int .i64) 0 12 b2.f2))), 89⟩, ⟨gb3, arrV Value.bool false 12 b3, 104⟩, ⟨gb4, arrV (Value.int .i64) 0 12 b4, 83⟩] ∧ X' = [orow 3 1 Ab0_0 b0_0.length cb0_0 csb0_0] ∧ Imm.le I0 I' ∧ 12 ≤ x1.length ∧ assign_solution_augment_1s0.k3 k a0 b2 b3 b4 x1 = some r) ?_ ?_
 ·rintro _ I1 nx1 _ _ ⟨x1, rfl, rfl, rfl, hi1, hz1, H⟩
  rw [assign_solution_augment_1s0.k3] at H
  refine QN.then_ ?_
  refine OK.sr ?_
  refine RL.st 1 [(27, i6 0), (0, i6 a0), (2, pt gb1 0), (3, pt gb3 0), (4, pt gb4 0)] ?_
  refine OK.join (fun K' I' _ L' X' => ∃ (x2 : List Int) (x3 : List Int), K' = [] ∧ L' = [⟨gb0, [.slice Ab0_0 b0_0.length cb0_0], 26⟩, ⟨gb1, [pt gb2 0], 95⟩, ⟨gb2, ((arrV (Value.int .i64) 0 12 b2.f0) ++ ((arrV (Value.int .i64) 0 12 x1) ++ (arrV (Value.int .i64) 0 12 x2))), 89⟩, ⟨gb3, arrV Value.bool false 12 b3, 104⟩, ⟨gb4, arrV (Value.int .i64) 0 12 x3, 83⟩] ∧ X' = [orow 3 1 Ab0_0 b0_0.length cb0_0 csb0_0] ∧ Imm.le I1 I' ∧ 12 ≤ x2.length ∧ 12 ≤ x3.length ∧ assign_solution_augment_1s0.k1 b2 x1 (x2, x3) = some r) ?_ ?_
  ·rintro _ I2 nx2 _ _ ⟨x2, x3, rfl, rfl, rfl, hi2, hz2, hz3, H⟩
   rw [assign_solution_augment_1s0.k1] at H
   obtain rfl := Option.some.inj H
   refine QN.body rfl [] (RFacts.nil _ _ _) (.no) (.tuple #[]) (by kernel_rfl) (by kernel_rfl) (by kernel_rfl) ?_ _ (.inl rfl)
   exact fun w' hs' => ⟨_, rfl, I2, rfl, ((hs'.fin.selB [0, 1, 2, 3, 4] (by kernel_rfl)).sel [0] (by kernel_rfl)), hzb2_0, hz1, hz2, hz3⟩
  ·intro Q_1 hJ2 hQ2
   obtain ⟨y2, H, HK2⟩ := bnd H
   refine OK.bk 2 ?_
   refine OK.sub (K' := [(0, i6 a0), (2, pt gb1 0), (3, pt gb3 0), (4, pt gb4 0), (27, i6 0)]) (L' := [⟨gb0, [.slice Ab0_0 b0_0.length cb0_0], 26⟩, ⟨gb1, [pt gb2 0], 95⟩, ⟨gb2, ((arrV (Value.int .i64) 0 12 b2.f0) ++ ((arrV (Value.int .i64) 0 12 x1) ++ (arrV (Value.int .i64) 0 12 b2.f2))), 89⟩, ⟨gb3, arrV Value.bool false 12 b3, 104⟩, ⟨gb4, arrV (Value.int .i64) 0 12 b4, 83⟩]) (by kernel_rfl) (.cons_cons _ (.cons_cons _ (.cons_cons _ (.cons_cons _ (.cons_cons _ .slnil))))) (.refl _) ?_
   refine OK.lp (fun n_ K' I' _ L' X' => ∃ (x4 : List Int) (x5 : List Int) (x6 : Int), K' = [(0, i6 a0), (2, pt gb1 0), (3, pt gb3 0), (4, pt gb4 0), (27, i6 x6)] ∧ L' = [⟨gb0, [.slice Ab0_0 b0_0.length cb0_0], 26⟩, ⟨gb1, [pt gb2 0], 95⟩, ⟨gb2, ((arrV (Value.int .i64) 0 12 b2.f0) ++ ((arrV (Value.int .i64) 0 12 x1) ++ (arrV (Value.int .i64) 0 12 x4))), 89⟩, ⟨gb3, arrV Value.bool false 12 b3, 104⟩, ⟨gb4, arrV (Value.int .i64) 0 12 x5, 83⟩] ∧ X' = [orow 3 1 Ab0_0 b0_0.length cb0_0 csb0_0] ∧ Imm.le I1 I' ∧ 12 ≤ x4.length ∧ 12 ≤ x5.length ∧ assign_solution_augment_1s0.l1 a0 b3 n_ x4 x5 x6 = some y2) k ⟨b2.f2, b4, 0, rfl, rfl, rfl, (Imm.le_refl _), hzb2_2, hzb4, H⟩ ?_ ?_
   ·rintro _ _ _ _ _ ⟨x4, x5, x6, rfl, rfl, rfl, _, hz4, hz5, H⟩
    cases H
   ·rintro kq1 _ I3 nx3 _ _ ⟨x4, x5, x6, rfl, rfl, rfl, hi3, hz4, hz5, H⟩ Q_l1 hJ3 hQ3
    rw [assign_solution_augment_1s0.l1] at H
    refine OK.sr ?_
    refine RL.st 1 [(28, .bool (decide (x6 < 12))), (0, i6 a0), (2, pt gb1 0), (3, pt gb3 0), (4, pt gb4 0), (27, i6 x6)] ?_
    refine OK.sq ?_
    refine OK.cd (decide (x6 < 12)) (fun hb => ?_) (fun hb => ?_)
    ·skip
     have hc := (of_decide_eq_true hb)
     rw [if_pos hc] at H
     clear hb
     refine OK.skt ?_
     refine OK.sq ?_
     refine OK.bk 3 ?_
     refine OK.sr ?_
     refine RL.st 2 [(8, i6 x6), (0, i6 a0), (2, pt gb1 0), (3, pt gb3 0), (4, pt gb4 0), (27, i6 x6)] ?_
     refine OK.sr ?_
     refine RL.s 1 [(30, i6 x6), (8, i6 x6), (0, i6 a0), (2, pt gb1 0), (3, pt gb3 0), (4, pt gb4 0), (27, i6 x6)] ?_
     obtain ⟨hib0, H⟩ := ifs H
     obtain ⟨hib1, H⟩ := ifs H
     have ha01 := hib0; have ha11 := hib1
     refine RL.idxArr (T := 104) (e := 4) 1 .i64 x6 gb3 (0) 12 (some 31) (by kernel_rfl) (by kernel_rfl) (by kernel_rfl) (by kernel_rfl) hib0 hib1 (K' := [(31, pt gb3 (0 + (x6).toNat * 1)), (30, i6 x6), (8, i6 x6), (0, i6 a0), (2, pt gb1 0), (3, pt gb3 0), (4, pt gb4 0), (27, i6 x6)]) (by kernel_rfl) ?_
     refine RL.ldA (g := gb3) (ty := 104) (cs := arrV Value.bool false 12 b3) Value.bool false 12 b3 [] [] 0 ((x6).toNat) 3 (by kernel_rfl) (by kernel_rfl) (by kernel_rfl) (by omega) (0 + (x6).toNat * 1) (by omega) (some 32) (by kernel_rfl) (by kernel_rfl) (by kernel_rfl) (K' := [(32, .bool (b3.getD ((x6).toNat) false)), (31, pt gb3 (0 + (x6).toNat * 1)), (30, i6 x6), (8, i6 x6), (0, i6 a0), (2, pt gb1 0), (3, pt gb3 0), (4, pt gb4 0), (27, i6 x6)]) (by kernel_rfl) ?_
     refine RL.nil (by kernel_rfl) ?_
     refine QN.sub (K' := [(32, .bool (b3.getD ((x6).toNat) false)), (8, i6 x6), (0, i6 a0), (2, pt gb1 0), (3, pt gb3 0), (4, pt gb4 0), (27, i6 x6)]) (L' := [⟨gb0, [.slice Ab0_0 b0_0.length cb0_0], 26⟩, ⟨gb1, [pt gb2 0], 95⟩, ⟨gb2, ((arrV (Value.int .i64) 0 12 b2.f0) ++ ((arrV (Value.int .i64) 0 12 x1) ++ (arrV (Value.int .i64) 0 12 x4))), 89⟩, ⟨gb3, arrV Value.bool false 12 b3, 104⟩, ⟨gb4, arrV (Value.int .i64) 0 12 x5, 83⟩]) (by kernel_rfl) (.cons_cons _ (.cons_cons _ (.cons_cons _ (.cons_cons _ (.cons_cons _ .slnil))))) (.refl _) ?_
     refine QN.then_ ?_
     refine OK.join (fun K' I' _ L' X' => ∃ (x7 : List Int) (x8 : List Int), K' = [(0, i6 a0), (2, pt gb1 0), (3, pt gb3 0), (4, pt gb4 0), (27, i6 x6)] ∧ L' = [⟨gb0, [.slice Ab0_0 b0_0.length cb0_0], 26⟩, ⟨gb1, [pt gb2 0], 95⟩, ⟨gb2, ((arrV (Value.int .i64) 0 12 b2.f0) ++ ((arrV (Value.int .i64) 0 12 x1) ++ (arrV (Value.int .i64) 0 12 x7))), 89⟩, ⟨gb3, arrV Value.bool false 12 b3, 104⟩, ⟨gb4, arrV (Value.int .i64) 0 12 x8, 83⟩] ∧ X' = [orow 3 1 Ab0_0 b0_0.length cb0_0 csb0_0] ∧ Imm.le I3 I' ∧ 12 ≤ x7.length ∧ 12 ≤ x8.length ∧ (assign_solution_augment_1s0.l1 a0 b3 kq1 x7 x8 (W .i64 (x6 + 1))) = some y2) ?_ ?_
     ·rintro _ I4 nx4 _ _ ⟨x7, x8, rfl, rfl, rfl, hi4, hz6, hz7, H⟩
      replace H : (assign_solution_augment_1s0.l1 a0 b3 kq1 x7 x8 (W .i64 (x6 + 1))) = some y2 := H
      refine QN.blkN ?_
      refine QN.then_ ?_
      refine OK.rg ?_
      refine RL.s 2 [(27, i6 (W .i64 (x6 + 1))), (0, i6 a0), (2, pt gb1 0), (3, pt gb3 0), (4, pt gb4 0)] ?_
      refine RL.nil (by kernel_rfl) ?_
      exact QN.sb (hJ3 _ _ _ _ _ ⟨x7, x8, W .i64 (x6 + 1), rfl, rfl, rfl, (Imm.le_trans hi3 hi4), hz6, hz7, H⟩) (.cons_cons _ (.cons_cons _ (.cons_cons _ (.cons_cons _ (.cons_cons _ .slnil))))) (.refl _)
     ·intro Q_2 hJ4 hQ4
      obtain ⟨y3, H, HK3⟩ := bnd H
      refine OK.cd (b3.getD ((x6).toNat) false) (fun hb => ?_) (fun hb => ?_)
      ·skip
       have hc := hb
       rw [if_pos hc] at H
       clear hb
       obtain ⟨hi0_1, H⟩ := ifs H
       obtain ⟨hi1_1, H⟩ := ifs H
       refine OK.drawnC 9 10 O60s0_43 a60s0_43n (by kernel_rfl) (by kernel_rfl) u60d1l (u60d1g gb2 x6) [(⟨gb2, 24 + (x6).toNat * 1, none⟩, i6 (x4.getD ((x6).toNat) 0))] (RI.arr (g := gb2) (ty := 89) (cs := ((arrV (Value.int .i64) 0 12 b2.f0) ++ ((arrV (Value.int .i64) 0 12 x1) ++ (arrV (Value.int .i64) 0 12 x4)))) (Value.int .i64) 0 12 x4 ((arrV (Value.int .i64) 0 12 b2.f0) ++ (arrV (Value.int .i64) 0 12 x1)) [] 24 ((x6).toNat) 2 (by kernel_rfl) (by kernel_rfl) (by kernel_rfl) (by omega) (24 + (x6).toNat * 1) (by omega) (RI.nil _)) [.l 1, .no, .no, .no, .no, .r 0, .no, .no, .no, .no] a60s0_43 a60s0_43o (by kernel_rfl) (by kernel_rfl) (u60d1s gb2 a0 x4 x6) (u60d1f gb1 gb2 gb3 gb4 a0 b3 x4 x6 10) (u60d1v gb0 gb1 gb2 gb3 gb4 a0 b0_0 Ab0_0 cb0_0 b2 b3 x1 x4 x5 x6) (u60d1e gb0 gb1 gb2 gb3 gb4 a0 b0_0 Ab0_0 cb0_0 b2 b3 x1 x4 x5 x6) [] framesOk.nil ?_ [u60d1f gb1 gb2 gb3 gb4 a0 b3 x4 x6 4] (framesOk.cons (fun u => rfl) framesOk.nil) ?_ ?_
       ·refine LoudsG.nil
       ·refine Givens.cons (fun u w =>  ?_) (fun _ _ _ => rfl) (Givens.nil)
        ·exact giv_idxArr (T := 83) (e := 2) 1 .i64 x6 gb2 (24) 12 (by kernel_rfl) (by kernel_rfl) (by kernel_rfl) hi0_1 hi1_1 w
       intro u I5 nx5 hi5 hF
       clear hF
       refine RL.norm (K' := [(42, pt gb2 24), (41, pt gb2 0), (40, i6 (W .i64 ((x4.getD ((x6).toNat) 0) + a0))), (39, i6 a0), (38, i6 (x4.getD ((x6).toNat) 0)), (37, pt gb2 (24 + (x6).toNat * 1)), (36, pt gb2 24), (35, pt gb2 0), (34, i6 x6), (33, pt gb2 0), (32, .bool (b3.getD ((x6).toNat) false)), (8, i6 x6), (0, i6 a0), (2, pt gb1 0), (3, pt gb3 0), (4, pt gb4 0), (27, i6 x6)]) (X' := [orow 3 1 Ab0_0 b0_0.length cb0_0 csb0_0]) (by kernel_rfl) rfl rfl rfl ?_
       obtain ⟨hib0, H⟩ := ifs H
       obtain ⟨hib1, H⟩ := ifs H
       have ha02 := hib0; have ha12 := hib1
       refine RL.idxArr (T := 83) (e := 2) 1 .i64 x6 gb2 (24) 12 (some 43) (by kernel_rfl) (by kernel_rfl) (by kernel_rfl) (by kernel_rfl) hib0 hib1 (K' := [(43, pt gb2 (24 + (x6).toNat * 1)), (42, pt gb2 24), (41, pt gb2 0), (40, i6 (W .i64 ((x4.getD ((x6).toNat) 0) + a0))), (39, i6 a0), (38, i6 (x4.getD ((x6).toNat) 0)), (37, pt gb2 (24 + (x6).toNat * 1)), (36, pt gb2 24), (35, pt gb2 0), (34, i6 x6), (33, pt gb2 0), (32, .bool (b3.getD ((x6).toNat) false)), (8, i6 x6), (0, i6 a0), (2, pt gb1 0), (3, pt gb3 0), (4, pt gb4 0), (27, i6 x6)]) (by kernel_rfl) ?_
       refine RL.stA (g := gb2) (ty := 89) (cs := ((arrV (Value.int .i64) 0 12 b2.f0) ++ ((arrV (Value.int .i64) 0 12 x1) ++ (arrV (Value.int .i64) 0 12 x4)))) (Value.int .i64) 0 12 x4 (W .i64 ((x4.getD ((x6).toNat) 0) + a0)) ((arrV (Value.int .i64) 0 12 b2.f0) ++ (arrV (Value.int .i64) 0 12 x1)) [] 24 ((x6).toNat) 2 (by kernel_rfl) (by kernel_rfl) (by kernel_rfl) (by omega) hz4 (24 + (x6).toNat * 1) (by omega) 2 (by kernel_rfl) (by kernel_rfl) (by kernel_rfl) (by rfl) (fun _ h => by cases h) (fun _ h => by cases h) (cs' := ((arrV (Value.int .i64) 0 12 b2.f0) ++ ((arrV (Value.int .i64) 0 12 x1) ++ (arrV (Value.int .i64) 0 12 (x4.set ((x6).toNat) (W .i64 ((x4.getD ((x6).toNat) 0) + a0))))))) (by kernel_rfl) ?_
       refine RL.nil (by kernel_rfl) ?_
       refine QN.sub (K' := [(0, i6 a0), (2, pt gb1 0), (3, pt gb3 0), (4, pt gb4 0), (27, i6 x6)]) (L' := [⟨gb0, [.slice Ab0_0 b0_0.length cb0_0], 26⟩, ⟨gb1, [pt gb2 0], 95⟩, ⟨gb2, ((arrV (Value.int .i64) 0 12 b2.f0) ++ ((arrV (Value.int .i64) 0 12 x1) ++ (arrV (Value.int .i64) 0 12 (x4.set ((x6).toNat) (W .i64 ((x4.getD ((x6).toNat) 0) + a0)))))), 89⟩, ⟨gb3, arrV Value.bool false 12 b3, 104⟩, ⟨gb4, arrV (Value.int .i64) 0 12 x5, 83⟩]) (by kernel_rfl) (.cons_cons _ (.cons_cons _ (.cons_cons _ (.cons_cons _ (.cons_cons _ .slnil))))) (.refl _) ?_
       obtain rfl := Option.some.inj H
       exact QN.sb (hJ4 _ _ _ _ _ ⟨(x4.set ((x6).toNat) (W .i64 ((x4.getD ((x6).toNat) 0) + a0))), x5, rfl, rfl, rfl, hi5, (le_set hz4), hz5, HK3⟩) (.cons_cons _ (.cons_cons _ (.cons_cons _ (.cons_cons _ (.cons_cons _ .slnil))))) (.refl _)
      ·skip
       have hc := (Bool.eq_false_iff.1 hb)
       rw [if_neg hc] at H
       clear hb
       refine OK.rg ?_
       refine RL.s 1 [(44, i6 x6), (0, i6 a0), (2, pt gb1 0), (3, pt gb3 0), (4, pt gb4 0), (27, i6 x6)] ?_
       obtain ⟨hib0, H⟩ := ifs H
       obtain ⟨hib1, H⟩ := ifs H
       have ha03 := hib0; have ha13 := hib1
       refine RL.idxArr (T := 83) (e := 2) 1 .i64 x6 gb4 (0) 12 (some 45) (by kernel_rfl) (by kernel_rfl) (by kernel_rfl) (by kernel_rfl) hib0 hib1 (K' := [(45, pt gb4 (0 + (x6).toNat * 1)), (44, i6 x6), (0, i6 a0), (2, pt gb1 0), (3, pt gb3 0), (4, pt gb4 0), (27, i6 x6)]) (by kernel_rfl) ?_
       refine RL.ldA (g := gb4) (ty := 83) (cs := arrV (Value.int .i64) 0 12 x5) (Value.int .i64) 0 12 x5 [] [] 0 ((x6).toNat) 4 (by kernel_rfl) (by kernel_rfl) (by kernel_rfl) (by omega) (0 + (x6).toNat * 1) (by omega) (some 46) (by kernel_rfl) (by kernel_rfl) (by kernel_rfl) (K' := [(46, i6 (x5.getD ((x6).toNat) 0)), (45, pt gb4 (0 + (x6).toNat * 1)), (44, i6 x6), (0, i6 a0), (2, pt gb1 0), (3, pt gb3 0), (4, pt gb4 0), (27, i6 x6)]) (by kernel_rfl) ?_
       refine RL.s 2 [(48, i6 (W .i64 ((x5.getD ((x6).toNat) 0) - a0))), (44, i6 x6), (0, i6 a0), (2, pt gb1 0), (3, pt gb3 0), (4, pt gb4 0), (27, i6 x6)] ?_
       obtain ⟨hib0, H⟩ := ifs H
       obtain ⟨hib1, H⟩ := ifs H
       have ha04 := hib0; have ha14 := hib1
       refine RL.idxArr (T := 83) (e := 2) 1 .i64 x6 gb4 (0) 12 (some 49) (by kernel_rfl) (by kernel_rfl) (by kernel_rfl) (by kernel_rfl) hib0 hib1 (K' := [(49, pt gb4 (0 + (x6).toNat * 1)), (48, i6 (W .i64 ((x5.getD ((x6).toNat) 0) - a0))), (44, i6 x6), (0, i6 a0), (2, pt gb1 0), (3, pt gb3 0), (4, pt gb4 0), (27, i6 x6)]) (by kernel_rfl) ?_
       refine RL.stA (g := gb4) (ty := 83) (cs := arrV (Value.int .i64) 0 12 x5) (Value.int .i64) 0 12 x5 (W .i64 ((x5.getD ((x6).toNat) 0) - a0)) [] [] 0 ((x6).toNat) 4 (by kernel_rfl) (by kernel_rfl) (by kernel_rfl) (by omega) hz5 (0 + (x6).toNat * 1) (by omega) 2 (by kernel_rfl) (by kernel_rfl) (by kernel_rfl) (by rfl) (fun _ h => by cases h) (fun _ h => by cases h) (cs' := arrV (Value.int .i64) 0 12 (x5.set ((x6).toNat) (W .i64 ((x5.getD ((x6).toNat) 0) - a0)))) (by kernel_rfl) ?_
       refine RL.nil (by kernel_rfl) ?_
       refine QN.sub (K' := [(0, i6 a0), (2, pt gb1 0), (3, pt gb3 0), (4, pt gb4 0), (27, i6 x6)]) (L' := [⟨gb0, [.slice Ab0_0 b0_0.length cb0_0], 26⟩, ⟨gb1, [pt gb2 0], 95⟩, ⟨gb2, ((arrV (Value.int .i64) 0 12 b2.f0) ++ ((arrV (Value.int .i64) 0 12 x1) ++ (arrV (Value.int .i64) 0 12 x4))), 89⟩, ⟨gb3, arrV Value.bool false 12 b3, 104⟩, ⟨gb4, arrV (Value.int .i64) 0 12 (x5.set ((x6).toNat) (W .i64 ((x5.getD ((x6).toNat) 0) - a0))), 83⟩]) (by kernel_rfl) (.cons_cons _ (.cons_cons _ (.cons_cons _ (.cons_cons _ (.cons_cons _ .slnil))))) (.refl _) ?_
       obtain rfl := Option.some.inj H
       exact QN.sb (hJ4 _ _ _ _ _ ⟨x4, (x5.set ((x6).toNat) (W .i64 ((x5.getD ((x6).toNat) 0) - a0))), rfl, rfl, rfl, (Imm.le_refl _), hz4, (le_set hz5), HK3⟩) (.cons_cons _ (.cons_cons _ (.cons_cons _ (.cons_cons _ (.cons_cons _ .slnil))))) (.refl _)
    ·skip
     have hc := (of_decide_eq_false hb)
     rw [if_neg hc] at H
     clear hb
     refine OK.ex 2 ?_
     refine QN.thenE ?_
     refine QN.outE hQ3 ?_
     refine QN.blkE ?_
     obtain rfl := Option.some.inj H
     exact QN.sb (hJ2 _ _ _ _ _ ⟨x4, x5, rfl, rfl, rfl, hi3, hz4, hz5, HK2⟩) (.cons_cons _ (.cons_cons _ (.cons_cons _ (.cons_cons _ (.cons_cons _ .slnil))))) (.refl _)
 ·intro Q_3 hJ1 hQ1
  obtain ⟨y1, H, HK1⟩ := bnd H
  refine OK.bk 0 ?_
  refine OK.sub (K' := [(0, i6 a0), (2, pt gb1 0), (3, pt gb3 0), (4, pt gb4 0), (9, .slice Ab0_0 b0_0.length cb0_0), (10, i6 (b0_0.length : Int)), (11, i6 0)]) (L' := [⟨gb0, [.slice Ab0_0 b0_0.length cb0_0], 26⟩, ⟨gb1, [pt gb2 0], 95⟩, ⟨gb2, ((arrV (Value.int .i64) 0 12 b2.f0) ++ ((arrV (Value.int .i64) 0 12 b2.f1) ++ (arrV (Value.int .i64) 0 12 b2.f2))), 89⟩, ⟨gb3, arrV Value.bool false 12 b3, 104⟩, ⟨gb4, arrV (Value.int .i64) 0 12 b4, 83⟩]) (by kernel_rfl) (.cons_cons _ (.cons_cons _ (.cons_cons _ (.cons_cons _ (.cons_cons _ .slnil))))) (.refl _) ?_
  refine OK.lp (fun n_ K' I' _ L' X' => ∃ (x9 : List Int) (x10 : Int), K' = [(0, i6 a0), (2, pt gb1 0), (3, pt gb3 0), (4, pt gb4 0), (9, .slice Ab0_0 b0_0.length cb0_0), (10, i6 (b0_0.length : Int)), (11, i6 x10)] ∧ L' = [⟨gb0, [.slice Ab0_0 b0_0.length cb0_0], 26⟩, ⟨gb1, [pt gb2 0], 95⟩, ⟨gb2, ((arrV (Value.int .i64) 0 12 b2.f0) ++ ((arrV (Value.int .i64) 0 12 x9) ++ (arrV (Value.int .i64) 0 12 b2.f2))), 89⟩, ⟨gb3, arrV Value.bool false 12 b3, 104⟩, ⟨gb4, arrV (Value.int .i64) 0 12 b4, 83⟩] ∧ X' = [orow 3 1 Ab0_0 b0_0.length cb0_0 csb0_0] ∧ Imm.le I0 I' ∧ 12 ≤ x9.length ∧ assign_solution_augment_1s0.l2 a0 b0_0 n_ x9 x10 = some y1) k ⟨b2.f1, 0, rfl, rfl, rfl, (Imm.le_refl _), hzb2_1, H⟩ ?_ ?_
  ·rintro _ _ _ _ _ ⟨x9, x10, rfl, rfl, rfl, _, hz8, H⟩
   cases H
  ·rintro kq2 _ I6 nx6 _ _ ⟨x9, x10, rfl, rfl, rfl, hi6, hz8, H⟩ Q_l2 hJ5 hQ5
   rw [assign_solution_augment_1s0.l2] at H
   refine OK.sr ?_
   refine RL.st 1 [(12, .bool (decide (x10 < (b0_0.length : Int)))), (0, i6 a0), (2, pt gb1 0), (3, pt gb3 0), (4, pt gb4 0), (9, .slice Ab0_0 b0_0.length cb0_0), (10, i6 (b0_0.length : Int)), (11, i6 x10)] ?_
   refine OK.sq ?_
   refine OK.cd (decide (x10 < (b0_0.length : Int))) (fun hb => ?_) (fun hb => ?_)
   ·skip
    have hc := (of_decide_eq_true hb)
    rw [if_pos hc] at H
    clear hb
    refine OK.skt ?_
    refine OK.sq ?_
    refine OK.bk 1 ?_
    refine OK.sr ?_
    obtain ⟨hib0, H⟩ := ifs H
    obtain ⟨hib1, H⟩ := ifs H
    have hx05_ := hib0; have hx15_ := hib1
    refine RL.ownAddr (e := 3) (sz := 1) (S := Ab0_0) (n := b0_0.length) (cap := cb0_0) (cs := csb0_0) 0 (by kernel_rfl) (by omega) (fun g5_ hA5_ => ?_)
    have hc5_ := Ty.int_own (Reps.ext hi6 hpb0_0) x10 hib0 hib1
    refine RL.idx 1 .i64 x10 hA5_ b0_0.length cb0_0 (some 13) (by kernel_rfl) (by kernel_rfl) (T := 26) (e := 3) (by kernel_rfl) (by kernel_rfl) hib0 hib1 (K' := [(13, pt g5_ (0 + (x10).toNat * 1)), (12, .bool (decide (x10 < (b0_0.length : Int)))), (0, i6 a0), (2, pt gb1 0), (3, pt gb3 0), (4, pt gb4 0), (9, .slice Ab0_0 b0_0.length cb0_0), (10, i6 (b0_0.length : Int)), (11, i6 x10)]) (by kernel_rfl) ?_
    refine RL.simK (K' := [(7, i6 (b0_0.getD (x10).toNat 0)), (0, i6 a0), (2, pt gb1 0), (3, pt gb3 0), (4, pt gb4 0), (9, .slice Ab0_0 b0_0.length cb0_0), (10, i6 (b0_0.length : Int)), (11, i6 x10)]) [(⟨g5_, 0 + (x10).toNat * 1, none⟩, i6 (b0_0.getD (x10).toNat 0))] (RFacts.ownQ (e := 3) (sz := 1) (S := Ab0_0) (n := b0_0.length) (cap := cb0_0) (cs := csb0_0) 0 (by kernel_rfl) hA5_ (0 + (x10).toNat * 1) ((x10).toNat * 1 + 0) (by omega) (hc5_ 0 _ rfl) (RFacts.nil _ _ _)) 2 [.r 0, .no] (by kernel_rfl) (by kernel_rfl) ?_
    refine RL.nt ?_
    obtain ⟨hi0_2, H⟩ := ifs H
    obtain ⟨hi1_2, H⟩ := ifs H
    refine OK.drawnC 3 10 O60s0_18 a60s0_18n (by kernel_rfl) (by kernel_rfl) u60d2l (u60d2g gb2 b0_0 x10) [(⟨gb2, 12 + ((b0_0.getD (x10).toNat 0)).toNat * 1, none⟩, i6 (x9.getD (((b0_0.getD (x10).toNat 0)).toNat) 0))] (RI.arr (g := gb2) (ty := 89) (cs := ((arrV (Value.int .i64) 0 12 b2.f0) ++ ((arrV (Value.int .i64) 0 12 x9) ++ (arrV (Value.int .i64) 0 12 b2.f2)))) (Value.int .i64) 0 12 x9 (arrV (Value.int .i64) 0 12 b2.f0) (arrV (Value.int .i64) 0 12 b2.f2) 12 (((b0_0.getD (x10).toNat 0)).toNat) 2 (by kernel_rfl) (by kernel_rfl) (by kernel_rfl) (by omega) (12 + ((b0_0.getD (x10).toNat 0)).toNat * 1) (by omega) (RI.nil _)) [.l 1, .no, .no, .no, .no, .r 0, .no, .no, .no, .no] a60s0_18 a60s0_18o (by kernel_rfl) (by kernel_rfl) (u60d2s gb2 a0 b0_0 x9 x10) (u60d2f gb1 gb2 gb3 gb4 a0 b0_0 Ab0_0 cb0_0 x9 x10 10) (u60d2v gb0 gb1 gb2 gb3 gb4 a0 b0_0 Ab0_0 cb0_0 b2 b3 b4 x9 x10) (u60d2e gb0 gb1 gb2 gb3 gb4 a0 b0_0 Ab0_0 cb0_0 b2 b3 b4 x9 x10) [] framesOk.nil ?_ [u60d2f gb1 gb2 gb3 gb4 a0 b0_0 Ab0_0 cb0_0 x9 x10 4] (framesOk.cons (fun u => rfl) framesOk.nil) ?_ ?_
    ·refine LoudsG.nil
    ·refine Givens.cons (fun u w =>  ?_) (fun _ _ _ => rfl) (Givens.nil)
     ·exact giv_idxArr (T := 83) (e := 2) 1 .i64 (b0_0.getD (x10).toNat 0) gb2 (12) 12 (by kernel_rfl) (by kernel_rfl) (by kernel_rfl) hi0_2 hi1_2 w
    intro u I7 nx7 hi7 hF
    clear hF
    refine RL.norm (K' := [(24, pt gb2 12), (23, pt gb2 0), (22, i6 (W .i64 ((x9.getD (((b0_0.getD (x10).toNat 0)).toNat) 0) - a0))), (21, i6 a0), (20, i6 (x9.getD (((b0_0.getD (x10).toNat 0)).toNat) 0)), (19, pt gb2 (12 + ((b0_0.getD (x10).toNat 0)).toNat * 1)), (18, pt gb2 12), (17, pt gb2 0), (16, i6 (b0_0.getD (x10).toNat 0)), (15, pt gb2 0), (7, i6 (b0_0.getD (x10).toNat 0)), (0, i6 a0), (2, pt gb1 0), (3, pt gb3 0), (4, pt gb4 0), (9, .slice Ab0_0 b0_0.length cb0_0), (10, i6 (b0_0.length : Int)), (11, i6 x10)]) (X' := [orow 3 1 Ab0_0 b0_0.length cb0_0 csb0_0]) (by kernel_rfl) rfl rfl rfl ?_
    obtain ⟨hib0, H⟩ := ifs H
    obtain ⟨hib1, H⟩ := ifs H
    have ha06 := hib0; have ha16 := hib1
    refine RL.idxArr (T := 83) (e := 2) 1 .i64 (b0_0.getD (x10).toNat 0) gb2 (12) 12 (some 25) (by kernel_rfl) (by kernel_rfl) (by kernel_rfl) (by kernel_rfl) hib0 hib1 (K' := [(25, pt gb2 (12 + ((b0_0.getD (x10).toNat 0)).toNat * 1)), (24, pt gb2 12), (23, pt gb2 0), (22, i6 (W .i64 ((x9.getD (((b0_0.getD (x10).toNat 0)).toNat) 0) - a0))), (21, i6 a0), (20, i6 (x9.getD (((b0_0.getD (x10).toNat 0)).toNat) 0)), (19, pt gb2 (12 + ((b0_0.getD (x10).toNat 0)).toNat * 1)), (18, pt gb2 12), (17, pt gb2 0), (16, i6 (b0_0.getD (x10).toNat 0)), (15, pt gb2 0), (7, i6 (b0_0.getD (x10).toNat 0)), (0, i6 a0), (2, pt gb1 0), (3, pt gb3 0), (4, pt gb4 0), (9, .slice Ab0_0 b0_0.length cb0_0), (10, i6 (b0_0.length : Int)), (11, i6 x10)]) (by kernel_rfl) ?_
    refine RL.stA (g := gb2) (ty := 89) (cs := ((arrV (Value.int .i64) 0 12 b2.f0) ++ ((arrV (Value.int .i64) 0 12 x9) ++ (arrV (Value.int .i64) 0 12 b2.f2)))) (Value.int .i64) 0 12 x9 (W .i64 ((x9.getD (((b0_0.getD (x10).toNat 0)).toNat) 0) - a0)) (arrV (Value.int .i64) 0 12 b2.f0) (arrV (Value.int .i64) 0 12 b2.f2) 12 (((b0_0.getD (x10).toNat 0)).toNat) 2 (by kernel_rfl) (by kernel_rfl) (by kernel_rfl) (by omega) hz8 (12 + ((b0_0.getD (x10).toNat 0)).toNat * 1) (by omega) 2 (by kernel_rfl) (by kernel_rfl) (by kernel_rfl) (by rfl) (fun _ h => by cases h) (fun _ h => by cases h) (cs' := ((arrV (Value.int .i64) 0 12 b2.f0) ++ ((arrV (Value.int .i64) 0 12 (x9.set (((b0_0.getD (x10).toNat 0)).toNat) (W .i64 ((x9.getD (((b0_0.getD (x10).toNat 0)).toNat) 0) - a0)))) ++ (arrV (Value.int .i64) 0 12 b2.f2)))) (by kernel_rfl) ?_
    refine RL.nil (by kernel_rfl) ?_
    refine QN.sub (K' := [(0, i6 a0), (2, pt gb1 0), (3, pt gb3 0), (4, pt gb4 0), (9, .slice Ab0_0 b0_0.length cb0_0), (10, i6 (b0_0.length : Int)), (11, i6 x10)]) (L' := [⟨gb0, [.slice Ab0_0 b0_0.length cb0_0], 26⟩, ⟨gb1, [pt gb2 0], 95⟩, ⟨gb2, ((arrV (Value.int .i64) 0 12 b2.f0) ++ ((arrV (Value.int .i64) 0 12 (x9.set (((b0_0.getD (x10).toNat 0)).toNat) (W .i64 ((x9.getD (((b0_0.getD (x10).toNat 0)).toNat) 0) - a0)))) ++ (arrV (Value.int .i64) 0 12 b2.f2))), 89⟩, ⟨gb3, arrV Value.bool false 12 b3, 104⟩, ⟨gb4, arrV (Value.int .i64) 0 12 b4, 83⟩]) (by kernel_rfl) (.cons_cons _ (.cons_cons _ (.cons_cons _ (.cons_cons _ (.cons_cons _ .slnil))))) (.refl _) ?_
    refine QN.blkN ?_
    refine QN.then_ ?_
    refine OK.rg ?_
    refine RL.s 2 [(11, i6 (W .i64 (x10 + 1))), (0, i6 a0), (2, pt gb1 0), (3, pt gb3 0), (4, pt gb4 0), (9, .slice Ab0_0 b0_0.length cb0_0), (10, i6 (b0_0.length : Int))] ?_
    refine RL.nil (by kernel_rfl) ?_
    exact QN.sb (hJ5 _ _ _ _ _ ⟨(x9.set (((b0_0.getD (x10).toNat 0)).toNat) (W .i64 ((x9.getD (((b0_0.getD (x10).toNat 0)).toNat) 0) - a0))), W .i64 (x10 + 1), rfl, rfl, rfl, (Imm.le_trans hi6 hi7), (le_set hz8), H⟩) (.cons_cons _ (.cons_cons _ (.cons_cons _ (.cons_cons _ (.cons_cons _ .slnil))))) (.refl _)
   ·skip
    have hc := (of_decide_eq_false hb)
    rw [if_neg hc] at H
    clear hb
    refine OK.ex 0 ?_
    refine QN.thenE ?_
    refine QN.outE hQ5 ?_
    refine QN.blkE ?_
    obtain rfl := Option.some.inj H
    exact QN.sb (hJ1 _ _ _ _ _ ⟨x9, rfl, rfl, rfl, hi6, hz8, HK1⟩) (.cons_cons _ (.cons_cons _ (.cons_cons _ (.cons_cons _ (.cons_cons _ .slnil))))) (.refl _)

end Go.Proofs.Ytihmbmeelheinaa
