/- Words of the walk, the functions' walks and plain laws, joined; no conditions beyond those that the theorems name. -/
import Derived.Test.YtiomeaoeegikkaaDoorY3
import Derived.Test.YtiomeaoeegikkaaDoorY6
import Derived.Test.YtiomeaoeegikkaaDoorY5
namespace Go.Proofs.YtiomeaoeegikkaaDoor
open Go Go.Proofs.YtiomeaoeegikkaaDoor.RW
set_option linter.unusedVariables false
set_option maxRecDepth 100000
set_option maxHeartbeats 8000000

/-! ### armillaryref27_varint: function 70, armillary/armillaryref27.varint -/
noncomputable def K70_0 : Code := cBody Tryd.f70
def armillaryref27_varint.k1  : (Unit) ⊕ (Int × Int × Int) → Option (Int × Int × Int)
 | .inl () => (some (0, 0, 272))
 | .inr r_ => some r_
def armillaryref27_varint.k2 (x2 : Int) (x5 : Int) : Option ((Unit) ⊕ (Int × Int × Int)) := (some (Sum.inr (x5, W .i64 (x2 + 1), 0)))
def armillaryref27_varint.k3 (a0 : List Int) (x1 : Int) (x2 : Int) (x4 : Bool) : Option ((Unit) ⊕ (Int × Int × Int)) := (if x4 = true then (some (Sum.inr (0, 0, 272))) else ((if (bAnd .u64 (bOr .u64 x1 (W .u64 ((W .u64 (bAnd .u8 (a0.getD (x2).toNat 0) 127)) * 2 ^ (min (W .i64 (7 * x2)).toNat 64)))) 1) = 1 then (some (bXor .i64 (-1) (W .i64 (Int.fdiv (bOr .u64 x1 (W .u64 ((W .u64 (bAnd .u8 (a0.getD (x2).toNat 0) 127)) * 2 ^ (min (W .i64 (7 * x2)).toNat 64)))) 2)))) else (some (W .i64 (Int.fdiv (bOr .u64 x1 (W .u64 ((W .u64 (bAnd .u8 (a0.getD (x2).toNat 0) 127)) * 2 ^ (min (W .i64 (7 * x2)).toNat 64)))) 2)))).bind (armillaryref27_varint.k2 x2)))
def armillaryref27_varint.l1 (a0 : List Int) : Nat → Int → Int → Option ((Unit) ⊕ (Int × Int × Int))
 | 0, _, _ => none
 | k + 1, x1, x2 => (if x2 < 10 then (if x2 = (a0.length : Int) then (some (Sum.inr (0, 0, 271))) else (if 0 ≤ x2 then (if x2 < (a0.length : Int) then ((if x2 = 9 then (if 0 ≤ x2 then (if x2 < (a0.length : Int) then (some ((a0.getD (x2).toNat 0) != 1)) else none) else none) else (some false)).bind (fun x3 => (if x3 = true then (some (Sum.inr (0, 0, 272))) else (if 0 ≤ (W .i64 (7 * x2)) then (if 0 ≤ x2 then (if x2 < (a0.length : Int) then (if (a0.getD (x2).toNat 0) < 128 then ((if x2 > 0 then (if 0 ≤ x2 then (if x2 < (a0.length : Int) then (some ((a0.getD (x2).toNat 0) == 0)) else none) else none) else (some false)).bind (armillaryref27_varint.k3 a0 x1 x2)) else (armillaryref27_varint.l1 a0 k (bOr .u64 x1 (W .u64 ((W .u64 (bAnd .u8 (a0.getD (x2).toNat 0) 127)) * 2 ^ (min (W .i64 (7 * x2)).toNat 64)))) (W .i64 (x2 + 1)))) else none) else none) else none)))) else none) else none)) else (some (Sum.inl ())))
def armillaryref27_varint.f (k : Nat) (a0 : List Int) : Option (Int × Int × Int) := ((armillaryref27_varint.l1 a0 k 0 0).bind (armillaryref27_varint.k1))
def armillaryref27_varint.Post (I : Imm) (w : World) (r : Int × Int × Int) (v : Value) (w' : World) : Prop :=
 ∃ (J : Imm), v = .tuple #[.int .i64 r.1, .int .i64 r.2.1, .int .i64 r.2.2] ∧ Got w w' I J []
theorem armillaryref27_varint.calls (k : Nat) (I0 : Imm) (a0 : List Int) (Ap0 : Option Addr) (cp0 : Nat) (w : World) (hI : I0.at_ w) (hlp0 : a0.length ≤ cp0) (hrp0 : Rd (Ty.int .u8) I0 Ap0 a0) (r : Int × Int × Int) (h : armillaryref27_varint.f k a0 = some r) :
  Calls Tryd.prog 70 [.slice Ap0 a0.length cp0].toArray w fun e w' => ∃ v, e = .returned v ∧ armillaryref27_varint.Post I0 w r v w' := by
 have H : ((armillaryref27_varint.l1 a0 k 0 0).bind (armillaryref27_varint.k1)) = some r := h
 clear h
 refine calls_body Tryd.func70 (by kernel_rfl) 63 (by kernel_rfl) (by kernel_rfl) ⟨w, fun _ => False, I0⟩ I0 [] [(0, .slice Ap0 a0.length cp0)] (by kernel_rfl) (Sat.start w _ I0 hI) ?_
 generalize w.heap.size = nx0
 show OK _ K70_0 _ _ _ _ _ _ _ _
 refine OK.sr ?_
 refine RL.st 3 [(0, .slice Ap0 a0.length cp0)] ?_
 refine OK.sr ?_
 refine RL.st 1 [(5, .int .u64 0), (0, .slice Ap0 a0.length cp0)] ?_
 refine OK.sq ?_
 refine OK.sr ?_
 refine RL.st 1 [(6, i6 0), (5, .int .u64 0), (0, .slice Ap0 a0.length cp0)] ?_
 refine OK.join (fun K' I' _ L' X' => K' = [] ∧ L' = [] ∧ X' = [] ∧ Imm.le I0 I' ∧ armillaryref27_varint.k1 (Sum.inl ()) = some r) ?_ ?_
 ·rintro _ I1 nx1 _ _ ⟨rfl, rfl, rfl, hi1, H⟩
  rw [armillaryref27_varint.k1] at H
  refine QN.then_ ?_
  refine OK.sr ?_
  refine RL.st 3 [(4, i6 272), (3, i6 0), (2, i6 0)] ?_
  refine OK.re ?_
  obtain rfl := Option.some.inj H
  refine QN.body rfl [] (RFacts.nil _ _ _) (.no) (.tuple #[i6 0, i6 0, i6 272]) (by kernel_rfl) (by kernel_rfl) (by kernel_rfl) ?_ _ (.inr rfl)
  exact fun w' hs' => ⟨_, rfl, I1, rfl, hs'.got _ .slnil⟩
 ·intro Q_1 hJ1 hQ1
  obtain ⟨y1, H, HK1⟩ := bnd H
  refine OK.bk 0 ?_
  refine OK.sub (K' := [(0, .slice Ap0 a0.length cp0), (5, .int .u64 0), (6, i6 0)]) (L' := []) (by kernel_rfl) .slnil (.refl _) ?_
  refine OK.lp (fun n_ K' I' _ L' X' => ∃ (x1 : Int) (x2 : Int), K' = [(0, .slice Ap0 a0.length cp0), (5, .int .u64 x1), (6, i6 x2)] ∧ L' = [] ∧ X' = [] ∧ Imm.le I0 I' ∧ armillaryref27_varint.l1 a0 n_ x1 x2 = some y1) k ⟨0, 0, rfl, rfl, rfl, (Imm.le_refl _), H⟩ ?_ ?_
  ·rintro _ _ _ _ _ ⟨x1, x2, rfl, rfl, rfl, _, H⟩
   cases H
  ·rintro kq1 _ I2 nx2 _ _ ⟨x1, x2, rfl, rfl, rfl, hi2, H⟩ Q_l1 hJ2 hQ2
   rw [armillaryref27_varint.l1] at H
   refine OK.sq ?_
   refine OK.sr ?_
   refine RL.st 2 [(10, .bool (decide (x2 < 10))), (0, .slice Ap0 a0.length cp0), (5, .int .u64 x1), (6, i6 x2)] ?_
   refine OK.cd (decide (x2 < 10)) (fun hb => ?_) (fun hb => ?_)
   ·skip
    have hc := (of_decide_eq_true hb)
    rw [if_pos hc] at H
    clear hb
    refine OK.skt ?_
    refine OK.sq ?_
    refine OK.bk 1 ?_
    refine OK.sq ?_
    refine OK.sr ?_
    refine RL.st 4 [(16, .bool (x2 == (a0.length : Int))), (0, .slice Ap0 a0.length cp0), (5, .int .u64 x1), (6, i6 x2)] ?_
    refine OK.cd (x2 == (a0.length : Int)) (fun hb => ?_) (fun hb => ?_)
    ·skip
     have hc := (beq_iff_eq.1 hb)
     rw [if_pos hc] at H
     clear hb
     refine OK.sr ?_
     refine RL.st 3 [(4, i6 271), (3, i6 0), (2, i6 0)] ?_
     refine OK.re ?_
     refine QN.thenR ?_
     refine QN.blkR ?_
     refine QN.thenR ?_
     refine QN.outR hQ2 ?_
     refine QN.blkR ?_
     refine QN.outR hQ1 ?_
     refine QN.thenR ?_
     obtain rfl := Option.some.inj H
     replace H : some (0, 0, 271) = some r := HK1
     obtain rfl := Option.some.inj H
     refine QN.body rfl [] (RFacts.nil _ _ _) (.no) (.tuple #[i6 0, i6 0, i6 271]) (by kernel_rfl) (by kernel_rfl) (by kernel_rfl) ?_ _ (.inr rfl)
     exact fun w' hs' => ⟨_, rfl, I2, rfl, hs'.got _ .slnil⟩
    ·skip
     have hc := (beq_eq_false_iff_ne.1 hb)
     rw [if_neg hc] at H
     clear hb
     refine OK.skt ?_
     refine OK.sr ?_
     refine RL.s 2 [(18, i6 x2), (17, .slice Ap0 a0.length cp0), (0, .slice Ap0 a0.length cp0), (5, .int .u64 x1), (6, i6 x2)] ?_
     obtain ⟨hib0, H⟩ := ifs H
     obtain ⟨hib1, H⟩ := ifs H
     obtain ⟨g1_, o1_, hA1_, hc1_⟩ := Ty.int_at (Rd.ext hi2 hrp0) x2 hib0 hib1
     refine RL.idx 1 .i64 x2 hA1_ a0.length cp0 (some 19) (by kernel_rfl) (by kernel_rfl) (T := 22) (e := 5) (by kernel_rfl) (by kernel_rfl) hib0 hib1 (K' := [(19, pt g1_ (o1_ + (x2).toNat * 1)), (18, i6 x2), (17, .slice Ap0 a0.length cp0), (0, .slice Ap0 a0.length cp0), (5, .int .u64 x1), (6, i6 x2)]) (by kernel_rfl) ?_
     refine RL.simK (K' := [(7, .int .u64 (W .u64 (bAnd .u8 (a0.getD (x2).toNat 0) 127))), (0, .slice Ap0 a0.length cp0), (5, .int .u64 x1), (6, i6 x2)]) [(⟨g1_, o1_ + (x2).toNat * 1, none⟩, .int .u8 (a0.getD (x2).toNat 0))] (RFacts.imm (hc1_ 0 _ rfl) (RFacts.nil _ _ _)) 4 [.r 0, .no, .no, .no] (by kernel_rfl) (by kernel_rfl) ?_
     refine RL.nt ?_
     refine OK.sq ?_
     refine OK.sq ?_
     refine OK.join (fun K' I' _ L' X' => ∃ (x3 : Bool), K' = [(0, .slice Ap0 a0.length cp0), (5, .int .u64 x1), (6, i6 x2), (7, .int .u64 (W .u64 (bAnd .u8 (a0.getD (x2).toNat 0) 127))), (31, .bool x3)] ∧ L' = [] ∧ X' = [] ∧ Imm.le I2 I' ∧ (if x3 = true then (some (Sum.inr (0, 0, 272))) else (if 0 ≤ (W .i64 (7 * x2)) then (if 0 ≤ x2 then (if x2 < (a0.length : Int) then (if (a0.getD (x2).toNat 0) < 128 then ((if x2 > 0 then (if 0 ≤ x2 then (if x2 < (a0.length : Int) then (some ((a0.getD (x2).toNat 0) == 0)) else none) else none) else (some false)).bind (armillaryref27_varint.k3 a0 x1 x2)) else (armillaryref27_varint.l1 a0 kq1 (bOr .u64 x1 (W .u64 ((W .u64 (bAnd .u8 (a0.getD (x2).toNat 0) 127)) * 2 ^ (min (W .i64 (7 * x2)).toNat 64)))) (W .i64 (x2 + 1)))) else none) else none) else none)) = some y1) ?_ ?_
     ·rintro _ I3 nx3 _ _ ⟨x3, rfl, rfl, rfl, hi3, H⟩
      replace H : (if x3 = true then (some (Sum.inr (0, 0, 272))) else (if 0 ≤ (W .i64 (7 * x2)) then (if 0 ≤ x2 then (if x2 < (a0.length : Int) then (if (a0.getD (x2).toNat 0) < 128 then ((if x2 > 0 then (if 0 ≤ x2 then (if x2 < (a0.length : Int) then (some ((a0.getD (x2).toNat 0) == 0)) else none) else none) else (some false)).bind (armillaryref27_varint.k3 a0 x1 x2)) else (armillaryref27_varint.l1 a0 kq1 (bOr .u64 x1 (W .u64 ((W .u64 (bAnd .u8 (a0.getD (x2).toNat 0) 127)) * 2 ^ (min (W .i64 (7 * x2)).toNat 64)))) (W .i64 (x2 + 1)))) else none) else none) else none)) = some y1 := H
      refine QN.then_ ?_
      refine OK.cd x3 (fun hb => ?_) (fun hb => ?_)
      ·skip
       have hc := hb
       rw [if_pos hc] at H
       clear hb
       refine OK.sr ?_
       refine RL.st 3 [(4, i6 272), (3, i6 0), (2, i6 0)] ?_
       refine OK.re ?_
       refine QN.thenR ?_
       refine QN.blkR ?_
       refine QN.thenR ?_
       refine QN.outR hQ2 ?_
       refine QN.blkR ?_
       refine QN.outR hQ1 ?_
       refine QN.thenR ?_
       obtain rfl := Option.some.inj H
       replace H : some (0, 0, 272) = some r := HK1
       obtain rfl := Option.some.inj H
       refine QN.body rfl [] (RFacts.nil _ _ _) (.no) (.tuple #[i6 0, i6 0, i6 272]) (by kernel_rfl) (by kernel_rfl) (by kernel_rfl) ?_ _ (.inr rfl)
       exact fun w' hs' => ⟨_, rfl, I3, rfl, hs'.got _ .slnil⟩
      ·skip
       have hc := (Bool.eq_false_iff.1 hb)
       rw [if_neg hc] at H
       clear hb
       refine OK.skt ?_
       refine OK.sr ?_
       refine RL.s 4 [(35, i6 (W .i64 (7 * x2))), (33, .int .u64 (W .u64 (bAnd .u8 (a0.getD (x2).toNat 0) 127))), (32, .int .u64 x1), (0, .slice Ap0 a0.length cp0), (5, .int .u64 x1), (6, i6 x2)] ?_
       obtain ⟨hc, H⟩ := ifs H
       refine RL.shl .u64 .i64 (W .u64 (bAnd .u8 (a0.getD (x2).toNat 0) 127)) (W .i64 (7 * x2)) (some 36) (by kernel_rfl) (by kernel_rfl) hc (K' := [(36, .int .u64 (W .u64 ((W .u64 (bAnd .u8 (a0.getD (x2).toNat 0) 127)) * 2 ^ (min (W .i64 (7 * x2)).toNat 64)))), (35, i6 (W .i64 (7 * x2))), (33, .int .u64 (W .u64 (bAnd .u8 (a0.getD (x2).toNat 0) 127))), (32, .int .u64 x1), (0, .slice Ap0 a0.length cp0), (5, .int .u64 x1), (6, i6 x2)]) (by kernel_rfl) ?_
       refine RL.st 2 [(5, .int .u64 (bOr .u64 x1 (W .u64 ((W .u64 (bAnd .u8 (a0.getD (x2).toNat 0) 127)) * 2 ^ (min (W .i64 (7 * x2)).toNat 64))))), (0, .slice Ap0 a0.length cp0), (6, i6 x2)] ?_
       refine OK.sr ?_
       refine RL.s 2 [(39, i6 x2), (38, .slice Ap0 a0.length cp0), (5, .int .u64 (bOr .u64 x1 (W .u64 ((W .u64 (bAnd .u8 (a0.getD (x2).toNat 0) 127)) * 2 ^ (min (W .i64 (7 * x2)).toNat 64))))), (0, .slice Ap0 a0.length cp0), (6, i6 x2)] ?_
       obtain ⟨hib0, H⟩ := ifs H
       obtain ⟨hib1, H⟩ := ifs H
       obtain ⟨g2_, o2_, hA2_, hc2_⟩ := Ty.int_at (Rd.ext (Imm.le_trans hi2 hi3) hrp0) x2 hib0 hib1
       refine RL.idx 1 .i64 x2 hA2_ a0.length cp0 (some 40) (by kernel_rfl) (by kernel_rfl) (T := 22) (e := 5) (by kernel_rfl) (by kernel_rfl) hib0 hib1 (K' := [(40, pt g2_ (o2_ + (x2).toNat * 1)), (39, i6 x2), (38, .slice Ap0 a0.length cp0), (5, .int .u64 (bOr .u64 x1 (W .u64 ((W .u64 (bAnd .u8 (a0.getD (x2).toNat 0) 127)) * 2 ^ (min (W .i64 (7 * x2)).toNat 64))))), (0, .slice Ap0 a0.length cp0), (6, i6 x2)]) (by kernel_rfl) ?_
       refine RL.simK (K' := [(42, .bool (decide ((a0.getD (x2).toNat 0) < 128))), (5, .int .u64 (bOr .u64 x1 (W .u64 ((W .u64 (bAnd .u8 (a0.getD (x2).toNat 0) 127)) * 2 ^ (min (W .i64 (7 * x2)).toNat 64))))), (0, .slice Ap0 a0.length cp0), (6, i6 x2)]) [(⟨g2_, o2_ + (x2).toNat * 1, none⟩, .int .u8 (a0.getD (x2).toNat 0))] (RFacts.imm (hc2_ 0 _ rfl) (RFacts.nil _ _ _)) 2 [.r 0, .no] (by kernel_rfl) (by kernel_rfl) ?_
       refine RL.nt ?_
       refine OK.cd (decide ((a0.getD (x2).toNat 0) < 128)) (fun hb => ?_) (fun hb => ?_)
       ·skip
        have hc := (of_decide_eq_true hb)
        rw [if_pos hc] at H
        clear hb
        refine OK.sq ?_
        refine OK.sq ?_
        refine OK.join (fun K' I' _ L' X' => ∃ (x4 : Bool), K' = [(5, .int .u64 (bOr .u64 x1 (W .u64 ((W .u64 (bAnd .u8 (a0.getD (x2).toNat 0) 127)) * 2 ^ (min (W .i64 (7 * x2)).toNat 64))))), (6, i6 x2), (51, .bool x4)] ∧ L' = [] ∧ X' = [] ∧ Imm.le I3 I' ∧ armillaryref27_varint.k3 a0 x1 x2 x4 = some y1) ?_ ?_
        ·rintro _ I4 nx4 _ _ ⟨x4, rfl, rfl, rfl, hi4, H⟩
         rw [armillaryref27_varint.k3] at H
         refine QN.then_ ?_
         refine OK.cd x4 (fun hb => ?_) (fun hb => ?_)
         ·skip
          have hc := hb
          rw [if_pos hc] at H
          clear hb
          refine OK.sr ?_
          refine RL.st 3 [(4, i6 272), (3, i6 0), (2, i6 0)] ?_
          refine OK.re ?_
          refine QN.thenR ?_
          refine QN.blkR ?_
          refine QN.thenR ?_
          refine QN.outR hQ2 ?_
          refine QN.blkR ?_
          refine QN.outR hQ1 ?_
          refine QN.thenR ?_
          obtain rfl := Option.some.inj H
          replace H : some (0, 0, 272) = some r := HK1
          obtain rfl := Option.some.inj H
          refine QN.body rfl [] (RFacts.nil _ _ _) (.no) (.tuple #[i6 0, i6 0, i6 272]) (by kernel_rfl) (by kernel_rfl) (by kernel_rfl) ?_ _ (.inr rfl)
          exact fun w' hs' => ⟨_, rfl, I4, rfl, hs'.got _ .slnil⟩
         ·skip
          have hc := (Bool.eq_false_iff.1 hb)
          rw [if_neg hc] at H
          clear hb
          refine OK.skt ?_
          refine OK.sr ?_
          refine RL.st 4 [(8, i6 (W .i64 (Int.fdiv (bOr .u64 x1 (W .u64 ((W .u64 (bAnd .u8 (a0.getD (x2).toNat 0) 127)) * 2 ^ (min (W .i64 (7 * x2)).toNat 64)))) 2))), (5, .int .u64 (bOr .u64 x1 (W .u64 ((W .u64 (bAnd .u8 (a0.getD (x2).toNat 0) 127)) * 2 ^ (min (W .i64 (7 * x2)).toNat 64))))), (6, i6 x2)] ?_
          refine OK.sq ?_
          refine OK.sr ?_
          refine RL.st 3 [(57, .bool ((bAnd .u64 (bOr .u64 x1 (W .u64 ((W .u64 (bAnd .u8 (a0.getD (x2).toNat 0) 127)) * 2 ^ (min (W .i64 (7 * x2)).toNat 64)))) 1) == 1)), (8, i6 (W .i64 (Int.fdiv (bOr .u64 x1 (W .u64 ((W .u64 (bAnd .u8 (a0.getD (x2).toNat 0) 127)) * 2 ^ (min (W .i64 (7 * x2)).toNat 64)))) 2))), (6, i6 x2)] ?_
          refine OK.join (fun K' I' _ L' X' => ∃ (x5 : Int), K' = [(6, i6 x2), (8, i6 x5)] ∧ L' = [] ∧ X' = [] ∧ Imm.le I4 I' ∧ armillaryref27_varint.k2 x2 x5 = some y1) ?_ ?_
          ·rintro _ I5 nx5 _ _ ⟨x5, rfl, rfl, rfl, hi5, H⟩
           rw [armillaryref27_varint.k2] at H
           refine QN.then_ ?_
           refine OK.sr ?_
           refine RL.st 6 [(4, i6 0), (3, i6 (W .i64 (x2 + 1))), (2, i6 x5)] ?_
           refine OK.re ?_
           refine QN.blkR ?_
           refine QN.thenR ?_
           refine QN.outR hQ2 ?_
           refine QN.blkR ?_
           refine QN.outR hQ1 ?_
           refine QN.thenR ?_
           obtain rfl := Option.some.inj H
           replace H : some (x5, W .i64 (x2 + 1), 0) = some r := HK1
           obtain rfl := Option.some.inj H
           refine QN.body rfl [] (RFacts.nil _ _ _) (.no) (.tuple #[i6 x5, i6 (W .i64 (x2 + 1)), i6 0]) (by kernel_rfl) (by kernel_rfl) (by kernel_rfl) ?_ _ (.inr rfl)
           exact fun w' hs' => ⟨_, rfl, I5, rfl, hs'.got _ .slnil⟩
          ·intro Q_2 hJ5 hQ5
           obtain ⟨y4, H, HK4⟩ := bnd H
           refine OK.cd ((bAnd .u64 (bOr .u64 x1 (W .u64 ((W .u64 (bAnd .u8 (a0.getD (x2).toNat 0) 127)) * 2 ^ (min (W .i64 (7 * x2)).toNat 64)))) 1) == 1) (fun hb => ?_) (fun hb => ?_)
           ·skip
            have hc := (beq_iff_eq.1 hb)
            rw [if_pos hc] at H
            clear hb
            refine OK.rg ?_
            refine RL.s 3 [(8, i6 (bXor .i64 (-1) (W .i64 (Int.fdiv (bOr .u64 x1 (W .u64 ((W .u64 (bAnd .u8 (a0.getD (x2).toNat 0) 127)) * 2 ^ (min (W .i64 (7 * x2)).toNat 64)))) 2)))), (6, i6 x2)] ?_
            refine RL.nil (by kernel_rfl) ?_
            obtain rfl := Option.some.inj H
            exact QN.sb (hJ5 _ _ _ _ _ ⟨bXor .i64 (-1) (W .i64 (Int.fdiv (bOr .u64 x1 (W .u64 ((W .u64 (bAnd .u8 (a0.getD (x2).toNat 0) 127)) * 2 ^ (min (W .i64 (7 * x2)).toNat 64)))) 2)), rfl, rfl, rfl, (Imm.le_refl _), HK4⟩) .slnil (.refl _)
           ·skip
            have hc := (beq_eq_false_iff_ne.1 hb)
            rw [if_neg hc] at H
            clear hb
            refine OK.sk ?_
            obtain rfl := Option.some.inj H
            exact QN.sb (hJ5 _ _ _ _ _ ⟨W .i64 (Int.fdiv (bOr .u64 x1 (W .u64 ((W .u64 (bAnd .u8 (a0.getD (x2).toNat 0) 127)) * 2 ^ (min (W .i64 (7 * x2)).toNat 64)))) 2), rfl, rfl, rfl, (Imm.le_refl _), HK4⟩) .slnil (.refl _)
        ·intro Q_3 hJ4 hQ4
         obtain ⟨y3, H, HK3⟩ := bnd H
         refine OK.rg ?_
         refine RL.s 3 [(45, .bool (decide (x2 > 0))), (5, .int .u64 (bOr .u64 x1 (W .u64 ((W .u64 (bAnd .u8 (a0.getD (x2).toNat 0) 127)) * 2 ^ (min (W .i64 (7 * x2)).toNat 64))))), (0, .slice Ap0 a0.length cp0), (6, i6 x2)] ?_
         refine RL.cases (decide (x2 > 0)) (fun hb => ?_) (fun hb => ?_)
         ·have hc := (of_decide_eq_true hb)
          rw [hb]
          rw [if_pos hc] at H; clear hb
          refine RL.s 2 [(47, i6 x2), (46, .slice Ap0 a0.length cp0), (45, .bool true), (5, .int .u64 (bOr .u64 x1 (W .u64 ((W .u64 (bAnd .u8 (a0.getD (x2).toNat 0) 127)) * 2 ^ (min (W .i64 (7 * x2)).toNat 64))))), (6, i6 x2)] ?_
          obtain ⟨hib0, H⟩ := ifs H
          obtain ⟨hib1, H⟩ := ifs H
          obtain ⟨g3_, o3_, hA3_, hc3_⟩ := Ty.int_at (Rd.ext (Imm.le_trans hi2 hi3) hrp0) x2 hib0 hib1
          refine RL.idx 1 .i64 x2 hA3_ a0.length cp0 (some 48) (by kernel_rfl) (by kernel_rfl) (T := 22) (e := 5) (by kernel_rfl) (by kernel_rfl) hib0 hib1 (K' := [(48, pt g3_ (o3_ + (x2).toNat * 1)), (47, i6 x2), (46, .slice Ap0 a0.length cp0), (45, .bool true), (5, .int .u64 (bOr .u64 x1 (W .u64 ((W .u64 (bAnd .u8 (a0.getD (x2).toNat 0) 127)) * 2 ^ (min (W .i64 (7 * x2)).toNat 64))))), (6, i6 x2)]) (by kernel_rfl) ?_
          refine RL.simK (K' := [(51, .bool ((a0.getD (x2).toNat 0) == 0)), (5, .int .u64 (bOr .u64 x1 (W .u64 ((W .u64 (bAnd .u8 (a0.getD (x2).toNat 0) 127)) * 2 ^ (min (W .i64 (7 * x2)).toNat 64))))), (6, i6 x2)]) [(⟨g3_, o3_ + (x2).toNat * 1, none⟩, .int .u8 (a0.getD (x2).toNat 0))] (RFacts.imm (hc3_ 0 _ rfl) (RFacts.nil _ _ _)) 3 [.r 0, .no, .no] (by kernel_rfl) (by kernel_rfl) ?_
          refine RL.nil (by kernel_rfl) ?_
          obtain rfl := Option.some.inj H
          exact QN.sb (hJ4 _ _ _ _ _ ⟨((a0.getD (x2).toNat 0) == 0), rfl, rfl, rfl, (Imm.le_refl _), HK3⟩) .slnil (.refl _)
         ·have hc := (of_decide_eq_false hb)
          rw [hb]
          rw [if_neg hc] at H; clear hb
          refine RL.s 6 [(51, .bool false), (5, .int .u64 (bOr .u64 x1 (W .u64 ((W .u64 (bAnd .u8 (a0.getD (x2).toNat 0) 127)) * 2 ^ (min (W .i64 (7 * x2)).toNat 64))))), (6, i6 x2)] ?_
          refine RL.nil (by kernel_rfl) ?_
          obtain rfl := Option.some.inj H
          exact QN.sb (hJ4 _ _ _ _ _ ⟨false, rfl, rfl, rfl, (Imm.le_refl _), HK3⟩) .slnil (.refl _)
       ·skip
        have hc := (of_decide_eq_false hb)
        rw [if_neg hc] at H
        clear hb
        refine OK.sk ?_
        refine QN.blkN ?_
        refine QN.then_ ?_
        refine OK.rg ?_
        refine RL.s 3 [(6, i6 (W .i64 (x2 + 1))), (5, .int .u64 (bOr .u64 x1 (W .u64 ((W .u64 (bAnd .u8 (a0.getD (x2).toNat 0) 127)) * 2 ^ (min (W .i64 (7 * x2)).toNat 64))))), (0, .slice Ap0 a0.length cp0)] ?_
        refine RL.nil (by kernel_rfl) ?_
        exact QN.sb (hJ2 _ _ _ _ _ ⟨bOr .u64 x1 (W .u64 ((W .u64 (bAnd .u8 (a0.getD (x2).toNat 0) 127)) * 2 ^ (min (W .i64 (7 * x2)).toNat 64))), W .i64 (x2 + 1), rfl, rfl, rfl, (Imm.le_trans hi2 hi3), H⟩) .slnil (.refl _)
     ·intro Q_4 hJ3 hQ3
      obtain ⟨y2, H, HK2⟩ := bnd H
      refine OK.rg ?_
      refine RL.s 3 [(25, .bool (x2 == 9)), (7, .int .u64 (W .u64 (bAnd .u8 (a0.getD (x2).toNat 0) 127))), (0, .slice Ap0 a0.length cp0), (5, .int .u64 x1), (6, i6 x2)] ?_
      refine RL.cases (x2 == 9) (fun hb => ?_) (fun hb => ?_)
      ·have hc := (beq_iff_eq.1 hb)
       rw [hb]
       rw [if_pos hc] at H; clear hb
       refine RL.s 2 [(27, i6 x2), (26, .slice Ap0 a0.length cp0), (25, .bool true), (7, .int .u64 (W .u64 (bAnd .u8 (a0.getD (x2).toNat 0) 127))), (0, .slice Ap0 a0.length cp0), (5, .int .u64 x1), (6, i6 x2)] ?_
       obtain ⟨hib0, H⟩ := ifs H
       obtain ⟨hib1, H⟩ := ifs H
       obtain ⟨g4_, o4_, hA4_, hc4_⟩ := Ty.int_at (Rd.ext hi2 hrp0) x2 hib0 hib1
       refine RL.idx 1 .i64 x2 hA4_ a0.length cp0 (some 28) (by kernel_rfl) (by kernel_rfl) (T := 22) (e := 5) (by kernel_rfl) (by kernel_rfl) hib0 hib1 (K' := [(28, pt g4_ (o4_ + (x2).toNat * 1)), (27, i6 x2), (26, .slice Ap0 a0.length cp0), (25, .bool true), (7, .int .u64 (W .u64 (bAnd .u8 (a0.getD (x2).toNat 0) 127))), (0, .slice Ap0 a0.length cp0), (5, .int .u64 x1), (6, i6 x2)]) (by kernel_rfl) ?_
       refine RL.simK (K' := [(31, .bool ((a0.getD (x2).toNat 0) != 1)), (7, .int .u64 (W .u64 (bAnd .u8 (a0.getD (x2).toNat 0) 127))), (0, .slice Ap0 a0.length cp0), (5, .int .u64 x1), (6, i6 x2)]) [(⟨g4_, o4_ + (x2).toNat * 1, none⟩, .int .u8 (a0.getD (x2).toNat 0))] (RFacts.imm (hc4_ 0 _ rfl) (RFacts.nil _ _ _)) 3 [.r 0, .no, .no] (by kernel_rfl) (by kernel_rfl) ?_
       refine RL.nil (by kernel_rfl) ?_
       obtain rfl := Option.some.inj H
       exact QN.sb (hJ3 _ _ _ _ _ ⟨((a0.getD (x2).toNat 0) != 1), rfl, rfl, rfl, (Imm.le_refl _), HK2⟩) .slnil (.refl _)
      ·have hc := (beq_eq_false_iff_ne.1 hb)
       rw [hb]
       rw [if_neg hc] at H; clear hb
       refine RL.s 6 [(31, .bool false), (7, .int .u64 (W .u64 (bAnd .u8 (a0.getD (x2).toNat 0) 127))), (0, .slice Ap0 a0.length cp0), (5, .int .u64 x1), (6, i6 x2)] ?_
       refine RL.nil (by kernel_rfl) ?_
       obtain rfl := Option.some.inj H
       exact QN.sb (hJ3 _ _ _ _ _ ⟨false, rfl, rfl, rfl, (Imm.le_refl _), HK2⟩) .slnil (.refl _)
   ·skip
    have hc := (of_decide_eq_false hb)
    rw [if_neg hc] at H
    clear hb
    refine OK.ex 0 ?_
    refine QN.thenE ?_
    refine QN.outE hQ2 ?_
    refine QN.blkE ?_
    obtain rfl := Option.some.inj H
    exact QN.sb (hJ1 _ _ _ _ _ ⟨rfl, rfl, rfl, hi2, HK1⟩) .slnil (.refl _)

end Go.Proofs.YtiomeaoeegikkaaDoor
namespace Go.Proofs.YtiomeaoeegikkaaDoor.led
open Go Go.Proofs.YtiomeaoeegikkaaDoor Go.Proofs.YtiomeaoeegikkaaDoor.RW
set_option linter.unusedVariables false
set_option maxRecDepth 100000
theorem vg_head (w : Nat) : ∃ m, vg w = ((if w < 128 then w else w % 128 + 128 : Nat) : Int) :: m ∧ (w < 128 → m = []) ∧ (¬ w < 128 → m = vg (w / 128)) := by
  by_cases h : w < 128
  · exact ⟨[], by rw [vg_small h, if_pos h], fun _ => rfl, fun h2 => absurd h h2⟩
  · exact ⟨vg (w / 128), by rw [vg_big h, if_neg h], fun h2 => absurd h2 h, fun _ => rfl⟩
theorem vg_inj : ∀ (a b : Nat) (r s : List Int), vg a ++ r = vg b ++ s → a = b ∧ r = s := by
  intro a
  induction a using Nat.strongRecOn with
  | _ a ih =>
    intro b r s h
    obtain ⟨m, hm, m1, m2⟩ := vg_head a
    obtain ⟨n, hn, n1, n2⟩ := vg_head b
    rw [hm, hn, List.cons_append, List.cons_append] at h
    injection h with h1 h2
    have h3 : (if a < 128 then a else a % 128 + 128 : Nat) = (if b < 128 then b else b % 128 + 128 : Nat) := by omega
    by_cases ha : a < 128 <;> by_cases hb : b < 128
    · rw [if_pos ha, if_pos hb] at h3
      rw [m1 ha, n1 hb] at h2
      exact ⟨h3, h2⟩
    · rw [if_pos ha, if_neg hb] at h3; omega
    · rw [if_neg ha, if_pos hb] at h3; omega
    · rw [if_neg ha, if_neg hb] at h3
      rw [m2 ha, n2 hb] at h2
      obtain ⟨h4, h5⟩ := ih (a / 128) (by omega) (b / 128) r s h2
      exact ⟨by omega, h5⟩
theorem bAnd8 (b : Nat) (h : b < 256) : bAnd .u8 (b : Int) 127 = bClr .u8 (b : Int) 128 := by
  rw [bClr8 b h]
  show W .u8 (((BitVec.ofInt 8 (b : Int) &&& 127#8).toNat : Nat) : Int) = _
  rw [BitVec.ofInt_natCast, W8, BitVec.toNat_and, BitVec.toNat_ofNat]
  show ((b % 256 &&& 127 : Nat) : Int) % 256 = _
  rw [Nat.mod_eq_of_lt h, clr128 b h]
  omega
theorem rz_eq {u : Nat} (hu : u < 18446744073709551616) : (if bAnd .u64 (u : Int) 1 = 1 then some (bXor .i64 (-1) (W .i64 (Int.fdiv (u : Int) 2))) else some (W .i64 (Int.fdiv (u : Int) 2))) = some (zz u) := by
  have h1 : bAnd .u64 (u : Int) 1 = ((u % 2 : Nat) : Int) := by
    show W .u64 (((BitVec.ofInt 64 (u : Int) &&& 1#64).toNat : Nat) : Int) = _
    rw [BitVec.ofInt_natCast, WU64, BitVec.toNat_and, BitVec.toNat_ofNat]
    show ((u % 18446744073709551616 &&& 1 : Nat) : Int) % 18446744073709551616 = _
    rw [Nat.and_one_is_mod, Nat.mod_eq_of_lt hu]
    omega
  rcases Nat.mod_two_eq_zero_or_one u with e | e
  · rw [h1, e, if_neg (by decide), zz_even hu e, Int.fdiv_eq_ediv_of_nonneg _ (by decide), show (u : Int) / 2 = ((u / 2 : Nat) : Int) from by omega, W64 (by omega) (by omega)]
  · rw [h1, e, if_pos (by decide)]
    unfold zz
    rw [h1, e]
    congr 1
    show W .i64 (((BitVec.ofInt 64 (-1) ^^^ BitVec.ofInt 64 (W .i64 (Int.fdiv (u : Int) 2))).toNat : Nat) : Int) = W .i64 (((BitVec.ofInt 64 (W .i64 (Int.fdiv (u : Int) 2)) ^^^ BitVec.ofInt 64 (-1)).toNat : Nat) : Int)
    rw [BitVec.xor_comm]
theorem or_step3 (a b j : Nat) (hj : 7 * j ≤ 63) (ha : a < 2 ^ (7 * j)) (hb : b < 256) (h9 : j = 9 → b = 1) : a + b % 128 * 2 ^ (7 * j) < 18446744073709551616 ∧ bOr .u64 (a : Int) (W .u64 ((W .u64 (bAnd .u8 (b : Int) 127)) * 2 ^ (min (W .i64 (7 * (j : Int))).toNat 64))) = ((a + b % 128 * 2 ^ (7 * j) : Nat) : Int) := by
  rw [bAnd8 b hb, show W .i64 (7 * (j : Int)) = ((7 * j : Nat) : Int) from by rw [W64 (by omega) (by omega)]; omega]
  exact or_step2 a b j hj ha hb h9
theorem rvany (s : List Int) (hb : isBytes s) (hl : s.length < 1000000000) : ∀ (i j a : Nat), i + j = 9 → a < 2 ^ (7 * j) → j ≤ s.length →
    ∃ res : Int × Int × Int, Ev (fun k => armillaryref27_varint.l1 s k (a : Int) (j : Int)) (.inr res) ∧ ((badX res.2.2 ∧ ∀ w r, a + w * 2 ^ (7 * j) < 18446744073709551616 → (0 < j → w ≠ 0) → s.drop j ≠ vg w ++ r) ∨ ∃ (w p' : Nat), res = (zz (a + w * 2 ^ (7 * j)), (p' : Int), 0) ∧ a + w * 2 ^ (7 * j) < 18446744073709551616 ∧ p' ≤ s.length ∧ s.drop j = vg w ++ s.drop p' ∧ (0 < j → w ≠ 0)) := by
  intro i
  induction i with
  | zero =>
    intro j a hij ha hp
    obtain rfl : j = 9 := by omega
    by_cases hpl : 9 = s.length
    · refine ⟨(0, 0, 271), Ev.succ (g := fun _ => some (.inr (0, 0, 271))) (fun k => ?_) (Ev.const rfl), .inl ⟨.inl rfl, fun w r _ _ h => ?_⟩⟩
      · rw [armillaryref27_varint.l1, if_pos (by decide), if_pos (by omega)]
      · obtain ⟨m, hm, _⟩ := vg_head w
        rw [hm, List.drop_eq_nil_of_le (by omega)] at h
        cases h
    · have hp' : 9 < s.length := by omega
      obtain ⟨hg0, hg1⟩ := nth_byte hb hp'
      have h3 : s.getD 9 0 = s[9] := by rw [List.getD_eq_getElem?_getD, List.getElem?_eq_getElem hp']; rfl
      generalize hbv : (s.getD 9 0).toNat = b at hg0 hg1
      have hd : s.drop 9 = (b : Int) :: s.drop 10 := by rw [List.drop_eq_getElem_cons hp', ← h3, ← hg0]
      by_cases h1 : b = 1
      · obtain ⟨hlt, hor⟩ := or_step3 a b 9 (by decide) ha hg1 (fun _ => h1)
        rw [h1] at hlt hor
        refine ⟨(zz (a + 1 * 2 ^ (7 * 9)), ((9 + 1 : Nat) : Int), 0), Ev.succ (g := fun _ => some (.inr (zz (a + 1 * 2 ^ (7 * 9)), ((9 + 1 : Nat) : Int), 0))) (fun k => ?_) (Ev.const rfl), .inr ⟨1, 10, rfl, hlt, by omega, by rw [hd, h1, vg_small (by decide)]; rfl, fun _ => by decide⟩⟩
        rw [armillaryref27_varint.l1, if_pos (by decide), if_neg (by omega), if_pos (by decide), if_pos (by omega), if_pos (by decide), if_pos (by decide), if_pos (by omega), tn, ← hg0, h1]
        simp only [Option.bind_some]
        rw [if_neg (by decide), if_pos (by rw [W64 (by decide) (by decide)]; decide), if_pos (by decide), if_pos (by omega), if_pos (by decide), if_pos (by decide), if_pos (by decide), if_pos (by omega)]
        simp only [Option.bind_some, armillaryref27_varint.k3, tn]
        rw [if_neg (by decide), ← hg0, h1, hor, rz_eq hlt]
        simp only [Option.bind_some, armillaryref27_varint.k2]
        rw [Wn (by decide)]
      · refine ⟨(0, 0, 272), Ev.succ (g := fun _ => some (.inr (0, 0, 272))) (fun k => ?_) (Ev.const rfl), .inl ⟨.inr rfl, fun w r hw hnz h => ?_⟩⟩
        · rw [armillaryref27_varint.l1, if_pos (by decide), if_neg (by omega), if_pos (by decide), if_pos (by omega), if_pos (by decide), if_pos (by decide), if_pos (by omega), tn, ← hg0]
          have hbne : (((b : Nat) : Int) != 1) = true := by rw [bne_iff_ne]; omega
          rw [hbne]
          rfl
        · have hw1 := hnz (by decide)
          have hw2 : w = 1 := by
            have : (2 : Nat) ^ (7 * 9) = 9223372036854775808 := by decide
            omega
          rw [hw2, vg_small (by decide), hd] at h
          injection h with h4 _
          exact h1 (by omega)
  | succ i ih =>
    intro j a hij ha hp
    by_cases hpl : j = s.length
    · refine ⟨(0, 0, 271), Ev.succ (g := fun _ => some (.inr (0, 0, 271))) (fun k => ?_) (Ev.const rfl), .inl ⟨.inl rfl, fun w r _ _ h => ?_⟩⟩
      · rw [armillaryref27_varint.l1, if_pos (by omega), if_pos (by omega)]
      · obtain ⟨m, hm, _⟩ := vg_head w
        rw [hm, List.drop_eq_nil_of_le (by omega)] at h
        cases h
    · have hp' : j < s.length := by omega
      obtain ⟨hg0, hg1⟩ := nth_byte hb hp'
      have h3 : s.getD j 0 = s[j] := by rw [List.getD_eq_getElem?_getD, List.getElem?_eq_getElem hp']; rfl
      generalize hbv : (s.getD j 0).toNat = b at hg0 hg1
      have hd : s.drop j = (b : Int) :: s.drop (j + 1) := by rw [List.drop_eq_getElem_cons hp', ← h3, ← hg0]
      obtain ⟨hlt, hor⟩ := or_step3 a b j (by omega) ha hg1 (fun h => by omega)
      have h7 : 0 ≤ W .i64 (7 * (j : Int)) := by rw [W64 (by omega) (by omega)]; omega
      by_cases h128 : b < 128
      · by_cases hbad : 0 < j ∧ b = 0
        · refine ⟨(0, 0, 272), Ev.succ (g := fun _ => some (.inr (0, 0, 272))) (fun k => ?_) (Ev.const rfl), .inl ⟨.inr rfl, fun w r hw hnz h => ?_⟩⟩
          · rw [armillaryref27_varint.l1, if_pos (by omega), if_neg (by omega), if_pos (by omega), if_pos (by omega), if_neg (by omega)]
            simp only [Option.bind_some, tn]
            rw [if_neg (by decide), if_pos h7, if_pos (by omega), if_pos (by omega), ← hg0, if_pos (by omega), if_pos (by omega), if_pos (by omega), if_pos (by omega), hbad.2]
            rfl
          · have hw1 := hnz hbad.1
            obtain ⟨m, hm, _⟩ := vg_head w
            rw [hm, hd, hbad.2] at h
            injection h with h4 _
            split at h4 <;> omega
        · have hz : (if (j : Int) > 0 then (if (0 : Int) ≤ (j : Int) then (if (j : Int) < (s.length : Int) then (some ((s.getD j 0) == 0)) else none) else none) else (some false)) = some false := by
            by_cases hj : 0 < j
            · rw [if_pos (by omega), if_pos (by omega), if_pos (by omega), ← hg0]
              congr 1
              exact beq_eq_false_iff_ne.2 (by omega)
            · rw [if_neg (by omega)]
          rw [Nat.mod_eq_of_lt h128] at hlt hor
          refine ⟨(zz (a + b * 2 ^ (7 * j)), ((j + 1 : Nat) : Int), 0), Ev.succ (g := fun _ => some (.inr (zz (a + b * 2 ^ (7 * j)), ((j + 1 : Nat) : Int), 0))) (fun k => ?_) (Ev.const rfl), .inr ⟨b, j + 1, rfl, hlt, by omega, by rw [hd, vg_small h128]; rfl, fun hj h => hbad ⟨hj, h⟩⟩⟩
          rw [armillaryref27_varint.l1, if_pos (by omega), if_neg (by omega), if_pos (by omega), if_pos (by omega), if_neg (by omega)]
          simp only [Option.bind_some, tn]
          rw [if_neg (by decide), if_pos h7, if_pos (by omega), if_pos (by omega), if_pos (by omega), hz]
          simp only [Option.bind_some, armillaryref27_varint.k3, tn]
          rw [if_neg (by decide), ← hg0, hor, rz_eq hlt]
          simp only [Option.bind_some, armillaryref27_varint.k2]
          rw [Wn (by omega)]
      · have e7 : 2 ^ (7 * (j + 1)) = 128 * 2 ^ (7 * j) := by rw [Nat.mul_add, Nat.pow_add, Nat.mul_comm]
        have ha2 : a + b % 128 * 2 ^ (7 * j) < 2 ^ (7 * (j + 1)) := by
          have h1 : b % 128 * 2 ^ (7 * j) ≤ 127 * 2 ^ (7 * j) := Nat.mul_le_mul_right _ (by omega)
          omega
        have es : ∀ w, a + b % 128 * 2 ^ (7 * j) + w * 2 ^ (7 * (j + 1)) = a + (b % 128 + 128 * w) * 2 ^ (7 * j) := fun w => by
          rw [e7, Nat.add_mul, ← Nat.mul_assoc, Nat.mul_comm w 128]
          omega
        obtain ⟨res, hres, hcase⟩ := ih (j + 1) (a + b % 128 * 2 ^ (7 * j)) (by omega) ha2 (by omega)
        refine ⟨res, Ev.succ (fun k => ?_) hres, ?_⟩
        · rw [armillaryref27_varint.l1, if_pos (by omega), if_neg (by omega), if_pos (by omega), if_pos (by omega), if_neg (by omega)]
          simp only [Option.bind_some, tn]
          rw [if_neg (by decide), if_pos h7, if_pos (by omega), if_pos (by omega), ← hg0, if_neg (by omega), hor, Wn (by omega)]
        · rcases hcase with ⟨h, hno⟩ | ⟨w, p', h1, h2, h4, h5, h6⟩
          · refine .inl ⟨h, fun w r hw hnz he => ?_⟩
            obtain ⟨m, hm, m1, m2⟩ := vg_head w
            rw [hm, hd, List.cons_append] at he
            injection he with he1 he2
            by_cases hw128 : w < 128
            · rw [if_pos hw128] at he1; omega
            · rw [if_neg hw128] at he1
              rw [m2 hw128] at he2
              have e9 : b % 128 + 128 * (w / 128) = w := by omega
              exact hno (w / 128) r (by rw [es, e9]; exact hw) (fun _ => by omega) he2
          · have hw : w ≠ 0 := h6 (by omega)
            rw [es] at h1 h2
            refine .inr ⟨b % 128 + 128 * w, p', h1, h2, h4, ?_, fun _ => by omega⟩
            rw [hd, h5, vg_big (u := b % 128 + 128 * w) (by omega), show (b % 128 + 128 * w) % 128 + 128 = b from by omega, show (b % 128 + 128 * w) / 128 = w from by omega]
            rfl
end Go.Proofs.YtiomeaoeegikkaaDoor.led
namespace Go.Proofs.YtiomeaoeegikkaaDoor
open Go Go.Proofs.YtiomeaoeegikkaaDoor.RW
set_option linter.unusedVariables false
set_option maxRecDepth 100000
set_option maxHeartbeats 8000000

/-! ### armillaryref27_reader_numbers0: function 65, (*armillary/armillaryref27.reader).number -/
noncomputable def K65s0_0 : Code := cBody Tryd.f65
noncomputable def O65s0_14 : List Oper := cOps (cL (cR (cR K65s0_0)))
def armillaryref27_reader_numbers0.k1 (b0 : S111) (t1 : Int × Int × Int) (x2 : Int) : Option (Int × S111) := (if x2 ≠ 0 then (some (0, (⟨b0.f0, b0.f1, x2⟩ : S111))) else (some (t1.1, (⟨b0.f0, W .i64 (b0.f1 + t1.2.1), b0.f2⟩ : S111))))
def armillaryref27_reader_numbers0.k2 (b0 : S111) (t1 : Int × Int × Int) (x1 : Bool) : Option (Int × S111) := ((if x1 = true then (some 272) else (some t1.2.2)).bind (armillaryref27_reader_numbers0.k1 b0 t1))
def armillaryref27_reader_numbers0.f (k : Nat) (a1 : Int) (a2 : Int) (b0 : S111) : Option (Int × S111) := (if b0.f2 ≠ 0 then (some (0, b0)) else (if (0 : Int) ≤ b0.f1 then (if b0.f1 ≤ (b0.f0.length : Int) then ((armillaryref27_varint.f k (rpart b0.f0 b0.f1 (b0.f0.length : Int))).bind fun t1 => ((if t1.2.2 = 0 then (if t1.1 < a1 then (some true) else (some (decide (t1.1 > a2)))) else (some false)).bind (armillaryref27_reader_numbers0.k2 b0 t1))) else none) else none))
def armillaryref27_reader_numbers0.Post (S : Nat → Prop) (gb0 : Nat) (a1 : Int) (a2 : Int) (b0 : S111) (Ab0_0 : Option Addr) (cb0_0 : Nat) (I : Imm) (w : World) (r : Int × S111) (v : Value) (w' : World) : Prop :=
 ∃ (J : Imm) (Ar1_0 : Option Addr) (cr1_0 : Nat), v = .int .i64 r.1 ∧ Sat ⟨w, S, I⟩ J w'.heap.size [⟨gb0, [.slice Ar1_0 r.2.f0.length cr1_0, .int .i64 r.2.f1, .int .i64 r.2.f2], 111⟩] [] w' ∧ r.2.f0.length ≤ cr1_0 ∧ Rd (Ty.int .u8) J Ar1_0 r.2.f0
noncomputable def a65s0_14n : List Nat := [0, 1, 3, 7, 0, 16, 48, 112, 255, 511, 1023, 2047, 2047, 2047, 4095, 24575, 65535]
theorem a65s0_14 : ancs O65s0_14 [] = a65s0_14n := by kernel_rfl
theorem a65s0_14o : drawOk O65s0_14 a65s0_14n 16 = true := by kernel_rfl
noncomputable def u65d1l (t1 : Int × Int × Int) : List Ld :=
 [⟨9, fun x => .tuple #[i6 t1.1, i6 t1.2.1, i6 t1.2.2], fun x => [], fun x J => True, fun x J J' h f => trivial⟩]
noncomputable def u65d1g (b0 : S111) (Ab0_0 : Option Addr) (cb0_0 : Nat) : List (Nat × ((Nat → Wt) → Value)) := [(8, fun u => .slice (slA Ab0_0 (b0.f1).toNat cb0_0 1) ((rpart b0.f0 b0.f1 (b0.f0.length : Int)).length) (cb0_0 - (b0.f1).toNat))]
noncomputable def u65d1q (gb0 : Nat) (a1 : Int) (a2 : Int) (b0 : S111) (Ab0_0 : Option Addr) (cb0_0 : Nat) (t1 : Int × Int × Int) (u : Nat → Wt) : Option (List Value × List (Nat × Value) × List (Nat × Nat)) := qSim Tryd.prog [] [⟨gb0, [.slice Ab0_0 b0.f0.length cb0_0, i6 b0.f1, i6 b0.f2], 111⟩] O65s0_14 ⟨57, []⟩ (Ld.vl (u65d1l t1)) (u65d1g b0 Ab0_0 cb0_0) u [.no, .no, .no, .l 0, .no, .no, .no, .l 0, .no, .no, .no, .no, .no, .no, .no, .no] 0 (O65s0_14.take 16) [(14, .bool (b0.f2 != 0)), (0, pt gb0 0), (1, i6 a1), (2, i6 a2)]
noncomputable def u65d1s (gb0 : Nat) (b0 : S111) (Ab0_0 : Option Addr) (cb0_0 : Nat) (t1 : Int × Int × Int) (u : Nat → Wt) : List Value := [pt gb0 0, pt gb0 0, pt gb0 0, .slice Ab0_0 b0.f0.length cb0_0, pt gb0 0, pt gb0 0, pt gb0 1, i6 b0.f1, .slice (slA Ab0_0 (b0.f1).toNat cb0_0 1) ((rpart b0.f0 b0.f1 (b0.f0.length : Int)).length) (cb0_0 - (b0.f1).toNat), .tuple #[i6 t1.1, i6 t1.2.1, i6 t1.2.2], .tuple #[i6 t1.1, i6 t1.2.1, i6 t1.2.2], i6 t1.1, i6 t1.2.1, i6 t1.2.2, i6 t1.1, i6 t1.2.1]
noncomputable def u65d1f (gb0 : Nat) (a1 : Int) (a2 : Int) (b0 : S111) (Ab0_0 : Option Addr) (cb0_0 : Nat) (t1 : Int × Int × Int) (i : Nat) (u : Nat → Wt) : List (Nat × Value) := foldPut ⟨57, []⟩ [(14, .bool (b0.f2 != 0)), (0, pt gb0 0), (1, i6 a1), (2, i6 a2)] (O65s0_14.take i) (((u65d1s gb0 b0 Ab0_0 cb0_0 t1) u).take i)
theorem u65d1v (gb0 : Nat) (a1 : Int) (a2 : Int) (b0 : S111) (Ab0_0 : Option Addr) (cb0_0 : Nat) (t1 : Int × Int × Int) (u : Nat → Wt) : (u65d1q gb0 a1 a2 b0 Ab0_0 cb0_0 t1 u).map (fun x => (x.1, x.2.1)) = some ((u65d1s gb0 b0 Ab0_0 cb0_0 t1) u, (u65d1f gb0 a1 a2 b0 Ab0_0 cb0_0 t1 16) u) := by kernel_rfl
theorem u65d1e (gb0 : Nat) (a1 : Int) (a2 : Int) (b0 : S111) (Ab0_0 : Option Addr) (cb0_0 : Nat) (t1 : Int × Int × Int) (u : Nat → Wt) : (u65d1q gb0 a1 a2 b0 Ab0_0 cb0_0 t1 u).map (fun x => x.2.2.map (·.1)) = (u65d1q gb0 a1 a2 b0 Ab0_0 cb0_0 t1 u).map (fun x => x.2.2.map (·.2)) := by kernel_rfl
theorem armillaryref27_reader_numbers0.calls (k : Nat) (I0 : Imm) (gb0 : Nat) (a1 : Int) (a2 : Int) (b0 : S111) (Ab0_0 : Option Addr) (cb0_0 : Nat) (w : World) (hs : Sat ⟨w, SM [⟨gb0, [.slice Ab0_0 b0.f0.length cb0_0, i6 b0.f1, i6 b0.f2], 111⟩] [], I0⟩ I0 w.heap.size [⟨gb0, [.slice Ab0_0 b0.f0.length cb0_0, i6 b0.f1, i6 b0.f2], 111⟩] [] w) (hlb0_0 : b0.f0.length ≤ cb0_0) (hrb0_0 : Rd (Ty.int .u8) I0 Ab0_0 b0.f0) (r : Int × S111) (h : armillaryref27_reader_numbers0.f k a1 a2 b0 = some r) :
  Calls Tryd.prog 65 [pt gb0 0, i6 a1, i6 a2].toArray w fun e w' => ∃ v, e = .returned v ∧ armillaryref27_reader_numbers0.Post (SM [⟨gb0, [.slice Ab0_0 b0.f0.length cb0_0, i6 b0.f1, i6 b0.f2], 111⟩] []) gb0 a1 a2 b0 Ab0_0 cb0_0 I0 w r v w' := by
 have H : (if b0.f2 ≠ 0 then (some (0, b0)) else (if (0 : Int) ≤ b0.f1 then (if b0.f1 ≤ (b0.f0.length : Int) then ((armillaryref27_varint.f k (rpart b0.f0 b0.f1 (b0.f0.length : Int))).bind fun t1 => ((if t1.2.2 = 0 then (if t1.1 < a1 then (some true) else (some (decide (t1.1 > a2)))) else (some false)).bind (armillaryref27_reader_numbers0.k2 b0 t1))) else none) else none)) = some r := h
 clear h
 refine calls_bodyL Tryd.func65 (by kernel_rfl) 57 (by kernel_rfl) (by kernel_rfl) ⟨w, SM [⟨gb0, [.slice Ab0_0 b0.f0.length cb0_0, i6 b0.f1, i6 b0.f2], 111⟩] [], I0⟩ I0 [⟨gb0, [.slice Ab0_0 b0.f0.length cb0_0, i6 b0.f1, i6 b0.f2], 111⟩] [] [(0, pt gb0 0), (1, i6 a1), (2, i6 a2)] (by kernel_rfl) hs ?_
 generalize w.heap.size = nx0
 show OK _ K65s0_0 _ _ _ _ _ _ _ _
 refine OK.sr ?_
 refine RL.st 1 [(0, pt gb0 0), (1, i6 a1), (2, i6 a2)] ?_
 refine OK.sq ?_
 refine OK.sr ?_
 refine RL.simK (K' := [(14, .bool (b0.f2 != 0)), (0, pt gb0 0), (1, i6 a1), (2, i6 a2)]) [] (RFacts.nil _ _ _) 5 [.no, .no, .no, .l 0, .no] (by kernel_rfl) (by kernel_rfl) ?_
 refine RL.nt ?_
 refine OK.cd (b0.f2 != 0) (fun hb => ?_) (fun hb => ?_)
 ·skip
  have hc := (bne_iff_ne.1 hb)
  rw [if_pos hc] at H
  clear hb
  refine OK.sr ?_
  refine RL.st 1 [(6, i6 0)] ?_
  refine OK.re ?_
  refine QN.thenR ?_
  obtain rfl := Option.some.inj H
  refine QN.body rfl [] (RFacts.nil _ _ _) (.no) (i6 0) (by kernel_rfl) (by kernel_rfl) (by kernel_rfl) ?_ _ (.inr rfl)
  exact fun w' hs' => ⟨_, rfl, I0, Ab0_0, cb0_0, rfl, ((hs'.fin.selB [0] (by kernel_rfl)).sel [] (by kernel_rfl)), hlb0_0, hrb0_0⟩
 ·skip
  have hc := (not_not_intro (bne_eq_false_iff_eq.1 hb))
  rw [if_neg hc] at H
  clear hb
  refine OK.skt ?_
  refine OK.sq ?_
  obtain ⟨hs0_1, H⟩ := ifs H
  obtain ⟨hs1_1, H⟩ := ifs H
  obtain ⟨t1, hA1, H⟩ := bnd H
  refine OK.drawnC 3 16 O65s0_14 a65s0_14n (by kernel_rfl) (by kernel_rfl) (u65d1l t1) (u65d1g b0 Ab0_0 cb0_0) [] (RI.nil _) [.no, .no, .no, .l 0, .no, .no, .no, .l 0, .no, .no, .no, .no, .no, .no, .no, .no] a65s0_14 a65s0_14o (by kernel_rfl) (by kernel_rfl) (u65d1s gb0 b0 Ab0_0 cb0_0 t1) (u65d1f gb0 a1 a2 b0 Ab0_0 cb0_0 t1 16) (u65d1v gb0 a1 a2 b0 Ab0_0 cb0_0 t1) (u65d1e gb0 a1 a2 b0 Ab0_0 cb0_0 t1) [u65d1f gb0 a1 a2 b0 Ab0_0 cb0_0 t1 9] (framesOk.cons (fun u => rfl) framesOk.nil) ?_ [u65d1f gb0 a1 a2 b0 Ab0_0 cb0_0 t1 8] (framesOk.cons (fun u => rfl) framesOk.nil) ?_ ?_
  ·refine LoudsG.cons ?_ (LoudsG.nil)
   ·intro D u J w hp hJ hs hF
    refine Does.call 70 [.slice (slA Ab0_0 (b0.f1).toNat cb0_0 1) ((rpart b0.f0 b0.f1 (b0.f0.length : Int)).length) (cb0_0 - (b0.f1).toNat)] (by kernel_rfl) ((armillaryref27_varint.calls k J (rpart b0.f0 b0.f1 (b0.f0.length : Int)) (slA Ab0_0 (b0.f1).toNat cb0_0 1) (cb0_0 - (b0.f1).toNat) w hs.im (part_le hlb0_0 hs0_1 hs1_1 (Int.le_refl _)) (Rd.ext hJ (rd_sub hrb0_0 hlb0_0 hs0_1 hs1_1 (Int.le_refl _))) t1 hA1).mono ?_)
    rintro e w' ⟨v, rfl, J2, rfl, hg⟩
    exact ⟨_, rfl, fun _ => (none, 0, []), J2, rfl, hg, trivial⟩
  ·refine Givens.cons (fun u w =>  ?_) (fun _ _ _ => rfl) (Givens.nil)
   ·exact giv_subL (T := 22) (e := 5) (l := b0.f0) (S := Ab0_0) (cap := cb0_0) (lo := b0.f1) 1 .i64 (by kernel_rfl) (by kernel_rfl) (by kernel_rfl) hs0_1 hs1_1 w
  intro u I1 nx1 hi1 hF
  clear hF
  refine RL.norm (K' := [(8, i6 t1.2.1), (7, i6 t1.1), (28, i6 t1.2.2), (27, i6 t1.2.1), (26, i6 t1.1), (15, .tuple #[i6 t1.1, i6 t1.2.1, i6 t1.2.2]), (25, .tuple #[i6 t1.1, i6 t1.2.1, i6 t1.2.2]), (24, .slice (slA Ab0_0 (b0.f1).toNat cb0_0 1) ((rpart b0.f0 b0.f1 (b0.f0.length : Int)).length) (cb0_0 - (b0.f1).toNat)), (23, i6 b0.f1), (22, pt gb0 1), (21, pt gb0 0), (20, pt gb0 0), (19, .slice Ab0_0 b0.f0.length cb0_0), (18, pt gb0 0), (17, pt gb0 0), (16, pt gb0 0), (14, .bool (b0.f2 != 0)), (0, pt gb0 0), (1, i6 a1), (2, i6 a2)]) (X' := []) (by kernel_rfl) rfl rfl rfl ?_
  refine RL.st 1 [(9, i6 t1.2.2), (8, i6 t1.2.1), (7, i6 t1.1), (0, pt gb0 0), (1, i6 a1), (2, i6 a2)] ?_
  refine OK.sq ?_
  refine OK.sq ?_
  refine OK.join (fun K' I' _ L' X' => ∃ (x1 : Bool), K' = [(0, pt gb0 0), (7, i6 t1.1), (8, i6 t1.2.1), (9, i6 t1.2.2), (40, .bool x1)] ∧ L' = [⟨gb0, [.slice Ab0_0 b0.f0.length cb0_0, i6 b0.f1, i6 b0.f2], 111⟩] ∧ X' = [] ∧ Imm.le I1 I' ∧ armillaryref27_reader_numbers0.k2 b0 t1 x1 = some r) ?_ ?_
  ·rintro _ I2 nx2 _ _ ⟨x1, rfl, rfl, rfl, hi2, H⟩
   rw [armillaryref27_reader_numbers0.k2] at H
   refine QN.then_ ?_
   refine OK.join (fun K' I' _ L' X' => ∃ (x2 : Int), K' = [(0, pt gb0 0), (7, i6 t1.1), (8, i6 t1.2.1), (9, i6 x2)] ∧ L' = [⟨gb0, [.slice Ab0_0 b0.f0.length cb0_0, i6 b0.f1, i6 b0.f2], 111⟩] ∧ X' = [] ∧ Imm.le I2 I' ∧ armillaryref27_reader_numbers0.k1 b0 t1 x2 = some r) ?_ ?_
   ·rintro _ I3 nx3 _ _ ⟨x2, rfl, rfl, rfl, hi3, H⟩
    rw [armillaryref27_reader_numbers0.k1] at H
    refine QN.then_ ?_
    refine OK.sq ?_
    refine OK.sr ?_
    refine RL.st 2 [(42, .bool (x2 != 0)), (0, pt gb0 0), (7, i6 t1.1), (8, i6 t1.2.1), (9, i6 x2)] ?_
    refine OK.cd (x2 != 0) (fun hb => ?_) (fun hb => ?_)
    ·skip
     have hc := (bne_iff_ne.1 hb)
     rw [if_pos hc] at H
     clear hb
     refine OK.sr ?_
     refine RL.simP (K' := []) (nx' := nx3) (L' := [⟨gb0, [.slice Ab0_0 b0.f0.length cb0_0, i6 b0.f1, i6 x2], 111⟩]) [] (RFacts.nil _ _ _) 5 [.no, .no, .no, .no, .l 0] (by kernel_rfl) (by kernel_rfl) ?_
     refine RL.nt ?_
     refine OK.sr ?_
     refine RL.st 1 [(6, i6 0)] ?_
     refine OK.re ?_
     refine QN.thenR ?_
     obtain rfl := Option.some.inj H
     refine QN.body rfl [] (RFacts.nil _ _ _) (.no) (i6 0) (by kernel_rfl) (by kernel_rfl) (by kernel_rfl) ?_ _ (.inr rfl)
     exact fun w' hs' => ⟨_, rfl, I3, Ab0_0, cb0_0, rfl, ((hs'.fin.selB [0] (by kernel_rfl)).sel [] (by kernel_rfl)), hlb0_0, (Rd.ext (Imm.le_trans (Imm.le_trans hi1 hi2) hi3) hrb0_0)⟩
    ·skip
     have hc := (not_not_intro (bne_eq_false_iff_eq.1 hb))
     rw [if_neg hc] at H
     clear hb
     refine OK.skt ?_
     refine OK.sr ?_
     refine RL.simP (K' := [(7, i6 t1.1)]) (nx' := nx3) (L' := [⟨gb0, [.slice Ab0_0 b0.f0.length cb0_0, i6 (W .i64 (b0.f1 + t1.2.1)), i6 b0.f2], 111⟩]) [] (RFacts.nil _ _ _) 10 [.no, .no, .no, .no, .l 0, .no, .no, .no, .no, .l 0] (by kernel_rfl) (by kernel_rfl) ?_
     refine RL.nt ?_
     refine OK.sr ?_
     refine RL.st 2 [(6, i6 t1.1)] ?_
     refine OK.re ?_
     obtain rfl := Option.some.inj H
     refine QN.body rfl [] (RFacts.nil _ _ _) (.no) (i6 t1.1) (by kernel_rfl) (by kernel_rfl) (by kernel_rfl) ?_ _ (.inr rfl)
     exact fun w' hs' => ⟨_, rfl, I3, Ab0_0, cb0_0, rfl, ((hs'.fin.selB [0] (by kernel_rfl)).sel [] (by kernel_rfl)), hlb0_0, (Rd.ext (Imm.le_trans (Imm.le_trans hi1 hi2) hi3) hrb0_0)⟩
   ·intro Q_1 hJ2 hQ2
    obtain ⟨y2, H, HK2⟩ := bnd H
    refine OK.cd x1 (fun hb => ?_) (fun hb => ?_)
    ·skip
     have hc := hb
     rw [if_pos hc] at H
     clear hb
     refine OK.rg ?_
     refine RL.s 1 [(9, i6 272), (0, pt gb0 0), (7, i6 t1.1), (8, i6 t1.2.1)] ?_
     refine RL.nil (by kernel_rfl) ?_
     obtain rfl := Option.some.inj H
     exact QN.sb (hJ2 _ _ _ _ _ ⟨272, rfl, rfl, rfl, (Imm.le_refl _), HK2⟩) (.cons_cons _ .slnil) (.refl _)
    ·skip
     have hc := (Bool.eq_false_iff.1 hb)
     rw [if_neg hc] at H
     clear hb
     refine OK.sk ?_
     obtain rfl := Option.some.inj H
     exact QN.sb (hJ2 _ _ _ _ _ ⟨t1.2.2, rfl, rfl, rfl, (Imm.le_refl _), HK2⟩) (.cons_cons _ .slnil) (.refl _)
  ·intro Q_2 hJ1 hQ1
   obtain ⟨y1, H, HK1⟩ := bnd H
   refine OK.rg ?_
   refine RL.s 3 [(31, .bool (t1.2.2 == 0)), (9, i6 t1.2.2), (8, i6 t1.2.1), (7, i6 t1.1), (0, pt gb0 0), (1, i6 a1), (2, i6 a2)] ?_
   refine RL.cases (t1.2.2 == 0) (fun hb => ?_) (fun hb => ?_)
   ·have hc := (beq_iff_eq.1 hb)
    rw [hb]
    rw [if_pos hc] at H; clear hb
    refine RL.s 4 [(35, .bool (decide (t1.1 < a1))), (31, .bool true), (9, i6 t1.2.2), (8, i6 t1.2.1), (7, i6 t1.1), (0, pt gb0 0), (2, i6 a2)] ?_
    refine RL.cases (decide (t1.1 < a1)) (fun hb => ?_) (fun hb => ?_)
    ·have hc := (of_decide_eq_true hb)
     rw [hb]
     rw [if_pos hc] at H; clear hb
     refine RL.s 5 [(40, .bool true), (9, i6 t1.2.2), (8, i6 t1.2.1), (7, i6 t1.1), (0, pt gb0 0)] ?_
     refine RL.nil (by kernel_rfl) ?_
     obtain rfl := Option.some.inj H
     exact QN.sb (hJ1 _ _ _ _ _ ⟨true, rfl, rfl, rfl, (Imm.le_refl _), HK1⟩) (.cons_cons _ .slnil) (.refl _)
    ·have hc := (of_decide_eq_false hb)
     rw [hb]
     rw [if_neg hc] at H; clear hb
     refine RL.s 5 [(40, .bool (decide (t1.1 > a2))), (9, i6 t1.2.2), (8, i6 t1.2.1), (7, i6 t1.1), (0, pt gb0 0)] ?_
     refine RL.nil (by kernel_rfl) ?_
     obtain rfl := Option.some.inj H
     exact QN.sb (hJ1 _ _ _ _ _ ⟨(decide (t1.1 > a2)), rfl, rfl, rfl, (Imm.le_refl _), HK1⟩) (.cons_cons _ .slnil) (.refl _)
   ·have hc := (beq_eq_false_iff_ne.1 hb)
    rw [hb]
    rw [if_neg hc] at H; clear hb
    refine RL.s 9 [(40, .bool false), (9, i6 t1.2.2), (8, i6 t1.2.1), (7, i6 t1.1), (0, pt gb0 0)] ?_
    refine RL.nil (by kernel_rfl) ?_
    obtain rfl := Option.some.inj H
    exact QN.sb (hJ1 _ _ _ _ _ ⟨false, rfl, rfl, rfl, (Imm.le_refl _), HK1⟩) (.cons_cons _ .slnil) (.refl _)

end Go.Proofs.YtiomeaoeegikkaaDoor
namespace Go.Proofs.YtiomeaoeegikkaaDoor
open Go Go.Proofs.YtiomeaoeegikkaaDoor.RW
set_option linter.unusedVariables false
set_option maxRecDepth 100000
set_option maxHeartbeats 8000000

/-! ### armillaryref27_reader_bytess0: function 66, (*armillary/armillaryref27.reader).bytes -/
noncomputable def K66s0_0 : Code := cBody Tryd.f66
noncomputable def O66s0_18 : List Oper := cOps (cL (cL (cR (cR (cR K66s0_0)))))
noncomputable def O66s0_33 : List Oper := cOps (cL (cR (cR (cR (cR (cR K66s0_0))))))
def armillaryref27_reader_bytess0.f (k : Nat) (a1 : Int) (a2 : Int) (b0 : S111) : Option (List Int × S111) := ((armillaryref27_reader_numbers0.f k a1 a2 b0).bind fun t1 => (if t1.2.f2 ≠ 0 then (some (([] : List Int), t1.2)) else (if (W .i64 ((t1.2.f0.length : Int) - t1.2.f1)) < t1.1 then (some (([] : List Int), (⟨t1.2.f0, t1.2.f1, 271⟩ : S111))) else (if (0 : Int) ≤ (W .i64 ((W .i64 (t1.2.f1 + t1.1)) - t1.1)) then (if (W .i64 ((W .i64 (t1.2.f1 + t1.1)) - t1.1)) ≤ (W .i64 (t1.2.f1 + t1.1)) then (if (W .i64 (t1.2.f1 + t1.1)) ≤ (t1.2.f0.length : Int) then (if (([] : List Int).length + (rpart t1.2.f0 (W .i64 ((W .i64 (t1.2.f1 + t1.1)) - t1.1)) (W .i64 (t1.2.f1 + t1.1))).length) * 1 ≤ 140737488355328 then (some ((([] : List Int) ++ (rpart t1.2.f0 (W .i64 ((W .i64 (t1.2.f1 + t1.1)) - t1.1)) (W .i64 (t1.2.f1 + t1.1)))), (⟨t1.2.f0, W .i64 (t1.2.f1 + t1.1), t1.2.f2⟩ : S111))) else none) else none) else none) else none))))
def armillaryref27_reader_bytess0.Post (S : Nat → Prop) (gb0 : Nat) (a1 : Int) (a2 : Int) (b0 : S111) (Ab0_0 : Option Addr) (cb0_0 : Nat) (I : Imm) (w : World) (r : List Int × S111) (v : Value) (w' : World) : Prop :=
 ∃ (J : Imm) (Ar0 : Option Addr) (cr0 : Nat) (csr0 : List Value) (Ar1_0 : Option Addr) (cr1_0 : Nat), v = .slice Ar0 r.1.length cr0 ∧ Sat ⟨w, S, I⟩ J w'.heap.size [⟨gb0, [.slice Ar1_0 r.2.f0.length cr1_0, .int .i64 r.2.f1, .int .i64 r.2.f2], 111⟩] [orow 5 1 Ar0 r.1.length cr0 csr0] w' ∧ Reps (Ty.int .u8) J r.1 csr0 ∧ r.2.f0.length ≤ cr1_0 ∧ Rd (Ty.int .u8) J Ar1_0 r.2.f0
noncomputable def a66s0_18n : List Nat := [0, 1, 3, 7, 15, 0, 32, 96, 224, 511, 0, 2047]
theorem a66s0_18 : ancs O66s0_18 [] = a66s0_18n := by kernel_rfl
theorem a66s0_18o : drawOk O66s0_18 a66s0_18n 11 = true := by kernel_rfl
noncomputable def u66d1l  : List Ld :=
 []
noncomputable def u66d1g  : List (Nat × ((Nat → Wt) → Value)) := []
noncomputable def u66d1q (gb0 : Nat) (t1 : Int × S111) (A1 : Option Addr) (c1 : Nat) (u : Nat → Wt) : Option (List Value × List (Nat × Value) × List (Nat × Nat)) := qSim Tryd.prog [] [⟨gb0, [.slice A1 t1.2.f0.length c1, i6 t1.2.f1, i6 t1.2.f2], 111⟩] O66s0_18 ⟨58, []⟩ (Ld.vl u66d1l) u66d1g u [.no, .no, .no, .l 0, .no, .no, .no, .no, .l 0, .no, .no] 0 (O66s0_18.take 11) [(16, .bool (t1.2.f2 != 0)), (7, i6 t1.1), (0, pt gb0 0)]
noncomputable def u66d1s (gb0 : Nat) (t1 : Int × S111) (A1 : Option Addr) (c1 : Nat) (u : Nat → Wt) : List Value := [pt gb0 0, pt gb0 0, pt gb0 0, .slice A1 t1.2.f0.length c1, i6 (t1.2.f0.length : Int), pt gb0 0, pt gb0 0, pt gb0 1, i6 t1.2.f1, i6 (W .i64 ((t1.2.f0.length : Int) - t1.2.f1)), i6 t1.1]
noncomputable def u66d1f (gb0 : Nat) (t1 : Int × S111) (A1 : Option Addr) (c1 : Nat) (i : Nat) (u : Nat → Wt) : List (Nat × Value) := foldPut ⟨58, []⟩ [(16, .bool (t1.2.f2 != 0)), (7, i6 t1.1), (0, pt gb0 0)] (O66s0_18.take i) (((u66d1s gb0 t1 A1 c1) u).take i)
theorem u66d1v (gb0 : Nat) (t1 : Int × S111) (A1 : Option Addr) (c1 : Nat) (u : Nat → Wt) : (u66d1q gb0 t1 A1 c1 u).map (fun x => (x.1, x.2.1)) = some ((u66d1s gb0 t1 A1 c1) u, (u66d1f gb0 t1 A1 c1 11) u) := by kernel_rfl
theorem u66d1e (gb0 : Nat) (t1 : Int × S111) (A1 : Option Addr) (c1 : Nat) (u : Nat → Wt) : (u66d1q gb0 t1 A1 c1 u).map (fun x => x.2.2.map (·.1)) = (u66d1q gb0 t1 A1 c1 u).map (fun x => x.2.2.map (·.2)) := by kernel_rfl
noncomputable def a66s0_33n : List Nat := [0, 0, 2, 6, 14, 0, 32, 96, 224, 0, 992, 0, 2048, 6144, 14336, 32766, 65535, 131071]
theorem a66s0_33 : ancs O66s0_33 [] = a66s0_33n := by kernel_rfl
theorem a66s0_33o : drawOk O66s0_33 a66s0_33n 16 = true := by kernel_rfl
noncomputable def u66d2l  : List Ld :=
 [⟨0, fun x => .slice (some ⟨(x 0).2.1, 0, none⟩) 0 0, fun x => [RW.kblk (x 0).2.1 5 []], fun x J => True, fun x J J' h f => trivial⟩]
noncomputable def u66d2g (t1 : Int × S111) (A1 : Option Addr) (c1 : Nat) : List (Nat × ((Nat → Wt) → Value)) := [(15, fun u => .slice (slA A1 ((W .i64 ((W .i64 (t1.2.f1 + t1.1)) - t1.1))).toNat c1 1) ((rpart t1.2.f0 (W .i64 ((W .i64 (t1.2.f1 + t1.1)) - t1.1)) (W .i64 (t1.2.f1 + t1.1))).length) (c1 - ((W .i64 ((W .i64 (t1.2.f1 + t1.1)) - t1.1))).toNat))]
noncomputable def u66d2q (gb0 : Nat) (t1 : Int × S111) (A1 : Option Addr) (c1 : Nat) (u : Nat → Wt) : Option (List Value × List (Nat × Value) × List (Nat × Nat)) := qSim Tryd.prog [] [⟨gb0, [.slice A1 t1.2.f0.length c1, i6 (W .i64 (t1.2.f1 + t1.1)), i6 t1.2.f2], 111⟩] O66s0_33 ⟨58, []⟩ (Ld.vl u66d2l) (u66d2g t1 A1 c1) u [.no, .no, .no, .no, .l 0, .no, .no, .no, .l 0, .no, .no, .no, .no, .no, .l 0, .no] 0 (O66s0_33.take 16) [(7, i6 t1.1), (0, pt gb0 0)]
noncomputable def u66d2s (gb0 : Nat) (t1 : Int × S111) (A1 : Option Addr) (c1 : Nat) (u : Nat → Wt) : List Value := [.slice (some ⟨(u 0 0).2.1, 0, none⟩) 0 0, pt gb0 0, pt gb0 0, pt gb0 0, .slice A1 t1.2.f0.length c1, pt gb0 0, pt gb0 0, pt gb0 1, i6 (W .i64 (t1.2.f1 + t1.1)), i6 t1.1, i6 (W .i64 ((W .i64 (t1.2.f1 + t1.1)) - t1.1)), pt gb0 0, pt gb0 0, pt gb0 1, i6 (W .i64 (t1.2.f1 + t1.1)), .slice (slA A1 ((W .i64 ((W .i64 (t1.2.f1 + t1.1)) - t1.1))).toNat c1 1) ((rpart t1.2.f0 (W .i64 ((W .i64 (t1.2.f1 + t1.1)) - t1.1)) (W .i64 (t1.2.f1 + t1.1))).length) (c1 - ((W .i64 ((W .i64 (t1.2.f1 + t1.1)) - t1.1))).toNat)]
noncomputable def u66d2f (gb0 : Nat) (t1 : Int × S111) (A1 : Option Addr) (c1 : Nat) (i : Nat) (u : Nat → Wt) : List (Nat × Value) := foldPut ⟨58, []⟩ [(7, i6 t1.1), (0, pt gb0 0)] (O66s0_33.take i) (((u66d2s gb0 t1 A1 c1) u).take i)
theorem u66d2v (gb0 : Nat) (t1 : Int × S111) (A1 : Option Addr) (c1 : Nat) (u : Nat → Wt) : (u66d2q gb0 t1 A1 c1 u).map (fun x => (x.1, x.2.1)) = some ((u66d2s gb0 t1 A1 c1) u, (u66d2f gb0 t1 A1 c1 16) u) := by kernel_rfl
theorem u66d2e (gb0 : Nat) (t1 : Int × S111) (A1 : Option Addr) (c1 : Nat) (u : Nat → Wt) : (u66d2q gb0 t1 A1 c1 u).map (fun x => x.2.2.map (·.1)) = (u66d2q gb0 t1 A1 c1 u).map (fun x => x.2.2.map (·.2)) := by kernel_rfl
theorem armillaryref27_reader_bytess0.calls (k : Nat) (I0 : Imm) (gb0 : Nat) (a1 : Int) (a2 : Int) (b0 : S111) (Ab0_0 : Option Addr) (cb0_0 : Nat) (w : World) (hs : Sat ⟨w, SM [⟨gb0, [.slice Ab0_0 b0.f0.length cb0_0, i6 b0.f1, i6 b0.f2], 111⟩] [], I0⟩ I0 w.heap.size [⟨gb0, [.slice Ab0_0 b0.f0.length cb0_0, i6 b0.f1, i6 b0.f2], 111⟩] [] w) (hlb0_0 : b0.f0.length ≤ cb0_0) (hrb0_0 : Rd (Ty.int .u8) I0 Ab0_0 b0.f0) (r : List Int × S111) (h : armillaryref27_reader_bytess0.f k a1 a2 b0 = some r) :
  Calls Tryd.prog 66 [pt gb0 0, i6 a1, i6 a2].toArray w fun e w' => ∃ v, e = .returned v ∧ armillaryref27_reader_bytess0.Post (SM [⟨gb0, [.slice Ab0_0 b0.f0.length cb0_0, i6 b0.f1, i6 b0.f2], 111⟩] []) gb0 a1 a2 b0 Ab0_0 cb0_0 I0 w r v w' := by
 have H : ((armillaryref27_reader_numbers0.f k a1 a2 b0).bind fun t1 => (if t1.2.f2 ≠ 0 then (some (([] : List Int), t1.2)) else (if (W .i64 ((t1.2.f0.length : Int) - t1.2.f1)) < t1.1 then (some (([] : List Int), (⟨t1.2.f0, t1.2.f1, 271⟩ : S111))) else (if (0 : Int) ≤ (W .i64 ((W .i64 (t1.2.f1 + t1.1)) - t1.1)) then (if (W .i64 ((W .i64 (t1.2.f1 + t1.1)) - t1.1)) ≤ (W .i64 (t1.2.f1 + t1.1)) then (if (W .i64 (t1.2.f1 + t1.1)) ≤ (t1.2.f0.length : Int) then (if (([] : List Int).length + (rpart t1.2.f0 (W .i64 ((W .i64 (t1.2.f1 + t1.1)) - t1.1)) (W .i64 (t1.2.f1 + t1.1))).length) * 1 ≤ 140737488355328 then (some ((([] : List Int) ++ (rpart t1.2.f0 (W .i64 ((W .i64 (t1.2.f1 + t1.1)) - t1.1)) (W .i64 (t1.2.f1 + t1.1)))), (⟨t1.2.f0, W .i64 (t1.2.f1 + t1.1), t1.2.f2⟩ : S111))) else none) else none) else none) else none)))) = some r := h
 clear h
 refine calls_bodyL Tryd.func66 (by kernel_rfl) 58 (by kernel_rfl) (by kernel_rfl) ⟨w, SM [⟨gb0, [.slice Ab0_0 b0.f0.length cb0_0, i6 b0.f1, i6 b0.f2], 111⟩] [], I0⟩ I0 [⟨gb0, [.slice Ab0_0 b0.f0.length cb0_0, i6 b0.f1, i6 b0.f2], 111⟩] [] [(0, pt gb0 0), (1, i6 a1), (2, i6 a2)] (by kernel_rfl) hs ?_
 generalize w.heap.size = nx0
 show OK _ K66s0_0 _ _ _ _ _ _ _ _
 refine OK.sr ?_
 refine RL.st 1 [(0, pt gb0 0), (1, i6 a1), (2, i6 a2)] ?_
 refine OK.sr ?_
 refine RL.s 3 [(10, i6 a2), (9, i6 a1), (8, pt gb0 0), (0, pt gb0 0)] ?_
 obtain ⟨t1, hA1, H⟩ := bnd H
 refine RL.callM (L1 := [⟨gb0, [.slice Ab0_0 b0.f0.length cb0_0, i6 b0.f1, i6 b0.f2], 111⟩]) (L2 := []) (X1 := []) (X2 := []) rfl rfl 65 [pt gb0 0, i6 a1, i6 a2] (some 11) (fun w => armillaryref27_reader_numbers0.Post (SM [⟨gb0, [.slice Ab0_0 b0.f0.length cb0_0, i6 b0.f1, i6 b0.f2], 111⟩] []) gb0 a1 a2 b0 Ab0_0 cb0_0 I0 w t1) (by kernel_rfl) (by kernel_rfl) (fun w hs => armillaryref27_reader_numbers0.calls k I0 gb0 a1 a2 b0 Ab0_0 cb0_0 w hs hlb0_0 hrb0_0 t1 hA1) ?_
 rintro w v w' hs ⟨I1, A1, c1, rfl, hg, hl1, hr1⟩
 have hi1 : Imm.le I0 I1 := hg.le
 refine RL.resume (L' := [⟨gb0, [.slice A1 t1.2.f0.length c1, i6 t1.2.f1, i6 t1.2.f2], 111⟩]) (X' := []) rfl (hs.outof hg) ?_
 clear hs hg
 generalize w'.heap.size = nx1
 clear w w'
 refine RL.st 1 [(7, i6 t1.1), (0, pt gb0 0)] ?_
 refine OK.sq ?_
 refine OK.sr ?_
 refine RL.simK (K' := [(16, .bool (t1.2.f2 != 0)), (7, i6 t1.1), (0, pt gb0 0)]) [] (RFacts.nil _ _ _) 5 [.no, .no, .no, .l 0, .no] (by kernel_rfl) (by kernel_rfl) ?_
 refine RL.nt ?_
 refine OK.cd (t1.2.f2 != 0) (fun hb => ?_) (fun hb => ?_)
 ·skip
  have hc := (bne_iff_ne.1 hb)
  rw [if_pos hc] at H
  clear hb
  refine OK.sr ?_
  refine RL.st 1 [(6, .slice none 0 0)] ?_
  refine OK.re ?_
  refine QN.thenR ?_
  refine QN.nilRow 5 1 ?_
  have hp1 : Reps (Ty.int .u8) I1 ([] : List Int) [] := rfl
  obtain rfl := Option.some.inj H
  refine QN.body rfl [] (RFacts.nil _ _ _) (.no) (.slice none (([] : List Int).length) 0) (by kernel_rfl) (by kernel_rfl) (by kernel_rfl) ?_ _ (.inr rfl)
  exact fun w' hs' => ⟨_, rfl, I1, none, 0, [], A1, c1, rfl, ((hs'.fin.selB [0] (by kernel_rfl)).sel [0] (by kernel_rfl)), hp1, hl1, hr1⟩
 ·skip
  have hc := (not_not_intro (bne_eq_false_iff_eq.1 hb))
  rw [if_neg hc] at H
  clear hb
  refine OK.skt ?_
  refine OK.sq ?_
  refine OK.sq ?_
  refine OK.drawnC 4 11 O66s0_18 a66s0_18n (by kernel_rfl) (by kernel_rfl) u66d1l u66d1g [] (RI.nil _) [.no, .no, .no, .l 0, .no, .no, .no, .no, .l 0, .no, .no] a66s0_18 a66s0_18o (by kernel_rfl) (by kernel_rfl) (u66d1s gb0 t1 A1 c1) (u66d1f gb0 t1 A1 c1 11) (u66d1v gb0 t1 A1 c1) (u66d1e gb0 t1 A1 c1) [] framesOk.nil ?_ [] framesOk.nil ?_ ?_
  ·refine LoudsG.nil
  ·refine Givens.nil
  intro u I2 nx2 hi2 hF
  clear hF
  refine RL.norm (K' := [(27, i6 t1.1), (26, i6 (W .i64 ((t1.2.f0.length : Int) - t1.2.f1))), (25, i6 t1.2.f1), (24, pt gb0 1), (23, pt gb0 0), (22, pt gb0 0), (21, i6 (t1.2.f0.length : Int)), (20, .slice A1 t1.2.f0.length c1), (19, pt gb0 0), (18, pt gb0 0), (17, pt gb0 0), (16, .bool (t1.2.f2 != 0)), (7, i6 t1.1), (0, pt gb0 0)]) (X' := []) (by kernel_rfl) rfl rfl rfl ?_
  refine RL.st 1 [(28, .bool (decide ((W .i64 ((t1.2.f0.length : Int) - t1.2.f1)) < t1.1))), (7, i6 t1.1), (0, pt gb0 0)] ?_
  refine OK.cd (decide ((W .i64 ((t1.2.f0.length : Int) - t1.2.f1)) < t1.1)) (fun hb => ?_) (fun hb => ?_)
  ·skip
   have hc := (of_decide_eq_true hb)
   rw [if_pos hc] at H
   clear hb
   refine OK.sr ?_
   refine RL.simP (K' := []) (nx' := nx2) (L' := [⟨gb0, [.slice A1 t1.2.f0.length c1, i6 t1.2.f1, i6 271], 111⟩]) [] (RFacts.nil _ _ _) 4 [.no, .no, .no, .l 0] (by kernel_rfl) (by kernel_rfl) ?_
   refine RL.nt ?_
   refine OK.sr ?_
   refine RL.st 1 [(6, .slice none 0 0)] ?_
   refine OK.re ?_
   refine QN.thenR ?_
   refine QN.nilRow 5 1 ?_
   have hp2 : Reps (Ty.int .u8) I2 ([] : List Int) [] := rfl
   obtain rfl := Option.some.inj H
   refine QN.body rfl [] (RFacts.nil _ _ _) (.no) (.slice none (([] : List Int).length) 0) (by kernel_rfl) (by kernel_rfl) (by kernel_rfl) ?_ _ (.inr rfl)
   exact fun w' hs' => ⟨_, rfl, I2, none, 0, [], A1, c1, rfl, ((hs'.fin.selB [0] (by kernel_rfl)).sel [0] (by kernel_rfl)), hp2, hl1, (Rd.ext hi2 hr1)⟩
  ·skip
   have hc := (of_decide_eq_false hb)
   rw [if_neg hc] at H
   clear hb
   refine OK.skt ?_
   refine OK.sr ?_
   refine RL.simP (K' := [(7, i6 t1.1), (0, pt gb0 0)]) (nx' := nx2) (L' := [⟨gb0, [.slice A1 t1.2.f0.length c1, i6 (W .i64 (t1.2.f1 + t1.1)), i6 t1.2.f2], 111⟩]) [] (RFacts.nil _ _ _) 10 [.no, .no, .no, .no, .l 0, .no, .no, .no, .no, .l 0] (by kernel_rfl) (by kernel_rfl) ?_
   refine RL.nt ?_
   refine OK.sq ?_
   obtain ⟨hs0_1, H⟩ := ifs H
   obtain ⟨hs1_1, H⟩ := ifs H
   obtain ⟨hs2_1, H⟩ := ifs H
   refine OK.drawnC 8 16 O66s0_33 a66s0_33n (by kernel_rfl) (by kernel_rfl) u66d2l (u66d2g t1 A1 c1) [] (RI.nil _) [.no, .no, .no, .no, .l 0, .no, .no, .no, .l 0, .no, .no, .no, .no, .no, .l 0, .no] a66s0_33 a66s0_33o (by kernel_rfl) (by kernel_rfl) (u66d2s gb0 t1 A1 c1) (u66d2f gb0 t1 A1 c1 16) (u66d2v gb0 t1 A1 c1) (u66d2e gb0 t1 A1 c1) [u66d2f gb0 t1 A1 c1 0] (framesOk.cons (fun u => rfl) framesOk.nil) ?_ [u66d2f gb0 t1 A1 c1 15] (framesOk.cons (fun u => rfl) framesOk.nil) ?_ ?_
   ·refine LoudsG.cons ?_ (LoudsG.nil)
    ·intro D u J w hp hJ hs hF
     refine (Does.make hs.im (fun n_ => .slice (some ⟨n_, 0, none⟩) 0 0) (cs := []) (ty := 5) (fun n_ => by kernel_rfl)).mono ?_
     rintro v w' ⟨rfl, hg⟩
     exact ⟨fun _ => (none, w.heap.size, []), J, rfl, hg, trivial⟩
   ·refine Givens.cons (fun u w =>  ?_) (fun _ _ _ => rfl) (Givens.nil)
    ·exact giv_sub (T := 22) (e := 5) (l := t1.2.f0) (S := A1) (cap := c1) (lo := W .i64 ((W .i64 (t1.2.f1 + t1.1)) - t1.1)) (hi := W .i64 (t1.2.f1 + t1.1)) 1 .i64 .i64 (by kernel_rfl) (by kernel_rfl) (by kernel_rfl) hl1 hs0_1 hs1_1 hs2_1 w
   intro u I3 nx3 hi3 hF
   clear hF
   refine RL.norm (K' := [(56, .slice (slA A1 ((W .i64 ((W .i64 (t1.2.f1 + t1.1)) - t1.1))).toNat c1 1) ((rpart t1.2.f0 (W .i64 ((W .i64 (t1.2.f1 + t1.1)) - t1.1)) (W .i64 (t1.2.f1 + t1.1))).length) (c1 - ((W .i64 ((W .i64 (t1.2.f1 + t1.1)) - t1.1))).toNat)), (55, i6 (W .i64 (t1.2.f1 + t1.1))), (54, pt gb0 1), (53, pt gb0 0), (52, pt gb0 0), (51, i6 (W .i64 ((W .i64 (t1.2.f1 + t1.1)) - t1.1))), (50, i6 t1.1), (49, i6 (W .i64 (t1.2.f1 + t1.1))), (48, pt gb0 1), (47, pt gb0 0), (46, pt gb0 0), (45, .slice A1 t1.2.f0.length c1), (44, pt gb0 0), (43, pt gb0 0), (42, pt gb0 0), (41, .slice (some ⟨(u 0 0).2.1, 0, none⟩) 0 0), (7, i6 t1.1), (0, pt gb0 0)]) (X' := [RW.kblk (u 0 0).2.1 5 []]) (by kernel_rfl) rfl rfl rfl ?_
   generalize (u 0 0).1 = A2
   generalize (u 0 0).2.1 = c2
   generalize (u 0 0).2.2 = cs1
   clear u
   refine RL.kblk (g := c2) (ty := 5) (cs := []) 0 (by kernel_rfl) ?_
   show RL _ _ _ 16 _ [(56, .slice (slA A1 ((W .i64 ((W .i64 (t1.2.f1 + t1.1)) - t1.1))).toNat c1 1) ((rpart t1.2.f0 (W .i64 ((W .i64 (t1.2.f1 + t1.1)) - t1.1)) (W .i64 (t1.2.f1 + t1.1))).length) (c1 - ((W .i64 ((W .i64 (t1.2.f1 + t1.1)) - t1.1))).toNat)), (55, i6 (W .i64 (t1.2.f1 + t1.1))), (54, pt gb0 1), (53, pt gb0 0), (52, pt gb0 0), (51, i6 (W .i64 ((W .i64 (t1.2.f1 + t1.1)) - t1.1))), (50, i6 t1.1), (49, i6 (W .i64 (t1.2.f1 + t1.1))), (48, pt gb0 1), (47, pt gb0 0), (46, pt gb0 0), (45, .slice A1 t1.2.f0.length c1), (44, pt gb0 0), (43, pt gb0 0), (42, pt gb0 0), (41, .slice (some ⟨c2, 0, none⟩) 0 0), (7, i6 t1.1), (0, pt gb0 0)] _ _ _ [⟨gb0, [.slice A1 t1.2.f0.length c1, i6 (W .i64 (t1.2.f1 + t1.1)), i6 t1.2.f2], 111⟩, ⟨c2, [], 5⟩] []
   refine RL.toRow (b := ⟨c2, [], 5⟩) 1 0 1 (by kernel_rfl) (by kernel_rfl) (by decide) ?_
   have hp3 : Reps (Ty.int .u8) I3 ([] : List Int) [] := rfl
   refine RL.norm (L' := [⟨gb0, [.slice A1 t1.2.f0.length c1, i6 (W .i64 (t1.2.f1 + t1.1)), i6 t1.2.f2], 111⟩]) (X' := [orow 5 1 (some ⟨c2, 0, none⟩) (([] : List Int).length) 0 []]) rfl rfl (by kernel_rfl) (by kernel_rfl) ?_
   obtain ⟨hz1, H⟩ := ifs H
   refine RL.appendR (T := 22) (e := 5) (S := (some ⟨c2, 0, none⟩)) (S2 := (slA A1 ((W .i64 ((W .i64 (t1.2.f1 + t1.1)) - t1.1))).toNat c1 1)) 1 1 22 0 (c1 - ((W .i64 ((W .i64 (t1.2.f1 + t1.1)) - t1.1))).toNat) [] (Ty.int .u8) ([] : List Int) (rpart t1.2.f0 (W .i64 ((W .i64 (t1.2.f1 + t1.1)) - t1.1)) (W .i64 (t1.2.f1 + t1.1))) 0 (some 57) (by kernel_rfl) (by kernel_rfl) (by kernel_rfl) (by kernel_rfl) (by kernel_rfl) (by decide) (by kernel_rfl) hp3 (Rd.ext hi3 (rd_sub (Rd.ext hi2 hr1) hl1 hs0_1 hs1_1 hs2_1)) hz1 (by omega) (fun A3 c3 nx4 cs2 hp4 => ?_)
   refine RL.sub (K' := [(57, .slice A3 ((([] : List Int) ++ (rpart t1.2.f0 (W .i64 ((W .i64 (t1.2.f1 + t1.1)) - t1.1)) (W .i64 (t1.2.f1 + t1.1)))).length) c3), (56, .slice (slA A1 ((W .i64 ((W .i64 (t1.2.f1 + t1.1)) - t1.1))).toNat c1 1) ((rpart t1.2.f0 (W .i64 ((W .i64 (t1.2.f1 + t1.1)) - t1.1)) (W .i64 (t1.2.f1 + t1.1))).length) (c1 - ((W .i64 ((W .i64 (t1.2.f1 + t1.1)) - t1.1))).toNat)), (55, i6 (W .i64 (t1.2.f1 + t1.1))), (54, pt gb0 1), (53, pt gb0 0), (52, pt gb0 0), (51, i6 (W .i64 ((W .i64 (t1.2.f1 + t1.1)) - t1.1))), (50, i6 t1.1), (49, i6 (W .i64 (t1.2.f1 + t1.1))), (48, pt gb0 1), (47, pt gb0 0), (46, pt gb0 0), (45, .slice A1 t1.2.f0.length c1), (44, pt gb0 0), (43, pt gb0 0), (42, pt gb0 0), (41, .slice (some ⟨c2, 0, none⟩) 0 0), (7, i6 t1.1), (0, pt gb0 0)]) (L' := [⟨gb0, [.slice A1 t1.2.f0.length c1, i6 (W .i64 (t1.2.f1 + t1.1)), i6 t1.2.f2], 111⟩]) (X' := [orow 5 1 A3 ((([] : List Int) ++ (rpart t1.2.f0 (W .i64 ((W .i64 (t1.2.f1 + t1.1)) - t1.1)) (W .i64 (t1.2.f1 + t1.1)))).length) c3 cs2]) (by kernel_rfl) (.refl _) (.refl _) ?_
   refine RL.st 1 [(6, .slice A3 ((([] : List Int) ++ (rpart t1.2.f0 (W .i64 ((W .i64 (t1.2.f1 + t1.1)) - t1.1)) (W .i64 (t1.2.f1 + t1.1)))).length) c3)] ?_
   refine OK.re ?_
   obtain rfl := Option.some.inj H
   refine QN.body rfl [] (RFacts.nil _ _ _) (.no) (.slice A3 ((([] : List Int) ++ (rpart t1.2.f0 (W .i64 ((W .i64 (t1.2.f1 + t1.1)) - t1.1)) (W .i64 (t1.2.f1 + t1.1)))).length) c3) (by kernel_rfl) (by kernel_rfl) (by kernel_rfl) ?_ _ (.inr rfl)
   exact fun w' hs' => ⟨_, rfl, I3, A3, c3, cs2, A1, c1, rfl, ((hs'.fin.selB [0] (by kernel_rfl)).sel [0] (by kernel_rfl)), hp4, hl1, (Rd.ext (Imm.le_trans hi2 hi3) hr1)⟩

end Go.Proofs.YtiomeaoeegikkaaDoor
namespace Go.Proofs.YtiomeaoeegikkaaDoor
open Go Go.Proofs.YtiomeaoeegikkaaDoor.RW
set_option linter.unusedVariables false
set_option maxRecDepth 100000
set_option maxHeartbeats 8000000

/-! ### armillaryref27_reader_entrys0: function 60, (*armillary/armillaryref27.reader).entry -/
noncomputable def K60s0_0 : Code := cBody Tryd.f60
def armillaryref27_reader_entrys0.f (k : Nat) (b0 : S111) : Option (S25 × S111) := ((armillaryref27_reader_numbers0.f k 1 4 b0).bind fun t1 => ((armillaryref27_reader_bytess0.f k 1 40 t1.2).bind fun t2 => ((armillaryref27_reader_bytess0.f k 0 20000 t2.2).bind fun t3 => (if t3.2.f2 ≠ 0 then (some ((⟨0, (⟨#[]⟩ : ByteArray), ([] : List Int)⟩ : S25), t3.2)) else (some ((⟨t1.1, strOfNums t2.1, t3.1⟩ : S25), t3.2))))))
def armillaryref27_reader_entrys0.Post (S : Nat → Prop) (gb0 : Nat) (b0 : S111) (Ab0_0 : Option Addr) (cb0_0 : Nat) (I : Imm) (w : World) (r : S25 × S111) (v : Value) (w' : World) : Prop :=
 ∃ (J : Imm) (Ar0_2 : Option Addr) (cr0_2 : Nat) (csr0_2 : List Value) (Ar1_0 : Option Addr) (cr1_0 : Nat), v = .agg #[.int .i64 r.1.f0, .string r.1.f1, .slice Ar0_2 r.1.f2.length cr0_2] ∧ Sat ⟨w, S, I⟩ J w'.heap.size [⟨gb0, [.slice Ar1_0 r.2.f0.length cr1_0, .int .i64 r.2.f1, .int .i64 r.2.f2], 111⟩] [orow 5 1 Ar0_2 r.1.f2.length cr0_2 csr0_2] w' ∧ Reps (Ty.int .u8) J r.1.f2 csr0_2 ∧ r.2.f0.length ≤ cr1_0 ∧ Rd (Ty.int .u8) J Ar1_0 r.2.f0
theorem armillaryref27_reader_entrys0.calls (k : Nat) (I0 : Imm) (gb0 : Nat) (b0 : S111) (Ab0_0 : Option Addr) (cb0_0 : Nat) (w : World) (hs : Sat ⟨w, SM [⟨gb0, [.slice Ab0_0 b0.f0.length cb0_0, i6 b0.f1, i6 b0.f2], 111⟩] [], I0⟩ I0 w.heap.size [⟨gb0, [.slice Ab0_0 b0.f0.length cb0_0, i6 b0.f1, i6 b0.f2], 111⟩] [] w) (hlb0_0 : b0.f0.length ≤ cb0_0) (hrb0_0 : Rd (Ty.int .u8) I0 Ab0_0 b0.f0) (r : S25 × S111) (h : armillaryref27_reader_entrys0.f k b0 = some r) :
  Calls Tryd.prog 60 [pt gb0 0].toArray w fun e w' => ∃ v, e = .returned v ∧ armillaryref27_reader_entrys0.Post (SM [⟨gb0, [.slice Ab0_0 b0.f0.length cb0_0, i6 b0.f1, i6 b0.f2], 111⟩] []) gb0 b0 Ab0_0 cb0_0 I0 w r v w' := by
 have H : ((armillaryref27_reader_numbers0.f k 1 4 b0).bind fun t1 => ((armillaryref27_reader_bytess0.f k 1 40 t1.2).bind fun t2 => ((armillaryref27_reader_bytess0.f k 0 20000 t2.2).bind fun t3 => (if t3.2.f2 ≠ 0 then (some ((⟨0, (⟨#[]⟩ : ByteArray), ([] : List Int)⟩ : S25), t3.2)) else (some ((⟨t1.1, strOfNums t2.1, t3.1⟩ : S25), t3.2)))))) = some r := h
 clear h
 refine calls_bodyL Tryd.func60 (by kernel_rfl) 23 (by kernel_rfl) (by kernel_rfl) ⟨w, SM [⟨gb0, [.slice Ab0_0 b0.f0.length cb0_0, i6 b0.f1, i6 b0.f2], 111⟩] [], I0⟩ I0 [⟨gb0, [.slice Ab0_0 b0.f0.length cb0_0, i6 b0.f1, i6 b0.f2], 111⟩] [] [(0, pt gb0 0)] (by kernel_rfl) hs ?_
 generalize w.heap.size = nx0
 show OK _ K60s0_0 _ _ _ _ _ _ _ _
 refine OK.sr ?_
 refine RL.spt 1 [(2, pt nx0 0), (0, pt gb0 0)] (nx0 + 1) [⟨gb0, [.slice Ab0_0 b0.f0.length cb0_0, i6 b0.f1, i6 b0.f2], 111⟩, ⟨nx0, [i6 0, .string (⟨#[]⟩ : ByteArray), .slice none 0 0], 25⟩] ?_
 refine OK.sr ?_
 refine RL.s 1 [(6, pt gb0 0), (2, pt nx0 0), (0, pt gb0 0)] ?_
 obtain ⟨t1, hA1, H⟩ := bnd H
 refine RL.callM (L1 := [⟨gb0, [.slice Ab0_0 b0.f0.length cb0_0, i6 b0.f1, i6 b0.f2], 111⟩]) (L2 := [⟨nx0, [i6 0, .string (⟨#[]⟩ : ByteArray), .slice none 0 0], 25⟩]) (X1 := []) (X2 := []) rfl rfl 65 [pt gb0 0, i6 1, i6 4] (some 7) (fun w => armillaryref27_reader_numbers0.Post (SM [⟨gb0, [.slice Ab0_0 b0.f0.length cb0_0, i6 b0.f1, i6 b0.f2], 111⟩] []) gb0 1 4 b0 Ab0_0 cb0_0 I0 w t1) (by kernel_rfl) (by kernel_rfl) (fun w hs => armillaryref27_reader_numbers0.calls k I0 gb0 1 4 b0 Ab0_0 cb0_0 w hs hlb0_0 hrb0_0 t1 hA1) ?_
 rintro w v w' hs ⟨I1, A1, c1, rfl, hg, hl1, hr1⟩
 have hi1 : Imm.le I0 I1 := hg.le
 refine RL.resume (L' := [⟨gb0, [.slice A1 t1.2.f0.length c1, i6 t1.2.f1, i6 t1.2.f2], 111⟩, ⟨nx0, [i6 0, .string (⟨#[]⟩ : ByteArray), .slice none 0 0], 25⟩]) (X' := []) rfl (hs.outof hg) ?_
 clear hs hg
 generalize w'.heap.size = nx1
 clear w w'
 refine RL.st 1 [(3, i6 t1.1), (2, pt nx0 0), (0, pt gb0 0)] ?_
 refine OK.sr ?_
 refine RL.s 1 [(8, pt gb0 0), (3, i6 t1.1), (2, pt nx0 0), (0, pt gb0 0)] ?_
 obtain ⟨t2, hA2, H⟩ := bnd H
 refine RL.callM (L1 := [⟨gb0, [.slice A1 t1.2.f0.length c1, i6 t1.2.f1, i6 t1.2.f2], 111⟩]) (L2 := [⟨nx0, [i6 0, .string (⟨#[]⟩ : ByteArray), .slice none 0 0], 25⟩]) (X1 := []) (X2 := []) rfl rfl 66 [pt gb0 0, i6 1, i6 40] (some 9) (fun w => armillaryref27_reader_bytess0.Post (SM [⟨gb0, [.slice A1 t1.2.f0.length c1, i6 t1.2.f1, i6 t1.2.f2], 111⟩] []) gb0 1 40 t1.2 A1 c1 I1 w t2) (by kernel_rfl) (by kernel_rfl) (fun w hs => armillaryref27_reader_bytess0.calls k I1 gb0 1 40 t1.2 A1 c1 w hs hl1 hr1 t2 hA2) ?_
 rintro w v w' hs ⟨I2, A2, c2, cs1, A3, c3, rfl, hg, hp1, hl2, hr2⟩
 have hi2 : Imm.le I1 I2 := hg.le
 refine RL.resume (L' := [⟨gb0, [.slice A3 t2.2.f0.length c3, i6 t2.2.f1, i6 t2.2.f2], 111⟩, ⟨nx0, [i6 0, .string (⟨#[]⟩ : ByteArray), .slice none 0 0], 25⟩]) (X' := [orow 5 1 A2 t2.1.length c2 cs1]) rfl (hs.outof hg) ?_
 clear hs hg
 generalize w'.heap.size = nx2
 clear w w'
 refine RL.freeze (e := 5) (sz := 1) (S := A2) (n := t2.1.length) (cap := c2) 0 (by kernel_rfl) hp1 rfl (fun I3 hi3 hl3 hr3 => ?_)
 skip
 refine RL.ofBytes (src := 22) (dst := 9) (e := 5) (S := A2) (l := t2.1) (cap := c2) (some 10) (by kernel_rfl) (by kernel_rfl) hr3 (by kernel_rfl) (by kernel_rfl) (by kernel_rfl) (K' := [(10, .string (strOfNums t2.1)), (9, .slice A2 t2.1.length c2), (8, pt gb0 0), (3, i6 t1.1), (2, pt nx0 0), (0, pt gb0 0)]) (by kernel_rfl) ?_
 refine RL.st 1 [(4, .string (strOfNums t2.1)), (3, i6 t1.1), (2, pt nx0 0), (0, pt gb0 0)] ?_
 refine OK.sr ?_
 refine RL.s 1 [(11, pt gb0 0), (4, .string (strOfNums t2.1)), (3, i6 t1.1), (2, pt nx0 0), (0, pt gb0 0)] ?_
 obtain ⟨t3, hA3, H⟩ := bnd H
 refine RL.callM (L1 := [⟨gb0, [.slice A3 t2.2.f0.length c3, i6 t2.2.f1, i6 t2.2.f2], 111⟩]) (L2 := [⟨nx0, [i6 0, .string (⟨#[]⟩ : ByteArray), .slice none 0 0], 25⟩]) (X1 := []) (X2 := []) rfl rfl 66 [pt gb0 0, i6 0, i6 20000] (some 12) (fun w => armillaryref27_reader_bytess0.Post (SM [⟨gb0, [.slice A3 t2.2.f0.length c3, i6 t2.2.f1, i6 t2.2.f2], 111⟩] []) gb0 0 20000 t2.2 A3 c3 I3 w t3) (by kernel_rfl) (by kernel_rfl) (fun w hs => armillaryref27_reader_bytess0.calls k I3 gb0 0 20000 t2.2 A3 c3 w hs hl2 (Rd.ext hi3 hr2) t3 hA3) ?_
 rintro w v w' hs ⟨I4, A4, c4, cs2, A5, c5, rfl, hg, hp2, hl4, hr4⟩
 have hi4 : Imm.le I3 I4 := hg.le
 refine RL.resume (L' := [⟨gb0, [.slice A5 t3.2.f0.length c5, i6 t3.2.f1, i6 t3.2.f2], 111⟩, ⟨nx0, [i6 0, .string (⟨#[]⟩ : ByteArray), .slice none 0 0], 25⟩]) (X' := [orow 5 1 A4 t3.1.length c4 cs2]) rfl (hs.outof hg) ?_
 clear hs hg
 generalize w'.heap.size = nx3
 clear w w'
 refine RL.st 1 [(5, .slice A4 t3.1.length c4), (4, .string (strOfNums t2.1)), (3, i6 t1.1), (2, pt nx0 0), (0, pt gb0 0)] ?_
 refine OK.sq ?_
 refine OK.sr ?_
 refine RL.simK (K' := [(17, .bool (t3.2.f2 != 0)), (5, .slice A4 t3.1.length c4), (4, .string (strOfNums t2.1)), (3, i6 t1.1), (2, pt nx0 0)]) [] (RFacts.nil _ _ _) 5 [.no, .no, .no, .l 0, .no] (by kernel_rfl) (by kernel_rfl) ?_
 refine RL.nt ?_
 refine OK.cd (t3.2.f2 != 0) (fun hb => ?_) (fun hb => ?_)
 ·skip
  have hc := (bne_iff_ne.1 hb)
  rw [if_pos hc] at H
  clear hb
  refine OK.sr ?_
  refine RL.simK (K' := [(2, pt nx0 0)]) [] (RFacts.nil _ _ _) 2 [.no, .l 1] (by kernel_rfl) (by kernel_rfl) ?_
  refine RL.nt ?_
  refine OK.re ?_
  refine QN.thenR ?_
  refine QN.nilRow 5 1 ?_
  have hp3 : Reps (Ty.int .u8) I4 ([] : List Int) [] := rfl
  obtain rfl := Option.some.inj H
  refine QN.body rfl [] (RFacts.nil _ _ _) (.l 1) (.agg #[i6 0, .string (⟨#[]⟩ : ByteArray), .slice none (([] : List Int).length) 0]) (by kernel_rfl) (by kernel_rfl) (by kernel_rfl) ?_ _ (.inr rfl)
  exact fun w' hs' => ⟨_, rfl, I4, none, 0, [], A5, c5, rfl, ((hs'.fin.selB [0] (by kernel_rfl)).sel [1] (by kernel_rfl)), hp3, hl4, hr4⟩
 ·skip
  have hc := (not_not_intro (bne_eq_false_iff_eq.1 hb))
  rw [if_neg hc] at H
  clear hb
  refine OK.skt ?_
  refine OK.sr ?_
  refine RL.simP (K' := [(2, pt nx0 0)]) (nx' := nx3) (L' := [⟨gb0, [.slice A5 t3.2.f0.length c5, i6 t3.2.f1, i6 t3.2.f2], 111⟩, ⟨nx0, [i6 t1.1, .string (strOfNums t2.1), .slice A4 t3.1.length c4], 25⟩]) [] (RFacts.nil _ _ _) 5 [.no, .no, .no, .no, .l 1] (by kernel_rfl) (by kernel_rfl) ?_
  refine RL.nt ?_
  refine OK.re ?_
  obtain rfl := Option.some.inj H
  refine QN.body rfl [] (RFacts.nil _ _ _) (.l 1) (.agg #[i6 t1.1, .string (strOfNums t2.1), .slice A4 t3.1.length c4]) (by kernel_rfl) (by kernel_rfl) (by kernel_rfl) ?_ _ (.inr rfl)
  exact fun w' hs' => ⟨_, rfl, I4, A4, c4, cs2, A5, c5, rfl, ((hs'.fin.selB [0] (by kernel_rfl)).sel [0] (by kernel_rfl)), hp2, hl4, hr4⟩

end Go.Proofs.YtiomeaoeegikkaaDoor
namespace Go.Proofs.YtiomeaoeegikkaaDoor
open Go Go.Proofs.YtiomeaoeegikkaaDoor.RW
set_option linter.unusedVariables false
set_option maxRecDepth 100000
set_option maxHeartbeats 8000000

/-! ### armillaryref27_DecodeEntry: function 49, armillary/armillaryref27.DecodeEntry -/
noncomputable def K49_0 : Code := cBody Tryd.f49
noncomputable def O49_15 : List Oper := cOps (cL (cL (cR (cL (cR (cR (cR K49_0)))))))
noncomputable def O49_20 : List Oper := cOps (cL (cR (cR (cR (cR K49_0)))))
def armillaryref27_DecodeEntry.f (k : Nat) (a0 : List Int) : Option (S25 × Int × Int) := ((armillaryref27_reader_entrys0.f k (⟨a0, 0, 0⟩ : S111)).bind fun t1 => (if t1.2.f2 ≠ 0 then (some ((⟨0, (⟨#[]⟩ : ByteArray), []⟩ : S25), 0, t1.2.f2)) else (some (t1.1, t1.2.f1, 0))))
def armillaryref27_DecodeEntry.Post (I : Imm) (w : World) (r : S25 × Int × Int) (v : Value) (w' : World) : Prop :=
 ∃ (J : Imm) (A0_2 : Option Addr) (c0_2 : Nat), v = .tuple #[.agg #[.int .i64 r.1.f0, .string r.1.f1, .slice A0_2 r.1.f2.length c0_2], .int .i64 r.2.1, .int .i64 r.2.2] ∧ Got w w' I J [] ∧ r.1.f2.length ≤ c0_2 ∧ Rd (Ty.int .u8) J A0_2 r.1.f2
noncomputable def a49_15n : List Nat := [0, 0, 2, 6, 14, 1, 33, 127]
theorem a49_15 : ancs O49_15 [] = a49_15n := by kernel_rfl
theorem a49_15o : drawOk O49_15 a49_15n 7 = true := by kernel_rfl
noncomputable def u49d1t (nx0 : Nat) : List Eb := [⟨5, nx0, 25, [i6 0, .string (⟨#[]⟩ : ByteArray), .slice none 0 0], [i6 0, .string (⟨#[]⟩ : ByteArray), .slice none 0 0]⟩]
noncomputable def u49d1g  : List (Nat × ((Nat → Wt) → Value)) := []
noncomputable def u49d1q (nx0 : Nat) (t1 : S25 × S111) (A1 : Option Addr) (c1 : Nat) (A2 : Option Addr) (c2 : Nat) (nx1 : Nat) (u : Nat → Wt) : Option (List Value × List (Nat × Value) × List (Nat × Nat)) := qSim Tryd.prog [] [⟨nx0 + 1, [.slice A2 t1.2.f0.length c2, i6 t1.2.f1, i6 t1.2.f2], 111⟩, ⟨nx1, [i6 t1.1.f0, .string t1.1.f1, .slice A1 t1.1.f2.length c1], 25⟩] O49_15 ⟨27, []⟩ (exVl (u49d1t nx0)) u49d1g u [.no, .no, .no, .no, .l 0, .no, .no] 0 (O49_15.take 7) [(16, .bool (t1.2.f2 != 0)), (6, pt nx1 0), (5, pt (nx0 + 1) 0), (2, pt nx0 0)]
noncomputable def u49d1s (nx0 : Nat) (t1 : S25 × S111) (u : Nat → Wt) : List Value := [.agg #[i6 0, .string (⟨#[]⟩ : ByteArray), .slice none 0 0], pt (nx0 + 1) 0, pt (nx0 + 1) 0, pt (nx0 + 1) 2, i6 t1.2.f2, undef, i6 0]
noncomputable def u49d1f (nx0 : Nat) (t1 : S25 × S111) (nx1 : Nat) (i : Nat) (u : Nat → Wt) : List (Nat × Value) := foldPut ⟨27, []⟩ [(16, .bool (t1.2.f2 != 0)), (6, pt nx1 0), (5, pt (nx0 + 1) 0), (2, pt nx0 0)] (O49_15.take i) (((u49d1s nx0 t1) u).take i)
theorem u49d1v (nx0 : Nat) (t1 : S25 × S111) (A1 : Option Addr) (c1 : Nat) (A2 : Option Addr) (c2 : Nat) (nx1 : Nat) (u : Nat → Wt) : (u49d1q nx0 t1 A1 c1 A2 c2 nx1 u).map (fun x => (x.1, x.2.1)) = some ((u49d1s nx0 t1) u, (u49d1f nx0 t1 nx1 7) u) := by kernel_rfl
theorem u49d1e (nx0 : Nat) (t1 : S25 × S111) (A1 : Option Addr) (c1 : Nat) (A2 : Option Addr) (c2 : Nat) (nx1 : Nat) (u : Nat → Wt) : (u49d1q nx0 t1 A1 c1 A2 c2 nx1 u).map (fun x => x.2.2.map (·.1)) = (u49d1q nx0 t1 A1 c1 A2 c2 nx1 u).map (fun x => x.2.2.map (·.2)) := by kernel_rfl
noncomputable def a49_20n : List Nat := [0, 0, 2, 6, 14, 1, 63, 127]
theorem a49_20 : ancs O49_20 [] = a49_20n := by kernel_rfl
theorem a49_20o : drawOk O49_20 a49_20n 6 = true := by kernel_rfl
noncomputable def u49d2t (nx0 : Nat) (t1 : S25 × S111) (A1 : Option Addr) (c1 : Nat) : List Eb := [⟨5, nx0, 25, [i6 0, .string (⟨#[]⟩ : ByteArray), .slice none 0 0], [i6 t1.1.f0, .string t1.1.f1, .slice A1 t1.1.f2.length c1]⟩]
noncomputable def u49d2g  : List (Nat × ((Nat → Wt) → Value)) := []
noncomputable def u49d2q (nx0 : Nat) (t1 : S25 × S111) (A1 : Option Addr) (c1 : Nat) (A2 : Option Addr) (c2 : Nat) (nx1 : Nat) (u : Nat → Wt) : Option (List Value × List (Nat × Value) × List (Nat × Nat)) := qSim Tryd.prog [] [⟨nx0 + 1, [.slice A2 t1.2.f0.length c2, i6 t1.2.f1, i6 t1.2.f2], 111⟩, ⟨nx1, [i6 t1.1.f0, .string t1.1.f1, .slice A1 t1.1.f2.length c1], 25⟩] O49_20 ⟨27, []⟩ (exVl (u49d2t nx0 t1 A1 c1)) u49d2g u [.l 1, .no, .no, .no, .l 0, .no] 0 (O49_20.take 6) [(16, .bool (t1.2.f2 != 0)), (6, pt nx1 0), (5, pt (nx0 + 1) 0), (2, pt nx0 0)]
noncomputable def u49d2s (nx0 : Nat) (t1 : S25 × S111) (A1 : Option Addr) (c1 : Nat) (u : Nat → Wt) : List Value := [.agg #[i6 t1.1.f0, .string t1.1.f1, .slice A1 t1.1.f2.length c1], pt (nx0 + 1) 0, pt (nx0 + 1) 0, pt (nx0 + 1) 1, i6 t1.2.f1, undef]
noncomputable def u49d2f (nx0 : Nat) (t1 : S25 × S111) (A1 : Option Addr) (c1 : Nat) (nx1 : Nat) (i : Nat) (u : Nat → Wt) : List (Nat × Value) := foldPut ⟨27, []⟩ [(16, .bool (t1.2.f2 != 0)), (6, pt nx1 0), (5, pt (nx0 + 1) 0), (2, pt nx0 0)] (O49_20.take i) (((u49d2s nx0 t1 A1 c1) u).take i)
theorem u49d2v (nx0 : Nat) (t1 : S25 × S111) (A1 : Option Addr) (c1 : Nat) (A2 : Option Addr) (c2 : Nat) (nx1 : Nat) (u : Nat → Wt) : (u49d2q nx0 t1 A1 c1 A2 c2 nx1 u).map (fun x => (x.1, x.2.1)) = some ((u49d2s nx0 t1 A1 c1) u, (u49d2f nx0 t1 A1 c1 nx1 6) u) := by kernel_rfl
theorem u49d2e (nx0 : Nat) (t1 : S25 × S111) (A1 : Option Addr) (c1 : Nat) (A2 : Option Addr) (c2 : Nat) (nx1 : Nat) (u : Nat → Wt) : (u49d2q nx0 t1 A1 c1 A2 c2 nx1 u).map (fun x => x.2.2.map (·.1)) = (u49d2q nx0 t1 A1 c1 A2 c2 nx1 u).map (fun x => x.2.2.map (·.2)) := by kernel_rfl
theorem armillaryref27_DecodeEntry.calls (k : Nat) (I0 : Imm) (a0 : List Int) (Ap0 : Option Addr) (cp0 : Nat) (w : World) (hI : I0.at_ w) (hlp0 : a0.length ≤ cp0) (hrp0 : Rd (Ty.int .u8) I0 Ap0 a0) (r : S25 × Int × Int) (h : armillaryref27_DecodeEntry.f k a0 = some r) :
  Calls Tryd.prog 49 [.slice Ap0 a0.length cp0].toArray w fun e w' => ∃ v, e = .returned v ∧ armillaryref27_DecodeEntry.Post I0 w r v w' := by
 have H : ((armillaryref27_reader_entrys0.f k (⟨a0, 0, 0⟩ : S111)).bind fun t1 => (if t1.2.f2 ≠ 0 then (some ((⟨0, (⟨#[]⟩ : ByteArray), []⟩ : S25), 0, t1.2.f2)) else (some (t1.1, t1.2.f1, 0)))) = some r := h
 clear h
 refine calls_body Tryd.func49 (by kernel_rfl) 27 (by kernel_rfl) (by kernel_rfl) ⟨w, fun _ => False, I0⟩ I0 [] [(0, .slice Ap0 a0.length cp0)] (by kernel_rfl) (Sat.start w _ I0 hI) ?_
 generalize w.heap.size = nx0
 show OK _ K49_0 _ _ _ _ _ _ _ _
 refine OK.sr ?_
 refine RL.spt 3 [(2, pt nx0 0), (0, .slice Ap0 a0.length cp0)] (nx0 + 1) [⟨nx0, [i6 0, .string (⟨#[]⟩ : ByteArray), .slice none 0 0], 25⟩] ?_
 refine OK.sr ?_
 refine RL.spt 4 [(5, pt (nx0 + 1) 0), (2, pt nx0 0)] (nx0 + 2) [⟨nx0, [i6 0, .string (⟨#[]⟩ : ByteArray), .slice none 0 0], 25⟩, ⟨nx0 + 1, [.slice Ap0 a0.length cp0, i6 0, i6 0], 111⟩] ?_
 refine OK.sr ?_
 refine RL.s 1 [(10, pt (nx0 + 1) 0), (5, pt (nx0 + 1) 0), (2, pt nx0 0)] ?_
 refine RL.arrange (L' := [⟨nx0 + 1, [.slice Ap0 a0.length cp0, i6 0, i6 0], 111⟩, ⟨nx0, [i6 0, .string (⟨#[]⟩ : ByteArray), .slice none 0 0], 25⟩]) (X' := []) [1, 0] [] (by kernel_rfl) (by kernel_rfl) (by kernel_rfl) (by kernel_rfl) ?_
 obtain ⟨t1, hA1, H⟩ := bnd H
 refine RL.callM (L1 := [⟨nx0 + 1, [.slice Ap0 a0.length cp0, i6 0, i6 0], 111⟩]) (L2 := [⟨nx0, [i6 0, .string (⟨#[]⟩ : ByteArray), .slice none 0 0], 25⟩]) (X1 := []) (X2 := []) rfl rfl 60 [pt (nx0 + 1) 0] (some 11) (fun w => armillaryref27_reader_entrys0.Post (SM [⟨nx0 + 1, [.slice Ap0 a0.length cp0, i6 0, i6 0], 111⟩] []) (nx0 + 1) (⟨a0, 0, 0⟩ : S111) Ap0 cp0 I0 w t1) (by kernel_rfl) (by kernel_rfl) (fun w hs => armillaryref27_reader_entrys0.calls k I0 (nx0 + 1) (⟨a0, 0, 0⟩ : S111) Ap0 cp0 w hs hlp0 hrp0 t1 hA1) ?_
 rintro w v w' hs ⟨I1, A1, c1, cs1, A2, c2, rfl, hg, hp1, hl1, hr1⟩
 have hi1 : Imm.le I0 I1 := hg.le
 refine RL.resume (L' := [⟨nx0 + 1, [.slice A2 t1.2.f0.length c2, i6 t1.2.f1, i6 t1.2.f2], 111⟩, ⟨nx0, [i6 0, .string (⟨#[]⟩ : ByteArray), .slice none 0 0], 25⟩]) (X' := [orow 5 1 A1 t1.1.f2.length c1 cs1]) rfl (hs.outof hg) ?_
 clear hs hg
 generalize w'.heap.size = nx1
 clear w w'
 refine RL.simP (K' := [(6, pt nx1 0), (5, pt (nx0 + 1) 0), (2, pt nx0 0)]) (nx' := nx1 + 1) (L' := [⟨nx0 + 1, [.slice A2 t1.2.f0.length c2, i6 t1.2.f1, i6 t1.2.f2], 111⟩, ⟨nx0, [i6 0, .string (⟨#[]⟩ : ByteArray), .slice none 0 0], 25⟩, ⟨nx1, [i6 t1.1.f0, .string t1.1.f1, .slice A1 t1.1.f2.length c1], 25⟩]) [] (RFacts.nil _ _ _) 2 [.no, .l 2] (by kernel_rfl) (by kernel_rfl) ?_
 refine RL.nt ?_
 refine OK.sq ?_
 refine OK.sr ?_
 refine RL.simK (K' := [(16, .bool (t1.2.f2 != 0)), (6, pt nx1 0), (5, pt (nx0 + 1) 0), (2, pt nx0 0)]) [] (RFacts.nil _ _ _) 5 [.no, .no, .no, .l 0, .no] (by kernel_rfl) (by kernel_rfl) ?_
 refine RL.nt ?_
 refine OK.cd (t1.2.f2 != 0) (fun hb => ?_) (fun hb => ?_)
 ·skip
  have hc := (bne_iff_ne.1 hb)
  rw [if_pos hc] at H
  clear hb
  refine OK.sq ?_
  refine OK.arrange (L' := [⟨nx0 + 1, [.slice A2 t1.2.f0.length c2, i6 t1.2.f1, i6 t1.2.f2], 111⟩, ⟨nx1, [i6 t1.1.f0, .string t1.1.f1, .slice A1 t1.1.f2.length c1], 25⟩, ⟨nx0, [i6 0, .string (⟨#[]⟩ : ByteArray), .slice none 0 0], 25⟩]) (X' := [orow 5 1 A1 t1.1.f2.length c1 cs1]) [0, 2, 1] [0] (by kernel_rfl) (by kernel_rfl) (by kernel_rfl) (by kernel_rfl) ?_
  refine OK.unkblk (L := [⟨nx0 + 1, [.slice A2 t1.2.f0.length c2, i6 t1.2.f1, i6 t1.2.f2], 111⟩, ⟨nx1, [i6 t1.1.f0, .string t1.1.f1, .slice A1 t1.1.f2.length c1], 25⟩]) (X := [orow 5 1 A1 t1.1.f2.length c1 cs1]) ⟨nx0, [i6 0, .string (⟨#[]⟩ : ByteArray), .slice none 0 0], 25⟩ ?_
  refine OK.norm (L' := [⟨nx0 + 1, [.slice A2 t1.2.f0.length c2, i6 t1.2.f1, i6 t1.2.f2], 111⟩, ⟨nx1, [i6 t1.1.f0, .string t1.1.f1, .slice A1 t1.1.f2.length c1], 25⟩]) (X' := [orow 5 1 A1 t1.1.f2.length c1 cs1, RW.kblk nx0 25 [i6 0, .string (⟨#[]⟩ : ByteArray), .slice none 0 0]]) rfl rfl rfl rfl ?_
  refine OK.drawnE (X := [orow 5 1 A1 t1.1.f2.length c1 cs1]) 4 7 O49_15 a49_15n (by kernel_rfl) (by kernel_rfl) (u49d1t nx0) u49d1g [] (RI.nil _) [.no, .no, .no, .no, .l 0, .no, .no] a49_15 a49_15o (by kernel_rfl) (by kernel_rfl) (u49d1s nx0 t1) (u49d1f nx0 t1 nx1 7) (u49d1v nx0 t1 A1 c1 A2 c2 nx1) (u49d1e nx0 t1 A1 c1 A2 c2 nx1) [u49d1f nx0 t1 nx1 5] (framesOk.cons (fun u => rfl) framesOk.nil) (EsG.cons (fun u nx => ⟨by kernel_rfl, by kernel_rfl⟩) EsG.nil) [] framesOk.nil ?_ rfl ?_
  ·refine Givens.nil
  intro u
  refine RL.norm (K' := [(3, i6 0), (21, i6 t1.2.f2), (20, pt (nx0 + 1) 2), (19, pt (nx0 + 1) 0), (18, pt (nx0 + 1) 0), (17, .agg #[i6 0, .string (⟨#[]⟩ : ByteArray), .slice none 0 0]), (16, .bool (t1.2.f2 != 0)), (6, pt nx1 0), (5, pt (nx0 + 1) 0), (2, pt nx0 0)]) (X' := [orow 5 1 A1 t1.1.f2.length c1 cs1, RW.kblk nx0 25 [i6 0, .string (⟨#[]⟩ : ByteArray), .slice none 0 0]]) (by kernel_rfl) rfl rfl rfl ?_
  clear u
  refine RL.kblk (g := nx0) (ty := 25) (cs := [i6 0, .string (⟨#[]⟩ : ByteArray), .slice none 0 0]) 1 (by kernel_rfl) ?_
  show RL _ _ _ 7 _ [(3, i6 0), (21, i6 t1.2.f2), (20, pt (nx0 + 1) 2), (19, pt (nx0 + 1) 0), (18, pt (nx0 + 1) 0), (17, .agg #[i6 0, .string (⟨#[]⟩ : ByteArray), .slice none 0 0]), (16, .bool (t1.2.f2 != 0)), (6, pt nx1 0), (5, pt (nx0 + 1) 0), (2, pt nx0 0)] _ _ _ [⟨nx0 + 1, [.slice A2 t1.2.f0.length c2, i6 t1.2.f1, i6 t1.2.f2], 111⟩, ⟨nx1, [i6 t1.1.f0, .string t1.1.f1, .slice A1 t1.1.f2.length c1], 25⟩, ⟨nx0, [i6 0, .string (⟨#[]⟩ : ByteArray), .slice none 0 0], 25⟩] [orow 5 1 A1 t1.1.f2.length c1 cs1]
  refine RL.st 1 [(4, i6 t1.2.f2), (3, i6 0), (2, pt nx0 0)] ?_
  refine OK.re ?_
  refine QN.thenR ?_
  obtain rfl := Option.some.inj H
  refine QN.body rfl [] (RFacts.nil _ _ _) (.l 2) (.tuple #[.agg #[i6 0, .string (⟨#[]⟩ : ByteArray), .slice none 0 0], i6 0, i6 t1.2.f2]) (by kernel_rfl) (by kernel_rfl) (by kernel_rfl) ?_ _ (.inr rfl)
  exact fun w' hs' => ⟨_, rfl, I1, none, 0, rfl, hs'.got _ (.cons _ .slnil), (Nat.le_refl 0), (Rd.nil _ _ _)⟩
 ·skip
  have hc := (not_not_intro (bne_eq_false_iff_eq.1 hb))
  rw [if_neg hc] at H
  clear hb
  refine OK.skt ?_
  refine OK.sq ?_
  refine OK.arrange (L' := [⟨nx0 + 1, [.slice A2 t1.2.f0.length c2, i6 t1.2.f1, i6 t1.2.f2], 111⟩, ⟨nx1, [i6 t1.1.f0, .string t1.1.f1, .slice A1 t1.1.f2.length c1], 25⟩, ⟨nx0, [i6 0, .string (⟨#[]⟩ : ByteArray), .slice none 0 0], 25⟩]) (X' := [orow 5 1 A1 t1.1.f2.length c1 cs1]) [0, 2, 1] [0] (by kernel_rfl) (by kernel_rfl) (by kernel_rfl) (by kernel_rfl) ?_
  refine OK.unkblk (L := [⟨nx0 + 1, [.slice A2 t1.2.f0.length c2, i6 t1.2.f1, i6 t1.2.f2], 111⟩, ⟨nx1, [i6 t1.1.f0, .string t1.1.f1, .slice A1 t1.1.f2.length c1], 25⟩]) (X := [orow 5 1 A1 t1.1.f2.length c1 cs1]) ⟨nx0, [i6 0, .string (⟨#[]⟩ : ByteArray), .slice none 0 0], 25⟩ ?_
  refine OK.norm (L' := [⟨nx0 + 1, [.slice A2 t1.2.f0.length c2, i6 t1.2.f1, i6 t1.2.f2], 111⟩, ⟨nx1, [i6 t1.1.f0, .string t1.1.f1, .slice A1 t1.1.f2.length c1], 25⟩]) (X' := [orow 5 1 A1 t1.1.f2.length c1 cs1, RW.kblk nx0 25 [i6 0, .string (⟨#[]⟩ : ByteArray), .slice none 0 0]]) rfl rfl rfl rfl ?_
  refine OK.freeze (e := 5) (sz := 1) (S := A1) (n := t1.1.f2.length) (cap := c1) 0 (by kernel_rfl) hp1 rfl (fun I2 hi2 hl2 hr2 => ?_)
  skip
  refine OK.drawnE (X := []) 5 6 O49_20 a49_20n (by kernel_rfl) (by kernel_rfl) (u49d2t nx0 t1 A1 c1) u49d2g [] (RI.nil _) [.l 1, .no, .no, .no, .l 0, .no] a49_20 a49_20o (by kernel_rfl) (by kernel_rfl) (u49d2s nx0 t1 A1 c1) (u49d2f nx0 t1 A1 c1 nx1 6) (u49d2v nx0 t1 A1 c1 A2 c2 nx1) (u49d2e nx0 t1 A1 c1 A2 c2 nx1) [u49d2f nx0 t1 A1 c1 nx1 5] (framesOk.cons (fun u => rfl) framesOk.nil) (EsG.cons (fun u nx => ⟨by kernel_rfl, by kernel_rfl⟩) EsG.nil) [] framesOk.nil ?_ rfl ?_
  ·refine Givens.nil
  intro u
  refine RL.norm (K' := [(26, i6 t1.2.f1), (25, pt (nx0 + 1) 1), (24, pt (nx0 + 1) 0), (23, pt (nx0 + 1) 0), (22, .agg #[i6 t1.1.f0, .string t1.1.f1, .slice A1 t1.1.f2.length c1]), (16, .bool (t1.2.f2 != 0)), (6, pt nx1 0), (5, pt (nx0 + 1) 0), (2, pt nx0 0)]) (X' := [RW.kblk nx0 25 [i6 t1.1.f0, .string t1.1.f1, .slice A1 t1.1.f2.length c1]]) (by kernel_rfl) rfl rfl rfl ?_
  clear u
  refine RL.kblk (g := nx0) (ty := 25) (cs := [i6 t1.1.f0, .string t1.1.f1, .slice A1 t1.1.f2.length c1]) 0 (by kernel_rfl) ?_
  show RL _ _ _ 6 _ [(26, i6 t1.2.f1), (25, pt (nx0 + 1) 1), (24, pt (nx0 + 1) 0), (23, pt (nx0 + 1) 0), (22, .agg #[i6 t1.1.f0, .string t1.1.f1, .slice A1 t1.1.f2.length c1]), (16, .bool (t1.2.f2 != 0)), (6, pt nx1 0), (5, pt (nx0 + 1) 0), (2, pt nx0 0)] _ _ _ [⟨nx0 + 1, [.slice A2 t1.2.f0.length c2, i6 t1.2.f1, i6 t1.2.f2], 111⟩, ⟨nx1, [i6 t1.1.f0, .string t1.1.f1, .slice A1 t1.1.f2.length c1], 25⟩, ⟨nx0, [i6 t1.1.f0, .string t1.1.f1, .slice A1 t1.1.f2.length c1], 25⟩] []
  refine RL.st 2 [(4, i6 0), (3, i6 t1.2.f1), (2, pt nx0 0)] ?_
  refine OK.re ?_
  obtain rfl := Option.some.inj H
  refine QN.body rfl [] (RFacts.nil _ _ _) (.l 2) (.tuple #[.agg #[i6 t1.1.f0, .string t1.1.f1, .slice A1 t1.1.f2.length c1], i6 t1.2.f1, i6 0]) (by kernel_rfl) (by kernel_rfl) (by kernel_rfl) ?_ _ (.inr rfl)
  exact fun w' hs' => ⟨_, rfl, I2, A1, c1, rfl, hs'.got _ .slnil, hl2, hr2⟩

end Go.Proofs.YtiomeaoeegikkaaDoor
namespace Go.Proofs.YtiomeaoeegikkaaDoor.led
open Go Go.Proofs.YtiomeaoeegikkaaDoor Go.Proofs.YtiomeaoeegikkaaDoor.RW
set_option linter.unusedVariables false
set_option maxRecDepth 100000
theorem Ev.uniq {α : Type} {f : Nat → Option α} {r s : α} (h : Ev f r) (h2 : Ev f s) : r = s := by
  obtain ⟨N, h⟩ := h
  obtain ⟨M, h2⟩ := h2
  have e1 := h (max N M) (by omega)
  have e2 := h2 (max N M) (by omega)
  rw [e1] at e2
  exact Option.some.inj e2
theorem rvar_any (l : List Int) (hb : isBytes l) (hl : l.length < 1000000000) (p : Nat) (hp : p ≤ l.length) :
    ∃ res : Int × Int × Int, Ev (fun k => armillaryref27_varint.f k (rpart l (p : Int) (l.length : Int))) res ∧ ((badX res.2.2 ∧ ∀ w r, w < 18446744073709551616 → l.drop p ≠ vg w ++ r) ∨ ∃ (w q : Nat), res = (zz w, (q : Int), 0) ∧ w < 18446744073709551616 ∧ p + q ≤ l.length ∧ l.drop p = vg w ++ l.drop (p + q)) := by
  rw [rpart_tail]
  obtain ⟨res, hres, hcase⟩ := rvany (l.drop p) (hb.drop _) (by rw [List.length_drop]; omega) 9 0 0 rfl (by decide) (Nat.zero_le _)
  refine ⟨res, Ev.bind hres (Ev.const rfl), ?_⟩
  simp only [Nat.mul_zero, Nat.pow_zero, Nat.mul_one, Nat.zero_add, List.drop_zero, List.drop_drop, List.length_drop] at hcase
  rcases hcase with ⟨h1, h2⟩ | ⟨w, q, h1, h2, h3, h4, _⟩
  · exact .inl ⟨h1, fun w r hw => h2 w r hw (fun h => absurd h (Nat.lt_irrefl _))⟩
  · exact .inr ⟨w, q, h1, h2, by omega, h4⟩
theorem bad_ne {x : Int} (h : badX x) : x ≠ 0 := by rcases h with rfl | rfl <;> decide
theorem rnum_any (l : List Int) (hb : isBytes l) (hl : l.length < 1000000000) (p : Nat) (hp : p ≤ l.length) (lo hi : Int) (h0 : 0 ≤ lo) (h1 : hi < 1000000) :
    ∃ res : Int × S111, Ev (fun k => armillaryref27_reader_numbers0.f k lo hi ⟨l, (p : Int), 0⟩) res ∧ ((res.2.f2 ≠ 0 ∧ ∀ (n : Nat) r, lo ≤ (n : Int) → (n : Int) ≤ hi → l.drop p ≠ vg (2 * n) ++ r) ∨ ∃ (n p' : Nat), res = ((n : Int), ⟨l, (p' : Int), 0⟩) ∧ lo ≤ (n : Int) ∧ (n : Int) ≤ hi ∧ p' ≤ l.length ∧ l.drop p = vg (2 * n) ++ l.drop p') := by
  obtain ⟨res, hres, hcase⟩ := rvar_any l hb hl p hp
  have hgo : ∀ {res2 : Int × S111}, Ev (fun k => (if res.2.2 = 0 then (if res.1 < lo then some true else some (decide (res.1 > hi))) else some false).bind (armillaryref27_reader_numbers0.k2 ⟨l, (p : Int), 0⟩ res)) res2 → Ev (fun k => armillaryref27_reader_numbers0.f k lo hi ⟨l, (p : Int), 0⟩) res2 := fun h => by
    refine Ev.congr (fun k => if_neg (fun h => h rfl)) ?_
    refine Ev.congr (fun k => if_pos (by show (0 : Int) ≤ (p : Int); omega)) ?_
    refine Ev.congr (fun k => if_pos (by show (p : Int) ≤ (l.length : Int); omega)) ?_
    exact Ev.bind hres h
  rcases hcase with ⟨hbx, hno⟩ | ⟨w, q, rfl, h2, h3, h4⟩
  · refine ⟨(0, ⟨l, (p : Int), res.2.2⟩), hgo (Ev.const ?_), .inl ⟨bad_ne hbx, fun n r hn1 hn2 => hno (2 * n) r (by omega)⟩⟩
    rw [if_neg (bad_ne hbx)]
    show ((if false = true then some 272 else some res.2.2).bind (armillaryref27_reader_numbers0.k1 ⟨l, (p : Int), 0⟩ res)) = _
    rw [if_neg (by decide)]
    simp only [Option.bind_some, armillaryref27_reader_numbers0.k1]
    rw [if_pos (bad_ne hbx)]
  · by_cases hlim : lo ≤ zz w ∧ zz w ≤ hi
    · obtain ⟨n, hn⟩ : ∃ n : Nat, zz w = (n : Int) := ⟨(zz w).toNat, by omega⟩
      have hw := zz_nat h2 hn
      rw [hn] at hlim
      refine ⟨((n : Int), ⟨l, ((p + q : Nat) : Int), 0⟩), hgo (Ev.const ?_), .inr ⟨n, p + q, rfl, hlim.1, hlim.2, h3, by rw [← hw]; exact h4⟩⟩
      rw [hn]
      show ((if (n : Int) < lo then some true else some (decide ((n : Int) > hi))).bind _) = _
      rw [if_neg (by omega), decide_eq_false (by omega)]
      simp only [Option.bind_some, armillaryref27_reader_numbers0.k2]
      rw [if_neg (by decide)]
      simp only [Option.bind_some, armillaryref27_reader_numbers0.k1]
      rw [if_neg (fun h => h rfl), W64 (by omega) (by omega)]
      rfl
    · refine ⟨(0, ⟨l, (p : Int), 272⟩), hgo (Ev.const ?_), .inl ⟨by show (272 : Int) ≠ 0; decide, fun n r hn1 hn2 he => ?_⟩⟩
      · show ((if zz w < lo then some true else some (decide (zz w > hi))).bind _) = _
        have : (if zz w < lo then some true else some (decide (zz w > hi))) = some true := by
          by_cases h : zz w < lo
          · rw [if_pos h]
          · rw [if_neg h, decide_eq_true (by omega)]
        rw [this]
        rfl
      · rw [h4] at he
        obtain ⟨hw, _⟩ := vg_inj _ _ _ _ he
        rw [hw, zz_even (by omega) (by omega), show 2 * n / 2 = n from by omega] at hlim
        exact hlim ⟨hn1, hn2⟩
theorem rbyt_any (l : List Int) (hb : isBytes l) (hl : l.length < 1000000000) (p : Nat) (hp : p ≤ l.length) (lo hi : Int) (h0 : 0 ≤ lo) (h1 : hi < 1000000) :
    ∃ res : List Int × S111, Ev (fun k => armillaryref27_reader_bytess0.f k lo hi ⟨l, (p : Int), 0⟩) res ∧ ((res.2.f2 ≠ 0 ∧ ∀ (m : List Int) r, lo ≤ (m.length : Int) → (m.length : Int) ≤ hi → l.drop p ≠ (vg (2 * m.length) ++ m) ++ r) ∨ ∃ (m : List Int) (p' : Nat), res = (m, ⟨l, (p' : Int), 0⟩) ∧ lo ≤ (m.length : Int) ∧ (m.length : Int) ≤ hi ∧ p' ≤ l.length ∧ l.drop p = (vg (2 * m.length) ++ m) ++ l.drop p') := by
  obtain ⟨res, hres, hcase⟩ := rnum_any l hb hl p hp lo hi h0 h1
  rcases hcase with ⟨hbx, hno⟩ | ⟨n, p', rfl, a1, a2, a3, a4⟩
  · refine ⟨([], res.2), Ev.bind hres (Ev.const (if_pos hbx)), .inl ⟨hbx, fun m r hn1 hn2 he => ?_⟩⟩
    rw [List.append_assoc] at he
    exact hno m.length _ hn1 hn2 he
  · by_cases hcut : l.length - p' < n
    · refine ⟨([], ⟨l, (p' : Int), 271⟩), Ev.bind hres (Ev.const ?_), .inl ⟨by show (271 : Int) ≠ 0; decide, fun m r hn1 hn2 he => ?_⟩⟩
      · rw [if_neg (fun h => h rfl)]
        show (if W .i64 ((l.length : Int) - (p' : Int)) < (n : Int) then _ else _) = _
        rw [W64 (by omega) (by omega), if_pos (by omega)]
      · rw [a4, List.append_assoc] at he
        obtain ⟨hw, hr⟩ := vg_inj _ _ _ _ he
        have := congrArg List.length hr
        rw [List.length_drop, List.length_append] at this
        omega
    · have hml : ((l.drop p').take n).length = n := by rw [List.length_take, List.length_drop]; omega
      refine ⟨((l.drop p').take n, ⟨l, ((p' + n : Nat) : Int), 0⟩), Ev.bind hres (Ev.const ?_), .inr ⟨(l.drop p').take n, p' + n, rfl, by omega, by omega, by omega, ?_⟩⟩
      · rw [if_neg (fun h => h rfl)]
        show (if W .i64 ((l.length : Int) - (p' : Int)) < (n : Int) then _ else _) = _
        rw [W64 (by omega) (by omega), if_neg (by omega)]
        have e1 : W .i64 ((p' : Int) + (n : Int)) = ((p' + n : Nat) : Int) := by rw [W64 (by omega) (by omega)]; omega
        have e2 : W .i64 (((p' + n : Nat) : Int) - (n : Int)) = (p' : Int) := by rw [W64 (by omega) (by omega)]; omega
        have hr : rpart l (p' : Int) ((p' + n : Nat) : Int) = (l.drop p').take n := by
          unfold rpart
          rw [tn, tn, show p' + n - p' = n from by omega]
        simp only [e1, e2, hr]
        rw [if_pos (by omega), if_pos (by omega), if_pos (by show ((p' + n : Nat) : Int) ≤ (l.length : Int); omega), if_pos (by rw [hml]; simp only [List.length_nil]; omega)]
        rfl
      · rw [hml, a4, List.append_assoc, ← List.drop_drop, List.take_append_drop]
theorem rnum_bad (k : Nat) (lo hi : Int) (b : S111) (h : b.f2 ≠ 0) : armillaryref27_reader_numbers0.f k lo hi b = some (0, b) := if_pos h
theorem rbyt_bad (k : Nat) (lo hi : Int) (b : S111) (h : b.f2 ≠ 0) : armillaryref27_reader_bytess0.f k lo hi b = some ([], b) := by
  unfold armillaryref27_reader_bytess0.f
  rw [rnum_bad k lo hi b h]
  exact if_pos h
theorem rdec_any (l : List Int) (hb : isBytes l) (hl : l.length < 1000000000) :
    ∃ res, Ev (fun k => armillaryref27_DecodeEntry.f k l) res ∧ ((res.2.2 ≠ 0 ∧ ∀ e r, okE e → l ≠ enc e ++ r) ∨ ∃ (e : S25) (p' : Nat), res = (e, (p' : Int), 0) ∧ okE e ∧ p' ≤ l.length ∧ l = enc e ++ l.drop p') := by
  have fin : ∀ {r : S25 × S111}, Ev (fun k => armillaryref27_reader_entrys0.f k ⟨l, 0, 0⟩) r → r.2.f2 ≠ 0 → (∀ e r, okE e → l ≠ enc e ++ r) → ∃ res, Ev (fun k => armillaryref27_DecodeEntry.f k l) res ∧ ((res.2.2 ≠ 0 ∧ ∀ e r, okE e → l ≠ enc e ++ r) ∨ ∃ (e : S25) (p' : Nat), res = (e, (p' : Int), 0) ∧ okE e ∧ p' ≤ l.length ∧ l = enc e ++ l.drop p') := fun h hne hno =>
    ⟨_, Ev.bind h (Ev.const (if_pos hne)), .inl ⟨hne, hno⟩⟩
  have esplit : ∀ (e : S25) r, okE e → l = enc e ++ r → l.drop 0 = vg (2 * e.f0.toNat) ++ ((vg (2 * (bytesOf e.f1).length) ++ bytesOf e.f1) ++ ((vg (2 * e.f2.length) ++ e.f2) ++ r)) := fun e r _ h => by
    rw [List.drop_zero, h, bytesOf_length]
    unfold enc
    simp only [List.append_assoc]
  obtain ⟨r1, e1, c1⟩ := rnum_any l hb hl 0 (Nat.zero_le _) 1 4 (by decide) (by decide)
  rcases c1 with ⟨hx, hno⟩ | ⟨n, p1, rfl, a1, a2, a3, a4⟩
  · refine fin (r := (⟨0, (⟨#[]⟩ : ByteArray), ([] : List Int)⟩, r1.2)) (Ev.bind e1 ?_) hx (fun e r he h => ?_)
    · refine Ev.congr (fun k => by rw [rbyt_bad k 1 40 r1.2 hx]; rfl) (g := fun k => (armillaryref27_reader_bytess0.f k 0 20000 r1.2).bind fun t3 => (if t3.2.f2 ≠ 0 then (some ((⟨0, (⟨#[]⟩ : ByteArray), ([] : List Int)⟩ : S25), t3.2)) else (some ((⟨r1.1, strOfNums [], t3.1⟩ : S25), t3.2)))) ?_
      exact Ev.congr (fun k => by rw [rbyt_bad k 0 20000 r1.2 hx]; exact if_pos hx) (Ev.const rfl)
    · have hk1 := he.k1; have hk2 := he.k2
      exact hno e.f0.toNat _ (by omega) (by omega) (esplit e r he h)
  obtain ⟨r2, e2, c2⟩ := rbyt_any l hb hl p1 a3 1 40 (by decide) (by decide)
  rcases c2 with ⟨hx, hno⟩ | ⟨m, p2, rfl, b1, b2, b3, b4⟩
  · refine fin (r := (⟨0, (⟨#[]⟩ : ByteArray), ([] : List Int)⟩, r2.2)) (Ev.bind e1 (Ev.bind e2 ?_)) hx (fun e r he h => ?_)
    · exact Ev.congr (fun k => by rw [rbyt_bad k 0 20000 r2.2 hx]; exact if_pos hx) (Ev.const rfl)
    · have hs1 := he.s1; have hs2 := he.s2
      have h2 := esplit e r he h
      rw [a4] at h2
      obtain ⟨_, h3⟩ := vg_inj _ _ _ _ h2
      exact hno _ _ (by rw [bytesOf_length]; omega) (by rw [bytesOf_length]; omega) h3
  obtain ⟨r3, e3, c3⟩ := rbyt_any l hb hl p2 b3 0 20000 (by decide) (by decide)
  rcases c3 with ⟨hx, hno⟩ | ⟨s, p3, rfl, d1, d2, d3, d4⟩
  · refine fin (r := (⟨0, (⟨#[]⟩ : ByteArray), ([] : List Int)⟩, r3.2)) (Ev.bind e1 (Ev.bind e2 (Ev.bind e3 (Ev.const (if_pos hx))))) hx (fun e r he h => ?_)
    have hb1 := he.b1
    have h2 := esplit e r he h
    rw [a4] at h2
    obtain ⟨_, h3⟩ := vg_inj _ _ _ _ h2
    rw [b4, List.append_assoc, List.append_assoc] at h3
    obtain ⟨h5, h6⟩ := vg_inj _ _ _ _ h3
    have h7 := (List.append_inj h6 (by omega)).2
    exact hno e.f2 r (by omega) (by omega) h7
  have hbp1 : isBytes (l.drop p1) := hb.drop _
  rw [b4] at hbp1
  have hm : isBytes m := (bytes_app (bytes_app hbp1).1).2
  have hbp2 : isBytes (l.drop p2) := hb.drop _
  rw [d4] at hbp2
  have hs : isBytes s := (bytes_app (bytes_app hbp2).1).2
  refine ⟨((⟨(n : Int), strOfNums m, s⟩ : S25), (p3 : Int), 0), Ev.bind (r := ((⟨(n : Int), strOfNums m, s⟩ : S25), (⟨l, (p3 : Int), 0⟩ : S111))) (Ev.bind e1 (Ev.bind e2 (Ev.bind e3 (Ev.const (if_neg (fun h => h rfl)))))) (Ev.const (if_neg (fun h => h rfl))), .inr ⟨⟨(n : Int), strOfNums m, s⟩, p3, rfl, ⟨a1, a2, ?_, ?_, ?_, hs⟩, d3, ?_⟩⟩
  · show 1 ≤ (strOfNums m).size; rw [strOfNums_size]; omega
  · show (strOfNums m).size ≤ 40; rw [strOfNums_size]; omega
  · show s.length ≤ 20000; omega
  · show l = (vg (2 * (n : Int).toNat) ++ ((vg (2 * (strOfNums m).size) ++ bytesOf (strOfNums m)) ++ (vg (2 * s.length) ++ s))) ++ l.drop p3
    rw [List.drop_zero, b4, d4] at a4
    rw [tn, strOfNums_size, bytes_str hm]
    conv => lhs; rw [a4]
    simp only [List.append_assoc]
/-- Both decode alike. -/
theorem dec_both (l : List Int) (hb : isBytes l) (hl : l.length < 1000000000) : ∃ x y, Ev (fun k => codec_DecodeEntry.f k l) x ∧ Ev (fun k => armillaryref27_DecodeEntry.f k l) y ∧ ((x.2.2 ≠ 0 ∧ y.2.2 ≠ 0) ∨ (x = y ∧ x.2.2 = 0 ∧ ∃ r, okE x.1 ∧ l = enc x.1 ++ r ∧ x.2.1 = ((enc x.1).length : Int))) := by
  obtain ⟨x, hx, cx⟩ := dec_any l hb hl
  obtain ⟨y, hy, cy⟩ := rdec_any l hb hl
  have fwd : ∀ e r, okE e → l = enc e ++ r → x = (e, ((enc e).length : Int), 0) := fun e r he h => by
    refine Ev.uniq hx ?_
    have h1 := dec_ev he l r 0 hl (by rw [List.drop_zero]; exact h)
    rw [Nat.zero_add] at h1
    exact Ev.bind (r := .inr (⟨l, ((enc e).length : Int)⟩, e)) (Ev.pb h1 (Ev.const rfl)) (Ev.const rfl)
  refine ⟨x, y, hx, hy, ?_⟩
  rcases cy with ⟨hy0, hno⟩ | ⟨e, p', rfl, h1, h2, h3⟩
  · rcases cx with ⟨z, hz, rfl⟩ | ⟨e, p', rfl, h1, h2, h3⟩
    · exact .inl ⟨bad_ne hz, hy0⟩
    · exact absurd h3 (hno e _ h1)
  · have hxe := fwd e _ h1 h3
    have hlen := congrArg List.length h3
    rw [List.length_append, List.length_drop] at hlen
    have hp : p' = (enc e).length := by omega
    rw [hp]
    exact .inr ⟨hxe, by rw [hxe], _, by rw [hxe]; exact h1, by rw [hxe]; exact h3, by rw [hxe]⟩
end Go.Proofs.YtiomeaoeegikkaaDoor.led
namespace Go.Proofs.YtiomeaoeegikkaaDoor
open Go Go.Proofs.YtiomeaoeegikkaaDoor.RW
set_option linter.unusedVariables false
set_option maxRecDepth 100000
set_option maxHeartbeats 8000000

/-! ### armillaryref28_wordAt: function 48, armillary/armillaryref28.wordAt -/
noncomputable def K48_0 : Code := cBody Tryd.f48
noncomputable def O48_4 : List Oper := cOps (cL (cR K48_0))
def armillaryref28_wordAt.f (a0 : List Int) (a1 : Int) : Option (Int) := (if 0 ≤ a1 then (if a1 < (a0.length : Int) then (if 0 ≤ (W .i64 (a1 + 1)) then (if (W .i64 (a1 + 1)) < (a0.length : Int) then (if 0 ≤ (W .i64 (a1 + 2)) then (if (W .i64 (a1 + 2)) < (a0.length : Int) then (if 0 ≤ (W .i64 (a1 + 3)) then (if (W .i64 (a1 + 3)) < (a0.length : Int) then (some (W .u32 ((W .u32 ((a0.getD (a1).toNat 0))) + (W .u32 (256 * (W .u32 ((W .u32 ((a0.getD (W .i64 (a1 + 1)).toNat 0))) + (W .u32 (256 * (W .u32 ((W .u32 ((a0.getD (W .i64 (a1 + 2)).toNat 0))) + (W .u32 (256 * (W .u32 ((a0.getD (W .i64 (a1 + 3)).toNat 0)))))))))))))))) else none) else none) else none) else none) else none) else none) else none) else none)
def armillaryref28_wordAt.Post (I : Imm) (w : World) (r : Int) (v : Value) (w' : World) : Prop :=
 ∃ (J : Imm), v = .int .u32 r ∧ Got w w' I J []
noncomputable def a48_4n : List Nat := (0 :: 0 :: 3 :: 7 :: 15 :: 0 :: 0 :: 64 :: 224 :: 480 :: 992 :: 0 :: 0 :: 4096 :: 14336 :: 30720 :: 63488 :: 0 :: 0 :: 262144 :: 917504 :: 1966080 :: 4063232 :: 8257536 :: 16775168 :: 33552384 :: 67108832 :: 134217696 :: 268435455 :: 536870911 :: [])
theorem a48_4 : ancs O48_4 [] = a48_4n := by kernel_rfl
theorem a48_4o : drawOk O48_4 a48_4n 28 = true := by kernel_rfl
noncomputable def u48d1l  : List Ld :=
 []
noncomputable def u48d1g (a1 : Int) (g1_ : Nat) (o1_ : Nat) (g2_ : Nat) (o2_ : Nat) (g3_ : Nat) (o3_ : Nat) (g4_ : Nat) (o4_ : Nat) : List (Nat × ((Nat → Wt) → Value)) := [(2, fun u => pt g1_ (o1_ + (a1).toNat * 1)), (8, fun u => pt g2_ (o2_ + (W .i64 (a1 + 1)).toNat * 1)), (14, fun u => pt g3_ (o3_ + (W .i64 (a1 + 2)).toNat * 1)), (20, fun u => pt g4_ (o4_ + (W .i64 (a1 + 3)).toNat * 1))]
noncomputable def u48d1q (a0 : List Int) (Ap0 : Option Addr) (cp0 : Nat) (a1 : Int) (g1_ : Nat) (o1_ : Nat) (g2_ : Nat) (o2_ : Nat) (g3_ : Nat) (o3_ : Nat) (g4_ : Nat) (o4_ : Nat) (u : Nat → Wt) : Option (List Value × List (Nat × Value) × List (Nat × Nat)) := qSim Tryd.prog [(⟨g1_, o1_ + (a1).toNat * 1, none⟩, .int .u8 (a0.getD (a1).toNat 0)), (⟨g2_, o2_ + (W .i64 (a1 + 1)).toNat * 1, none⟩, .int .u8 (a0.getD (W .i64 (a1 + 1)).toNat 0)), (⟨g3_, o3_ + (W .i64 (a1 + 2)).toNat * 1, none⟩, .int .u8 (a0.getD (W .i64 (a1 + 2)).toNat 0)), (⟨g4_, o4_ + (W .i64 (a1 + 3)).toNat * 1, none⟩, .int .u8 (a0.getD (W .i64 (a1 + 3)).toNat 0))] [] O48_4 ⟨34, []⟩ (Ld.vl u48d1l) (u48d1g a1 g1_ o1_ g2_ o2_ g3_ o3_ g4_ o4_) u [.no, .no, .no, .r 0, .no, .no, .no, .no, .no, .r 1, .no, .no, .no, .no, .no, .r 2, .no, .no, .no, .no, .no, .r 3, .no, .no, .no, .no, .no, .no] 0 (O48_4.take 28) [(0, .slice Ap0 a0.length cp0), (1, i6 a1)]
noncomputable def u48d1s (a0 : List Int) (Ap0 : Option Addr) (cp0 : Nat) (a1 : Int) (g1_ : Nat) (o1_ : Nat) (g2_ : Nat) (o2_ : Nat) (g3_ : Nat) (o3_ : Nat) (g4_ : Nat) (o4_ : Nat) (u : Nat → Wt) : List Value := [.slice Ap0 a0.length cp0, i6 a1, pt g1_ (o1_ + (a1).toNat * 1), .int .u8 (a0.getD (a1).toNat 0), .int .u32 (W .u32 ((a0.getD (a1).toNat 0))), .slice Ap0 a0.length cp0, i6 a1, i6 (W .i64 (a1 + 1)), pt g2_ (o2_ + (W .i64 (a1 + 1)).toNat * 1), .int .u8 (a0.getD (W .i64 (a1 + 1)).toNat 0), .int .u32 (W .u32 ((a0.getD (W .i64 (a1 + 1)).toNat 0))), .slice Ap0 a0.length cp0, i6 a1, i6 (W .i64 (a1 + 2)), pt g3_ (o3_ + (W .i64 (a1 + 2)).toNat * 1), .int .u8 (a0.getD (W .i64 (a1 + 2)).toNat 0), .int .u32 (W .u32 ((a0.getD (W .i64 (a1 + 2)).toNat 0))), .slice Ap0 a0.length cp0, i6 a1, i6 (W .i64 (a1 + 3)), pt g4_ (o4_ + (W .i64 (a1 + 3)).toNat * 1), .int .u8 (a0.getD (W .i64 (a1 + 3)).toNat 0), .int .u32 (W .u32 ((a0.getD (W .i64 (a1 + 3)).toNat 0))), .int .u32 (W .u32 (256 * (W .u32 ((a0.getD (W .i64 (a1 + 3)).toNat 0))))), .int .u32 (W .u32 ((W .u32 ((a0.getD (W .i64 (a1 + 2)).toNat 0))) + (W .u32 (256 * (W .u32 ((a0.getD (W .i64 (a1 + 3)).toNat 0))))))), .int .u32 (W .u32 (256 * (W .u32 ((W .u32 ((a0.getD (W .i64 (a1 + 2)).toNat 0))) + (W .u32 (256 * (W .u32 ((a0.getD (W .i64 (a1 + 3)).toNat 0))))))))), .int .u32 (W .u32 ((W .u32 ((a0.getD (W .i64 (a1 + 1)).toNat 0))) + (W .u32 (256 * (W .u32 ((W .u32 ((a0.getD (W .i64 (a1 + 2)).toNat 0))) + (W .u32 (256 * (W .u32 ((a0.getD (W .i64 (a1 + 3)).toNat 0))))))))))), .int .u32 (W .u32 (256 * (W .u32 ((W .u32 ((a0.getD (W .i64 (a1 + 1)).toNat 0))) + (W .u32 (256 * (W .u32 ((W .u32 ((a0.getD (W .i64 (a1 + 2)).toNat 0))) + (W .u32 (256 * (W .u32 ((a0.getD (W .i64 (a1 + 3)).toNat 0)))))))))))))]
noncomputable def u48d1f (a0 : List Int) (Ap0 : Option Addr) (cp0 : Nat) (a1 : Int) (g1_ : Nat) (o1_ : Nat) (g2_ : Nat) (o2_ : Nat) (g3_ : Nat) (o3_ : Nat) (g4_ : Nat) (o4_ : Nat) (i : Nat) (u : Nat → Wt) : List (Nat × Value) := foldPut ⟨34, []⟩ [(0, .slice Ap0 a0.length cp0), (1, i6 a1)] (O48_4.take i) (((u48d1s a0 Ap0 cp0 a1 g1_ o1_ g2_ o2_ g3_ o3_ g4_ o4_) u).take i)
theorem u48d1v (a0 : List Int) (Ap0 : Option Addr) (cp0 : Nat) (a1 : Int) (g1_ : Nat) (o1_ : Nat) (g2_ : Nat) (o2_ : Nat) (g3_ : Nat) (o3_ : Nat) (g4_ : Nat) (o4_ : Nat) (u : Nat → Wt) : (u48d1q a0 Ap0 cp0 a1 g1_ o1_ g2_ o2_ g3_ o3_ g4_ o4_ u).map (fun x => (x.1, x.2.1)) = some ((u48d1s a0 Ap0 cp0 a1 g1_ o1_ g2_ o2_ g3_ o3_ g4_ o4_) u, (u48d1f a0 Ap0 cp0 a1 g1_ o1_ g2_ o2_ g3_ o3_ g4_ o4_ 28) u) := by kernel_rfl
theorem u48d1e (a0 : List Int) (Ap0 : Option Addr) (cp0 : Nat) (a1 : Int) (g1_ : Nat) (o1_ : Nat) (g2_ : Nat) (o2_ : Nat) (g3_ : Nat) (o3_ : Nat) (g4_ : Nat) (o4_ : Nat) (u : Nat → Wt) : (u48d1q a0 Ap0 cp0 a1 g1_ o1_ g2_ o2_ g3_ o3_ g4_ o4_ u).map (fun x => x.2.2.map (·.1)) = (u48d1q a0 Ap0 cp0 a1 g1_ o1_ g2_ o2_ g3_ o3_ g4_ o4_ u).map (fun x => x.2.2.map (·.2)) := by kernel_rfl
theorem armillaryref28_wordAt.calls (I0 : Imm) (a0 : List Int) (Ap0 : Option Addr) (cp0 : Nat) (a1 : Int) (w : World) (hI : I0.at_ w) (hlp0 : a0.length ≤ cp0) (hrp0 : Rd (Ty.int .u8) I0 Ap0 a0) (r : Int) (h : armillaryref28_wordAt.f a0 a1 = some r) :
  Calls Tryd.prog 48 [.slice Ap0 a0.length cp0, i6 a1].toArray w fun e w' => ∃ v, e = .returned v ∧ armillaryref28_wordAt.Post I0 w r v w' := by
 have H : (if 0 ≤ a1 then (if a1 < (a0.length : Int) then (if 0 ≤ (W .i64 (a1 + 1)) then (if (W .i64 (a1 + 1)) < (a0.length : Int) then (if 0 ≤ (W .i64 (a1 + 2)) then (if (W .i64 (a1 + 2)) < (a0.length : Int) then (if 0 ≤ (W .i64 (a1 + 3)) then (if (W .i64 (a1 + 3)) < (a0.length : Int) then (some (W .u32 ((W .u32 ((a0.getD (a1).toNat 0))) + (W .u32 (256 * (W .u32 ((W .u32 ((a0.getD (W .i64 (a1 + 1)).toNat 0))) + (W .u32 (256 * (W .u32 ((W .u32 ((a0.getD (W .i64 (a1 + 2)).toNat 0))) + (W .u32 (256 * (W .u32 ((a0.getD (W .i64 (a1 + 3)).toNat 0)))))))))))))))) else none) else none) else none) else none) else none) else none) else none) else none) = some r := h
 clear h
 refine calls_body Tryd.func48 (by kernel_rfl) 34 (by kernel_rfl) (by kernel_rfl) ⟨w, fun _ => False, I0⟩ I0 [] [(0, .slice Ap0 a0.length cp0), (1, i6 a1)] (by kernel_rfl) (Sat.start w _ I0 hI) ?_
 generalize w.heap.size = nx0
 show OK _ K48_0 _ _ _ _ _ _ _ _
 refine OK.sr ?_
 refine RL.st 1 [(0, .slice Ap0 a0.length cp0), (1, i6 a1)] ?_
 refine OK.sq ?_
 obtain ⟨hi0_1, H⟩ := ifs H
 obtain ⟨hi1_1, H⟩ := ifs H
 obtain ⟨g1_, o1_, hA1_, hc1_⟩ := Ty.int_at hrp0 a1 hi0_1 hi1_1
 obtain ⟨hi0_2, H⟩ := ifs H
 obtain ⟨hi1_2, H⟩ := ifs H
 obtain ⟨g2_, o2_, hA2_, hc2_⟩ := Ty.int_at hrp0 (W .i64 (a1 + 1)) hi0_2 hi1_2
 obtain ⟨hi0_3, H⟩ := ifs H
 obtain ⟨hi1_3, H⟩ := ifs H
 obtain ⟨g3_, o3_, hA3_, hc3_⟩ := Ty.int_at hrp0 (W .i64 (a1 + 2)) hi0_3 hi1_3
 obtain ⟨hi0_4, H⟩ := ifs H
 obtain ⟨hi1_4, H⟩ := ifs H
 obtain ⟨g4_, o4_, hA4_, hc4_⟩ := Ty.int_at hrp0 (W .i64 (a1 + 3)) hi0_4 hi1_4
 refine OK.drawnC 1 28 O48_4 a48_4n (by kernel_rfl) (by kernel_rfl) u48d1l (u48d1g a1 g1_ o1_ g2_ o2_ g3_ o3_ g4_ o4_) [(⟨g1_, o1_ + (a1).toNat * 1, none⟩, .int .u8 (a0.getD (a1).toNat 0)), (⟨g2_, o2_ + (W .i64 (a1 + 1)).toNat * 1, none⟩, .int .u8 (a0.getD (W .i64 (a1 + 1)).toNat 0)), (⟨g3_, o3_ + (W .i64 (a1 + 2)).toNat * 1, none⟩, .int .u8 (a0.getD (W .i64 (a1 + 2)).toNat 0)), (⟨g4_, o4_ + (W .i64 (a1 + 3)).toNat * 1, none⟩, .int .u8 (a0.getD (W .i64 (a1 + 3)).toNat 0))] (RI.cons (hc1_ 0 _ rfl) (RI.cons (hc2_ 0 _ rfl) (RI.cons (hc3_ 0 _ rfl) (RI.cons (hc4_ 0 _ rfl) (RI.nil _))))) [.no, .no, .no, .r 0, .no, .no, .no, .no, .no, .r 1, .no, .no, .no, .no, .no, .r 2, .no, .no, .no, .no, .no, .r 3, .no, .no, .no, .no, .no, .no] a48_4 a48_4o (by kernel_rfl) (by kernel_rfl) (u48d1s a0 Ap0 cp0 a1 g1_ o1_ g2_ o2_ g3_ o3_ g4_ o4_) (u48d1f a0 Ap0 cp0 a1 g1_ o1_ g2_ o2_ g3_ o3_ g4_ o4_ 28) (u48d1v a0 Ap0 cp0 a1 g1_ o1_ g2_ o2_ g3_ o3_ g4_ o4_) (u48d1e a0 Ap0 cp0 a1 g1_ o1_ g2_ o2_ g3_ o3_ g4_ o4_) [] framesOk.nil ?_ [u48d1f a0 Ap0 cp0 a1 g1_ o1_ g2_ o2_ g3_ o3_ g4_ o4_ 2, u48d1f a0 Ap0 cp0 a1 g1_ o1_ g2_ o2_ g3_ o3_ g4_ o4_ 8, u48d1f a0 Ap0 cp0 a1 g1_ o1_ g2_ o2_ g3_ o3_ g4_ o4_ 14, u48d1f a0 Ap0 cp0 a1 g1_ o1_ g2_ o2_ g3_ o3_ g4_ o4_ 20] (framesOk.cons (fun u => rfl) (framesOk.cons (fun u => rfl) (framesOk.cons (fun u => rfl) (framesOk.cons (fun u => rfl) framesOk.nil)))) ?_ ?_
 ·refine LoudsG.nil
 ·refine Givens.cons (fun u w =>  ?_) (fun _ _ _ => rfl) (Givens.cons (fun u w =>  ?_) (fun _ _ _ => rfl) (Givens.cons (fun u w =>  ?_) (fun _ _ _ => rfl) (Givens.cons (fun u w =>  ?_) (fun _ _ _ => rfl) (Givens.nil))))
  ·exact giv_idx (T := 22) (e := 5) 1 .i64 a1 hA1_ a0.length cp0 (by kernel_rfl) (by kernel_rfl) (by kernel_rfl) hi0_1 hi1_1 w
  ·exact giv_idx (T := 22) (e := 5) 1 .i64 (W .i64 (a1 + 1)) hA2_ a0.length cp0 (by kernel_rfl) (by kernel_rfl) (by kernel_rfl) hi0_2 hi1_2 w
  ·exact giv_idx (T := 22) (e := 5) 1 .i64 (W .i64 (a1 + 2)) hA3_ a0.length cp0 (by kernel_rfl) (by kernel_rfl) (by kernel_rfl) hi0_3 hi1_3 w
  ·exact giv_idx (T := 22) (e := 5) 1 .i64 (W .i64 (a1 + 3)) hA4_ a0.length cp0 (by kernel_rfl) (by kernel_rfl) (by kernel_rfl) hi0_4 hi1_4 w
 intro u I1 nx1 hi1 hF
 clear hF
 refine RL.norm (K' := ((32, .int .u32 (W .u32 (256 * (W .u32 ((W .u32 ((a0.getD (W .i64 (a1 + 1)).toNat 0))) + (W .u32 (256 * (W .u32 ((W .u32 ((a0.getD (W .i64 (a1 + 2)).toNat 0))) + (W .u32 (256 * (W .u32 ((a0.getD (W .i64 (a1 + 3)).toNat 0)))))))))))))) :: (31, .int .u32 (W .u32 ((W .u32 ((a0.getD (W .i64 (a1 + 1)).toNat 0))) + (W .u32 (256 * (W .u32 ((W .u32 ((a0.getD (W .i64 (a1 + 2)).toNat 0))) + (W .u32 (256 * (W .u32 ((a0.getD (W .i64 (a1 + 3)).toNat 0)))))))))))) :: (30, .int .u32 (W .u32 (256 * (W .u32 ((W .u32 ((a0.getD (W .i64 (a1 + 2)).toNat 0))) + (W .u32 (256 * (W .u32 ((a0.getD (W .i64 (a1 + 3)).toNat 0)))))))))) :: (29, .int .u32 (W .u32 ((W .u32 ((a0.getD (W .i64 (a1 + 2)).toNat 0))) + (W .u32 (256 * (W .u32 ((a0.getD (W .i64 (a1 + 3)).toNat 0)))))))) :: (28, .int .u32 (W .u32 (256 * (W .u32 ((a0.getD (W .i64 (a1 + 3)).toNat 0)))))) :: (27, .int .u32 (W .u32 ((a0.getD (W .i64 (a1 + 3)).toNat 0)))) :: (26, .int .u8 (a0.getD (W .i64 (a1 + 3)).toNat 0)) :: (25, pt g4_ (o4_ + (W .i64 (a1 + 3)).toNat * 1)) :: (24, i6 (W .i64 (a1 + 3))) :: (23, i6 a1) :: (22, .slice Ap0 a0.length cp0) :: (21, .int .u32 (W .u32 ((a0.getD (W .i64 (a1 + 2)).toNat 0)))) :: (20, .int .u8 (a0.getD (W .i64 (a1 + 2)).toNat 0)) :: (19, pt g3_ (o3_ + (W .i64 (a1 + 2)).toNat * 1)) :: (18, i6 (W .i64 (a1 + 2))) :: (17, i6 a1) :: (16, .slice Ap0 a0.length cp0) :: (15, .int .u32 (W .u32 ((a0.getD (W .i64 (a1 + 1)).toNat 0)))) :: (14, .int .u8 (a0.getD (W .i64 (a1 + 1)).toNat 0)) :: (13, pt g2_ (o2_ + (W .i64 (a1 + 1)).toNat * 1)) :: (12, i6 (W .i64 (a1 + 1))) :: (11, i6 a1) :: (10, .slice Ap0 a0.length cp0) :: (9, .int .u32 (W .u32 ((a0.getD (a1).toNat 0)))) :: (8, .int .u8 (a0.getD (a1).toNat 0)) :: (7, pt g1_ (o1_ + (a1).toNat * 1)) :: (6, i6 a1) :: (5, .slice Ap0 a0.length cp0) :: (0, .slice Ap0 a0.length cp0) :: (1, i6 a1) :: [])) (X' := []) (by kernel_rfl) rfl rfl rfl ?_
 refine RL.st 2 [(4, .int .u32 (W .u32 ((W .u32 ((a0.getD (a1).toNat 0))) + (W .u32 (256 * (W .u32 ((W .u32 ((a0.getD (W .i64 (a1 + 1)).toNat 0))) + (W .u32 (256 * (W .u32 ((W .u32 ((a0.getD (W .i64 (a1 + 2)).toNat 0))) + (W .u32 (256 * (W .u32 ((a0.getD (W .i64 (a1 + 3)).toNat 0))))))))))))))))] ?_
 refine OK.re ?_
 obtain rfl := Option.some.inj H
 refine QN.body rfl [] (RFacts.nil _ _ _) (.no) (.int .u32 (W .u32 ((W .u32 ((a0.getD (a1).toNat 0))) + (W .u32 (256 * (W .u32 ((W .u32 ((a0.getD (W .i64 (a1 + 1)).toNat 0))) + (W .u32 (256 * (W .u32 ((W .u32 ((a0.getD (W .i64 (a1 + 2)).toNat 0))) + (W .u32 (256 * (W .u32 ((a0.getD (W .i64 (a1 + 3)).toNat 0)))))))))))))))) (by kernel_rfl) (by kernel_rfl) (by kernel_rfl) ?_ _ (.inr rfl)
 exact fun w' hs' => ⟨_, rfl, I1, rfl, hs'.got _ .slnil⟩

end Go.Proofs.YtiomeaoeegikkaaDoor
namespace Go.Proofs.YtiomeaoeegikkaaDoor
open Go Go.Proofs.YtiomeaoeegikkaaDoor.RW
set_option linter.unusedVariables false
set_option maxRecDepth 100000
set_option maxHeartbeats 8000000

/-! ### armillaryref28_first: function 33, armillary/armillaryref28.first -/
noncomputable def K33_0 : Code := cBody Tryd.f33
def armillaryref28_first.k1 (a1 : Int) (t1 : Int) (t4 : S25 × Int × Int) (x1 : Bool) : Option (S25 × Int × Int) := (if x1 = true then (some ((⟨0, (⟨#[]⟩ : ByteArray), []⟩ : S25), 0, 272)) else (some (t4.1, W .i64 ((W .i64 ((W .i64 (a1 + 4)) + (W .i64 (t1)))) + 4), 0)))
def armillaryref28_first.f (k : Nat) (a0 : List Int) (a1 : Int) : Option (S25 × Int × Int) := (if (W .i64 ((a0.length : Int) - a1)) < 4 then (some ((⟨0, (⟨#[]⟩ : ByteArray), []⟩ : S25), 0, 271)) else ((armillaryref28_wordAt.f a0 a1).bind fun t1 => (if (W .i64 ((W .i64 ((a0.length : Int) - a1)) - 8)) < (W .i64 (t1)) then (some ((⟨0, (⟨#[]⟩ : ByteArray), []⟩ : S25), 0, 271)) else (if (0 : Int) ≤ a1 then (if a1 ≤ (W .i64 ((W .i64 (a1 + 4)) + (W .i64 (t1)))) then (if (W .i64 ((W .i64 (a1 + 4)) + (W .i64 (t1)))) ≤ (a0.length : Int) then ((armillaryref27_Checksum.f k (rpart a0 a1 (W .i64 ((W .i64 (a1 + 4)) + (W .i64 (t1)))))).bind fun t2 => ((armillaryref28_wordAt.f a0 (W .i64 ((W .i64 (a1 + 4)) + (W .i64 (t1))))).bind fun t3 => (if t2 ≠ t3 then (some ((⟨0, (⟨#[]⟩ : ByteArray), []⟩ : S25), 0, 270)) else (if (0 : Int) ≤ (W .i64 (a1 + 4)) then (if (W .i64 (a1 + 4)) ≤ (W .i64 ((W .i64 (a1 + 4)) + (W .i64 (t1)))) then (if (W .i64 ((W .i64 (a1 + 4)) + (W .i64 (t1)))) ≤ (a0.length : Int) then ((armillaryref27_DecodeEntry.f k (rpart a0 (W .i64 (a1 + 4)) (W .i64 ((W .i64 (a1 + 4)) + (W .i64 (t1)))))).bind fun t4 => ((if t4.2.2 ≠ 0 then (some true) else (some (t4.2.1 != (W .i64 (t1))))).bind (armillaryref28_first.k1 a1 t1 t4))) else none) else none) else none)))) else none) else none) else none))))
def armillaryref28_first.Post (I : Imm) (w : World) (r : S25 × Int × Int) (v : Value) (w' : World) : Prop :=
 ∃ (J : Imm) (A0_2 : Option Addr) (c0_2 : Nat), v = .tuple #[.agg #[.int .i64 r.1.f0, .string r.1.f1, .slice A0_2 r.1.f2.length c0_2], .int .i64 r.2.1, .int .i64 r.2.2] ∧ Got w w' I J [] ∧ r.1.f2.length ≤ c0_2 ∧ Rd (Ty.int .u8) J A0_2 r.1.f2
theorem armillaryref28_first.calls (k : Nat) (I0 : Imm) (a0 : List Int) (Ap0 : Option Addr) (cp0 : Nat) (a1 : Int) (w : World) (hI : I0.at_ w) (hlp0 : a0.length ≤ cp0) (hrp0 : Rd (Ty.int .u8) I0 Ap0 a0) (r : S25 × Int × Int) (h : armillaryref28_first.f k a0 a1 = some r) :
  Calls Tryd.prog 33 [.slice Ap0 a0.length cp0, i6 a1].toArray w fun e w' => ∃ v, e = .returned v ∧ armillaryref28_first.Post I0 w r v w' := by
 have H : (if (W .i64 ((a0.length : Int) - a1)) < 4 then (some ((⟨0, (⟨#[]⟩ : ByteArray), []⟩ : S25), 0, 271)) else ((armillaryref28_wordAt.f a0 a1).bind fun t1 => (if (W .i64 ((W .i64 ((a0.length : Int) - a1)) - 8)) < (W .i64 (t1)) then (some ((⟨0, (⟨#[]⟩ : ByteArray), []⟩ : S25), 0, 271)) else (if (0 : Int) ≤ a1 then (if a1 ≤ (W .i64 ((W .i64 (a1 + 4)) + (W .i64 (t1)))) then (if (W .i64 ((W .i64 (a1 + 4)) + (W .i64 (t1)))) ≤ (a0.length : Int) then ((armillaryref27_Checksum.f k (rpart a0 a1 (W .i64 ((W .i64 (a1 + 4)) + (W .i64 (t1)))))).bind fun t2 => ((armillaryref28_wordAt.f a0 (W .i64 ((W .i64 (a1 + 4)) + (W .i64 (t1))))).bind fun t3 => (if t2 ≠ t3 then (some ((⟨0, (⟨#[]⟩ : ByteArray), []⟩ : S25), 0, 270)) else (if (0 : Int) ≤ (W .i64 (a1 + 4)) then (if (W .i64 (a1 + 4)) ≤ (W .i64 ((W .i64 (a1 + 4)) + (W .i64 (t1)))) then (if (W .i64 ((W .i64 (a1 + 4)) + (W .i64 (t1)))) ≤ (a0.length : Int) then ((armillaryref27_DecodeEntry.f k (rpart a0 (W .i64 (a1 + 4)) (W .i64 ((W .i64 (a1 + 4)) + (W .i64 (t1)))))).bind fun t4 => ((if t4.2.2 ≠ 0 then (some true) else (some (t4.2.1 != (W .i64 (t1))))).bind (armillaryref28_first.k1 a1 t1 t4))) else none) else none) else none)))) else none) else none) else none)))) = some r := h
 clear h
 refine calls_body Tryd.func33 (by kernel_rfl) 65 (by kernel_rfl) (by kernel_rfl) ⟨w, fun _ => False, I0⟩ I0 [] [(0, .slice Ap0 a0.length cp0), (1, i6 a1)] (by kernel_rfl) (Sat.start w _ I0 hI) ?_
 generalize w.heap.size = nx0
 show OK _ K33_0 _ _ _ _ _ _ _ _
 refine OK.sr ?_
 refine RL.spt 3 [(4, pt nx0 0), (0, .slice Ap0 a0.length cp0), (1, i6 a1)] (nx0 + 1) [⟨nx0, [i6 0, .string (⟨#[]⟩ : ByteArray), .slice none 0 0], 25⟩] ?_
 refine OK.sq ?_
 refine OK.sr ?_
 refine RL.st 5 [(16, .bool (decide ((W .i64 ((a0.length : Int) - a1)) < 4))), (4, pt nx0 0), (0, .slice Ap0 a0.length cp0), (1, i6 a1)] ?_
 refine OK.cd (decide ((W .i64 ((a0.length : Int) - a1)) < 4)) (fun hb => ?_) (fun hb => ?_)
 ·skip
  have hc := (of_decide_eq_true hb)
  rw [if_pos hc] at H
  clear hb
  refine OK.sr ?_
  refine RL.simK (K' := [(6, i6 271), (5, i6 0), (4, pt nx0 0)]) [] (RFacts.nil _ _ _) 4 [.no, .l 0, .no, .no] (by kernel_rfl) (by kernel_rfl) ?_
  refine RL.nt ?_
  refine OK.re ?_
  refine QN.thenR ?_
  obtain rfl := Option.some.inj H
  refine QN.body rfl [] (RFacts.nil _ _ _) (.l 0) (.tuple #[.agg #[i6 0, .string (⟨#[]⟩ : ByteArray), .slice none 0 0], i6 0, i6 271]) (by kernel_rfl) (by kernel_rfl) (by kernel_rfl) ?_ _ (.inr rfl)
  exact fun w' hs' => ⟨_, rfl, I0, none, 0, rfl, hs'.got _ .slnil, (Nat.le_refl 0), (Rd.nil _ _ _)⟩
 ·skip
  have hc := (of_decide_eq_false hb)
  rw [if_neg hc] at H
  clear hb
  refine OK.skt ?_
  refine OK.sr ?_
  refine RL.s 2 [(19, i6 a1), (18, .slice Ap0 a0.length cp0), (4, pt nx0 0), (0, .slice Ap0 a0.length cp0), (1, i6 a1)] ?_
  obtain ⟨t1, hA1, H⟩ := bnd H
  refine RL.callP 48 [.slice Ap0 a0.length cp0, i6 a1] (some 20) (fun w => armillaryref28_wordAt.Post I0 w t1) (by kernel_rfl) (by kernel_rfl) (fun w hs => armillaryref28_wordAt.calls I0 a0 Ap0 cp0 a1 w hs.im hlp0 hrp0 t1 hA1) ?_
  rintro w v w' hs ⟨I1, rfl, hg⟩
  have hi1 := hg.le
  refine RL.resume (X' := []) rfl (hs.call hg) ?_
  clear hs hg
  generalize w'.heap.size = nx1
  clear w w'
  refine RL.st 2 [(7, i6 (W .i64 (t1))), (4, pt nx0 0), (0, .slice Ap0 a0.length cp0), (1, i6 a1)] ?_
  refine OK.sq ?_
  refine OK.sr ?_
  refine RL.st 7 [(28, .bool (decide ((W .i64 ((W .i64 ((a0.length : Int) - a1)) - 8)) < (W .i64 (t1))))), (7, i6 (W .i64 (t1))), (4, pt nx0 0), (0, .slice Ap0 a0.length cp0), (1, i6 a1)] ?_
  refine OK.cd (decide ((W .i64 ((W .i64 ((a0.length : Int) - a1)) - 8)) < (W .i64 (t1)))) (fun hb => ?_) (fun hb => ?_)
  ·skip
   have hc := (of_decide_eq_true hb)
   rw [if_pos hc] at H
   clear hb
   refine OK.sr ?_
   refine RL.simK (K' := [(6, i6 271), (5, i6 0), (4, pt nx0 0)]) [] (RFacts.nil _ _ _) 4 [.no, .l 0, .no, .no] (by kernel_rfl) (by kernel_rfl) ?_
   refine RL.nt ?_
   refine OK.re ?_
   refine QN.thenR ?_
   obtain rfl := Option.some.inj H
   refine QN.body rfl [] (RFacts.nil _ _ _) (.l 0) (.tuple #[.agg #[i6 0, .string (⟨#[]⟩ : ByteArray), .slice none 0 0], i6 0, i6 271]) (by kernel_rfl) (by kernel_rfl) (by kernel_rfl) ?_ _ (.inr rfl)
   exact fun w' hs' => ⟨_, rfl, I1, none, 0, rfl, hs'.got _ .slnil, (Nat.le_refl 0), (Rd.nil _ _ _)⟩
  ·skip
   have hc := (of_decide_eq_false hb)
   rw [if_neg hc] at H
   clear hb
   refine OK.skt ?_
   refine OK.sr ?_
   refine RL.st 5 [(8, i6 (W .i64 ((W .i64 (a1 + 4)) + (W .i64 (t1))))), (7, i6 (W .i64 (t1))), (4, pt nx0 0), (0, .slice Ap0 a0.length cp0), (1, i6 a1)] ?_
   refine OK.sq ?_
   refine OK.sr ?_
   refine RL.s 3 [(36, i6 (W .i64 ((W .i64 (a1 + 4)) + (W .i64 (t1))))), (35, i6 a1), (34, .slice Ap0 a0.length cp0), (8, i6 (W .i64 ((W .i64 (a1 + 4)) + (W .i64 (t1))))), (7, i6 (W .i64 (t1))), (4, pt nx0 0), (0, .slice Ap0 a0.length cp0), (1, i6 a1)] ?_
   obtain ⟨hs0_1, H⟩ := ifs H
   obtain ⟨hs1_1, H⟩ := ifs H
   obtain ⟨hs2_1, H⟩ := ifs H
   refine RL.sub1 (T := 22) (e := 5) (l := a0) (S := Ap0) (cap := cp0) (lo := a1) (hi := W .i64 ((W .i64 (a1 + 4)) + (W .i64 (t1)))) 1 .i64 .i64 (some 37) (by kernel_rfl) (by kernel_rfl) (by kernel_rfl) (by kernel_rfl) hlp0 hs0_1 hs1_1 hs2_1 (K' := [(37, .slice (slA Ap0 (a1).toNat cp0 1) ((rpart a0 a1 (W .i64 ((W .i64 (a1 + 4)) + (W .i64 (t1))))).length) (cp0 - (a1).toNat)), (36, i6 (W .i64 ((W .i64 (a1 + 4)) + (W .i64 (t1))))), (35, i6 a1), (34, .slice Ap0 a0.length cp0), (8, i6 (W .i64 ((W .i64 (a1 + 4)) + (W .i64 (t1))))), (7, i6 (W .i64 (t1))), (4, pt nx0 0), (0, .slice Ap0 a0.length cp0), (1, i6 a1)]) (by kernel_rfl) ?_
   obtain ⟨t2, hA2, H⟩ := bnd H
   refine RL.callP 40 [.slice (slA Ap0 (a1).toNat cp0 1) ((rpart a0 a1 (W .i64 ((W .i64 (a1 + 4)) + (W .i64 (t1))))).length) (cp0 - (a1).toNat)] (some 38) (fun w => armillaryref27_Checksum.Post I1 w t2) (by kernel_rfl) (by kernel_rfl) (fun w hs => armillaryref27_Checksum.calls k I1 (rpart a0 a1 (W .i64 ((W .i64 (a1 + 4)) + (W .i64 (t1))))) (slA Ap0 (a1).toNat cp0 1) (cp0 - (a1).toNat) w hs.im (part_le hlp0 hs0_1 hs1_1 hs2_1) (rd_sub (Rd.ext hi1 hrp0) hlp0 hs0_1 hs1_1 hs2_1) t2 hA2) ?_
   rintro w v w' hs ⟨I2, rfl, hg⟩
   have hi2 := hg.le
   refine RL.resume (X' := []) rfl (hs.call hg) ?_
   clear hs hg
   generalize w'.heap.size = nx2
   clear w w'
   refine RL.s 2 [(40, i6 (W .i64 ((W .i64 (a1 + 4)) + (W .i64 (t1))))), (39, .slice Ap0 a0.length cp0), (38, .int .u32 t2), (8, i6 (W .i64 ((W .i64 (a1 + 4)) + (W .i64 (t1))))), (7, i6 (W .i64 (t1))), (4, pt nx0 0), (0, .slice Ap0 a0.length cp0), (1, i6 a1)] ?_
   obtain ⟨t3, hA3, H⟩ := bnd H
   refine RL.callP 48 [.slice Ap0 a0.length cp0, i6 (W .i64 ((W .i64 (a1 + 4)) + (W .i64 (t1))))] (some 41) (fun w => armillaryref28_wordAt.Post I2 w t3) (by kernel_rfl) (by kernel_rfl) (fun w hs => armillaryref28_wordAt.calls I2 a0 Ap0 cp0 (W .i64 ((W .i64 (a1 + 4)) + (W .i64 (t1)))) w hs.im hlp0 (Rd.ext (Imm.le_trans hi1 hi2) hrp0) t3 hA3) ?_
   rintro w v w' hs ⟨I3, rfl, hg⟩
   have hi3 := hg.le
   refine RL.resume (X' := []) rfl (hs.call hg) ?_
   clear hs hg
   generalize w'.heap.size = nx3
   clear w w'
   refine RL.st 1 [(42, .bool (t2 != t3)), (8, i6 (W .i64 ((W .i64 (a1 + 4)) + (W .i64 (t1))))), (7, i6 (W .i64 (t1))), (4, pt nx0 0), (0, .slice Ap0 a0.length cp0), (1, i6 a1)] ?_
   refine OK.cd (t2 != t3) (fun hb => ?_) (fun hb => ?_)
   ·skip
    have hc := (bne_iff_ne.1 hb)
    rw [if_pos hc] at H
    clear hb
    refine OK.sr ?_
    refine RL.simK (K' := [(6, i6 270), (5, i6 0), (4, pt nx0 0)]) [] (RFacts.nil _ _ _) 4 [.no, .l 0, .no, .no] (by kernel_rfl) (by kernel_rfl) ?_
    refine RL.nt ?_
    refine OK.re ?_
    refine QN.thenR ?_
    obtain rfl := Option.some.inj H
    refine QN.body rfl [] (RFacts.nil _ _ _) (.l 0) (.tuple #[.agg #[i6 0, .string (⟨#[]⟩ : ByteArray), .slice none 0 0], i6 0, i6 270]) (by kernel_rfl) (by kernel_rfl) (by kernel_rfl) ?_ _ (.inr rfl)
    exact fun w' hs' => ⟨_, rfl, I3, none, 0, rfl, hs'.got _ .slnil, (Nat.le_refl 0), (Rd.nil _ _ _)⟩
   ·skip
    have hc := (not_not_intro (bne_eq_false_iff_eq.1 hb))
    rw [if_neg hc] at H
    clear hb
    refine OK.skt ?_
    refine OK.sr ?_
    refine RL.s 4 [(48, i6 (W .i64 ((W .i64 (a1 + 4)) + (W .i64 (t1))))), (47, i6 (W .i64 (a1 + 4))), (45, .slice Ap0 a0.length cp0), (8, i6 (W .i64 ((W .i64 (a1 + 4)) + (W .i64 (t1))))), (7, i6 (W .i64 (t1))), (4, pt nx0 0)] ?_
    obtain ⟨hs0_2, H⟩ := ifs H
    obtain ⟨hs1_2, H⟩ := ifs H
    obtain ⟨hs2_2, H⟩ := ifs H
    refine RL.sub1 (T := 22) (e := 5) (l := a0) (S := Ap0) (cap := cp0) (lo := W .i64 (a1 + 4)) (hi := W .i64 ((W .i64 (a1 + 4)) + (W .i64 (t1)))) 1 .i64 .i64 (some 49) (by kernel_rfl) (by kernel_rfl) (by kernel_rfl) (by kernel_rfl) hlp0 hs0_2 hs1_2 hs2_2 (K' := [(49, .slice (slA Ap0 ((W .i64 (a1 + 4))).toNat cp0 1) ((rpart a0 (W .i64 (a1 + 4)) (W .i64 ((W .i64 (a1 + 4)) + (W .i64 (t1))))).length) (cp0 - ((W .i64 (a1 + 4))).toNat)), (48, i6 (W .i64 ((W .i64 (a1 + 4)) + (W .i64 (t1))))), (47, i6 (W .i64 (a1 + 4))), (45, .slice Ap0 a0.length cp0), (8, i6 (W .i64 ((W .i64 (a1 + 4)) + (W .i64 (t1))))), (7, i6 (W .i64 (t1))), (4, pt nx0 0)]) (by kernel_rfl) ?_
    obtain ⟨t4, hA4, H⟩ := bnd H
    refine RL.callP 49 [.slice (slA Ap0 ((W .i64 (a1 + 4))).toNat cp0 1) ((rpart a0 (W .i64 (a1 + 4)) (W .i64 ((W .i64 (a1 + 4)) + (W .i64 (t1))))).length) (cp0 - ((W .i64 (a1 + 4))).toNat)] (some 50) (fun w => armillaryref27_DecodeEntry.Post I3 w t4) (by kernel_rfl) (by kernel_rfl) (fun w hs => armillaryref27_DecodeEntry.calls k I3 (rpart a0 (W .i64 (a1 + 4)) (W .i64 ((W .i64 (a1 + 4)) + (W .i64 (t1))))) (slA Ap0 ((W .i64 (a1 + 4))).toNat cp0 1) (cp0 - ((W .i64 (a1 + 4))).toNat) w hs.im (part_le hlp0 hs0_2 hs1_2 hs2_2) (rd_sub (Rd.ext (Imm.le_trans (Imm.le_trans hi1 hi2) hi3) hrp0) hlp0 hs0_2 hs1_2 hs2_2) t4 hA4) ?_
    rintro w v w' hs ⟨I4, A1, c1, rfl, hg, hl1, hr1⟩
    have hi4 := hg.le
    refine RL.resume (X' := []) rfl (hs.call hg) ?_
    clear hs hg
    generalize w'.heap.size = nx4
    clear w w'
    refine RL.simP (K' := [(11, i6 t4.2.2), (10, i6 t4.2.1), (9, pt nx4 0), (8, i6 (W .i64 ((W .i64 (a1 + 4)) + (W .i64 (t1))))), (7, i6 (W .i64 (t1))), (4, pt nx0 0)]) (nx' := nx4 + 1) (L' := [⟨nx0, [i6 0, .string (⟨#[]⟩ : ByteArray), .slice none 0 0], 25⟩, ⟨nx4, [i6 t4.1.f0, .string t4.1.f1, .slice A1 t4.1.f2.length c1], 25⟩]) [] (RFacts.nil _ _ _) 8 [.no, .no, .no, .no, .no, .l 1, .no, .no] (by kernel_rfl) (by kernel_rfl) ?_
    refine RL.nt ?_
    refine OK.sq ?_
    refine OK.sq ?_
    refine OK.join (fun K' I' _ L' X' => ∃ (x1 : Bool), K' = [(4, pt nx0 0), (8, i6 (W .i64 ((W .i64 (a1 + 4)) + (W .i64 (t1))))), (9, pt nx4 0), (60, .bool x1)] ∧ L' = [⟨nx0, [i6 0, .string (⟨#[]⟩ : ByteArray), .slice none 0 0], 25⟩, ⟨nx4, [i6 t4.1.f0, .string t4.1.f1, .slice A1 t4.1.f2.length c1], 25⟩] ∧ X' = [] ∧ Imm.le I4 I' ∧ armillaryref28_first.k1 a1 t1 t4 x1 = some r) ?_ ?_
    ·rintro _ I5 nx5 _ _ ⟨x1, rfl, rfl, rfl, hi5, H⟩
     rw [armillaryref28_first.k1] at H
     refine QN.then_ ?_
     refine OK.cd x1 (fun hb => ?_) (fun hb => ?_)
     ·skip
      have hc := hb
      rw [if_pos hc] at H
      clear hb
      refine OK.sr ?_
      refine RL.simK (K' := [(6, i6 272), (5, i6 0), (4, pt nx0 0)]) [] (RFacts.nil _ _ _) 4 [.no, .l 0, .no, .no] (by kernel_rfl) (by kernel_rfl) ?_
      refine RL.nt ?_
      refine OK.re ?_
      refine QN.thenR ?_
      obtain rfl := Option.some.inj H
      refine QN.body rfl [] (RFacts.nil _ _ _) (.l 0) (.tuple #[.agg #[i6 0, .string (⟨#[]⟩ : ByteArray), .slice none 0 0], i6 0, i6 272]) (by kernel_rfl) (by kernel_rfl) (by kernel_rfl) ?_ _ (.inr rfl)
      exact fun w' hs' => ⟨_, rfl, I5, none, 0, rfl, hs'.got _ .slnil, (Nat.le_refl 0), (Rd.nil _ _ _)⟩
     ·skip
      have hc := (Bool.eq_false_iff.1 hb)
      rw [if_neg hc] at H
      clear hb
      refine OK.skt ?_
      refine OK.sr ?_
      refine RL.simP (K' := [(6, i6 0), (5, i6 (W .i64 ((W .i64 ((W .i64 (a1 + 4)) + (W .i64 (t1)))) + 4))), (4, pt nx0 0)]) (nx' := nx5) (L' := [⟨nx0, [i6 t4.1.f0, .string t4.1.f1, .slice A1 t4.1.f2.length c1], 25⟩, ⟨nx4, [i6 t4.1.f0, .string t4.1.f1, .slice A1 t4.1.f2.length c1], 25⟩]) [] (RFacts.nil _ _ _) 6 [.l 1, .no, .no, .l 0, .no, .no] (by kernel_rfl) (by kernel_rfl) ?_
      refine RL.nt ?_
      refine OK.re ?_
      obtain rfl := Option.some.inj H
      refine QN.body rfl [] (RFacts.nil _ _ _) (.l 0) (.tuple #[.agg #[i6 t4.1.f0, .string t4.1.f1, .slice A1 t4.1.f2.length c1], i6 (W .i64 ((W .i64 ((W .i64 (a1 + 4)) + (W .i64 (t1)))) + 4)), i6 0]) (by kernel_rfl) (by kernel_rfl) (by kernel_rfl) ?_ _ (.inr rfl)
      exact fun w' hs' => ⟨_, rfl, I5, A1, c1, rfl, hs'.got _ .slnil, hl1, (Rd.ext hi5 hr1)⟩
    ·intro Q_1 hJ1 hQ1
     obtain ⟨y1, H, HK1⟩ := bnd H
     refine OK.rg ?_
     refine RL.s 3 [(56, .bool (t4.2.2 != 0)), (10, i6 t4.2.1), (9, pt nx4 0), (8, i6 (W .i64 ((W .i64 (a1 + 4)) + (W .i64 (t1))))), (7, i6 (W .i64 (t1))), (4, pt nx0 0)] ?_
     refine RL.cases (t4.2.2 != 0) (fun hb => ?_) (fun hb => ?_)
     ·have hc := (bne_iff_ne.1 hb)
      rw [hb]
      rw [if_pos hc] at H; clear hb
      refine RL.s 4 [(60, .bool true), (9, pt nx4 0), (8, i6 (W .i64 ((W .i64 (a1 + 4)) + (W .i64 (t1))))), (4, pt nx0 0)] ?_
      refine RL.nil (by kernel_rfl) ?_
      obtain rfl := Option.some.inj H
      exact QN.sb (hJ1 _ _ _ _ _ ⟨true, rfl, rfl, rfl, (Imm.le_refl _), HK1⟩) (.cons_cons _ (.cons_cons _ .slnil)) (.refl _)
     ·have hc := (not_not_intro (bne_eq_false_iff_eq.1 hb))
      rw [hb]
      rw [if_neg hc] at H; clear hb
      refine RL.s 4 [(60, .bool (t4.2.1 != (W .i64 (t1)))), (9, pt nx4 0), (8, i6 (W .i64 ((W .i64 (a1 + 4)) + (W .i64 (t1))))), (4, pt nx0 0)] ?_
      refine RL.nil (by kernel_rfl) ?_
      obtain rfl := Option.some.inj H
      exact QN.sb (hJ1 _ _ _ _ _ ⟨(t4.2.1 != (W .i64 (t1))), rfl, rfl, rfl, (Imm.le_refl _), HK1⟩) (.cons_cons _ (.cons_cons _ .slnil)) (.refl _)

end Go.Proofs.YtiomeaoeegikkaaDoor
namespace Go.Proofs.YtiomeaoeegikkaaDoor
open Go Go.Proofs.YtiomeaoeegikkaaDoor.RW
set_option linter.unusedVariables false
set_option maxRecDepth 100000
set_option maxHeartbeats 8000000

/-! ### armillaryref28_Scan: function 17, armillary/armillaryref28.Scan -/
noncomputable def K17_0 : Code := cBody Tryd.f17
def armillaryref28_Scan.k1  : (List S25 × Int) ⊕ (List S25 × Int × Int) → Option (List S25 × Int × Int)
 | .inl (x1, x2) => (some (x1, x2, 0))
 | .inr r_ => some r_
def armillaryref28_Scan.l1 (a0 : List Int) : Nat → (List S25) → Int → Option ((List S25 × Int) ⊕ (List S25 × Int × Int))
 | 0, _, _ => none
 | k + 1, x3, x4 => (if x4 < (a0.length : Int) then ((armillaryref28_first.f k a0 x4).bind fun t1 => (if t1.2.2 ≠ 0 then (some (Sum.inr (x3, x4, t1.2.2))) else (if (x3.length + [t1.1].length) * 48 ≤ 140737488355328 then (armillaryref28_Scan.l1 a0 k (x3 ++ [t1.1]) t1.2.1) else none))) else (some (Sum.inl (x3, x4))))
def armillaryref28_Scan.f (k : Nat) (a0 : List Int) : Option (List S25 × Int × Int) := ((armillaryref28_Scan.l1 a0 k ([] : List S25) 0).bind (armillaryref28_Scan.k1))
def armillaryref28_Scan.Post (I : Imm) (w : World) (r : List S25 × Int × Int) (v : Value) (w' : World) : Prop :=
 ∃ (J : Imm) (A0 : Option Addr) (c0 : Nat) (cs0 : List Value), v = .tuple #[.slice A0 r.1.length c0, .int .i64 r.2.1, .int .i64 r.2.2] ∧ Got w w' I J [orow 25 3 A0 r.1.length c0 cs0] ∧ Reps t25 J r.1 cs0
theorem armillaryref28_Scan.calls (k : Nat) (I0 : Imm) (a0 : List Int) (Ap0 : Option Addr) (cp0 : Nat) (w : World) (hI : I0.at_ w) (hlp0 : a0.length ≤ cp0) (hrp0 : Rd (Ty.int .u8) I0 Ap0 a0) (r : List S25 × Int × Int) (h : armillaryref28_Scan.f k a0 = some r) :
  Calls Tryd.prog 17 [.slice Ap0 a0.length cp0].toArray w fun e w' => ∃ v, e = .returned v ∧ armillaryref28_Scan.Post I0 w r v w' := by
 have H : ((armillaryref28_Scan.l1 a0 k ([] : List S25) 0).bind (armillaryref28_Scan.k1)) = some r := h
 clear h
 refine calls_body Tryd.func17 (by kernel_rfl) 34 (by kernel_rfl) (by kernel_rfl) ⟨w, fun _ => False, I0⟩ I0 [] [(0, .slice Ap0 a0.length cp0)] (by kernel_rfl) (Sat.start w _ I0 hI) ?_
 generalize w.heap.size = nx0
 show OK _ K17_0 _ _ _ _ _ _ _ _
 refine OK.sr ?_
 refine RL.st 3 [(0, .slice Ap0 a0.length cp0)] ?_
 refine OK.sr ?_
 refine RL.spt 3 [(6, i6 0), (5, .slice (some ⟨nx0, 0, none⟩) 0 0), (0, .slice Ap0 a0.length cp0)] (nx0 + 1) [⟨nx0, [], 25⟩] ?_
 refine OK.sq ?_
 refine OK.join (fun K' I' _ L' X' => ∃ (x1 : List S25) (x2 : Int) (A1 : Option Addr) (c1 : Nat) (cs1 : List Value), K' = [(5, .slice A1 x1.length c1), (6, i6 x2)] ∧ L' = [] ∧ X' = [orow 25 3 A1 x1.length c1 cs1] ∧ Imm.le I0 I' ∧ Reps t25 I' x1 cs1 ∧ armillaryref28_Scan.k1 (Sum.inl (x1, x2)) = some r) ?_ ?_
 ·rintro _ I1 nx1 _ _ ⟨x1, x2, A1, c1, cs1, rfl, rfl, rfl, hi1, hp1, H⟩
  rw [armillaryref28_Scan.k1] at H
  refine QN.then_ ?_
  refine OK.sr ?_
  refine RL.st 5 [(4, i6 0), (3, i6 x2), (2, .slice A1 x1.length c1)] ?_
  refine OK.re ?_
  obtain rfl := Option.some.inj H
  refine QN.body rfl [] (RFacts.nil _ _ _) (.no) (.tuple #[.slice A1 x1.length c1, i6 x2, i6 0]) (by kernel_rfl) (by kernel_rfl) (by kernel_rfl) ?_ _ (.inr rfl)
  exact fun w' hs' => ⟨_, rfl, I1, A1, c1, cs1, rfl, hs'.got _ (.cons_cons _ .slnil), hp1⟩
 ·intro Q_1 hJ1 hQ1
  obtain ⟨y1, H, HK1⟩ := bnd H
  refine OK.bk 0 ?_
  refine OK.toRow (b := ⟨nx0, [], 25⟩) 0 0 3 (by kernel_rfl) (by kernel_rfl) (by decide) ?_
  have hp4 : Reps t25 I0 ([] : List S25) [] := rfl
  refine OK.norm (L' := []) (X' := [orow 25 3 (some ⟨nx0, 0, none⟩) (([] : List S25).length) 0 []]) rfl rfl (by kernel_rfl) (by kernel_rfl) ?_
  refine OK.sub (K' := [(0, .slice Ap0 a0.length cp0), (5, .slice (some ⟨nx0, 0, none⟩) 0 0), (6, i6 0)]) (L' := []) (by kernel_rfl) .slnil (.refl _) ?_
  refine OK.lp (fun n_ K' I' _ L' X' => ∃ (x3 : List S25) (x4 : Int) (A2 : Option Addr) (c2 : Nat) (cs2 : List Value), K' = [(0, .slice Ap0 a0.length cp0), (5, .slice A2 x3.length c2), (6, i6 x4)] ∧ L' = [] ∧ X' = [orow 25 3 A2 x3.length c2 cs2] ∧ Imm.le I0 I' ∧ Reps t25 I' x3 cs2 ∧ armillaryref28_Scan.l1 a0 n_ x3 x4 = some y1) k ⟨([] : List S25), 0, (some ⟨nx0, 0, none⟩), 0, [], rfl, rfl, rfl, (Imm.le_refl _), hp4, H⟩ ?_ ?_
  ·rintro _ _ _ _ _ ⟨x3, x4, A2, c2, cs2, rfl, rfl, rfl, _, hp2, H⟩
   cases H
  ·rintro kq1 _ I2 nx2 _ _ ⟨x3, x4, A2, c2, cs2, rfl, rfl, rfl, hi2, hp2, H⟩ Q_l1 hJ2 hQ2
   rw [armillaryref28_Scan.l1] at H
   refine OK.sq ?_
   refine OK.sr ?_
   refine RL.st 4 [(14, .bool (decide (x4 < (a0.length : Int)))), (0, .slice Ap0 a0.length cp0), (5, .slice A2 x3.length c2), (6, i6 x4)] ?_
   refine OK.cd (decide (x4 < (a0.length : Int))) (fun hb => ?_) (fun hb => ?_)
   ·skip
    have hc := (of_decide_eq_true hb)
    rw [if_pos hc] at H
    clear hb
    refine OK.skt ?_
    refine OK.bk 1 ?_
    refine OK.sr ?_
    refine RL.s 2 [(17, i6 x4), (16, .slice Ap0 a0.length cp0), (0, .slice Ap0 a0.length cp0), (5, .slice A2 x3.length c2), (6, i6 x4)] ?_
    obtain ⟨t1, hA1, H⟩ := bnd H
    refine RL.callP 33 [.slice Ap0 a0.length cp0, i6 x4] (some 18) (fun w => armillaryref28_first.Post I2 w t1) (by kernel_rfl) (by kernel_rfl) (fun w hs => armillaryref28_first.calls kq1 I2 a0 Ap0 cp0 x4 w hs.im hlp0 (Rd.ext hi2 hrp0) t1 hA1) ?_
    rintro w v w' hs ⟨I3, A3, c3, rfl, hg, hl1, hr1⟩
    have hi3 := hg.le
    refine RL.resume (X' := [orow 25 3 A2 x3.length c2 cs2]) rfl (hs.call hg) ?_
    clear hs hg
    generalize w'.heap.size = nx3
    clear w w'
    refine RL.simP (K' := [(9, i6 t1.2.2), (8, i6 t1.2.1), (7, pt nx3 0), (0, .slice Ap0 a0.length cp0), (5, .slice A2 x3.length c2), (6, i6 x4)]) (nx' := nx3 + 1) (L' := [⟨nx3, [i6 t1.1.f0, .string t1.1.f1, .slice A3 t1.1.f2.length c3], 25⟩]) [] (RFacts.nil _ _ _) 8 [.no, .no, .no, .no, .no, .l 0, .no, .no] (by kernel_rfl) (by kernel_rfl) ?_
    refine RL.nt ?_
    refine OK.sq ?_
    refine OK.sr ?_
    refine RL.st 2 [(23, .bool (t1.2.2 != 0)), (9, i6 t1.2.2), (8, i6 t1.2.1), (7, pt nx3 0), (0, .slice Ap0 a0.length cp0), (5, .slice A2 x3.length c2), (6, i6 x4)] ?_
    refine OK.cd (t1.2.2 != 0) (fun hb => ?_) (fun hb => ?_)
    ·skip
     have hc := (bne_iff_ne.1 hb)
     rw [if_pos hc] at H
     clear hb
     refine OK.sr ?_
     refine RL.st 6 [(4, i6 t1.2.2), (3, i6 x4), (2, .slice A2 x3.length c2)] ?_
     refine OK.re ?_
     refine QN.thenR ?_
     refine QN.blkR ?_
     refine QN.outR hQ2 ?_
     refine QN.blkR ?_
     refine QN.outR hQ1 ?_
     refine QN.thenR ?_
     obtain rfl := Option.some.inj H
     replace H : some (x3, x4, t1.2.2) = some r := HK1
     obtain rfl := Option.some.inj H
     refine QN.body rfl [] (RFacts.nil _ _ _) (.no) (.tuple #[.slice A2 x3.length c2, i6 x4, i6 t1.2.2]) (by kernel_rfl) (by kernel_rfl) (by kernel_rfl) ?_ _ (.inr rfl)
     exact fun w' hs' => ⟨_, rfl, I3, A2, c2, cs2, rfl, hs'.got _ (.cons_cons _ .slnil), (Reps.ext hi3 hp2)⟩
    ·skip
     have hc := (not_not_intro (bne_eq_false_iff_eq.1 hb))
     rw [if_neg hc] at H
     clear hb
     refine OK.skt ?_
     refine OK.sr ?_
     refine RL.simP (K' := [(29, .slice (some ⟨nx3 + 1, 0, none⟩) 1 1), (27, .slice A2 x3.length c2), (8, i6 t1.2.1), (0, .slice Ap0 a0.length cp0), (5, .slice A2 x3.length c2)]) (nx' := nx3 + 2) (L' := [⟨nx3, [i6 t1.1.f0, .string t1.1.f1, .slice A3 t1.1.f2.length c3], 25⟩, ⟨nx3 + 1, [i6 t1.1.f0, .string t1.1.f1, .slice A3 t1.1.f2.length c3], 25⟩]) [] (RFacts.nil _ _ _) 3 [.no, .l 0, .no] (by kernel_rfl) (by kernel_rfl) ?_
     obtain ⟨hz1, H⟩ := ifs H
     refine RL.appendB (T := 23) (e := 25) (S := A2) 3 48 23 c2 1 1 (nx3 + 1) 25 cs2 [i6 t1.1.f0, .string t1.1.f1, .slice A3 t1.1.f2.length c3] t25 x3 [t1.1] 0 (some 30) (by kernel_rfl) (by kernel_rfl) (by kernel_rfl) (by kernel_rfl) (by kernel_rfl) (by decide) (by kernel_rfl) (Reps.ext hi3 hp2) (by kernel_rfl) ⟨_, _, rfl, (t25_mk _ _ hl1 hr1), rfl⟩ hz1 (by omega) (fun A4 c4 nx4 cs3 hp3 => ?_)
     refine RL.sub (K' := [(30, .slice A4 ((x3 ++ [t1.1]).length) c4), (29, .slice (some ⟨nx3 + 1, 0, none⟩) 1 1), (8, i6 t1.2.1), (0, .slice Ap0 a0.length cp0)]) (L' := [⟨nx3, [i6 t1.1.f0, .string t1.1.f1, .slice A3 t1.1.f2.length c3], 25⟩, ⟨nx3 + 1, [i6 t1.1.f0, .string t1.1.f1, .slice A3 t1.1.f2.length c3], 25⟩]) (X' := [orow 25 3 A4 ((x3 ++ [t1.1]).length) c4 cs3]) (by kernel_rfl) (.refl _) (.refl _) ?_
     refine RL.st 1 [(5, .slice A4 ((x3 ++ [t1.1]).length) c4), (8, i6 t1.2.1), (0, .slice Ap0 a0.length cp0)] ?_
     refine OK.rg ?_
     refine RL.s 2 [(6, i6 t1.2.1), (5, .slice A4 ((x3 ++ [t1.1]).length) c4), (0, .slice Ap0 a0.length cp0)] ?_
     refine RL.nil (by kernel_rfl) ?_
     refine QN.blkN ?_
     exact QN.sb (hJ2 _ _ _ _ _ ⟨(x3 ++ [t1.1]), t1.2.1, A4, c4, cs3, rfl, rfl, rfl, (Imm.le_trans hi2 hi3), hp3, H⟩) (.cons _ (.cons _ .slnil)) (.refl _)
   ·skip
    have hc := (of_decide_eq_false hb)
    rw [if_neg hc] at H
    clear hb
    refine OK.ex 0 ?_
    refine QN.thenE ?_
    refine QN.outE hQ2 ?_
    refine QN.blkE ?_
    obtain rfl := Option.some.inj H
    exact QN.sb (hJ1 _ _ _ _ _ ⟨x3, x4, A2, c2, cs2, rfl, rfl, rfl, hi2, hp2, HK1⟩) .slnil (.refl _)

end Go.Proofs.YtiomeaoeegikkaaDoor
namespace Go.Proofs.YtiomeaoeegikkaaDoor
open Go Go.Proofs.YtiomeaoeegikkaaDoor.RW
set_option linter.unusedVariables false
set_option maxRecDepth 100000
set_option maxHeartbeats 8000000

/-! ### armillaryref28_Repair: function 21, armillary/armillaryref28.Repair -/
noncomputable def K21_0 : Code := cBody Tryd.f21
def armillaryref28_Repair.f (k : Nat) (a0 : List Int) : Option (List Int) := ((armillaryref28_Scan.f k a0).bind fun t1 => (if (0 : Int) ≤ t1.2.1 then (if t1.2.1 ≤ (a0.length : Int) then (some (rpart a0 0 t1.2.1)) else none) else none))
def armillaryref28_Repair.Post (I : Imm) (w : World) (r : List Int) (v : Value) (w' : World) : Prop :=
 ∃ (J : Imm) (A0 : Option Addr) (c0 : Nat), v = .slice A0 r.length c0 ∧ Got w w' I J [] ∧ r.length ≤ c0 ∧ Rd (Ty.int .u8) J A0 r
theorem armillaryref28_Repair.calls (k : Nat) (I0 : Imm) (a0 : List Int) (Ap0 : Option Addr) (cp0 : Nat) (w : World) (hI : I0.at_ w) (hlp0 : a0.length ≤ cp0) (hrp0 : Rd (Ty.int .u8) I0 Ap0 a0) (r : List Int) (h : armillaryref28_Repair.f k a0 = some r) :
  Calls Tryd.prog 21 [.slice Ap0 a0.length cp0].toArray w fun e w' => ∃ v, e = .returned v ∧ armillaryref28_Repair.Post I0 w r v w' := by
 have H : ((armillaryref28_Scan.f k a0).bind fun t1 => (if (0 : Int) ≤ t1.2.1 then (if t1.2.1 ≤ (a0.length : Int) then (some (rpart a0 0 t1.2.1)) else none) else none)) = some r := h
 clear h
 refine calls_body Tryd.func21 (by kernel_rfl) 15 (by kernel_rfl) (by kernel_rfl) ⟨w, fun _ => False, I0⟩ I0 [] [(0, .slice Ap0 a0.length cp0)] (by kernel_rfl) (Sat.start w _ I0 hI) ?_
 generalize w.heap.size = nx0
 show OK _ K21_0 _ _ _ _ _ _ _ _
 refine OK.sr ?_
 refine RL.st 1 [(0, .slice Ap0 a0.length cp0)] ?_
 refine OK.sr ?_
 refine RL.s 1 [(7, .slice Ap0 a0.length cp0), (0, .slice Ap0 a0.length cp0)] ?_
 obtain ⟨t1, hA1, H⟩ := bnd H
 refine RL.callP 17 [.slice Ap0 a0.length cp0] (some 8) (fun w => armillaryref28_Scan.Post I0 w t1) (by kernel_rfl) (by kernel_rfl) (fun w hs => armillaryref28_Scan.calls k I0 a0 Ap0 cp0 w hs.im hlp0 hrp0 t1 hA1) ?_
 rintro w v w' hs ⟨I1, A1, c1, cs1, rfl, hg, hp1⟩
 have hi1 := hg.le
 refine RL.resume (X' := [orow 25 3 A1 t1.1.length c1 cs1]) rfl (hs.call hg) ?_
 clear hs hg
 generalize w'.heap.size = nx1
 clear w w'
 refine RL.st 7 [(4, i6 t1.2.1), (0, .slice Ap0 a0.length cp0)] ?_
 refine OK.sr ?_
 refine RL.s 2 [(13, i6 t1.2.1), (12, .slice Ap0 a0.length cp0)] ?_
 obtain ⟨hs1_1, H⟩ := ifs H
 obtain ⟨hs2_1, H⟩ := ifs H
 refine RL.subH (T := 22) (e := 5) (l := a0) (S := Ap0) (cap := cp0) (hi := t1.2.1) 1 .i64 (some 14) (by kernel_rfl) (by kernel_rfl) (by kernel_rfl) (by kernel_rfl) hlp0 hs1_1 hs2_1 (K' := [(14, .slice (slA Ap0 (0 : Int).toNat cp0 1) ((rpart a0 0 t1.2.1).length) (cp0 - (0 : Int).toNat)), (13, i6 t1.2.1), (12, .slice Ap0 a0.length cp0)]) (by kernel_rfl) ?_
 refine RL.st 1 [(2, .slice (slA Ap0 (0 : Int).toNat cp0 1) ((rpart a0 0 t1.2.1).length) (cp0 - (0 : Int).toNat))] ?_
 refine OK.re ?_
 obtain rfl := Option.some.inj H
 refine QN.body rfl [] (RFacts.nil _ _ _) (.no) (.slice (slA Ap0 (0 : Int).toNat cp0 1) ((rpart a0 0 t1.2.1).length) (cp0 - (0 : Int).toNat)) (by kernel_rfl) (by kernel_rfl) (by kernel_rfl) ?_ _ (.inr rfl)
 exact fun w' hs' => ⟨_, rfl, I1, (slA Ap0 (0 : Int).toNat cp0 1), (cp0 - (0 : Int).toNat), rfl, hs'.got _ (.cons _ .slnil), (part_le hlp0 (Int.le_refl 0) hs1_1 hs2_1), (rd_sub (Rd.ext hi1 hrp0) hlp0 (Int.le_refl 0) hs1_1 hs2_1)⟩

end Go.Proofs.YtiomeaoeegikkaaDoor
namespace Go.Proofs.YtiomeaoeegikkaaDoor
open Go Go.Proofs.YtiomeaoeegikkaaDoor.RW
set_option linter.unusedVariables false
set_option maxRecDepth 100000
set_option maxHeartbeats 8000000

/-! ### armillaryref28_Append: function 15, armillary/armillaryref28.Append -/
noncomputable def K15_0 : Code := cBody Tryd.f15
def armillaryref28_Append.f (k : Nat) (a0 : List Int) (a1 : S25) : Option (List Int × Int) := ((armillaryref27_ValidEntry.f a1).bind fun t1 => (if t1 = true then (if (([] : List Int).length + a0.length) * 1 ≤ 140737488355328 then ((armillaryref28_Record.f k a1).bind fun t2 => (if ((([] : List Int) ++ a0).length + t2.length) * 1 ≤ 140737488355328 then (some (((([] : List Int) ++ a0) ++ t2), 0)) else none)) else none) else (some ([], 1))))
def armillaryref28_Append.Post (I : Imm) (w : World) (r : List Int × Int) (v : Value) (w' : World) : Prop :=
 ∃ (J : Imm) (A0 : Option Addr) (c0 : Nat) (cs0 : List Value), v = .tuple #[.slice A0 r.1.length c0, .int .i64 r.2] ∧ Got w w' I J [orow 5 1 A0 r.1.length c0 cs0] ∧ Reps (Ty.int .u8) J r.1 cs0
theorem armillaryref28_Append.calls (k : Nat) (I0 : Imm) (a0 : List Int) (Ap0 : Option Addr) (cp0 : Nat) (a1 : S25) (Ap1_2 : Option Addr) (cp1_2 : Nat) (w : World) (hI : I0.at_ w) (hlp0 : a0.length ≤ cp0) (hrp0 : Rd (Ty.int .u8) I0 Ap0 a0) (hlp1_2 : a1.f2.length ≤ cp1_2) (hrp1_2 : Rd (Ty.int .u8) I0 Ap1_2 a1.f2) (r : List Int × Int) (h : armillaryref28_Append.f k a0 a1 = some r) :
  Calls Tryd.prog 15 [.slice Ap0 a0.length cp0, .agg #[i6 a1.f0, .string a1.f1, .slice Ap1_2 a1.f2.length cp1_2]].toArray w fun e w' => ∃ v, e = .returned v ∧ armillaryref28_Append.Post I0 w r v w' := by
 have H : ((armillaryref27_ValidEntry.f a1).bind fun t1 => (if t1 = true then (if (([] : List Int).length + a0.length) * 1 ≤ 140737488355328 then ((armillaryref28_Record.f k a1).bind fun t2 => (if ((([] : List Int) ++ a0).length + t2.length) * 1 ≤ 140737488355328 then (some (((([] : List Int) ++ a0) ++ t2), 0)) else none)) else none) else (some ([], 1)))) = some r := h
 clear h
 refine calls_body Tryd.func15 (by kernel_rfl) 18 (by kernel_rfl) (by kernel_rfl) ⟨w, fun _ => False, I0⟩ I0 [] [(0, .slice Ap0 a0.length cp0), (1, .agg #[i6 a1.f0, .string a1.f1, .slice Ap1_2 a1.f2.length cp1_2])] (by kernel_rfl) (Sat.start w _ I0 hI) ?_
 generalize w.heap.size = nx0
 show OK _ K15_0 _ _ _ _ _ _ _ _
 refine OK.sr ?_
 refine RL.spt 3 [(3, pt nx0 0), (0, .slice Ap0 a0.length cp0)] (nx0 + 1) [⟨nx0, [i6 a1.f0, .string a1.f1, .slice Ap1_2 a1.f2.length cp1_2], 25⟩] ?_
 refine OK.sq ?_
 refine OK.sr ?_
 refine RL.simK (K' := [(7, .agg #[i6 a1.f0, .string a1.f1, .slice Ap1_2 a1.f2.length cp1_2]), (3, pt nx0 0), (0, .slice Ap0 a0.length cp0)]) [] (RFacts.nil _ _ _) 1 [.l 0] (by kernel_rfl) (by kernel_rfl) ?_
 obtain ⟨t1, hA1, H⟩ := bnd H
 refine RL.callP 30 [.agg #[i6 a1.f0, .string a1.f1, .slice Ap1_2 a1.f2.length cp1_2]] (some 8) (fun w => armillaryref27_ValidEntry.Post I0 w t1) (by kernel_rfl) (by kernel_rfl) (fun w hs => armillaryref27_ValidEntry.calls I0 a1 Ap1_2 cp1_2 w hs.im hlp1_2 hrp1_2 t1 hA1) ?_
 rintro w v w' hs ⟨I1, rfl, hg⟩
 have hi1 := hg.le
 refine RL.resume (X' := []) rfl (hs.call hg) ?_
 clear hs hg
 generalize w'.heap.size = nx1
 clear w w'
 refine RL.st 1 [(9, .bool (!t1)), (3, pt nx0 0), (0, .slice Ap0 a0.length cp0)] ?_
 refine OK.cd (!t1) (fun hb => ?_) (fun hb => ?_)
 ·have hb : t1 = false := by simpa using hb
  have hc := (Bool.eq_false_iff.1 hb)
  rw [if_neg hc] at H
  clear hb
  refine OK.sr ?_
  refine RL.st 2 [(5, i6 1), (4, .slice none 0 0)] ?_
  refine OK.re ?_
  refine QN.thenR ?_
  obtain rfl := Option.some.inj H
  refine QN.body rfl [] (RFacts.nil _ _ _) (.no) (.tuple #[.slice none 0 0, i6 1]) (by kernel_rfl) (by kernel_rfl) (by kernel_rfl) ?_ _ (.inr rfl)
  exact fun w' hs' => ⟨_, rfl, I1, none, 0, [], rfl, gotNil1 (hs'.got [] (List.nil_sublist _)), rfl⟩
 ·have hb : t1 = true := by simpa using hb
  have hc := hb
  rw [if_pos hc] at H
  clear hb
  refine OK.skt ?_
  refine OK.sr ?_
  refine RL.sp 2 [(11, .slice Ap0 a0.length cp0), (10, .slice (some ⟨nx1, 0, none⟩) 0 0), (3, pt nx0 0)] (nx1 + 1) [⟨nx0, [i6 a1.f0, .string a1.f1, .slice Ap1_2 a1.f2.length cp1_2], 25⟩, ⟨nx1, [], 5⟩] ?_
  refine RL.toRow (b := ⟨nx1, [], 5⟩) 1 0 1 (by kernel_rfl) (by kernel_rfl) (by decide) ?_
  have hp1 : Reps (Ty.int .u8) I1 ([] : List Int) [] := rfl
  refine RL.norm (L' := [⟨nx0, [i6 a1.f0, .string a1.f1, .slice Ap1_2 a1.f2.length cp1_2], 25⟩]) (X' := [orow 5 1 (some ⟨nx1, 0, none⟩) (([] : List Int).length) 0 []]) rfl rfl (by kernel_rfl) (by kernel_rfl) ?_
  obtain ⟨hz1, H⟩ := ifs H
  refine RL.appendR (T := 22) (e := 5) (S := (some ⟨nx1, 0, none⟩)) (S2 := Ap0) 1 1 22 0 cp0 [] (Ty.int .u8) ([] : List Int) a0 0 (some 12) (by kernel_rfl) (by kernel_rfl) (by kernel_rfl) (by kernel_rfl) (by kernel_rfl) (by decide) (by kernel_rfl) hp1 (Rd.ext hi1 hrp0) hz1 (by omega) (fun A1 c1 nx2 cs1 hp2 => ?_)
  refine RL.sub (K' := [(12, .slice A1 ((([] : List Int) ++ a0).length) c1), (11, .slice Ap0 a0.length cp0), (10, .slice (some ⟨nx1, 0, none⟩) 0 0), (3, pt nx0 0)]) (L' := [⟨nx0, [i6 a1.f0, .string a1.f1, .slice Ap1_2 a1.f2.length cp1_2], 25⟩]) (X' := [orow 5 1 A1 ((([] : List Int) ++ a0).length) c1 cs1]) (by kernel_rfl) (.refl _) (.refl _) ?_
  refine RL.st 1 [(6, .slice A1 ((([] : List Int) ++ a0).length) c1), (3, pt nx0 0)] ?_
  refine OK.sr ?_
  refine RL.simK (K' := [(14, .agg #[i6 a1.f0, .string a1.f1, .slice Ap1_2 a1.f2.length cp1_2]), (13, .slice A1 ((([] : List Int) ++ a0).length) c1), (6, .slice A1 ((([] : List Int) ++ a0).length) c1)]) [] (RFacts.nil _ _ _) 2 [.no, .l 0] (by kernel_rfl) (by kernel_rfl) ?_
  obtain ⟨t2, hA2, H⟩ := bnd H
  refine RL.callP 27 [.agg #[i6 a1.f0, .string a1.f1, .slice Ap1_2 a1.f2.length cp1_2]] (some 15) (fun w => armillaryref28_Record.Post I1 w t2) (by kernel_rfl) (by kernel_rfl) (fun w hs => armillaryref28_Record.calls k I1 a1 Ap1_2 cp1_2 w hs.im hlp1_2 (Rd.ext hi1 hrp1_2) t2 hA2) ?_
  rintro w v w' hs ⟨I2, A2, c2, cs2, rfl, hg, hp3⟩
  have hi2 := hg.le
  refine RL.resume (X' := [orow 5 1 A1 ((([] : List Int) ++ a0).length) c1 cs1, orow 5 1 A2 t2.length c2 cs2]) rfl (hs.call hg) ?_
  clear hs hg
  generalize w'.heap.size = nx3
  clear w w'
  refine RL.freeze (e := 5) (sz := 1) (S := A2) (n := t2.length) (cap := c2) 1 (by kernel_rfl) hp3 rfl (fun I3 hi3 hl1 hr1 => ?_)
  skip
  obtain ⟨hz2, H⟩ := ifs H
  refine RL.appendR (T := 22) (e := 5) (S := A1) (S2 := A2) 1 1 22 c1 c2 cs1 (Ty.int .u8) (([] : List Int) ++ a0) t2 0 (some 16) (by kernel_rfl) (by kernel_rfl) (by kernel_rfl) (by kernel_rfl) (by kernel_rfl) (by decide) (by kernel_rfl) (Reps.ext (Imm.le_trans hi2 hi3) hp2) hr1 hz2 (by omega) (fun A3 c3 nx4 cs3 hp4 => ?_)
  refine RL.sub (K' := [(16, .slice A3 (((([] : List Int) ++ a0) ++ t2).length) c3), (15, .slice A2 t2.length c2), (14, .agg #[i6 a1.f0, .string a1.f1, .slice Ap1_2 a1.f2.length cp1_2])]) (L' := [⟨nx0, [i6 a1.f0, .string a1.f1, .slice Ap1_2 a1.f2.length cp1_2], 25⟩]) (X' := [orow 5 1 A3 (((([] : List Int) ++ a0) ++ t2).length) c3 cs3]) (by kernel_rfl) (.refl _) (.refl _) ?_
  refine RL.st 1 [(6, .slice A3 (((([] : List Int) ++ a0) ++ t2).length) c3)] ?_
  refine OK.sr ?_
  refine RL.st 3 [(5, i6 0), (4, .slice A3 (((([] : List Int) ++ a0) ++ t2).length) c3)] ?_
  refine OK.re ?_
  obtain rfl := Option.some.inj H
  refine QN.body rfl [] (RFacts.nil _ _ _) (.no) (.tuple #[.slice A3 (((([] : List Int) ++ a0) ++ t2).length) c3, i6 0]) (by kernel_rfl) (by kernel_rfl) (by kernel_rfl) ?_ _ (.inr rfl)
  exact fun w' hs' => ⟨_, rfl, I3, A3, c3, cs3, rfl, hs'.got _ (.cons_cons _ .slnil), hp4⟩

end Go.Proofs.YtiomeaoeegikkaaDoor
namespace Go.Proofs.YtiomeaoeegikkaaDoor.led
open Go Go.Proofs.YtiomeaoeegikkaaDoor Go.Proofs.YtiomeaoeegikkaaDoor.RW
set_option linter.unusedVariables false
set_option maxRecDepth 100000
theorem rword4 (a b c d : Nat) (ha : a < 256) (hb : b < 256) (hc : c < 256) (hd : d < 256) :
    W .u32 ((W .u32 (a : Int)) + (W .u32 (256 * (W .u32 ((W .u32 (b : Int)) + (W .u32 (256 * (W .u32 ((W .u32 (c : Int)) + (W .u32 (256 * (W .u32 (d : Int))))))))))))) = (word4 a b c d : Int) := by
  have e1 : W .u32 (256 * (W .u32 (d : Int))) = ((256 * d : Nat) : Int) := by rw [W32, W32]; omega
  have e2 : W .u32 ((W .u32 (c : Int)) + ((256 * d : Nat) : Int)) = ((c + 256 * d : Nat) : Int) := by rw [W32, W32]; omega
  have e3 : W .u32 (256 * ((c + 256 * d : Nat) : Int)) = ((256 * (c + 256 * d) : Nat) : Int) := by rw [W32]; omega
  have e4 : W .u32 ((W .u32 (b : Int)) + ((256 * (c + 256 * d) : Nat) : Int)) = ((b + 256 * (c + 256 * d) : Nat) : Int) := by rw [W32, W32]; omega
  have e5 : W .u32 (256 * ((b + 256 * (c + 256 * d) : Nat) : Int)) = ((256 * (b + 256 * (c + 256 * d)) : Nat) : Int) := by rw [W32]; omega
  rw [e1, e2, e3, e4, e5, W32, W32]
  unfold word4
  omega
theorem rword_eq (l : List Int) (hb : isBytes l) (hl : l.length < 1000000000) (p : Nat) (h : p + 4 ≤ l.length) : armillaryref28_wordAt.f l (p : Int) = some ((word (l.drop p) : Nat) : Int) := by
  have h0 := nth_byte hb (i := p) (by omega)
  have h1 := nth_byte hb (i := p + 1) (by omega)
  have h2 := nth_byte hb (i := p + 2) (by omega)
  have h3 := nth_byte hb (i := p + 3) (by omega)
  have w1 : W .i64 ((p : Int) + 1) = ((p + 1 : Nat) : Int) := Wn (by omega)
  have w2 : W .i64 ((p : Int) + 2) = ((p + 2 : Nat) : Int) := by rw [W64 (by omega) (by omega)]; omega
  have w3 : W .i64 ((p : Int) + 3) = ((p + 3 : Nat) : Int) := by rw [W64 (by omega) (by omega)]; omega
  have g : ∀ i, (l.drop p).getD i 0 = l.getD (p + i) 0 := fun i => by
    rw [List.getD_eq_getElem?_getD, List.getD_eq_getElem?_getD, List.getElem?_drop]
  unfold armillaryref28_wordAt.f
  simp only [w1, w2, w3, tn]
  rw [if_pos (by omega), if_pos (by omega), if_pos (by omega), if_pos (by omega), if_pos (by omega), if_pos (by omega), if_pos (by omega), if_pos (by omega)]
  rw [← h0.1, ← h1.1, ← h2.1, ← h3.1, rword4 _ _ _ _ h0.2 h1.2 h2.2 h3.2]
  unfold word
  rw [g 0, g 1, g 2, g 3]
  rfl
abbrev rbad (x : Int) : S25 × Int × Int := (⟨0, (⟨#[]⟩ : ByteArray), []⟩, 0, x)
theorem rfirst_go {a : List Int} {p n m : Nat} (g1 : armillaryref28_wordAt.f a (p : Int) = some (n : Int)) (g2 : armillaryref28_wordAt.f a ((p + 4 + n : Nat) : Int) = some (m : Int)) (hb : isBytes a) (hl : a.length < 1000000000) (h : p + (8 + n) ≤ a.length) {r : S25 × Int × Int}
    (hr : Ev (fun k => if (cs ((a.drop p).take (4 + n)) : Int) ≠ (m : Int) then some (rbad 270) else (armillaryref27_DecodeEntry.f k (((a.drop p).drop 4).take n)).bind fun t4 => (if t4.2.2 ≠ 0 then (some true) else (some (t4.2.1 != (n : Int)))).bind (fun x1 => if x1 = true then some (rbad 272) else some (t4.1, ((p + (8 + n) : Nat) : Int), 0))) r) : Ev (fun k => armillaryref28_first.f k a (p : Int)) r := by
  have e0 : W .i64 (n : Int) = (n : Int) := W64 (by omega) (by omega)
  have e1 : W .i64 ((p : Int) + 4) = ((p + 4 : Nat) : Int) := by rw [W64 (by omega) (by omega)]; omega
  have e2 : W .i64 (((p + 4 : Nat) : Int) + (n : Int)) = ((p + 4 + n : Nat) : Int) := by rw [W64 (by omega) (by omega)]; omega
  have e3 : W .i64 (((p + 4 + n : Nat) : Int) + 4) = ((p + (8 + n) : Nat) : Int) := by rw [W64 (by omega) (by omega)]; omega
  have p1 : rpart a (p : Int) ((p + 4 + n : Nat) : Int) = (a.drop p).take (4 + n) := by
    unfold rpart
    rw [tn, tn, show p + 4 + n - p = 4 + n from by omega]
  have p3 : rpart a ((p + 4 : Nat) : Int) ((p + 4 + n : Nat) : Int) = ((a.drop p).drop 4).take n := by
    unfold rpart
    rw [tn, tn, show p + 4 + n - (p + 4) = n from by omega, List.drop_drop]
  have c1 := rchecksum_ev ((hb.drop p).take (4 + n)) (by rw [List.length_take, List.length_drop]; omega)
  obtain ⟨N, c1⟩ := c1
  obtain ⟨M, hr⟩ := hr
  refine ⟨max N M, fun k hk => ?_⟩
  have c1 : armillaryref27_Checksum.f k ((a.drop p).take (4 + n)) = _ := c1 k (by omega)
  have hr := hr k (by omega)
  simp only [] at hr
  show armillaryref28_first.f k a (p : Int) = some r
  unfold armillaryref28_first.f
  rw [if_neg (by rw [W64 (by omega) (by omega)]; omega), g1]
  simp only [Option.bind_some, e0, e1, e2, p1, p3]
  rw [if_neg (by rw [W64 (x := (a.length : Int) - (p : Int)) (by omega) (by omega), W64 (by omega) (by omega)]; omega), if_pos (by omega), if_pos (by omega), if_pos (by omega), c1]
  simp only [Option.bind_some]
  rw [g2]
  simp only [Option.bind_some]
  rw [← hr]
  by_cases hc : (cs ((a.drop p).take (4 + n)) : Int) ≠ (m : Int)
  · rw [if_pos hc, if_pos hc]
  · rw [if_neg hc, if_neg hc, if_pos (by omega), if_pos (by omega), if_pos (by omega)]
    congr 1
    funext t4
    congr 1
    funext x1
    unfold armillaryref28_first.k1
    rw [e1, e0, e2, e3]
theorem take_of_first {l : List Int} (hb : isBytes l) {n m : Nat} (h4 : 4 ≤ l.length) (hn : word l = n) (hd4 : 4 ≤ (l.drop (4 + n)).length) (hm : word (l.drop (4 + n)) = m) (hc : cs (l.take (4 + n)) = m) {e : S25} (hen : (l.drop 4).take n = enc e) (hel : (enc e).length = n) : l = rec_ e ++ l.drop (8 + n) := by
  have hww : l.take 4 = w32 n := by rw [take_word hb h4, hn]
  have hmm : (l.drop (4 + n)).take 4 = w32 m := by rw [take_word (hb.drop _) hd4, hm]
  have htk : l.take (4 + n) = hd e := by
    unfold hd
    rw [hel, ← hww, ← hen, ← List.take_add]
  have hdd : l.drop (8 + n) = (l.drop (4 + n)).drop 4 := by rw [List.drop_drop, show 4 + n + 4 = 8 + n from by omega]
  unfold rec_
  rw [← htk, hc, ← hmm, hdd, List.append_assoc, List.take_append_drop, List.take_append_drop]
theorem first_both (a : List Int) (hb : isBytes a) (hl : a.length < 1000000000) (p : Nat) (hp : p ≤ a.length) :
    (∃ x, bad3 x ∧ Ev (fun k => ledger_first.f k (a.drop p)) (bad x) ∧ Ev (fun k => armillaryref28_first.f k a (p : Int)) (rbad x)) ∨ ∃ e r, okE e ∧ a.drop p = rec_ e ++ r ∧ Ev (fun k => armillaryref28_first.f k a (p : Int)) (e, ((p + (rec_ e).length : Nat) : Int), 0) := by
  obtain ⟨l, hle⟩ : ∃ l, a.drop p = l := ⟨_, rfl⟩
  have hll : l.length = a.length - p := by rw [← hle, List.length_drop]
  have hbl : isBytes l := by rw [← hle]; exact hb.drop p
  rw [hle]
  by_cases h4 : l.length < 4
  · refine .inl ⟨271, .inr (.inl rfl), Ev.congr (first_short h4) (Ev.const rfl), Ev.congr (fun k => ?_) (Ev.const rfl)⟩
    unfold armillaryref28_first.f
    rw [if_pos (by rw [W64 (by omega) (by omega)]; omega)]
  have h4' : 4 ≤ l.length := by omega
  have g1 := getWord_eq hbl h4'
  have r1 := rword_eq a hb hl p (by omega)
  rw [hle] at r1
  have hw := word_lt hbl h4'
  obtain ⟨n, hn⟩ : ∃ n, word l = n := ⟨_, rfl⟩
  rw [hn] at g1 r1 hw
  by_cases hcut : l.length < 8 + n
  · refine .inl ⟨271, .inr (.inl rfl), Ev.congr (first_cutN g1 hw h4' (by omega) hcut) (Ev.const rfl), Ev.congr (fun k => ?_) (Ev.const rfl)⟩
    unfold armillaryref28_first.f
    rw [if_neg (by rw [W64 (by omega) (by omega)]; omega), r1]
    simp only [Option.bind_some]
    rw [if_pos (by rw [W64 (x := (a.length : Int) - (p : Int)) (by omega) (by omega), W64 (x := (n : Int)) (by omega) (by omega), W64 (by omega) (by omega)]; omega)]
  have h8 : 8 + n ≤ l.length := by omega
  have hd4 : 4 ≤ (l.drop (4 + n)).length := by rw [List.length_drop]; omega
  have g2 := getWord_eq (l := l.drop (4 + n)) (hbl.drop _) hd4
  have r2 := rword_eq a hb hl (p + 4 + n) (by omega)
  have hdd : a.drop (p + 4 + n) = l.drop (4 + n) := by rw [← hle, List.drop_drop, Nat.add_assoc]
  rw [hdd] at r2
  obtain ⟨m, hm⟩ : ∃ m, word (l.drop (4 + n)) = m := ⟨_, rfl⟩
  rw [hm] at g2 r2
  by_cases hc : cs (l.take (4 + n)) = m
  · obtain ⟨x, y, hx, hy, hxy⟩ := dec_both ((l.drop 4).take n) ((hbl.drop _).take _) (by rw [List.length_take, List.length_drop]; omega)
    have hdl : ((l.drop 4).take n).length = n := by rw [List.length_take, List.length_drop]; omega
    have bad272 : ∀ (hx2 : ((if x.2.2 ≠ 0 then (some true) else (some (x.2.1 != (n : Int)))) : Option Bool) = some true) (hy2 : ((if y.2.2 ≠ 0 then (some true) else (some (y.2.1 != (n : Int)))) : Option Bool) = some true),
        Ev (fun k => ledger_first.f k l) (bad 272) ∧ Ev (fun k => armillaryref28_first.f k a (p : Int)) (rbad 272) := fun hx2 hy2 => by
      constructor
      · refine first_goN g1 g2 hw hbl h4' (by omega) h8 (Ev.congr (fun k => if_neg (by omega)) (Ev.bind hx (Ev.const ?_)))
        rw [hx2]; rfl
      · refine rfirst_go r1 r2 hb hl (by omega) ?_
        rw [hle]
        refine Ev.congr (fun k => if_neg (by omega)) (Ev.bind hy (Ev.const ?_))
        rw [hy2]; rfl
    rcases hxy with ⟨hx0, hy0⟩ | ⟨hxy, hx0, r, hoke, hler, hlen⟩
    · exact .inl ⟨272, .inr (.inr rfl), bad272 (if_pos hx0) (if_pos hy0)⟩
    · by_cases hpn : x.2.1 = (n : Int)
      · right
        have hel : (enc x.1).length = n := by omega
        have hen : (l.drop 4).take n = enc x.1 := by
          have h9 := congrArg List.length hler
          rw [List.length_append, hdl] at h9
          rw [hler, List.length_eq_zero_iff.1 (show r.length = 0 by omega), List.append_nil]
        refine ⟨x.1, l.drop (8 + n), hoke, take_of_first hbl h4' hn hd4 hm hc hen hel, rfirst_go r1 r2 hb hl (by omega) ?_⟩
        rw [hle, rec_len, hel]
        refine Ev.congr (fun k => if_neg (by omega)) (Ev.bind hy (Ev.const ?_))
        rw [← hxy, if_neg (fun h => h hx0), hpn, bne_self_eq_false]
        rfl
      · have hne : (x.2.1 != (n : Int)) = true := by rw [bne_iff_ne]; exact hpn
        refine .inl ⟨272, .inr (.inr rfl), bad272 ?_ ?_⟩
        · rw [if_neg (fun h => h hx0), hne]
        · rw [← hxy, if_neg (fun h => h hx0), hne]
  · refine .inl ⟨270, .inl rfl, first_goN g1 g2 hw hbl h4' (by omega) h8 (Ev.congr (fun k => if_pos (by omega)) (Ev.const rfl)), rfirst_go r1 r2 hb hl (by omega) ?_⟩
    rw [hle]
    exact Ev.congr (fun k => if_pos (by omega)) (Ev.const rfl)
theorem bad3_ne {x : Int} (h : bad3 x) : x ≠ 0 := by rcases h with rfl | rfl | rfl <;> decide
theorem rscan_l1 (a : List Int) (hb : isBytes a) (hl : a.length < 1000000) : ∀ (d p : Nat) (acc : List S25), a.length - p ≤ d → p ≤ a.length → acc.length ≤ p →
    ∃ (es : List S25) (r : List Int) (x : Int), okL es ∧ a.drop p = logOf es ++ r ∧ ((r = [] ∧ x = 0) ∨ (1 ≤ r.length ∧ bad3 x ∧ Ev (fun k => ledger_first.f k r) (bad x))) ∧ Ev (fun k => (armillaryref28_Scan.l1 a k acc (p : Int)).bind armillaryref28_Scan.k1) (acc ++ es, ((p + (logOf es).length : Nat) : Int), x)
  | 0, p, acc, hd, hp, hacc => by
    refine ⟨[], [], 0, fun x hx => (by cases hx), by rw [List.drop_eq_nil_of_le (by omega)]; rfl, .inl ⟨rfl, rfl⟩, Ev.succ (g := fun _ => some (acc ++ [], ((p + 0 : Nat) : Int), 0)) (fun k => ?_) (Ev.const rfl)⟩
    rw [armillaryref28_Scan.l1, if_neg (by omega), List.append_nil]
    rfl
  | d + 1, p, acc, hd, hp, hacc => by
    by_cases hpe : p = a.length
    · refine ⟨[], [], 0, fun x hx => (by cases hx), by rw [List.drop_eq_nil_of_le (by omega)]; rfl, .inl ⟨rfl, rfl⟩, Ev.succ (g := fun _ => some (acc ++ [], ((p + 0 : Nat) : Int), 0)) (fun k => ?_) (Ev.const rfl)⟩
      rw [armillaryref28_Scan.l1, if_neg (by omega), List.append_nil]
      rfl
    rcases first_both a hb (by omega) p hp with ⟨x, hx, hf, hrf⟩ | ⟨e, r, he, hr, hrf⟩
    · refine ⟨[], a.drop p, x, fun x hx => (by cases hx), rfl, .inr ⟨by rw [List.length_drop]; omega, hx, hf⟩, Ev.succ (g := fun k => ((armillaryref28_first.f k a (p : Int)).bind fun t1 => (if t1.2.2 ≠ 0 then (some (Sum.inr (acc, (p : Int), t1.2.2))) else (if (acc.length + [t1.1].length) * 48 ≤ 140737488355328 then (armillaryref28_Scan.l1 a k (acc ++ [t1.1]) t1.2.1) else none))).bind armillaryref28_Scan.k1) (fun k => by rw [armillaryref28_Scan.l1, if_pos (by omega)]) ?_⟩
      refine Ev.bind (Ev.bind hrf (Ev.congr (fun k => if_pos (bad3_ne hx)) (Ev.const rfl))) (Ev.const ?_)
      rw [List.append_nil]
      rfl
    · have hlen := congrArg List.length hr
      rw [List.length_drop, List.length_append] at hlen
      have hle := enc_len he
      have hrl := rec_len e
      have hdr := drop_app hr
      obtain ⟨es, s, x, h1, h2, h3, h4⟩ := rscan_l1 a hb hl d (p + (rec_ e).length) (acc ++ [e]) (by omega) (by omega) (by rw [List.length_append, List.length_singleton]; omega)
      rw [hdr] at h2
      refine ⟨e :: es, s, x, fun y hy => ?_, by rw [hr, h2, logOf_cons, List.append_assoc], h3, ?_⟩
      · rcases List.mem_cons.1 hy with rfl | hy
        · exact he
        · exact h1 y hy
      · rw [logOf_cons, List.length_append, ← Nat.add_assoc, show acc ++ e :: es = (acc ++ [e]) ++ es from by simp]
        refine Ev.succ (g := fun k => ((armillaryref28_first.f k a (p : Int)).bind fun t1 => (if t1.2.2 ≠ 0 then (some (Sum.inr (acc, (p : Int), t1.2.2))) else (if (acc.length + [t1.1].length) * 48 ≤ 140737488355328 then (armillaryref28_Scan.l1 a k (acc ++ [t1.1]) t1.2.1) else none))).bind armillaryref28_Scan.k1) (fun k => by rw [armillaryref28_Scan.l1, if_pos (by omega)]) ?_
        obtain ⟨N, hrf⟩ := hrf
        obtain ⟨M, h4⟩ := h4
        refine ⟨max N M, fun k hk => ?_⟩
        have q1 : armillaryref28_first.f k a (p : Int) = _ := hrf k (by omega)
        have q2 : (armillaryref28_Scan.l1 a k (acc ++ [e]) ((p + (rec_ e).length : Nat) : Int)).bind armillaryref28_Scan.k1 = _ := h4 k (by omega)
        show ((armillaryref28_first.f k a (p : Int)).bind _).bind _ = _
        rw [q1]
        simp only [Option.bind_some]
        rw [if_neg (fun h => h rfl), if_pos (by simp only [List.length_singleton]; omega)]
        exact q2
/-- Both scan alike. -/
theorem scan_both {a : List Int} (hb : isBytes a) (hl : a.length ≤ 9000) : ∃ (es : List S25) (r : List Int) (x : Int), okL es ∧ a = logOf es ++ r ∧ Ev (fun k => ledger_Scan.f k a) (es, ((logOf es).length : Int), x) ∧ Ev (fun k => armillaryref28_Scan.f k a) (es, ((logOf es).length : Int), x) := by
  obtain ⟨es, r, x, h1, h2, h3, h4⟩ := rscan_l1 a hb (by omega) a.length 0 [] (by omega) (Nat.zero_le _) (Nat.zero_le _)
  rw [List.drop_zero] at h2
  rw [Nat.zero_add, List.nil_append] at h4
  refine ⟨es, r, x, h1, h2, ?_, h4⟩
  have hge := logOf_ge h1
  have hlen := congrArg List.length h2
  rw [List.length_append] at hlen
  rw [h2]
  rw [h2] at hb
  rcases h3 with ⟨rfl, rfl⟩ | ⟨h5, h6, h7⟩
  · rw [List.append_nil]
    exact scan_log h1 (by omega)
  · exact scan_bad h1 (by omega) (bytes_app hb).2 h5 (by omega) h7
end Go.Proofs.YtiomeaoeegikkaaDoor.led
