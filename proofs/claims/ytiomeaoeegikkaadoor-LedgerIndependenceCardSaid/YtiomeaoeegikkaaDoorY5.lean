/- Words of the walk, the functions' walks and plain laws, joined; no conditions beyond those that the theorems name. -/
import Derived.Test.YtiomeaoeegikkaaDoorY3
import Derived.Test.YtiomeaoeegikkaaDoorY4
import Derived.Test.YtiomeaoeegikkaaDoorY2
namespace Go.Proofs.YtiomeaoeegikkaaDoor
open Go Go.Proofs.YtiomeaoeegikkaaDoor.RW
set_option linter.unusedVariables false
set_option maxRecDepth 100000
set_option maxHeartbeats 8000000

/-! ### ledger_first: function 43, armillary/ledger.first -/
noncomputable def K43_0 : Code := cBody Tryd.f43
noncomputable def O43_31 : List Oper := cOps (cL (cL (cR (cR (cR (cR (cR K43_0)))))))
def ledger_first.k1 (t1 : Int) (t4 : S25 × Int × Int) (x1 : Bool) : Option (S25 × Int × Option Int) := (if x1 = true then (some ((⟨0, (⟨#[]⟩ : ByteArray), []⟩ : S25), 0, (some 272))) else (some (t4.1, W .i64 ((W .i64 (4 + (W .i64 (t1)))) + 4), none)))
def ledger_first.f (k : Nat) (a0 : List Int) : Option (S25 × Int × Option Int) := (if (a0.length : Int) < 4 then (some ((⟨0, (⟨#[]⟩ : ByteArray), []⟩ : S25), 0, (some 271))) else ((ledger_getWord.f a0).bind fun t1 => (if (W .i64 ((a0.length : Int) - 8)) < (W .i64 (t1)) then (some ((⟨0, (⟨#[]⟩ : ByteArray), []⟩ : S25), 0, (some 271))) else (if (0 : Int) ≤ (W .i64 (4 + (W .i64 (t1)))) then (if (W .i64 (4 + (W .i64 (t1)))) ≤ (a0.length : Int) then ((codec_Checksum.f k (rpart a0 0 (W .i64 (4 + (W .i64 (t1)))))).bind fun t2 => (if (0 : Int) ≤ (W .i64 (4 + (W .i64 (t1)))) then (if (W .i64 (4 + (W .i64 (t1)))) ≤ (a0.length : Int) then ((ledger_getWord.f (rpart a0 (W .i64 (4 + (W .i64 (t1)))) (a0.length : Int))).bind fun t3 => (if t2 ≠ t3 then (some ((⟨0, (⟨#[]⟩ : ByteArray), []⟩ : S25), 0, (some 270))) else (if (0 : Int) ≤ (4 : Int) then (if (4 : Int) ≤ (W .i64 (4 + (W .i64 (t1)))) then (if (W .i64 (4 + (W .i64 (t1)))) ≤ (a0.length : Int) then ((codec_DecodeEntry.f k (rpart a0 (4 : Int) (W .i64 (4 + (W .i64 (t1)))))).bind fun t4 => ((if t4.2.2 ≠ 0 then (some true) else (some (t4.2.1 != (W .i64 (t1))))).bind (ledger_first.k1 t1 t4))) else none) else none) else none))) else none) else none)) else none) else none))))
def ledger_first.Post (I : Imm) (w : World) (r : S25 × Int × Option Int) (v : Value) (w' : World) : Prop :=
 ∃ (J : Imm) (A0_2 : Option Addr) (c0_2 : Nat), v = .tuple #[.agg #[.int .i64 r.1.f0, .string r.1.f1, .slice A0_2 r.1.f2.length c0_2], .int .i64 r.2.1, errV 66 r.2.2] ∧ Got w w' I J [] ∧ r.1.f2.length ≤ c0_2 ∧ Rd (Ty.int .u8) J A0_2 r.1.f2
noncomputable def a43_31n : List Nat := [0, 0, 3, 7, 0, 0, 48, 127, 255]
theorem a43_31 : ancs O43_31 [] = a43_31n := by kernel_rfl
theorem a43_31o : drawOk O43_31 a43_31n 7 = true := by kernel_rfl
noncomputable def u43d1l (t2 : Int) : List Ld :=
 [⟨3, fun x => .int .u32 t2, fun x => [], fun x J => True, fun x J J' h f => trivial⟩]
noncomputable def u43d1g (a0 : List Int) (Ap0 : Option Addr) (cp0 : Nat) (t1 : Int) : List (Nat × ((Nat → Wt) → Value)) := [(2, fun u => .slice (slA Ap0 (0 : Int).toNat cp0 1) ((rpart a0 0 (W .i64 (4 + (W .i64 (t1))))).length) (cp0 - (0 : Int).toNat)), (6, fun u => .slice (slA Ap0 ((W .i64 (4 + (W .i64 (t1))))).toNat cp0 1) ((rpart a0 (W .i64 (4 + (W .i64 (t1)))) (a0.length : Int)).length) (cp0 - ((W .i64 (4 + (W .i64 (t1))))).toNat))]
noncomputable def u43d1q (a0 : List Int) (Ap0 : Option Addr) (cp0 : Nat) (nx0 : Nat) (t1 : Int) (t2 : Int) (u : Nat → Wt) : Option (List Value × List (Nat × Value) × List (Nat × Nat)) := qSim Tryd.prog [] [⟨nx0, [i6 0, .string (⟨#[]⟩ : ByteArray), .slice none 0 0], 25⟩] O43_31 ⟨62, []⟩ (Ld.vl (u43d1l t2)) (u43d1g a0 Ap0 cp0 t1) u [.no, .no, .no, .no, .no, .no, .no] 0 (O43_31.take 7) [(6, i6 (W .i64 (4 + (W .i64 (t1))))), (5, i6 (W .i64 (t1))), (2, pt nx0 0), (0, .slice Ap0 a0.length cp0)]
noncomputable def u43d1s (a0 : List Int) (Ap0 : Option Addr) (cp0 : Nat) (t1 : Int) (t2 : Int) (u : Nat → Wt) : List Value := [.slice Ap0 a0.length cp0, i6 (W .i64 (4 + (W .i64 (t1)))), .slice (slA Ap0 (0 : Int).toNat cp0 1) ((rpart a0 0 (W .i64 (4 + (W .i64 (t1))))).length) (cp0 - (0 : Int).toNat), .int .u32 t2, .slice Ap0 a0.length cp0, i6 (W .i64 (4 + (W .i64 (t1)))), .slice (slA Ap0 ((W .i64 (4 + (W .i64 (t1))))).toNat cp0 1) ((rpart a0 (W .i64 (4 + (W .i64 (t1)))) (a0.length : Int)).length) (cp0 - ((W .i64 (4 + (W .i64 (t1))))).toNat)]
noncomputable def u43d1f (a0 : List Int) (Ap0 : Option Addr) (cp0 : Nat) (nx0 : Nat) (t1 : Int) (t2 : Int) (i : Nat) (u : Nat → Wt) : List (Nat × Value) := foldPut ⟨62, []⟩ [(6, i6 (W .i64 (4 + (W .i64 (t1))))), (5, i6 (W .i64 (t1))), (2, pt nx0 0), (0, .slice Ap0 a0.length cp0)] (O43_31.take i) (((u43d1s a0 Ap0 cp0 t1 t2) u).take i)
theorem u43d1v (a0 : List Int) (Ap0 : Option Addr) (cp0 : Nat) (nx0 : Nat) (t1 : Int) (t2 : Int) (u : Nat → Wt) : (u43d1q a0 Ap0 cp0 nx0 t1 t2 u).map (fun x => (x.1, x.2.1)) = some ((u43d1s a0 Ap0 cp0 t1 t2) u, (u43d1f a0 Ap0 cp0 nx0 t1 t2 7) u) := by kernel_rfl
theorem u43d1e (a0 : List Int) (Ap0 : Option Addr) (cp0 : Nat) (nx0 : Nat) (t1 : Int) (t2 : Int) (u : Nat → Wt) : (u43d1q a0 Ap0 cp0 nx0 t1 t2 u).map (fun x => x.2.2.map (·.1)) = (u43d1q a0 Ap0 cp0 nx0 t1 t2 u).map (fun x => x.2.2.map (·.2)) := by kernel_rfl
theorem ledger_first.calls (k : Nat) (I0 : Imm) (a0 : List Int) (Ap0 : Option Addr) (cp0 : Nat) (w : World) (hI : I0.at_ w) (hlp0 : a0.length ≤ cp0) (hrp0 : Rd (Ty.int .u8) I0 Ap0 a0) (r : S25 × Int × Option Int) (h : ledger_first.f k a0 = some r) :
  Calls Tryd.prog 43 [.slice Ap0 a0.length cp0].toArray w fun e w' => ∃ v, e = .returned v ∧ ledger_first.Post I0 w r v w' := by
 have H : (if (a0.length : Int) < 4 then (some ((⟨0, (⟨#[]⟩ : ByteArray), []⟩ : S25), 0, (some 271))) else ((ledger_getWord.f a0).bind fun t1 => (if (W .i64 ((a0.length : Int) - 8)) < (W .i64 (t1)) then (some ((⟨0, (⟨#[]⟩ : ByteArray), []⟩ : S25), 0, (some 271))) else (if (0 : Int) ≤ (W .i64 (4 + (W .i64 (t1)))) then (if (W .i64 (4 + (W .i64 (t1)))) ≤ (a0.length : Int) then ((codec_Checksum.f k (rpart a0 0 (W .i64 (4 + (W .i64 (t1)))))).bind fun t2 => (if (0 : Int) ≤ (W .i64 (4 + (W .i64 (t1)))) then (if (W .i64 (4 + (W .i64 (t1)))) ≤ (a0.length : Int) then ((ledger_getWord.f (rpart a0 (W .i64 (4 + (W .i64 (t1)))) (a0.length : Int))).bind fun t3 => (if t2 ≠ t3 then (some ((⟨0, (⟨#[]⟩ : ByteArray), []⟩ : S25), 0, (some 270))) else (if (0 : Int) ≤ (4 : Int) then (if (4 : Int) ≤ (W .i64 (4 + (W .i64 (t1)))) then (if (W .i64 (4 + (W .i64 (t1)))) ≤ (a0.length : Int) then ((codec_DecodeEntry.f k (rpart a0 (4 : Int) (W .i64 (4 + (W .i64 (t1)))))).bind fun t4 => ((if t4.2.2 ≠ 0 then (some true) else (some (t4.2.1 != (W .i64 (t1))))).bind (ledger_first.k1 t1 t4))) else none) else none) else none))) else none) else none)) else none) else none)))) = some r := h
 clear h
 refine calls_body Tryd.func43 (by kernel_rfl) 62 (by kernel_rfl) (by kernel_rfl) ⟨w, fun _ => False, I0⟩ I0 [] [(0, .slice Ap0 a0.length cp0)] (by kernel_rfl) (Sat.start w _ I0 hI) ?_
 generalize w.heap.size = nx0
 show OK _ K43_0 _ _ _ _ _ _ _ _
 refine OK.sr ?_
 refine RL.spt 3 [(2, pt nx0 0), (0, .slice Ap0 a0.length cp0)] (nx0 + 1) [⟨nx0, [i6 0, .string (⟨#[]⟩ : ByteArray), .slice none 0 0], 25⟩] ?_
 refine OK.sq ?_
 refine OK.sr ?_
 refine RL.st 3 [(12, .bool (decide ((a0.length : Int) < 4))), (2, pt nx0 0), (0, .slice Ap0 a0.length cp0)] ?_
 refine OK.cd (decide ((a0.length : Int) < 4)) (fun hb => ?_) (fun hb => ?_)
 ·skip
  have hc := (of_decide_eq_true hb)
  rw [if_pos hc] at H
  clear hb
  refine OK.sr ?_
  refine RL.simK (K' := [(4, errV 66 (some 271)), (3, i6 0), (2, pt nx0 0)]) [] (RFacts.nil _ _ _) 6 [.no, .no, .no, .l 0, .no, .no] (by kernel_rfl) (by kernel_rfl) ?_
  refine RL.nt ?_
  refine OK.re ?_
  refine QN.thenR ?_
  obtain rfl := Option.some.inj H
  refine QN.body rfl [] (RFacts.nil _ _ _) (.l 0) (.tuple #[.agg #[i6 0, .string (⟨#[]⟩ : ByteArray), .slice none 0 0], i6 0, errV 66 (some 271)]) (by kernel_rfl) (by kernel_rfl) (by kernel_rfl) ?_ _ (.inr rfl)
  exact fun w' hs' => ⟨_, rfl, I0, none, 0, rfl, hs'.got _ .slnil, (Nat.le_refl 0), (Rd.nil _ _ _)⟩
 ·skip
  have hc := (of_decide_eq_false hb)
  rw [if_neg hc] at H
  clear hb
  refine OK.skt ?_
  refine OK.sr ?_
  refine RL.s 1 [(16, .slice Ap0 a0.length cp0), (2, pt nx0 0), (0, .slice Ap0 a0.length cp0)] ?_
  obtain ⟨t1, hA1, H⟩ := bnd H
  refine RL.callP 55 [.slice Ap0 a0.length cp0] (some 17) (fun w => ledger_getWord.Post I0 w t1) (by kernel_rfl) (by kernel_rfl) (fun w hs => ledger_getWord.calls I0 a0 Ap0 cp0 w hs.im hlp0 hrp0 t1 hA1) ?_
  rintro w v w' hs ⟨I1, rfl, hg⟩
  have hi1 := hg.le
  refine RL.resume (X' := []) rfl (hs.call hg) ?_
  clear hs hg
  generalize w'.heap.size = nx1
  clear w w'
  refine RL.st 2 [(5, i6 (W .i64 (t1))), (2, pt nx0 0), (0, .slice Ap0 a0.length cp0)] ?_
  refine OK.sq ?_
  refine OK.sr ?_
  refine RL.st 5 [(23, .bool (decide ((W .i64 ((a0.length : Int) - 8)) < (W .i64 (t1))))), (5, i6 (W .i64 (t1))), (2, pt nx0 0), (0, .slice Ap0 a0.length cp0)] ?_
  refine OK.cd (decide ((W .i64 ((a0.length : Int) - 8)) < (W .i64 (t1)))) (fun hb => ?_) (fun hb => ?_)
  ·skip
   have hc := (of_decide_eq_true hb)
   rw [if_pos hc] at H
   clear hb
   refine OK.sr ?_
   refine RL.simK (K' := [(4, errV 66 (some 271)), (3, i6 0), (2, pt nx0 0)]) [] (RFacts.nil _ _ _) 6 [.no, .no, .no, .l 0, .no, .no] (by kernel_rfl) (by kernel_rfl) ?_
   refine RL.nt ?_
   refine OK.re ?_
   refine QN.thenR ?_
   obtain rfl := Option.some.inj H
   refine QN.body rfl [] (RFacts.nil _ _ _) (.l 0) (.tuple #[.agg #[i6 0, .string (⟨#[]⟩ : ByteArray), .slice none 0 0], i6 0, errV 66 (some 271)]) (by kernel_rfl) (by kernel_rfl) (by kernel_rfl) ?_ _ (.inr rfl)
   exact fun w' hs' => ⟨_, rfl, I1, none, 0, rfl, hs'.got _ .slnil, (Nat.le_refl 0), (Rd.nil _ _ _)⟩
  ·skip
   have hc := (of_decide_eq_false hb)
   rw [if_neg hc] at H
   clear hb
   refine OK.skt ?_
   refine OK.sr ?_
   refine RL.st 3 [(6, i6 (W .i64 (4 + (W .i64 (t1))))), (5, i6 (W .i64 (t1))), (2, pt nx0 0), (0, .slice Ap0 a0.length cp0)] ?_
   refine OK.sq ?_
   refine OK.sq ?_
   obtain ⟨hs1_1, H⟩ := ifs H
   obtain ⟨hs2_1, H⟩ := ifs H
   obtain ⟨t2, hA2, H⟩ := bnd H
   obtain ⟨hs0_2, H⟩ := ifs H
   obtain ⟨hs1_2, H⟩ := ifs H
   refine OK.drawnC 7 7 O43_31 a43_31n (by kernel_rfl) (by kernel_rfl) (u43d1l t2) (u43d1g a0 Ap0 cp0 t1) [] (RI.nil _) [.no, .no, .no, .no, .no, .no, .no] a43_31 a43_31o (by kernel_rfl) (by kernel_rfl) (u43d1s a0 Ap0 cp0 t1 t2) (u43d1f a0 Ap0 cp0 nx0 t1 t2 7) (u43d1v a0 Ap0 cp0 nx0 t1 t2) (u43d1e a0 Ap0 cp0 nx0 t1 t2) [u43d1f a0 Ap0 cp0 nx0 t1 t2 3] (framesOk.cons (fun u => rfl) framesOk.nil) ?_ [u43d1f a0 Ap0 cp0 nx0 t1 t2 2, u43d1f a0 Ap0 cp0 nx0 t1 t2 6] (framesOk.cons (fun u => rfl) (framesOk.cons (fun u => rfl) framesOk.nil)) ?_ ?_
   ·refine LoudsG.cons ?_ (LoudsG.nil)
    ·intro D u J w hp hJ hs hF
     refine Does.call 36 [.slice (slA Ap0 (0 : Int).toNat cp0 1) ((rpart a0 0 (W .i64 (4 + (W .i64 (t1))))).length) (cp0 - (0 : Int).toNat)] (by kernel_rfl) ((codec_Checksum.calls k J (rpart a0 0 (W .i64 (4 + (W .i64 (t1))))) (slA Ap0 (0 : Int).toNat cp0 1) (cp0 - (0 : Int).toNat) w hs.im (part_le hlp0 (Int.le_refl 0) hs1_1 hs2_1) (Rd.ext hJ (rd_sub (Rd.ext hi1 hrp0) hlp0 (Int.le_refl 0) hs1_1 hs2_1)) t2 hA2).mono ?_)
     rintro e w' ⟨v, rfl, J2, rfl, hg⟩
     exact ⟨_, rfl, fun _ => (none, 0, []), J2, rfl, hg, trivial⟩
   ·refine Givens.cons (fun u w =>  ?_) (fun _ _ _ => rfl) (Givens.cons (fun u w =>  ?_) (fun _ _ _ => rfl) (Givens.nil))
    ·exact giv_subH (T := 22) (e := 5) (l := a0) (S := Ap0) (cap := cp0) (hi := W .i64 (4 + (W .i64 (t1)))) 1 .i64 (by kernel_rfl) (by kernel_rfl) (by kernel_rfl) hlp0 hs1_1 hs2_1 w
    ·exact giv_subL (T := 22) (e := 5) (l := a0) (S := Ap0) (cap := cp0) (lo := W .i64 (4 + (W .i64 (t1)))) 1 .i64 (by kernel_rfl) (by kernel_rfl) (by kernel_rfl) hs0_2 hs1_2 w
   intro u I2 nx2 hi2 hF
   clear hF
   refine RL.norm (K' := [(35, .slice (slA Ap0 ((W .i64 (4 + (W .i64 (t1))))).toNat cp0 1) ((rpart a0 (W .i64 (4 + (W .i64 (t1)))) (a0.length : Int)).length) (cp0 - ((W .i64 (4 + (W .i64 (t1))))).toNat)), (34, i6 (W .i64 (4 + (W .i64 (t1))))), (33, .slice Ap0 a0.length cp0), (32, .int .u32 t2), (31, .slice (slA Ap0 (0 : Int).toNat cp0 1) ((rpart a0 0 (W .i64 (4 + (W .i64 (t1))))).length) (cp0 - (0 : Int).toNat)), (30, i6 (W .i64 (4 + (W .i64 (t1))))), (29, .slice Ap0 a0.length cp0), (6, i6 (W .i64 (4 + (W .i64 (t1))))), (5, i6 (W .i64 (t1))), (2, pt nx0 0), (0, .slice Ap0 a0.length cp0)]) (X' := []) (by kernel_rfl) rfl rfl rfl ?_
   obtain ⟨t3, hA3, H⟩ := bnd H
   refine RL.callP 55 [.slice (slA Ap0 ((W .i64 (4 + (W .i64 (t1))))).toNat cp0 1) ((rpart a0 (W .i64 (4 + (W .i64 (t1)))) (a0.length : Int)).length) (cp0 - ((W .i64 (4 + (W .i64 (t1))))).toNat)] (some 36) (fun w => ledger_getWord.Post I2 w t3) (by kernel_rfl) (by kernel_rfl) (fun w hs => ledger_getWord.calls I2 (rpart a0 (W .i64 (4 + (W .i64 (t1)))) (a0.length : Int)) (slA Ap0 ((W .i64 (4 + (W .i64 (t1))))).toNat cp0 1) (cp0 - ((W .i64 (4 + (W .i64 (t1))))).toNat) w hs.im (part_le hlp0 hs0_2 hs1_2 (Int.le_refl _)) (Rd.ext hi2 (rd_sub (Rd.ext hi1 hrp0) hlp0 hs0_2 hs1_2 (Int.le_refl _))) t3 hA3) ?_
   rintro w v w' hs ⟨I3, rfl, hg⟩
   have hi3 := hg.le
   refine RL.resume (X' := []) rfl (hs.call hg) ?_
   clear hs hg
   generalize w'.heap.size = nx3
   clear w w'
   refine RL.st 1 [(37, .bool (t2 != t3)), (6, i6 (W .i64 (4 + (W .i64 (t1))))), (5, i6 (W .i64 (t1))), (2, pt nx0 0), (0, .slice Ap0 a0.length cp0)] ?_
   refine OK.cd (t2 != t3) (fun hb => ?_) (fun hb => ?_)
   ·skip
    have hc := (bne_iff_ne.1 hb)
    rw [if_pos hc] at H
    clear hb
    refine OK.sr ?_
    refine RL.simK (K' := [(4, errV 66 (some 270)), (3, i6 0), (2, pt nx0 0)]) [] (RFacts.nil _ _ _) 6 [.no, .no, .no, .l 0, .no, .no] (by kernel_rfl) (by kernel_rfl) ?_
    refine RL.nt ?_
    refine OK.re ?_
    refine QN.thenR ?_
    obtain rfl := Option.some.inj H
    refine QN.body rfl [] (RFacts.nil _ _ _) (.l 0) (.tuple #[.agg #[i6 0, .string (⟨#[]⟩ : ByteArray), .slice none 0 0], i6 0, errV 66 (some 270)]) (by kernel_rfl) (by kernel_rfl) (by kernel_rfl) ?_ _ (.inr rfl)
    exact fun w' hs' => ⟨_, rfl, I3, none, 0, rfl, hs'.got _ .slnil, (Nat.le_refl 0), (Rd.nil _ _ _)⟩
   ·skip
    have hc := (not_not_intro (bne_eq_false_iff_eq.1 hb))
    rw [if_neg hc] at H
    clear hb
    refine OK.skt ?_
    refine OK.sr ?_
    refine RL.s 2 [(43, i6 (W .i64 (4 + (W .i64 (t1))))), (42, .slice Ap0 a0.length cp0), (6, i6 (W .i64 (4 + (W .i64 (t1))))), (5, i6 (W .i64 (t1))), (2, pt nx0 0)] ?_
    obtain ⟨hs0_3, H⟩ := ifs H
    obtain ⟨hs1_3, H⟩ := ifs H
    obtain ⟨hs2_3, H⟩ := ifs H
    refine RL.sub1 (T := 22) (e := 5) (l := a0) (S := Ap0) (cap := cp0) (lo := 4) (hi := W .i64 (4 + (W .i64 (t1)))) 1 .i64 .i64 (some 44) (by kernel_rfl) (by kernel_rfl) (by kernel_rfl) (by kernel_rfl) hlp0 hs0_3 hs1_3 hs2_3 (K' := [(44, .slice (slA Ap0 ((4 : Int)).toNat cp0 1) ((rpart a0 (4 : Int) (W .i64 (4 + (W .i64 (t1))))).length) (cp0 - ((4 : Int)).toNat)), (43, i6 (W .i64 (4 + (W .i64 (t1))))), (42, .slice Ap0 a0.length cp0), (6, i6 (W .i64 (4 + (W .i64 (t1))))), (5, i6 (W .i64 (t1))), (2, pt nx0 0)]) (by kernel_rfl) ?_
    obtain ⟨t4, hA4, H⟩ := bnd H
    refine RL.callP 56 [.slice (slA Ap0 ((4 : Int)).toNat cp0 1) ((rpart a0 (4 : Int) (W .i64 (4 + (W .i64 (t1))))).length) (cp0 - ((4 : Int)).toNat)] (some 45) (fun w => codec_DecodeEntry.Post I3 w t4) (by kernel_rfl) (by kernel_rfl) (fun w hs => codec_DecodeEntry.calls k I3 (rpart a0 (4 : Int) (W .i64 (4 + (W .i64 (t1))))) (slA Ap0 ((4 : Int)).toNat cp0 1) (cp0 - ((4 : Int)).toNat) w hs.im (part_le hlp0 hs0_3 hs1_3 hs2_3) (rd_sub (Rd.ext (Imm.le_trans (Imm.le_trans hi1 hi2) hi3) hrp0) hlp0 hs0_3 hs1_3 hs2_3) t4 hA4) ?_
    rintro w v w' hs ⟨I4, A1, c1, rfl, hg, hl1, hr1⟩
    have hi4 := hg.le
    refine RL.resume (X' := []) rfl (hs.call hg) ?_
    clear hs hg
    generalize w'.heap.size = nx4
    clear w w'
    refine RL.simP (K' := [(9, i6 t4.2.2), (8, i6 t4.2.1), (7, pt nx4 0), (6, i6 (W .i64 (4 + (W .i64 (t1))))), (5, i6 (W .i64 (t1))), (2, pt nx0 0)]) (nx' := nx4 + 1) (L' := [⟨nx0, [i6 0, .string (⟨#[]⟩ : ByteArray), .slice none 0 0], 25⟩, ⟨nx4, [i6 t4.1.f0, .string t4.1.f1, .slice A1 t4.1.f2.length c1], 25⟩]) [] (RFacts.nil _ _ _) 8 [.no, .no, .no, .no, .no, .l 1, .no, .no] (by kernel_rfl) (by kernel_rfl) ?_
    refine RL.nt ?_
    refine OK.sq ?_
    refine OK.sq ?_
    refine OK.join (fun K' I' _ L' X' => ∃ (x1 : Bool), K' = [(2, pt nx0 0), (6, i6 (W .i64 (4 + (W .i64 (t1))))), (7, pt nx4 0), (55, .bool x1)] ∧ L' = [⟨nx0, [i6 0, .string (⟨#[]⟩ : ByteArray), .slice none 0 0], 25⟩, ⟨nx4, [i6 t4.1.f0, .string t4.1.f1, .slice A1 t4.1.f2.length c1], 25⟩] ∧ X' = [] ∧ Imm.le I4 I' ∧ ledger_first.k1 t1 t4 x1 = some r) ?_ ?_
    ·rintro _ I5 nx5 _ _ ⟨x1, rfl, rfl, rfl, hi5, H⟩
     rw [ledger_first.k1] at H
     refine QN.then_ ?_
     refine OK.cd x1 (fun hb => ?_) (fun hb => ?_)
     ·skip
      have hc := hb
      rw [if_pos hc] at H
      clear hb
      refine OK.sr ?_
      refine RL.simK (K' := [(4, errV 66 (some 272)), (3, i6 0), (2, pt nx0 0)]) [] (RFacts.nil _ _ _) 6 [.no, .no, .no, .l 0, .no, .no] (by kernel_rfl) (by kernel_rfl) ?_
      refine RL.nt ?_
      refine OK.re ?_
      refine QN.thenR ?_
      obtain rfl := Option.some.inj H
      refine QN.body rfl [] (RFacts.nil _ _ _) (.l 0) (.tuple #[.agg #[i6 0, .string (⟨#[]⟩ : ByteArray), .slice none 0 0], i6 0, errV 66 (some 272)]) (by kernel_rfl) (by kernel_rfl) (by kernel_rfl) ?_ _ (.inr rfl)
      exact fun w' hs' => ⟨_, rfl, I5, none, 0, rfl, hs'.got _ .slnil, (Nat.le_refl 0), (Rd.nil _ _ _)⟩
     ·skip
      have hc := (Bool.eq_false_iff.1 hb)
      rw [if_neg hc] at H
      clear hb
      refine OK.skt ?_
      refine OK.sr ?_
      refine RL.simP (K' := [(4, errV 66 none), (3, i6 (W .i64 ((W .i64 (4 + (W .i64 (t1)))) + 4))), (2, pt nx0 0)]) (nx' := nx5) (L' := [⟨nx0, [i6 t4.1.f0, .string t4.1.f1, .slice A1 t4.1.f2.length c1], 25⟩, ⟨nx4, [i6 t4.1.f0, .string t4.1.f1, .slice A1 t4.1.f2.length c1], 25⟩]) [] (RFacts.nil _ _ _) 6 [.l 1, .no, .no, .l 0, .no, .no] (by kernel_rfl) (by kernel_rfl) ?_
      refine RL.nt ?_
      refine OK.re ?_
      obtain rfl := Option.some.inj H
      refine QN.body rfl [] (RFacts.nil _ _ _) (.l 0) (.tuple #[.agg #[i6 t4.1.f0, .string t4.1.f1, .slice A1 t4.1.f2.length c1], i6 (W .i64 ((W .i64 (4 + (W .i64 (t1)))) + 4)), errV 66 none]) (by kernel_rfl) (by kernel_rfl) (by kernel_rfl) ?_ _ (.inr rfl)
      exact fun w' hs' => ⟨_, rfl, I5, A1, c1, rfl, hs'.got _ .slnil, hl1, (Rd.ext hi5 hr1)⟩
    ·intro Q_1 hJ1 hQ1
     obtain ⟨y1, H, HK1⟩ := bnd H
     refine OK.rg ?_
     refine RL.s 3 [(51, .bool (t4.2.2 != 0)), (8, i6 t4.2.1), (7, pt nx4 0), (6, i6 (W .i64 (4 + (W .i64 (t1))))), (5, i6 (W .i64 (t1))), (2, pt nx0 0)] ?_
     refine RL.cases (t4.2.2 != 0) (fun hb => ?_) (fun hb => ?_)
     ·have hc := (bne_iff_ne.1 hb)
      rw [hb]
      rw [if_pos hc] at H; clear hb
      refine RL.s 4 [(55, .bool true), (7, pt nx4 0), (6, i6 (W .i64 (4 + (W .i64 (t1))))), (2, pt nx0 0)] ?_
      refine RL.nil (by kernel_rfl) ?_
      obtain rfl := Option.some.inj H
      exact QN.sb (hJ1 _ _ _ _ _ ⟨true, rfl, rfl, rfl, (Imm.le_refl _), HK1⟩) (.cons_cons _ (.cons_cons _ .slnil)) (.refl _)
     ·have hc := (not_not_intro (bne_eq_false_iff_eq.1 hb))
      rw [hb]
      rw [if_neg hc] at H; clear hb
      refine RL.s 4 [(55, .bool (t4.2.1 != (W .i64 (t1)))), (7, pt nx4 0), (6, i6 (W .i64 (4 + (W .i64 (t1))))), (2, pt nx0 0)] ?_
      refine RL.nil (by kernel_rfl) ?_
      obtain rfl := Option.some.inj H
      exact QN.sb (hJ1 _ _ _ _ _ ⟨(t4.2.1 != (W .i64 (t1))), rfl, rfl, rfl, (Imm.le_refl _), HK1⟩) (.cons_cons _ (.cons_cons _ .slnil)) (.refl _)

end Go.Proofs.YtiomeaoeegikkaaDoor
namespace Go.Proofs.YtiomeaoeegikkaaDoor
open Go Go.RowKit Go.Proofs.YtiomeaoeegikkaaDoor.RW
set_option linter.unusedVariables false
set_option maxRecDepth 100000
set_option maxHeartbeats 8000000

abbrev Stp := S25 × Int × Option Int
def recs (k : Nat) (log : List Int) : Nat → Int → Option (List Stp)
  | 0, _ => none
  | m + 1, e => if e < (log.length : Int) then (if 0 ≤ e then (ledger_first.f k (rpart log e (log.length : Int))).bind fun t => (if t.2.2 = none then (recs k log m (W .i64 (e + t.2.1))).bind fun r => some ((t.1, W .i64 (e + t.2.1), none) :: r) else some [(t.1, W .i64 (e + t.2.1), t.2.2)]) else none) else some []
def stO (pre : List Stp) : List S25 × Int := pre.foldl (fun s x => if x.2.2 = none then (s.1 ++ [x.1], x.2.1) else s) ([], 0)
def stE (c : List Stp) : Int := match c.getLast? with
  | some (_, _, some x) => x
  | _ => 0
def ledger_Scan.f (k : Nat) (a0 : List Int) : Option (List S25 × Int × Int) := (recs k a0 k 0).bind fun c => if c.length * 48 ≤ 140737488355328 then some ((stO c).1, (stO c).2, stE c) else none
def ledger_Scan.Post (I : Imm) (w : World) (r : List S25 × Int × Int) (v : Value) (w' : World) : Prop :=
  ∃ (J : Imm) (A0 : Option Addr) (c0 : Nat) (cs0 : List Value), v = .tuple #[.slice A0 r.1.length c0, .int .i64 r.2.1, .int .i64 r.2.2] ∧ Got w w' I J [orow 25 3 A0 r.1.length c0 cs0] ∧ Reps t25 J r.1 cs0

/-! ### records, and the iterator that it makes -/
noncomputable def c31 : Code := cBody Tryd.f31
noncomputable def c31r0 : Code := cL c31
noncomputable def c31e : Code := cR c31
noncomputable def c31r1 : Code := cL c31e
noncomputable def c31t : Code := cR c31e
theorem own_new {w0 : World} {I0 I : Imm} {nx : Nat} {L : List Blk} {X : List Res} {w : World} (hs : Sat ⟨w0, fun _ => False, I0⟩ I nx L X w) {i : Nat} {b : Blk} (hi : L[i]? = some b) : w0.heap.size ≤ b.g :=
  (hs.own b (List.mem_of_getElem? hi)).resolve_right (fun h => h)
def fv42 (b1 : Nat) : Value := .func (.func 42) #[] #[.pointer (some ⟨b1, 0, none⟩)]
def records.Post (I : Imm) (w : World) (A : Option Addr) (n c : Nat) (v : Value) (w' : World) : Prop :=
  ∃ (J : Imm) (b1 : Nat), v = fv42 b1 ∧ Got w w' I J [] ∧ J ⟨b1, 0, none⟩ = some (.slice A n c)
theorem records.calls (I0 : Imm) (A : Option Addr) (n c : Nat) (w : World) (hI : I0.at_ w) :
    Calls Tryd.prog 31 [.slice A n c].toArray w fun e w' => ∃ v, e = .returned v ∧ records.Post I0 w A n c v w' := by
  refine calls_body Tryd.func31 (by kernel_rfl) 4 (by kernel_rfl) (by kernel_rfl) ⟨w, fun _ => False, I0⟩ I0 [] [(0, .slice A n c)] (by kernel_rfl) (Sat.start w _ I0 hI) ?_
  generalize w.heap.size = nx0
  show OK _ c31 _ _ _ _ _ _ _ _
  refine OK.seq c31r0 c31e (by kernel_rfl) ?_
  refine OK.region 0 (cOps c31r0) (by kernel_rfl) ?_
  refine RL.simP (K' := [(1, .pointer (some ⟨nx0, 0, none⟩))]) (nx' := nx0 + 1) (L' := [⟨nx0, [.slice A n c], 22⟩]) [] (RFacts.nil _ _ _) 2 [.no, .no] (by kernel_rfl) (by kernel_rfl) ?_
  refine RL.nil (by kernel_rfl) ?_
  refine QN.then_ ?_
  refine OK.seq c31r1 c31t (by kernel_rfl) ?_
  refine OK.region 1 (cOps c31r1) (by kernel_rfl) ?_
  refine RL.simP (K' := [(2, .func (.func 42) #[] #[.pointer (some ⟨nx0, 0, none⟩)])]) (nx' := nx0 + 1) (L' := [⟨nx0, [.slice A n c], 22⟩]) [] (RFacts.nil _ _ _) 2 [.no, .no] (by kernel_rfl) (by kernel_rfl) ?_
  refine RL.immL 0 rfl (fun w hs => own_new hs (i := 0) rfl) (fun J1 hJ1 h1 => ?_)
  refine RL.nil (by kernel_rfl) ?_
  refine QN.then_ ?_
  refine OK.ret (by kernel_rfl) ?_
  refine QN.body rfl [] (RFacts.nil _ _ _) .no (fv42 nx0) (by kernel_rfl) (by kernel_rfl) (by kernel_rfl) ?_ _ (.inr rfl)
  exact fun w' hs' => ⟨_, rfl, J1, nx0, rfl, hs'.got _ (List.nil_sublist _), h1 0 _ rfl⟩

def c64 (x : Stp) (A : Option Addr) (c : Nat) : List Value := [.int .i64 x.1.f0, .string x.1.f1, .slice A x.1.f2.length c, .int .i64 x.2.1, errV 66 x.2.2]
def v64 (x : Stp) (A : Option Addr) (c : Nat) : Value := .agg #[.int .i64 x.1.f0, .string x.1.f1, .slice A x.1.f2.length c, .int .i64 x.2.1, errV 66 x.2.2]
def Es (I : Imm) (x : Stp) (xs : Array Value) : Prop := ∃ A c, xs = #[v64 x A c] ∧ x.1.f2.length ≤ c ∧ Rd (Ty.int .u8) I A x.1.f2
def stop (x : Stp) : Bool := x.2.2.isSome

noncomputable def c42 : Code := cBody Tryd.f42
noncomputable def c42r0 : Code := cL c42
noncomputable def c42b : Code := cR c42
noncomputable def c42lp : Code := cL c42b
noncomputable def c42in : Code := cL c42lp
noncomputable def c42c : Code := cL c42in
noncomputable def c42k : Code := cR c42in
noncomputable def c42r1 : Code := cL c42c
noncomputable def c42cd : Code := cR c42c
noncomputable def c42d : Code := cL c42k
noncomputable def c42r2 : Code := cL c42d
noncomputable def c42e : Code := cR c42d
noncomputable def c42r3 : Code := cL c42e
noncomputable def c42f : Code := cR c42e
noncomputable def c42r4 : Code := cL c42f
noncomputable def c42g : Code := cR c42f
def inv42 (k : Nat) (log : List Int) (c : List Stp) (I0 : Imm) (b1 lid : Nat) (Rk : List Stp → Res → Prop) (kq : Nat) : St := fun K I _ L X =>
  ∃ (e : Int) (pre rest : List Stp) (r : Res), K = [(3, .int .i64 e), (0, .func (.yield lid) #[] #[]), (1, .pointer (some ⟨b1, 0, none⟩))] ∧ L = [] ∧ X = [r] ∧ Imm.le I0 I ∧ recs k log kq e = some rest ∧ pre ++ rest = c ∧ Rk pre r
theorem records1.iter (k : Nat) (log : List Int) (c : List Stp) (hc : recs k log k 0 = some c) (I0 : Imm) (Ap : Option Addr) (cp : Nat) (hl : log.length ≤ cp) (hr : Rd (Ty.int .u8) I0 Ap log) (b1 : Nat)
    (h1 : I0 ⟨b1, 0, none⟩ = some (.slice Ap log.length cp)) (lid : Nat) (Wd : World) : IterR Tryd.prog 42 #[.pointer (some ⟨b1, 0, none⟩)] I0 c Es stop lid Wd := by
  intro Rk r0 hk0 hat0 hY
  have ea : (#[Value.func (.yield lid) #[] #[]] ++ #[Value.pointer (some ⟨b1, 0, none⟩)] : Array Value) = [Value.func (.yield lid) #[] #[], .pointer (some ⟨b1, 0, none⟩)].toArray := by simp
  rw [ea]
  clear ea
  refine calls_body Tryd.func42 (by kernel_rfl) 33 (by kernel_rfl) (by kernel_rfl) ⟨Wd, r0.fp, I0⟩ I0 [r0] [(0, .func (.yield lid) #[] #[]), (1, .pointer (some ⟨b1, 0, none⟩))] (by kernel_rfl) (Sat.startR hat0) ?_
  show OK _ c42 _ _ _ _ _ _ _ _
  refine OK.seq c42r0 c42b (by kernel_rfl) ?_
  refine OK.region 0 (cOps c42r0) (by kernel_rfl) ?_
  refine RL.simP (K' := [(3, .int .i64 0), (0, .func (.yield lid) #[] #[]), (1, .pointer (some ⟨b1, 0, none⟩))]) (nx' := Wd.heap.size) (L' := []) [] (RFacts.nil _ _ _) 1 [.no] (by kernel_rfl) (by kernel_rfl) ?_
  refine RL.nil (by kernel_rfl) ?_
  refine QN.then_ ?_
  refine OK.block 0 c42lp (by kernel_rfl) ?_
  refine OK.loopInv c42in (by kernel_rfl) (inv42 k log c I0 b1 lid Rk) k ⟨0, [], c, r0, rfl, rfl, rfl, Imm.le_refl _, hc, rfl, hk0⟩ (fun K I nx L X h => ?_) ?_
  · obtain ⟨e, pre, rest, r, _, _, _, _, h5, _⟩ := h
    cases h5
  rintro kq _ I nx _ _ ⟨e, pre, rest, r, rfl, rfl, rfl, hle, hrec, hpre, hk⟩ Q' hJn hQ
  refine OK.seq c42c c42k (by kernel_rfl) ?_
  refine OK.seq c42r1 c42cd (by kernel_rfl) ?_
  refine OK.region 1 (cOps c42r1) (by kernel_rfl) ?_
  refine RL.simP (K' := [(10, .bool (decide (e < (log.length : Int)))), (3, .int .i64 e), (0, .func (.yield lid) #[] #[]), (1, .pointer (some ⟨b1, 0, none⟩))]) (nx' := nx) (L' := []) [(⟨b1, 0, none⟩, .slice Ap log.length cp)] (RFacts.imm (hle _ _ h1) (RFacts.nil _ _ _)) 4 [.no, .r 0, .no, .no] (by kernel_rfl) (by kernel_rfl) ?_
  refine RL.nil (by kernel_rfl) ?_
  refine QN.then_ ?_
  -- the function's end
  have fin : ∀ (r : Res) (I : Imm) (nx : Nat) (L : List Blk) (K : List (Nat × Value)) (e : Exit), Rk c r → (e = .normal ∨ e = .ret) → QN (bodyPost Tryd.prog Tryd.f42 fun e w' => (∃ v, e = .returned v) ∧ ∃ I r, Rk c r ∧ At (fun k => r0.fp k ∨ Wd.heap.size ≤ k) I0 I r w' ∧ Evo r0.fp Wd w' ∧ (∀ k, r.fp k → r0.fp k ∨ Wd.heap.size ≤ k)) e ⟨33, []⟩ K ⟨Wd, r0.fp, I0⟩ I nx L [r] := by
    intro r I nx L K e hk he
    refine QN.body rfl [] (RFacts.nil _ _ _) .no (.tuple #[]) (by kernel_rfl) (by kernel_rfl) (by kernel_rfl) ?_ _ he
    exact fun w' hs' => ⟨⟨_, rfl⟩, I, r, hk, hs'.atR, hs'.evo, fun k h => (hs'.rown r List.mem_cons_self k h).2.symm⟩
  refine OK.cond (.tmp 10) (cL c42cd) (cR c42cd) (decide (e < (log.length : Int))) (by kernel_rfl) (by kernel_rfl) (by kernel_rfl) (fun hb => ?_) (fun hb => ?_)
  rotate_left
  · have hlt : ¬ (e < (log.length : Int)) := of_decide_eq_false hb
    rw [recs, if_neg hlt] at hrec
    obtain rfl := Option.some.inj hrec
    rw [List.append_nil] at hpre
    subst hpre
    refine OK.exit 0 (by kernel_rfl) ?_
    refine QN.thenE ?_
    refine QN.outE hQ ?_
    refine QN.blkE ?_
    exact fin _ _ _ _ _ _ hk (.inl rfl)
  have hlt : e < (log.length : Int) := of_decide_eq_true hb
  rw [recs, if_pos hlt] at hrec
  obtain ⟨h0, hrec⟩ := ifs hrec
  obtain ⟨t1, hA1, hrec⟩ := bnd hrec
  have hle1 : e ≤ (log.length : Int) := Int.le_of_lt hlt
  refine OK.skip (by kernel_rfl) ?_
  refine QN.then_ ?_
  refine OK.block 1 c42d (by kernel_rfl) ?_
  refine OK.seq c42r2 c42e (by kernel_rfl) ?_
  refine OK.region 2 (cOps c42r2) (by kernel_rfl) ?_
  refine RL.simP (K' := [(13, .int .i64 e), (12, .slice Ap log.length cp), (3, .int .i64 e), (0, .func (.yield lid) #[] #[]), (1, .pointer (some ⟨b1, 0, none⟩))]) (nx' := nx) (L' := []) [(⟨b1, 0, none⟩, .slice Ap log.length cp)] (RFacts.imm (hle _ _ h1) (RFacts.nil _ _ _)) 2 [.r 0, .no] (by kernel_rfl) (by kernel_rfl) ?_
  refine RL.subL (T := 22) (e := 5) (l := log) (S := Ap) (cap := cp) (lo := e) 1 .i64 (some 14) (by kernel_rfl) (by kernel_rfl) (by kernel_rfl) (by kernel_rfl) h0 hle1 (K' := [(14, .slice (slA Ap (e).toNat cp 1) ((rpart log e (log.length : Int)).length) (cp - (e).toNat)), (13, .int .i64 e), (12, .slice Ap log.length cp), (3, .int .i64 e), (0, .func (.yield lid) #[] #[]), (1, .pointer (some ⟨b1, 0, none⟩))]) (by kernel_rfl) ?_
  refine RL.callP 43 [.slice (slA Ap (e).toNat cp 1) ((rpart log e (log.length : Int)).length) (cp - (e).toNat)] (some 15) (fun w => ledger_first.Post I w t1) (by kernel_rfl) (by kernel_rfl) (fun w hs => ledger_first.calls k I (rpart log e (log.length : Int)) (slA Ap (e).toNat cp 1) (cp - (e).toNat) w hs.im (part_le hl h0 hle1 (Int.le_refl _)) (rd_sub (Rd.ext hle hr) hl h0 hle1 (Int.le_refl _)) t1 hA1) ?_
  rintro w v w' hs ⟨I1, A1, c1, rfl, hg, hl1, hr1⟩
  have hle2 := Imm.le_trans hle hg.le
  refine RL.resume (X' := [r]) rfl (hs.call hg) ?_
  clear hs hg
  generalize w'.heap.size = nx1
  clear w w'
  obtain ⟨t25, tn, te⟩ := t1
  refine RL.simP (K' := [(6, errV 66 te), (5, .int .i64 tn), (4, .pointer (some ⟨nx1, 0, none⟩)), (3, .int .i64 e), (0, .func (.yield lid) #[] #[]), (1, .pointer (some ⟨b1, 0, none⟩))]) (nx' := nx1 + 1) (L' := [⟨nx1, [.int .i64 t25.f0, .string t25.f1, .slice A1 t25.f2.length c1], 25⟩]) [] (RFacts.nil _ _ _) 8 [.no, .no, .no, .no, .no, .l 0, .no, .no] (by kernel_rfl) (by kernel_rfl) ?_
  refine RL.nil (by kernel_rfl) ?_
  refine QN.then_ ?_
  refine OK.seq c42r3 c42f (by kernel_rfl) ?_
  refine OK.region 3 (cOps c42r3) (by kernel_rfl) ?_
  refine RL.simP (K' := [(3, .int .i64 (W .i64 (e + tn))), (6, errV 66 te), (4, .pointer (some ⟨nx1, 0, none⟩)), (0, .func (.yield lid) #[] #[]), (1, .pointer (some ⟨b1, 0, none⟩))]) (nx' := nx1 + 1) (L' := [⟨nx1, [.int .i64 t25.f0, .string t25.f1, .slice A1 t25.f2.length c1], 25⟩]) [] (RFacts.nil _ _ _) 4 [.no, .no, .no, .no] (by kernel_rfl) (by kernel_rfl) ?_
  refine RL.nil (by kernel_rfl) ?_
  refine QN.then_ ?_
  refine OK.seq c42r4 c42g (by kernel_rfl) ?_
  refine OK.regionI 4 (cOps c42r4) (by kernel_rfl) ?_
  -- the yield
  have yl : ∀ (x : Stp) (xr : List Stp), x = (t25, W .i64 (e + tn), te) → (pre ++ [x]) <+: c → ∀ w, Sat ⟨Wd, r0.fp, I0⟩ I1 (nx1 + 1) [⟨nx1, [.int .i64 t25.f0, .string t25.f1, .slice A1 t25.f2.length c1], 25⟩] [r] w →
      YieldAt (Fence.ro none) 0 Tryd.prog lid #[v64 x A1 c1] w fun e w' => e = .returned (.bool (!stop x)) ∧ ∃ r', Rk (pre ++ [x]) r' ∧ Sat ⟨Wd, r0.fp, I0⟩ I1 w'.heap.size [⟨nx1, [.int .i64 t25.f0, .string t25.f1, .slice A1 t25.f2.length c1], 25⟩] [r'] w' := by
    intro x xr ex hp w hs
    subst ex
    refine RW.YieldAt.mono (hY I1 pre _ _ r w hs.atR hk hp ⟨A1, c1, rfl, hl1, hr1⟩) ?_
    rintro e w' ⟨he, r', hk', y⟩
    exact ⟨he, r', hk', hs.yieldedR y⟩
  cases te with
  | none =>
    rw [if_pos rfl] at hrec
    obtain ⟨rest', hrec', hrest⟩ := bnd hrec
    obtain rfl := Option.some.inj hrest
    refine RLi.simP (K' := [(22, .func (.yield lid) #[] #[]), (26, v64 (t25, W .i64 (e + tn), none) A1 c1), (3, .int .i64 (W .i64 (e + tn))), (6, errV 66 none), (0, .func (.yield lid) #[] #[]), (1, .pointer (some ⟨b1, 0, none⟩))]) (nx' := nx1 + 1) (L' := [⟨nx1, [.int .i64 t25.f0, .string t25.f1, .slice A1 t25.f2.length c1], 25⟩]) [] (RFacts.nil _ _ _) 5 [.no, .l 0, .no, .no, .no] (by kernel_rfl) (by kernel_rfl) (by kernel_rfl) ?_
    refine RLi.yieldR (fun r' => Rk (pre ++ [(t25, W .i64 (e + tn), none)]) r') true lid #[v64 (t25, W .i64 (e + tn), none) A1 c1] (some 27) (by kernel_rfl) (by kernel_rfl) (by kernel_rfl) (fun w hs => yl _ rest' rfl ⟨rest', by rw [← hpre]; simp⟩ w hs) (fun nx3 r' hk' => ?_)
    refine RLi.simP (K' := [(32, .bool false), (3, .int .i64 (W .i64 (e + tn))), (0, .func (.yield lid) #[] #[]), (1, .pointer (some ⟨b1, 0, none⟩))]) (nx' := nx3) (L' := [⟨nx1, [.int .i64 t25.f0, .string t25.f1, .slice A1 t25.f2.length c1], 25⟩]) [] (RFacts.nil _ _ _) 5 [.no, .no, .no, .no, .no] (by kernel_rfl) (by kernel_rfl) (by kernel_rfl) ?_
    refine RLi.nil (by kernel_rfl) ?_
    refine QN.then_ ?_
    refine OK.condF (.tmp 32) (cL c42g) (cR c42g) (by kernel_rfl) (by kernel_rfl) (by kernel_rfl) ?_
    refine OK.skip (by kernel_rfl) ?_
    refine QN.blkN ?_
    refine QN.sub (K' := [(3, .int .i64 (W .i64 (e + tn))), (0, .func (.yield lid) #[] #[]), (1, .pointer (some ⟨b1, 0, none⟩))]) (L' := []) (by kernel_rfl) (List.nil_sublist _) (List.Sublist.refl _) ?_
    exact hJn _ _ _ _ _ ⟨_, _, rest', r', rfl, rfl, rfl, hle2, hrec', by rw [← hpre]; simp, hk'⟩
  | some x0 =>
    rw [if_neg (by simp)] at hrec
    obtain rfl := Option.some.inj hrec
    refine RLi.simP (K' := [(22, .func (.yield lid) #[] #[]), (26, v64 (t25, W .i64 (e + tn), some x0) A1 c1), (3, .int .i64 (W .i64 (e + tn))), (6, errV 66 (some x0)), (0, .func (.yield lid) #[] #[]), (1, .pointer (some ⟨b1, 0, none⟩))]) (nx' := nx1 + 1) (L' := [⟨nx1, [.int .i64 t25.f0, .string t25.f1, .slice A1 t25.f2.length c1], 25⟩]) [] (RFacts.nil _ _ _) 5 [.no, .l 0, .no, .no, .no] (by kernel_rfl) (by kernel_rfl) (by kernel_rfl) ?_
    refine RLi.yieldR (fun r' => Rk (pre ++ [(t25, W .i64 (e + tn), some x0)]) r') false lid #[v64 (t25, W .i64 (e + tn), some x0) A1 c1] (some 27) (by kernel_rfl) (by kernel_rfl) (by kernel_rfl) (fun w hs => yl _ [] rfl ⟨[], by rw [← hpre]; simp⟩ w hs) (fun nx3 r' hk' => ?_)
    refine RLi.simP (K' := [(32, .bool true)]) (nx' := nx3) (L' := [⟨nx1, [.int .i64 t25.f0, .string t25.f1, .slice A1 t25.f2.length c1], 25⟩]) [] (RFacts.nil _ _ _) 5 [.no, .no, .no] (by kernel_rfl) (by kernel_rfl) (by kernel_rfl) ?_
    refine RLi.nil (by kernel_rfl) ?_
    refine QN.then_ ?_
    refine OK.condT (.tmp 32) (cL c42g) (cR c42g) (by kernel_rfl) (by kernel_rfl) (by kernel_rfl) ?_
    refine OK.ret (by kernel_rfl) ?_
    refine QN.blkR ?_
    refine QN.outR hQ ?_
    refine QN.blkR ?_
    exact fin _ _ _ _ _ _ (by rw [hpre] at hk'; exact hk') (.inr rfl)

/-! ### Scan -/
noncomputable def c16 : Code := cBody Tryd.f16
noncomputable def c16r0 : Code := cL c16
noncomputable def c16a : Code := cR c16
noncomputable def c16r1 : Code := cL c16a
noncomputable def c16b : Code := cR c16a
noncomputable def c16r2 : Code := cL c16b
noncomputable def c16d : Code := cR c16b
noncomputable def c16e : Code := cL c16d
noncomputable def c16t : Code := cR c16d
noncomputable def c16r3 : Code := cL c16e
noncomputable def c16bk : Code := cR c16e
noncomputable def c16rf : Code := cL c16bk
noncomputable def c16as : Code := cAs c16rf
noncomputable def c16bd : Code := cBd c16rf
noncomputable def c16b1 : Code := cL c16bd
noncomputable def c16r5 : Code := cL c16b1
noncomputable def c16b2 : Code := cR c16b1
noncomputable def c16b3 : Code := cL c16b2
noncomputable def c16r8 : Code := cR c16b2
noncomputable def c16r6 : Code := cL c16b3
noncomputable def c16cd : Code := cR c16b3
noncomputable def c16h : Code := cL c16cd
noncomputable def c16n : Code := cR c16cd
noncomputable def c16r7 : Code := cL c16h
noncomputable def c16rt : Code := cR c16h
noncomputable def c16r9 : Code := cL c16t
noncomputable def c16re : Code := cR c16t
noncomputable def O8 : List Oper := cOps c16r8
noncomputable def an8 : List Nat := ancs O8 []

section
variable {P : Program} {B : Base} {I : Imm} {nx : Nat} {L : List Blk} {X : List Res}
theorem ranBlk {s : Sem Next} {g : Nat} {ty : TypeId} {old new : List Value} {x : Next} {w : World} (hs : Sat B I nx L (RW.kblk g ty old :: X) w)
    (h1 : (simS P [] s (.l L.length) nx (L ++ [⟨g, old, ty⟩]) []).map (fun x => (x.1, x.2.1, x.2.2.1)) = some (x, nx, L ++ [⟨g, new, ty⟩]))
    (h2 : (simS P [] s (.l L.length) nx (L ++ [⟨g, old, ty⟩]) []).map (fun x => x.2.2.2.map (·.1)) = (simS P [] s (.l L.length) nx (L ++ [⟨g, old, ty⟩]) []).map (fun x => x.2.2.2.map (·.2))) :
    ∃ w', s.run P w = .ok x w' ∧ Sat B I nx L (RW.kblk g ty new :: X) w' := by
  have hs2 := hs.kblk
  cases hx : simS P [] s (.l L.length) nx (L ++ [⟨g, old, ty⟩]) [] with
  | none => rw [hx] at h1; cases h1
  | some y =>
    obtain ⟨x1, nx', L', es'⟩ := y
    rw [hx] at h1 h2
    simp only [Option.map_some, Option.some.injEq, Prod.mk.injEq] at h1 h2
    obtain ⟨rfl, rfl, rfl⟩ := h1
    obtain ⟨_, w', hr, hs3⟩ := simS_sound (R := []) (fun _ _ _ _ r hr => by cases hr) _ _ _ _ _ w _ _ _ _ hx (eqs_of_map h2) hs2
    exact ⟨w', hr, hs3.unkblk⟩
end
abbrev pt' (g o : Nat) : Value := .pointer (some ⟨g, o, none⟩)
def c25 (x : S25) (A : Option Addr) (c : Nat) : List Value := [.int .i64 x.f0, .string x.f1, .slice A x.f2.length c]
def K8 (g5 g6 gs : Nat) : List (Nat × Value) := [(5, pt' g5 0), (6, pt' g6 0), (7, pt' gs 0)]
def L8 (gs g6 : Nat) (x : Stp) (A1 : Option Addr) (c1 : Nat) (en : Int) : List Blk := [⟨gs, c64 x A1 c1, 64⟩, ⟨g6, [.int .i64 en], 3⟩]
noncomputable def vl8 (A : Option Addr) (c : Nat) (l : List S25) (x : Stp) : List (Nat × (Wt → Value)) := [(0, fun _ => .slice A l.length c), (3, fun x => .slice (some ⟨(x 0).2.1, 0, none⟩) 1 1), (4, fun y => .slice (y 0).1 (l ++ [x.1]).length (y 0).2.1), (7, fun _ => undef)]
noncomputable def vs8 (gs : Nat) (A : Option Addr) (c : Nat) (l : List S25) (x : Stp) (A1 : Option Addr) (c1 : Nat) (u : Nat → Wt) : List Value := [.slice A l.length c, pt' gs 0, .agg #[.int .i64 x.1.f0, .string x.1.f1, .slice A1 x.1.f2.length c1], .slice (some ⟨(u 3 0).2.1, 0, none⟩) 1 1, .slice (u 4 0).1 (l ++ [x.1]).length (u 4 0).2.1, pt' gs 3, .int .i64 x.2.1, undef]
noncomputable def f8 (g5 g6 gs : Nat) (A : Option Addr) (c : Nat) (l : List S25) (x : Stp) (A1 : Option Addr) (c1 : Nat) (i : Nat) (u : Nat → Wt) : List (Nat × Value) := foldPut ⟨29, []⟩ (K8 g5 g6 gs) (O8.take i) ((vs8 gs A c l x A1 c1 u).take i)
theorem ok8 : drawOk O8 an8 8 = true := by kernel_rfl
noncomputable def q8 (g5 g6 gs : Nat) (A : Option Addr) (c : Nat) (l : List S25) (x : Stp) (A1 : Option Addr) (c1 : Nat) (en : Int) (u : Nat → Wt) : Option (List Value × List (Nat × Value) × List (Nat × Nat)) := qSim Tryd.prog [] (L8 gs g6 x A1 c1 en) O8 ⟨29, []⟩ (vl8 A c l x) [] u [.no, .no, .l 0, .no, .no, .no, .l 0, .no] 0 (O8.take 8) (K8 g5 g6 gs)
theorem q8v (g5 g6 gs : Nat) (A : Option Addr) (c : Nat) (l : List S25) (x : Stp) (A1 : Option Addr) (c1 : Nat) (en : Int) (u : Nat → Wt) : (q8 g5 g6 gs A c l x A1 c1 en u).map (fun x => (x.1, x.2.1)) = some (vs8 gs A c l x A1 c1 u, f8 g5 g6 gs A c l x A1 c1 8 u) := by kernel_rfl
theorem q8e (g5 g6 gs : Nat) (A : Option Addr) (c : Nat) (l : List S25) (x : Stp) (A1 : Option Addr) (c1 : Nat) (en : Int) (u : Nat → Wt) : (q8 g5 g6 gs A c l x A1 c1 en u).map (fun x => x.2.2.map (·.1)) = (q8 g5 g6 gs A c l x A1 c1 en u).map (fun x => x.2.2.map (·.2)) := by kernel_rfl
def X8 (g5 : Nat) (A : Option Addr) (c : Nat) (cs : List Value) (l : List S25) (x : Stp) (A1 : Option Addr) (c1 : Nat) (Y : List Res) (d3 d4 d7 : Bool) (x3 x4 : Wt) : List Res :=
  (bif d4 then orow 25 3 (x4 0).1 (l ++ [x.1]).length (x4 0).2.1 (x4 0).2.2 else orow 25 3 A l.length c cs) :: RW.kblk g5 23 (bif d7 then [.slice (x4 0).1 (l ++ [x.1]).length (x4 0).2.1] else [.slice A l.length c]) :: (Y ++ (bif d3 then [RW.kblk (x3 0).2.1 25 (c25 x.1 A1 c1)] else []))
def S8 (B : Base) (I : Imm) (g5 g6 gs : Nat) (A : Option Addr) (c : Nat) (cs : List Value) (l : List S25) (x : Stp) (A1 : Option Addr) (c1 : Nat) (en : Int) (Y : List Res) (d0 d3 d4 d7 : Bool) (x3 x4 : Wt) (w : World) : Prop :=
  (d7 = true → d4 = true) ∧ (d4 = true → d0 = true ∧ d3 = true) ∧ (d4 = true → Reps t25 I (l ++ [x.1]) (x4 0).2.2) ∧ Sat B I w.heap.size (L8 gs g6 x A1 c1 en) (X8 g5 A c cs l x A1 c1 Y d3 d4 d7 x3 x4) w
theorem scan_r8 {lid : Nat} {Q : Exit → Act → World → Prop} {B : Base} {I : Imm} {nx : Nat} (hQ : ¬ LetsOut Q) (g5 g6 gs : Nat) (x : Stp) (A1 : Option Addr) (c1 : Nat) (hl1 : x.1.f2.length ≤ c1) (hr1 : Rd (Ty.int .u8) I A1 x.1.f2)
    (A : Option Addr) (c : Nat) (cs : List Value) (l : List S25) (en : Int) (hp : Reps t25 I l cs) (hz : (l.length + [x.1].length) * 48 ≤ 140737488355328) (Y : List Res)
    (hk : ∀ A' c' cs' nx' lit, Reps t25 I (l ++ [x.1]) cs' → QN Q .normal ⟨29, []⟩ [] B I nx' [⟨gs, c64 x A1 c1, 64⟩, ⟨g6, [.int .i64 x.2.1], 3⟩] (orow 25 3 A' (l ++ [x.1]).length c' cs' :: RW.kblk g5 23 [.slice A' (l ++ [x.1]).length c'] :: (Y ++ [lit]))) :
    OKr lid Tryd.prog c16r8 Q ⟨29, []⟩ (K8 g5 g6 gs) B I nx (L8 gs g6 x A1 c1 en) (orow 25 3 A l.length c cs :: RW.kblk g5 23 [.slice A l.length c] :: Y) := by
  obtain ⟨e1, h1, h2⟩ := vsOf_eq (P := Tryd.prog) (R := []) (L := L8 gs g6 x A1 c1 en) (os := O8) (A := ⟨29, []⟩) (vl := vl8 A c l x) (gl := []) (locs := [.no, .no, .l 0, .no, .no, .no, .l 0, .no]) (t := 8) (K := K8 g5 g6 gs) (q8v g5 g6 gs A c l x A1 c1 en)
  refine OKr.drawnG hQ 8 8 O8 an8 (by kernel_rfl) (by kernel_rfl) (by kernel_rfl) (vl8 A c l x) [] [] (L8 gs g6 x A1 c1 en) [.no, .no, .l 0, .no, .no, .no, .l 0, .no] rfl ok8 (by kernel_rfl) h1 (q8e g5 g6 gs A c l x A1 c1 en)
    (fun D u w => S8 B I g5 g6 gs A c cs l x A1 c1 en Y (D 0) (D 3) (D 4) (D 7) (u 3) (u 4) w) ?_ ?_ [f8 g5 g6 gs A c l x A1 c1 0, f8 g5 g6 gs A c l x A1 c1 3, f8 g5 g6 gs A c l x A1 c1 4, f8 g5 g6 gs A c l x A1 c1 7] ?_ ?_ [] framesOk.nil trivial (fun u => f8 g5 g6 gs A c l x A1 c1 8 u) h2 ?_
  · rintro D u w ⟨_, _, _, hs⟩
    exact ⟨hs.blk, fun r hr => by cases hr⟩
  · intro u w hs
    refine ⟨fun h => (by cases h), fun h => (by cases h), fun h => (by cases h), ?_⟩
    show Sat B I _ _ (orow 25 3 A l.length c cs :: RW.kblk g5 23 [.slice A l.length c] :: (Y ++ [])) w
    rw [List.append_nil, hs.hnx]
    exact hs
  · rw [e1]
    exact framesOk.cons (fun u => rfl) (framesOk.cons (fun u => rfl) (framesOk.cons (fun u => rfl) (framesOk.cons (fun u => rfl) framesOk.nil)))
  · refine ⟨?_, ?_, ?_, ?_, trivial⟩
    · -- the load
      rintro D u w h0 _ ⟨a7, a4, ar, hs⟩
      have h4 : D 4 = false := by
        cases h : D 4 with
        | false => rfl
        | true => exact absurd (a4 h).1 (by rw [h0]; decide)
      have h7 : D 7 = false := by
        cases h : D 7 with
        | false => rfl
        | true => exact absurd (a7 h) (by rw [h4]; decide)
      unfold X8 at hs
      rw [h4, h7, cond_false, cond_false] at hs
      have hs1 := hs.perm (List.Perm.swap _ _ _)
      obtain ⟨w', hr, hs2⟩ := ranBlk (P := Tryd.prog) (s := execOp (evalK (f8 g5 g6 gs A c l x A1 c1 0 u)) (O8.getD 0 default)) (new := [.slice A l.length c]) (x := .value (.slice A l.length c)) hs1 (by kernel_rfl) (by kernel_rfl)
      refine Does.run hr ⟨fun _ => (none, 0, []), rfl, ?_⟩
      show S8 B I g5 g6 gs A c cs l x A1 c1 en Y true (D 3) (D 4) (D 7) (u 3) (u 4) w'
      rw [h4, h7]
      refine ⟨fun h => (by cases h), fun h => (by cases h), fun h => (by cases h), ?_⟩
      rw [hs2.hnx]
      exact hs2.perm (List.Perm.swap _ _ _)
    · -- the literal
      rintro D u w h3 _ ⟨a7, a4, ar, hs⟩
      have h4 : D 4 = false := by
        cases h : D 4 with
        | false => rfl
        | true => exact absurd (a4 h).2 (by rw [h3]; decide)
      have h7 : D 7 = false := by
        cases h : D 7 with
        | false => rfl
        | true => exact absurd (a7 h) (by rw [h4]; decide)
      unfold X8 at hs
      rw [h3, h4, h7, cond_false, cond_false, cond_false, List.append_nil] at hs
      refine (Does.make hs.im (fun n_ => .slice (some ⟨n_, 0, none⟩) 1 1) (cs := c25 x.1 A1 c1) (ty := 25) (fun n_ => by kernel_rfl)).mono ?_
      rintro v w' ⟨rfl, hg⟩
      refine ⟨fun _ => (none, w.heap.size, []), rfl, ?_⟩
      show S8 B I g5 g6 gs A c cs l x A1 c1 en Y (D 0) true (D 4) (D 7) (fun _ => (none, w.heap.size, [])) (u 4) w'
      rw [h4, h7]
      refine ⟨fun h => (by cases h), fun h => (by cases h), fun h => (by cases h), ?_⟩
      exact hs.call hg
    · -- the append
      rintro D u w h4 hb ⟨a7, a4, ar, hs⟩
      have h0 : D 0 = true := hb 0 (by kernel_rfl) (by kernel_rfl)
      have h3 : D 3 = true := hb 3 (by kernel_rfl) (by kernel_rfl)
      have h7 : D 7 = false := by
        cases h : D 7 with
        | false => rfl
        | true => exact absurd (a7 h) (by rw [h4]; decide)
      unfold X8 at hs
      rw [h3, h4, h7, cond_false, cond_false, cond_true] at hs
      have hkb := hs.res (RW.kblk (u 3 0).2.1 25 (c25 x.1 A1 c1)) (by simp)
      obtain ⟨S', c', cs', w', hr, hp', hs'⟩ := hs.append_run (P := Tryd.prog) (T := 23) (e := 25) (S := A) 3 48 23 c 1 cs (c25 x.1 A1 c1) t25 l [x.1] 0 (by kernel_rfl) (by kernel_rfl) (by kernel_rfl) (by decide) rfl hp (Reps.single (t25_mk I x.1 hl1 hr1)) (kblk_news (I := I) hkb) hz (by omega)
      have hx : execOp (evalK (f8 g5 g6 gs A c l x A1 c1 4 u)) (O8.getD 4 default) = toNext (Builtin.append_ #[23, 23] 23 #[.slice A l.length c, .slice (some ⟨(u 3 0).2.1, 0, none⟩) [x.1].length 1]) := by kernel_rfl
      refine Does.run (w' := w') (v := .slice S' (l ++ [x.1]).length c') ?_ ?_
      · rw [hx]; exact run_toNext hr
      refine ⟨fun _ => (S', c', cs'), rfl, ?_⟩
      show S8 B I g5 g6 gs A c cs l x A1 c1 en Y (D 0) (D 3) true (D 7) (u 3) (fun _ => (S', c', cs')) w'
      rw [h0, h3, h7]
      exact ⟨fun h => (by cases h), fun _ => ⟨rfl, rfl⟩, fun _ => hp', hs'⟩
    · -- the store
      rintro D u w h7 hb ⟨a7, a4, ar, hs⟩
      have h4 : D 4 = true := hb 4 (by kernel_rfl) (by kernel_rfl)
      obtain ⟨h0, h3⟩ := a4 h4
      unfold X8 at hs
      rw [h3, h4, h7, cond_false, cond_true, cond_true] at hs
      have hs1 := hs.perm (List.Perm.swap _ _ _)
      obtain ⟨w', hr, hs2⟩ := ranBlk (P := Tryd.prog) (s := execOp (evalK (f8 g5 g6 gs A c l x A1 c1 7 u)) (O8.getD 7 default)) (new := [.slice (u 4 0).1 (l ++ [x.1]).length (u 4 0).2.1]) (x := .skip) hs1 (by kernel_rfl) (by kernel_rfl)
      refine .inl ⟨undef, w', .inr ⟨hr, rfl⟩, fun _ => (none, 0, []), rfl, ?_⟩
      show S8 B I g5 g6 gs A c cs l x A1 c1 en Y (D 0) (D 3) (D 4) true (u 3) (u 4) w'
      rw [h0, h3, h4]
      refine ⟨fun _ => rfl, fun _ => ⟨rfl, rfl⟩, fun _ => ar h4, ?_⟩
      rw [hs2.hnx]
      exact hs2.perm (List.Perm.swap _ _ _)
  · rintro u a w ⟨_, _, ar, hs⟩ ha
    refine RL.go (p := 8) (K := f8 g5 g6 gs A c l x A1 c1 8 u) (X := orow 25 3 (u 4 0).1 (l ++ [x.1]).length (u 4 0).2.1 (u 4 0).2.2 :: RW.kblk g5 23 [.slice (u 4 0).1 (l ++ [x.1]).length (u 4 0).2.1] :: (Y ++ [RW.kblk (u 3 0).2.1 25 (c25 x.1 A1 c1)])) ?_ ha hs
    refine RL.simP (K' := []) (nx' := w.heap.size) (L' := [⟨gs, c64 x A1 c1, 64⟩, ⟨g6, [.int .i64 x.2.1], 3⟩]) [] (RFacts.nil _ _ _) 1 [.l 1] (by kernel_rfl) (by kernel_rfl) ?_
    refine RL.nil (by kernel_rfl) ?_
    exact hk _ _ _ _ _ (ar rfl)

/-! ### the stores at a round's end, and behind the loop -/
noncomputable def K16_0 : Code := cBody Tryd.f16
noncomputable def O16_27 : List Oper := cOps (cL (cL (cR (cL (cR (cL (cBd (cL (cR (cL (cR (cR (cR K16_0)))))))))))))
noncomputable def a16_27n : List Nat := [0, 0, 0, 4, 1, 19, 63]
theorem a16_27 : ancs O16_27 [] = a16_27n := by kernel_rfl
theorem a16_27o : drawOk O16_27 a16_27n 6 = true := by kernel_rfl
noncomputable def u16at (gb0 : Nat) (gb1 : Nat) (b1 : Int) (b3_0 : List S25) (Ab3_0 : Option Addr) (cb3_0 : Nat) (b4 : Int) : List Eb := [⟨4, gb0, 23, [.slice none 0 0], [.slice Ab3_0 b3_0.length cb3_0]⟩, ⟨5, gb1, 3, [i6 b1], [i6 b4]⟩]
noncomputable def u16ag  : List (Nat × ((Nat → Wt) → Value)) := []
noncomputable def u16aq (gb0 : Nat) (gb1 : Nat) (gb2 : Nat) (gb3 : Nat) (gb4 : Nat) (gb5 : Nat) (gb6 : Nat) (b1 : Int) (b2 : Int) (b3_0 : List S25) (Ab3_0 : Option Addr) (cb3_0 : Nat) (b4 : Int) (b5_0 : S25) (Ab5_0_2 : Option Addr) (cb5_0_2 : Nat) (b5_1 : Int) (b6 : S66) (er : Option Int) (u : Nat → Wt) : Option (List Value × List (Nat × Value) × List (Nat × Nat)) := qSim Tryd.prog [] [⟨gb2, [i6 b2], 30⟩, ⟨gb3, [.slice Ab3_0 b3_0.length cb3_0], 23⟩, ⟨gb4, [i6 b4], 3⟩, ⟨gb5, [i6 b5_0.f0, .string b5_0.f1, .slice Ab5_0_2 b5_0.f2.length cb5_0_2, i6 b5_1, errV 66 er], 64⟩, ⟨gb6, [i6 b6.f0], 66⟩] O16_27 ⟨29, []⟩ (exVl (u16at gb0 gb1 b1 b3_0 Ab3_0 cb3_0 b4)) u16ag u [.l 1, .l 2, .no, .l 4, .no, .no] 0 (O16_27.take 6) [(8, pt gb6 0), (7, pt gb5 0), (6, pt gb4 0), (5, pt gb3 0), (4, pt gb2 0), (3, pt gb1 0), (2, pt gb0 0)]
noncomputable def u16as (gb6 : Nat) (b3_0 : List S25) (Ab3_0 : Option Addr) (cb3_0 : Nat) (b4 : Int) (b6 : S66) (u : Nat → Wt) : List Value := [.slice Ab3_0 b3_0.length cb3_0, i6 b4, pt gb6 0, i6 b6.f0, undef, undef]
noncomputable def u16af (gb0 : Nat) (gb1 : Nat) (gb2 : Nat) (gb3 : Nat) (gb4 : Nat) (gb5 : Nat) (gb6 : Nat) (b3_0 : List S25) (Ab3_0 : Option Addr) (cb3_0 : Nat) (b4 : Int) (b6 : S66) (i : Nat) (u : Nat → Wt) : List (Nat × Value) := foldPut ⟨29, []⟩ [(8, pt gb6 0), (7, pt gb5 0), (6, pt gb4 0), (5, pt gb3 0), (4, pt gb2 0), (3, pt gb1 0), (2, pt gb0 0)] (O16_27.take i) (((u16as gb6 b3_0 Ab3_0 cb3_0 b4 b6) u).take i)
theorem u16av (gb0 : Nat) (gb1 : Nat) (gb2 : Nat) (gb3 : Nat) (gb4 : Nat) (gb5 : Nat) (gb6 : Nat) (b1 : Int) (b2 : Int) (b3_0 : List S25) (Ab3_0 : Option Addr) (cb3_0 : Nat) (b4 : Int) (b5_0 : S25) (Ab5_0_2 : Option Addr) (cb5_0_2 : Nat) (b5_1 : Int) (b6 : S66) (er : Option Int) (u : Nat → Wt) : (u16aq gb0 gb1 gb2 gb3 gb4 gb5 gb6 b1 b2 b3_0 Ab3_0 cb3_0 b4 b5_0 Ab5_0_2 cb5_0_2 b5_1 b6 er u).map (fun x => (x.1, x.2.1)) = some ((u16as gb6 b3_0 Ab3_0 cb3_0 b4 b6) u, (u16af gb0 gb1 gb2 gb3 gb4 gb5 gb6 b3_0 Ab3_0 cb3_0 b4 b6 6) u) := by kernel_rfl
theorem u16ae (gb0 : Nat) (gb1 : Nat) (gb2 : Nat) (gb3 : Nat) (gb4 : Nat) (gb5 : Nat) (gb6 : Nat) (b1 : Int) (b2 : Int) (b3_0 : List S25) (Ab3_0 : Option Addr) (cb3_0 : Nat) (b4 : Int) (b5_0 : S25) (Ab5_0_2 : Option Addr) (cb5_0_2 : Nat) (b5_1 : Int) (b6 : S66) (er : Option Int) (u : Nat → Wt) : (u16aq gb0 gb1 gb2 gb3 gb4 gb5 gb6 b1 b2 b3_0 Ab3_0 cb3_0 b4 b5_0 Ab5_0_2 cb5_0_2 b5_1 b6 er u).map (fun x => x.2.2.map (·.1)) = (u16aq gb0 gb1 gb2 gb3 gb4 gb5 gb6 b1 b2 b3_0 Ab3_0 cb3_0 b4 b5_0 Ab5_0_2 cb5_0_2 b5_1 b6 er u).map (fun x => x.2.2.map (·.2)) := by kernel_rfl
theorem scan_r7 {lid : Nat} {Q : Exit → Act → World → Prop} {B : Base} {I : Imm} {nx : Nat} (hQ : ¬ LetsOut Q) (g2 g3 g4 g5 g6 gs gd : Nat) (x : Stp) (A1 : Option Addr) (c1 : Nat)
    (A : Option Addr) (c : Nat) (cs : List Value) (l : List S25) (en co : Int) (fr : Res)
    (hk : QN Q .normal ⟨29, []⟩ [(4, pt' g4 0), (3, pt' g3 0), (2, pt' g2 0)] B I nx [⟨g4, [.int .i64 co], 30⟩, ⟨g5, [.slice A l.length c], 23⟩, ⟨g6, [.int .i64 en], 3⟩, ⟨gs, c64 x A1 c1, 64⟩, ⟨gd, [.int .i64 co], 66⟩] [orow 25 3 A l.length c cs, fr, RW.kblk g2 23 [.slice A l.length c], RW.kblk g3 3 [.int .i64 en]]) :
    OKr lid Tryd.prog c16r7 Q ⟨29, []⟩ [(8, pt' gd 0), (7, pt' gs 0), (6, pt' g6 0), (5, pt' g5 0), (4, pt' g4 0), (3, pt' g3 0), (2, pt' g2 0)] B I nx [⟨g4, [.int .i64 0], 30⟩, ⟨g5, [.slice A l.length c], 23⟩, ⟨g6, [.int .i64 en], 3⟩, ⟨gs, c64 x A1 c1, 64⟩, ⟨gd, [.int .i64 co], 66⟩] ([orow 25 3 A l.length c cs, fr] ++ [RW.kblk g2 23 [.slice none 0 0], RW.kblk g3 3 [.int .i64 0]]) := by
  refine OKr.drawnE (X := [orow 25 3 A l.length c cs, fr]) hQ 7 6 O16_27 a16_27n (by kernel_rfl) (by kernel_rfl) (by kernel_rfl) (u16at g2 g3 0 l A c en) u16ag [] (RI.nil _) [.l 1, .l 2, .no, .l 4, .no, .no] a16_27 a16_27o (by kernel_rfl) (by kernel_rfl) (u16as gd l A c en ⟨co⟩) (u16af g2 g3 g4 g5 g6 gs gd l A c en ⟨co⟩ 6) (u16av g2 g3 g4 g5 g6 gs gd 0 0 l A c en x.1 A1 c1 x.2.1 ⟨co⟩ x.2.2) (u16ae g2 g3 g4 g5 g6 gs gd 0 0 l A c en x.1 A1 c1 x.2.1 ⟨co⟩ x.2.2) [u16af g2 g3 g4 g5 g6 gs gd l A c en ⟨co⟩ 4, u16af g2 g3 g4 g5 g6 gs gd l A c en ⟨co⟩ 5] (framesOk.cons (fun u => rfl) (framesOk.cons (fun u => rfl) framesOk.nil)) (EsG.cons (fun u nx => ⟨by kernel_rfl, by kernel_rfl⟩) (EsG.cons (fun u nx => ⟨by kernel_rfl, by kernel_rfl⟩) EsG.nil)) [] framesOk.nil ?_ rfl ?_
  · exact Givens.nil
  intro u
  refine RL.norm (K' := [(19, .int .i64 co), (18, pt' gd 0), (17, .int .i64 en), (16, .slice A l.length c), (8, pt' gd 0), (7, pt' gs 0), (6, pt' g6 0), (5, pt' g5 0), (4, pt' g4 0), (3, pt' g3 0), (2, pt' g2 0)]) (X' := [orow 25 3 A l.length c cs, fr, RW.kblk g2 23 [.slice A l.length c], RW.kblk g3 3 [.int .i64 en]]) (by kernel_rfl) rfl rfl rfl ?_
  clear u
  refine RL.simP (K' := [(4, pt' g4 0), (3, pt' g3 0), (2, pt' g2 0)]) (nx' := nx) (L' := [⟨g4, [.int .i64 co], 30⟩, ⟨g5, [.slice A l.length c], 23⟩, ⟨g6, [.int .i64 en], 3⟩, ⟨gs, c64 x A1 c1, 64⟩, ⟨gd, [.int .i64 co], 66⟩]) [] (RFacts.nil _ _ _) 1 [.l 0] (by kernel_rfl) (by kernel_rfl) ?_
  exact RL.nil (by kernel_rfl) hk
noncomputable def O16_34 : List Oper := cOps (cL (cR (cR (cR (cR K16_0)))))
noncomputable def a16_34n : List Nat := [0, 0, 1, 7, 15]
theorem a16_34 : ancs O16_34 [] = a16_34n := by kernel_rfl
theorem a16_34o : drawOk O16_34 a16_34n 3 = true := by kernel_rfl
noncomputable def u16bt (gb0 : Nat) (b3_0 : List S25) (Ab3_0 : Option Addr) (cb3_0 : Nat) : List Eb := [⟨2, gb0, 23, [.slice none 0 0], [.slice Ab3_0 b3_0.length cb3_0]⟩]
noncomputable def u16bg  : List (Nat × ((Nat → Wt) → Value)) := []
noncomputable def u16bq (gb0 : Nat) (gb1 : Nat) (gb2 : Nat) (gb3 : Nat) (gb4 : Nat) (b1 : Int) (b2 : Int) (b3_0 : List S25) (Ab3_0 : Option Addr) (cb3_0 : Nat) (b4 : Int) (u : Nat → Wt) : Option (List Value × List (Nat × Value) × List (Nat × Nat)) := qSim Tryd.prog [] [⟨gb1, [i6 b1], 3⟩, ⟨gb2, [i6 b2], 30⟩, ⟨gb3, [.slice Ab3_0 b3_0.length cb3_0], 23⟩, ⟨gb4, [i6 b4], 3⟩] O16_34 ⟨29, []⟩ (exVl (u16bt gb0 b3_0 Ab3_0 cb3_0)) u16bg u [.l 2, .l 3, .no] 0 (O16_34.take 3) [(6, pt gb4 0), (5, pt gb3 0), (4, pt gb2 0), (3, pt gb1 0), (2, pt gb0 0)]
noncomputable def u16bs (b3_0 : List S25) (Ab3_0 : Option Addr) (cb3_0 : Nat) (b4 : Int) (u : Nat → Wt) : List Value := [.slice Ab3_0 b3_0.length cb3_0, i6 b4, undef]
noncomputable def u16bf (gb0 : Nat) (gb1 : Nat) (gb2 : Nat) (gb3 : Nat) (gb4 : Nat) (b3_0 : List S25) (Ab3_0 : Option Addr) (cb3_0 : Nat) (b4 : Int) (i : Nat) (u : Nat → Wt) : List (Nat × Value) := foldPut ⟨29, []⟩ [(6, pt gb4 0), (5, pt gb3 0), (4, pt gb2 0), (3, pt gb1 0), (2, pt gb0 0)] (O16_34.take i) (((u16bs b3_0 Ab3_0 cb3_0 b4) u).take i)
theorem u16bv (gb0 : Nat) (gb1 : Nat) (gb2 : Nat) (gb3 : Nat) (gb4 : Nat) (b1 : Int) (b2 : Int) (b3_0 : List S25) (Ab3_0 : Option Addr) (cb3_0 : Nat) (b4 : Int) (u : Nat → Wt) : (u16bq gb0 gb1 gb2 gb3 gb4 b1 b2 b3_0 Ab3_0 cb3_0 b4 u).map (fun x => (x.1, x.2.1)) = some ((u16bs b3_0 Ab3_0 cb3_0 b4) u, (u16bf gb0 gb1 gb2 gb3 gb4 b3_0 Ab3_0 cb3_0 b4 3) u) := by kernel_rfl
theorem u16be (gb0 : Nat) (gb1 : Nat) (gb2 : Nat) (gb3 : Nat) (gb4 : Nat) (b1 : Int) (b2 : Int) (b3_0 : List S25) (Ab3_0 : Option Addr) (cb3_0 : Nat) (b4 : Int) (u : Nat → Wt) : (u16bq gb0 gb1 gb2 gb3 gb4 b1 b2 b3_0 Ab3_0 cb3_0 b4 u).map (fun x => x.2.2.map (·.1)) = (u16bq gb0 gb1 gb2 gb3 gb4 b1 b2 b3_0 Ab3_0 cb3_0 b4 u).map (fun x => x.2.2.map (·.2)) := by kernel_rfl
theorem scan_r9 {Q : Exit → Act → World → Prop} {B : Base} {I : Imm} {nx : Nat} {Dd : List Deferred} (g2 g3 g4 g5 g6 : Nat) (A : Option Addr) (c : Nat) (cs : List Value) (l : List S25) (en : Int) (fr dr : Res)
    (hk : QN Q .normal ⟨29, Dd⟩ [(4, pt' g4 0), (3, pt' g3 0), (2, pt' g2 0)] B I nx [⟨g3, [.int .i64 en], 3⟩, ⟨g4, [.int .i64 0], 30⟩, ⟨g5, [.slice A l.length c], 23⟩, ⟨g6, [.int .i64 en], 3⟩] [orow 25 3 A l.length c cs, fr, dr, RW.kblk g2 23 [.slice A l.length c]]) :
    OK Tryd.prog c16r9 Q ⟨29, Dd⟩ [(6, pt' g6 0), (5, pt' g5 0), (4, pt' g4 0), (3, pt' g3 0), (2, pt' g2 0)] B I nx [⟨g3, [.int .i64 0], 3⟩, ⟨g4, [.int .i64 0], 30⟩, ⟨g5, [.slice A l.length c], 23⟩, ⟨g6, [.int .i64 en], 3⟩] ([orow 25 3 A l.length c cs, fr, dr] ++ [RW.kblk g2 23 [.slice none 0 0]]) := by
  refine OK.drawnE (X := [orow 25 3 A l.length c cs, fr, dr]) 9 3 O16_34 a16_34n (by kernel_rfl) (by kernel_rfl) (u16bt g2 l A c) u16bg [] (RI.nil _) [.l 2, .l 3, .no] a16_34 a16_34o (by kernel_rfl) (by kernel_rfl) (u16bs l A c en) (fun u => foldPut ⟨29, Dd⟩ [(6, pt' g6 0), (5, pt' g5 0), (4, pt' g4 0), (3, pt' g3 0), (2, pt' g2 0)] (O16_34.take 3) ((u16bs l A c en u).take 3)) (fun u => by kernel_rfl) (fun u => by kernel_rfl) [fun u => foldPut ⟨29, Dd⟩ [(6, pt' g6 0), (5, pt' g5 0), (4, pt' g4 0), (3, pt' g3 0), (2, pt' g2 0)] (O16_34.take 2) ((u16bs l A c en u).take 2)] (framesOk.cons (fun u => rfl) framesOk.nil) (EsG.cons (fun u nx => ⟨by kernel_rfl, by kernel_rfl⟩) EsG.nil) [] framesOk.nil ?_ rfl ?_
  · exact Givens.nil
  intro u
  refine RL.norm (K' := [(28, .int .i64 en), (27, .slice A l.length c), (6, pt' g6 0), (5, pt' g5 0), (4, pt' g4 0), (3, pt' g3 0), (2, pt' g2 0)]) (X' := [orow 25 3 A l.length c cs, fr, dr, RW.kblk g2 23 [.slice A l.length c]]) (by kernel_rfl) rfl rfl rfl ?_
  clear u
  refine RL.simP (K' := [(4, pt' g4 0), (3, pt' g3 0), (2, pt' g2 0)]) (nx' := nx) (L' := [⟨g3, [.int .i64 en], 3⟩, ⟨g4, [.int .i64 0], 30⟩, ⟨g5, [.slice A l.length c], 23⟩, ⟨g6, [.int .i64 en], 3⟩]) [] (RFacts.nil _ _ _) 2 [.l 0, .l 1] (by kernel_rfl) (by kernel_rfl) ?_
  exact RL.nil (by kernel_rfl) hk

/-! ### a round -/
def frs (l : List S25) (cs : List Value) : Res := fres (fun I => Reps t25 I l cs) (fun _ _ h => Reps.ext h)
def RX (g2 g3 g4 g5 g6 : Nat) (st : Bool) (A : Option Addr) (c : Nat) (cs : List Value) (l : List S25) (en co : Int) : List Res :=
  [RW.kblk g6 3 [.int .i64 en], orow 25 3 A l.length c cs, RW.kblk g5 23 [.slice A l.length c], RW.kblk g4 30 [.int .i64 (bif st then co else 0)], RW.kblk g3 3 [.int .i64 (bif st then en else 0)], RW.kblk g2 23 [bif st then .slice A l.length c else .slice none 0 0], frs l cs]
theorem scan_round {lid : Nat} {Q : Exit → Act → World → Prop} {B : Base} {I : Imm} {nx : Nat} (hQ : ¬ LetsOut Q) (hG : Glob I) (g2 g3 g4 g5 g6 gs : Nat) (x : Stp) (A1 : Option Addr) (c1 : Nat) (hl1 : x.1.f2.length ≤ c1) (hr1 : Rd (Ty.int .u8) I A1 x.1.f2)
    (A : Option Addr) (c : Nat) (cs : List Value) (l : List S25) (en : Int) (hp : Reps t25 I l cs) (hz : (l.length + [x.1].length) * 48 ≤ 140737488355328)
    (k1 : x.2.2 = none → ∀ A' c' cs' nx' w, Reps t25 I (l ++ [x.1]) cs' → Sat B I nx' [] (RX g2 g3 g4 g5 g6 false A' c' cs' (l ++ [x.1]) x.2.1 0) w → ∀ a, Q .normal a w)
    (k2 : ∀ co, x.2.2 = some co → ∀ nx' w, Sat B I nx' [] (RX g2 g3 g4 g5 g6 true A c cs l en co) w → ∀ a, Q .ret a w) :
    OKr lid Tryd.prog c16bd Q ⟨29, []⟩ [(7, pt' gs 0), (2, pt' g2 0), (3, pt' g3 0), (4, pt' g4 0), (5, pt' g5 0), (6, pt' g6 0)] B I nx [⟨gs, c64 x A1 c1, 64⟩] (RX g2 g3 g4 g5 g6 false A c cs l en 0) := by
  refine OKr.block 1 c16b1 (by kernel_rfl) ?_
  refine OKr.seq c16r5 c16b2 (by kernel_rfl) ?_
  refine OKr.region 5 (cOps c16r5) (by kernel_rfl) (letsThen (letsBlock hQ)) (by kernel_rfl) ?_
  refine RL.simP (K' := [(8, pt' nx 0), (7, pt' gs 0), (2, pt' g2 0), (3, pt' g3 0), (4, pt' g4 0), (5, pt' g5 0), (6, pt' g6 0)]) (nx' := nx + 1) (L' := [⟨gs, c64 x A1 c1, 64⟩, ⟨nx, [.int .i64 0], 66⟩]) [] (RFacts.nil _ _ _) 1 [.no] (by kernel_rfl) (by kernel_rfl) ?_
  refine RL.nil (by kernel_rfl) ?_
  refine QN.thenr ?_
  refine OKr.seq c16b3 c16r8 (by kernel_rfl) ?_
  refine OKr.seq c16r6 c16cd (by kernel_rfl) ?_
  refine OKr.region 6 (cOps c16r6) (by kernel_rfl) (letsThen (letsThen (letsBlock hQ))) (by kernel_rfl) ?_
  obtain ⟨x1, xe, xo⟩ := x
  cases xo with
  | none =>
    refine RL.simP (K' := [(13, .nilIface), (14, .iface 68 (pt' nx 0)), (8, pt' nx 0), (7, pt' gs 0), (2, pt' g2 0), (3, pt' g3 0), (4, pt' g4 0), (5, pt' g5 0), (6, pt' g6 0)]) (nx' := nx + 1) (L' := [⟨gs, c64 (x1, xe, none) A1 c1, 64⟩, ⟨nx, [.int .i64 0], 66⟩]) [] (RFacts.nil _ _ _) 3 [.no, .l 0, .no] (by kernel_rfl) (by kernel_rfl) ?_
    refine RL.callP 32 [.nilIface, .iface 68 (pt' nx 0)] (some 15) (fun w v w' => v = .bool false ∧ w' = w) (by kernel_rfl) (by kernel_rfl) (fun w hs => (as_nil (.iface 68 (pt' nx 0)) w).mono fun e w' ⟨he, hw⟩ => ⟨_, he, rfl, hw⟩) ?_
    rintro w v w' hs ⟨rfl, rfl⟩
    refine RL.resume (K' := [(15, .bool false), (13, .nilIface), (14, .iface 68 (pt' nx 0)), (8, pt' nx 0), (7, pt' gs 0), (2, pt' g2 0), (3, pt' g3 0), (4, pt' g4 0), (5, pt' g5 0), (6, pt' g6 0)]) (by kernel_rfl) hs ?_
    clear hs
    refine RL.nil (by kernel_rfl) ?_
    refine QN.thenr ?_
    refine OKr.cond (.tmp 15) c16h c16n false (by kernel_rfl) (by kernel_rfl) (by kernel_rfl) (fun h => by cases h) (fun _ => ?_)
    refine OKr.skip (by kernel_rfl) ?_
    refine QN.thenr ?_
    refine OKr.sub (K' := K8 g5 g6 gs) (L' := [⟨gs, c64 (x1, xe, none) A1 c1, 64⟩]) (by kernel_rfl) (List.Sublist.cons_cons _ (List.nil_sublist _)) (List.Sublist.refl _) ?_
    refine OKr.kblk 0 rfl ?_
    refine scan_r8 (letsBlock hQ) g5 g6 gs (x1, xe, none) A1 c1 hl1 hr1 A c cs l en hp hz [RW.kblk g4 30 [.int .i64 0], RW.kblk g3 3 [.int .i64 0], RW.kblk g2 23 [.slice none 0 0], frs l cs] (fun A' c' cs' nx' lit hp' => ?_)
    refine QN.blkN ?_
    intro a w ha hs
    have h1 : Sat B I nx' [⟨gs, c64 (x1, xe, none) A1 c1, 64⟩] (RW.kblk g6 3 [.int .i64 xe] :: (orow 25 3 A' (l ++ [x1]).length c' cs' :: RW.kblk g5 23 [.slice A' (l ++ [x1]).length c'] :: [RW.kblk g4 30 [.int .i64 0], RW.kblk g3 3 [.int .i64 0], RW.kblk g2 23 [.slice none 0 0], frs l cs, lit])) w :=
      Sat.unkblk (L := [⟨gs, c64 (x1, xe, none) A1 c1, 64⟩]) (b := ⟨g6, [.int .i64 xe], 3⟩) hs
    have h2 := (h1.less (L' := []) (X' := [RW.kblk g6 3 [.int .i64 xe], orow 25 3 A' (l ++ [x1]).length c' cs', RW.kblk g5 23 [.slice A' (l ++ [x1]).length c'], RW.kblk g4 30 [.int .i64 0], RW.kblk g3 3 [.int .i64 0], RW.kblk g2 23 [.slice none 0 0]]) (List.nil_sublist _)
      (.cons_cons _ (.cons_cons _ (.cons_cons _ (.cons_cons _ (.cons_cons _ (.cons_cons _ (List.nil_sublist _)))))))).addf (F := fun I => Reps t25 I (l ++ [x1]) cs') (hF := fun _ _ h => Reps.ext h) hp'
    exact k1 rfl A' c' cs' nx' w hp' h2 a
  | some co =>
    refine RL.simP (K' := [(13, .iface 66 (.agg #[.int .i64 co])), (14, .iface 68 (pt' nx 0)), (8, pt' nx 0), (7, pt' gs 0), (2, pt' g2 0), (3, pt' g3 0), (4, pt' g4 0), (5, pt' g5 0), (6, pt' g6 0)]) (nx' := nx + 1) (L' := [⟨gs, c64 (x1, xe, some co) A1 c1, 64⟩, ⟨nx, [.int .i64 0], 66⟩]) [] (RFacts.nil _ _ _) 3 [.no, .l 0, .no] (by kernel_rfl) (by kernel_rfl) ?_
    refine RL.callP 32 [.iface 66 (.agg #[.int .i64 co]), .iface 68 (pt' nx 0)] (some 15) (fun w v w' => v = .bool true ∧ w' = ((((w.alloc (.cells #[.pointer (some ⟨nx, 0, none⟩)] 68)).alloc (.cells #[.pointer (some ⟨1, 68, none⟩), .pointer (some ⟨w.heap.size, 0, none⟩), .int .u64 150] 80)).alloc (.cells #[.pointer (some ⟨1, 68, none⟩), .pointer (some ⟨w.heap.size, 0, none⟩), .int .u64 150] 80)).alloc (.cells #[.int .i64 co] 66)).setCell ⟨nx, 0, none⟩ (.int .i64 co)) (by kernel_rfl) (by kernel_rfl) (fun w hs => ?_) ?_
    · have hb := hs.blk ⟨nx, [.int .i64 0], 66⟩ (by simp)
      have hb' : w.heap[nx]? = some (.cells #[.int .i64 0] 66 (0, 0)) := hb
      exact (as_hit co nx (.int .i64 0) w ((RFacts.imm hG (RFacts.nil B I _)) _ _ w hs _ List.mem_cons_self) (by simp [World.cell?, hb']) (by simp [World.frozen?, hb'])).mono fun e w' ⟨he, hw⟩ => ⟨_, he, rfl, hw⟩
    rintro w v w' hs ⟨rfl, rfl⟩
    have h1 := hs.new [.pointer (some ⟨nx, 0, none⟩)] 68
    have h2 := h1.new [.pointer (some ⟨1, 68, none⟩), .pointer (some ⟨w.heap.size, 0, none⟩), .int .u64 150] 80
    have h3 := h2.new [.pointer (some ⟨1, 68, none⟩), .pointer (some ⟨w.heap.size, 0, none⟩), .int .u64 150] 80
    have h4 := h3.new [.int .i64 co] 66
    have h5 := (h4.set (i := 1) (b := ⟨nx, [.int .i64 0], 66⟩) rfl (a := ⟨nx, 0, none⟩) rfl rfl (.int .i64 co)).less (L' := [⟨gs, c64 (x1, xe, some co) A1 c1, 64⟩, ⟨nx, [.int .i64 co], 66⟩]) (.cons_cons _ (.cons_cons _ (List.nil_sublist _))) (List.Sublist.refl _)
    refine RL.resume (K' := [(15, .bool true), (13, .iface 66 (.agg #[.int .i64 co])), (14, .iface 68 (pt' nx 0)), (8, pt' nx 0), (7, pt' gs 0), (2, pt' g2 0), (3, pt' g3 0), (4, pt' g4 0), (5, pt' g5 0), (6, pt' g6 0)]) (by kernel_rfl) h5 ?_
    clear h1 h2 h3 h4 h5 hs
    refine RL.nil (by kernel_rfl) ?_
    refine QN.thenr ?_
    refine OKr.cond (.tmp 15) c16h c16n true (by kernel_rfl) (by kernel_rfl) (by kernel_rfl) (fun _ => ?_) (fun h => by cases h)
    refine OKr.sub (K' := [(8, pt' nx 0), (7, pt' gs 0), (6, pt' g6 0), (5, pt' g5 0), (4, pt' g4 0), (3, pt' g3 0), (2, pt' g2 0)]) (by kernel_rfl) (List.Sublist.refl _) (List.Sublist.refl _) ?_
    refine OKr.arrange (L' := [⟨gs, c64 (x1, xe, some co) A1 c1, 64⟩, ⟨nx, [.int .i64 co], 66⟩]) (X' := [RW.kblk g4 30 [.int .i64 0], RW.kblk g5 23 [.slice A l.length c], RW.kblk g6 3 [.int .i64 en], orow 25 3 A l.length c cs, frs l cs, RW.kblk g2 23 [.slice none 0 0], RW.kblk g3 3 [.int .i64 0]]) [0, 1] [3, 2, 0, 1, 6, 5, 4] (by kernel_rfl) (by kernel_rfl) rfl rfl ?_
    refine OKr.kblk 0 rfl ?_
    refine OKr.kblk 0 rfl ?_
    refine OKr.kblk 0 rfl ?_
    refine OKr.arrange (L' := [⟨g4, [.int .i64 0], 30⟩, ⟨g5, [.slice A l.length c], 23⟩, ⟨g6, [.int .i64 en], 3⟩, ⟨gs, c64 (x1, xe, some co) A1 c1, 64⟩, ⟨nx, [.int .i64 co], 66⟩]) (X' := [orow 25 3 A l.length c cs, frs l cs, RW.kblk g2 23 [.slice none 0 0], RW.kblk g3 3 [.int .i64 0]]) [2, 3, 4, 0, 1] [0, 1, 2, 3] (by kernel_rfl) (by kernel_rfl) rfl rfl ?_
    refine OKr.seq c16r7 c16rt (by kernel_rfl) ?_
    refine scan_r7 (letsThen (letsThen (letsBlock hQ))) g2 g3 g4 g5 g6 gs nx (x1, xe, some co) A1 c1 A c cs l en co (frs l cs) ?_
    refine QN.thenr ?_
    refine OKr.ret (by kernel_rfl) ?_
    intro a w ha hs
    have h0 := hs.selB [0, 1, 2] (by kernel_rfl)
    have h1 := Sat.unkblk (L := [⟨g4, [.int .i64 co], 30⟩, ⟨g5, [.slice A l.length c], 23⟩]) (b := ⟨g6, [.int .i64 en], 3⟩) h0
    have h2 := Sat.unkblk (L := [⟨g4, [.int .i64 co], 30⟩]) (b := ⟨g5, [.slice A l.length c], 23⟩) h1
    have h3 := Sat.unkblk (L := []) (b := ⟨g4, [.int .i64 co], 30⟩) h2
    have h4 := h3.sel [2, 3, 1, 0, 6, 5, 4] (by kernel_rfl)
    exact k2 co rfl _ w h4 a

/-! ### the whole -/
theorem recs_stop (k : Nat) (log : List Int) : ∀ (m : Nat) (e : Int) (c : List Stp), recs k log m e = some c → ∀ (pre : List Stp) (x : Stp), (pre ++ [x]) <+: c → pre.any stop = false
  | 0, _, _, h, _, _, _ => by cases h
  | m + 1, e, c, h, pre, x, hp => by
    rw [recs] at h
    split at h
    · obtain ⟨_, h⟩ := ifs h
      obtain ⟨t, _, h⟩ := bnd h
      split at h
      · obtain ⟨r, hr, h⟩ := bnd h
        obtain rfl := Option.some.inj h
        cases pre with
        | nil => rfl
        | cons y pre =>
          rw [List.cons_append, List.cons_prefix_cons] at hp
          rw [List.any_cons, hp.1, recs_stop k log m _ r hr pre x hp.2]
          rfl
      · obtain rfl := Option.some.inj h
        have := hp.length_le
        cases pre with
        | nil => rfl
        | cons y pre => simp at this
    · obtain rfl := Option.some.inj h
      have := hp.length_le
      simp at this
theorem stO_snoc (pre : List Stp) (x : Stp) : stO (pre ++ [x]) = if x.2.2 = none then ((stO pre).1 ++ [x.1], x.2.1) else stO pre := by
  simp [stO, List.foldl_append]
theorem stO_len : ∀ (pre : List Stp) (s : List S25 × Int), (pre.foldl (fun s (x : Stp) => if x.2.2 = none then (s.1 ++ [x.1], x.2.1) else s) s).1.length ≤ s.1.length + pre.length
  | [], s => by simp
  | x :: pre, s => by
    rw [List.foldl_cons]
    refine Nat.le_trans (stO_len pre _) ?_
    split <;> simp <;> omega
theorem stE_some (pre : List Stp) (x : S25) (e co : Int) : stE (pre ++ [(x, e, some co)]) = co := by
  simp [stE]
theorem stE_none (c : List Stp) (h : c.any stop = false) : stE c = 0 := by
  unfold stE
  split
  · rename_i x h2
    have h3 := List.mem_of_getLast? h2
    have h4 := List.any_eq_false.1 h _ h3
    simp [stop] at h4
  · rfl
def RkS (g2 g3 g4 g5 g6 : Nat) (pre : List Stp) (r : Res) : Prop := ∃ A c cs, r = rl (RX g2 g3 g4 g5 g6 (pre.any stop) A c cs (stO pre).1 (stO pre).2 (stE pre))
theorem ran3 {B : Base} {I : Imm} {nx : Nat} {X : List Res} {w : World} (g2 g3 g4 : Nat) (A : Option Addr) (n c : Nat) (en co : Int) (hs : Sat B I nx [⟨g2, [.slice A n c], 23⟩, ⟨g3, [.int .i64 en], 3⟩, ⟨g4, [.int .i64 co], 30⟩] X w) :
    (resultsK Tryd.f16 [(4, pt' g4 0), (3, pt' g3 0), (2, pt' g2 0)]).run Tryd.prog w = .ok (.tuple #[.slice A n c, .int .i64 en, .int .i64 co]) w := by
  have r2 : (loadVar 23 ⟨g2, 0, none⟩).run Tryd.prog w = .ok (.slice A n c) w := simQ_run (RFacts.nil _ _ _) (.l 0) _ (by kernel_rfl) (by kernel_rfl) hs
  have r3 : (loadVar 3 ⟨g3, 0, none⟩).run Tryd.prog w = .ok (.int .i64 en) w := simQ_run (RFacts.nil _ _ _) (.l 1) _ (by kernel_rfl) (by kernel_rfl) hs
  have r4 : (loadVar 30 ⟨g4, 0, none⟩).run Tryd.prog w = .ok (.int .i64 co) w := simQ_run (RFacts.nil _ _ _) (.l 2) _ (by kernel_rfl) (by kernel_rfl) hs
  have e : Tryd.f16.results.toList = [.cell 2 23, .cell 3 3, .cell 4 30] := by kernel_rfl
  have l2 : evalK [(4, pt' g4 0), (3, pt' g3 0), (2, pt' g2 0)] (.tmp 2) = pt' g2 0 := by kernel_rfl
  have l3 : evalK [(4, pt' g4 0), (3, pt' g3 0), (2, pt' g2 0)] (.tmp 3) = pt' g3 0 := by kernel_rfl
  have l4 : evalK [(4, pt' g4 0), (3, pt' g3 0), (2, pt' g2 0)] (.tmp 4) = pt' g4 0 := by kernel_rfl
  unfold resultsK
  rw [Array.mapM_eq_mapM_toList, e]
  simp only [List.mapM_cons, List.mapM_nil, l2, l3, l4, asAddr, bind_assoc, pure_bind, map_eq_pure_bind, Sem.run_bind, r2, r3, r4, Result.andThen]
  simp
theorem any_run {α : Type} {s : Sem α} {v : α} (h : (simQ Tryd.prog [] [] s .no []).map (·.1) = some v) (w : World) : s.run Tryd.prog w = .ok v w := by
  cases hs : simQ Tryd.prog [] [] s .no [] with
  | none => rw [hs] at h; cases h
  | some x =>
    obtain ⟨x1, es1⟩ := x
    rw [hs] at h
    simp only [Option.map_some, Option.some.injEq] at h
    subst h
    exact simQ_any _ _ _ _ hs w
theorem scan_end {w : World} {I0 I : Imm} {nx D : Nat} (g2 g3 g4 g5 g6 : Nat) (A : Option Addr) (c : Nat) (cs : List Value) (l : List S25) (en co : Int) :
    QN (bodyPostM Fence.wide 0 Tryd.prog Tryd.f16 fun e w' => ∃ v, e = .returned v ∧ ledger_Scan.Post I0 w (l, en, co) v w') .ret ⟨29, [{ target := .collected D, args := #[] }]⟩ [(4, pt' g4 0), (3, pt' g3 0), (2, pt' g2 0)] ⟨w, fun _ => False, I0⟩ I nx [] (RX g2 g3 g4 g5 g6 true A c cs l en co ++ [dres D (some [])]) := by
  refine QN.bodyMr (D := D) (m := 7) rfl rfl (.tuple #[.slice A l.length c, .int .i64 en, .int .i64 co]) (by kernel_rfl) (fun w' hs => ?_)
  have h0 : Sat ⟨w, fun _ => False, I0⟩ I nx [] [RW.kblk g6 3 [.int .i64 en], orow 25 3 A l.length c cs, RW.kblk g5 23 [.slice A l.length c], RW.kblk g4 30 [.int .i64 co], RW.kblk g3 3 [.int .i64 en], RW.kblk g2 23 [.slice A l.length c], frs l cs, dres D none] w' := hs
  have h1 := Sat.kblkAt 5 rfl h0
  have h2 := Sat.kblkAt 4 rfl h1
  have h3 := Sat.kblkAt 3 rfl h2
  exact ⟨ran3 g2 g3 g4 A l.length c en co h3, _, rfl, I, A, c, cs, rfl, h0.got [orow 25 3 A l.length c cs] (.cons _ (.cons_cons _ (List.nil_sublist _))), h0.res (frs l cs) (by simp)⟩
theorem ledger_Scan.calls (k : Nat) (I0 : Imm) (a0 : List Int) (Ap0 : Option Addr) (cp0 : Nat) (w : World) (hI : I0.at_ w) (hG : Glob I0) (hlp0 : a0.length ≤ cp0) (hrp0 : Rd (Ty.int .u8) I0 Ap0 a0) (r : List S25 × Int × Int) (h : ledger_Scan.f k a0 = some r) :
    Calls Tryd.prog 16 [.slice Ap0 a0.length cp0].toArray w fun e w' => ∃ v, e = .returned v ∧ ledger_Scan.Post I0 w r v w' := by
  unfold ledger_Scan.f at h
  obtain ⟨c, hc, h⟩ := bnd h
  obtain ⟨hz, h⟩ := ifs h
  obtain rfl := Option.some.inj h
  clear h
  refine calls_bodyM Tryd.func16 (by kernel_rfl) 29 (by kernel_rfl) (by kernel_rfl) ⟨w, fun _ => False, I0⟩ I0 [] [(0, .slice Ap0 a0.length cp0)] (by kernel_rfl) (Sat.start w _ I0 hI) ?_
  generalize w.heap.size = nx0
  show OK _ c16 _ _ _ _ _ _ _ _
  refine OK.seq c16r0 c16a (by kernel_rfl) ?_
  refine OK.region 0 (cOps c16r0) (by kernel_rfl) ?_
  refine RL.simP (K' := [(2, pt' nx0 0), (3, pt' (nx0 + 1) 0), (4, pt' (nx0 + 1 + 1) 0), (0, .slice Ap0 a0.length cp0)]) (nx' := nx0 + 1 + 1 + 1) (L' := [⟨nx0, [.slice none 0 0], 23⟩, ⟨nx0 + 1, [.int .i64 0], 3⟩, ⟨nx0 + 1 + 1, [.int .i64 0], 30⟩]) [] (RFacts.nil _ _ _) 3 [.no, .no, .no] (by kernel_rfl) (by kernel_rfl) ?_
  refine RL.nil (by kernel_rfl) ?_
  refine QN.then_ ?_
  refine OK.seq c16r1 c16b (by kernel_rfl) ?_
  refine OK.region 1 (cOps c16r1) (by kernel_rfl) ?_
  refine RL.simP (K' := [(2, pt' nx0 0), (3, pt' (nx0 + 1) 0), (4, pt' (nx0 + 1 + 1) 0), (5, pt' (nx0 + 1 + 1 + 1) 0), (0, .slice Ap0 a0.length cp0)]) (nx' := nx0 + 1 + 1 + 1 + 1) (L' := [⟨nx0, [.slice none 0 0], 23⟩, ⟨nx0 + 1, [.int .i64 0], 3⟩, ⟨nx0 + 1 + 1, [.int .i64 0], 30⟩, ⟨nx0 + 1 + 1 + 1, [.slice none 0 0], 23⟩]) [] (RFacts.nil _ _ _) 1 [.no] (by kernel_rfl) (by kernel_rfl) ?_
  refine RL.nil (by kernel_rfl) ?_
  refine QN.then_ ?_
  refine OK.seq c16r2 c16d (by kernel_rfl) ?_
  refine OK.region 2 (cOps c16r2) (by kernel_rfl) ?_
  refine RL.simP (K' := [(2, pt' nx0 0), (3, pt' (nx0 + 1) 0), (4, pt' (nx0 + 1 + 1) 0), (5, pt' (nx0 + 1 + 1 + 1) 0), (6, pt' (nx0 + 1 + 1 + 1 + 1) 0), (0, .slice Ap0 a0.length cp0)]) (nx' := nx0 + 1 + 1 + 1 + 1 + 1) (L' := [⟨nx0, [.slice none 0 0], 23⟩, ⟨nx0 + 1, [.int .i64 0], 3⟩, ⟨nx0 + 1 + 1, [.int .i64 0], 30⟩, ⟨nx0 + 1 + 1 + 1, [.slice none 0 0], 23⟩, ⟨nx0 + 1 + 1 + 1 + 1, [.int .i64 0], 3⟩]) [] (RFacts.nil _ _ _) 2 [.no, .l 4] (by kernel_rfl) (by kernel_rfl) ?_
  refine RL.nil (by kernel_rfl) ?_
  refine QN.then_ ?_
  refine OK.seq c16e c16t (by kernel_rfl) ?_
  refine OK.seq c16r3 c16bk (by kernel_rfl) ?_
  refine OK.region 3 (cOps c16r3) (by kernel_rfl) ?_
  generalize nx0 + 1 + 1 + 1 + 1 + 1 = nx1
  generalize nx0 + 1 + 1 + 1 + 1 = g6
  generalize nx0 + 1 + 1 + 1 = g5
  generalize nx0 + 1 + 1 = g4
  generalize nx0 + 1 = g3
  generalize nx0 = g2
  refine RL.simP (K' := [(9, .slice Ap0 a0.length cp0), (2, pt' g2 0), (3, pt' g3 0), (4, pt' g4 0), (5, pt' g5 0), (6, pt' g6 0)]) (nx' := nx1) (L' := [⟨g2, [.slice none 0 0], 23⟩, ⟨g3, [.int .i64 0], 3⟩, ⟨g4, [.int .i64 0], 30⟩, ⟨g5, [.slice none 0 0], 23⟩, ⟨g6, [.int .i64 0], 3⟩]) [] (RFacts.nil _ _ _) 1 [.no] (by kernel_rfl) (by kernel_rfl) ?_
  refine RL.callP 31 [.slice Ap0 a0.length cp0] (some 10) (fun w => records.Post I0 w Ap0 a0.length cp0) (by kernel_rfl) (by kernel_rfl) (fun w hs => records.calls I0 Ap0 a0.length cp0 w hs.im) ?_
  rintro w1 v w2 hs ⟨J, b1, rfl, hg, hb1⟩
  have hJ := hg.le
  refine RL.resume (K' := [(10, fv42 b1), (9, .slice Ap0 a0.length cp0), (2, pt' g2 0), (3, pt' g3 0), (4, pt' g4 0), (5, pt' g5 0), (6, pt' g6 0)]) (X' := []) (by kernel_rfl) (hs.call hg) ?_
  clear hs hg
  generalize w2.heap.size = nx2
  clear w1 w2
  refine RL.nil (by kernel_rfl) ?_
  refine QN.then_ ?_
  refine OK.block 0 c16rf (by kernel_rfl) ?_
  refine OK.nilRow 25 3 ?_
  intro a w1 ha hs
  have h1 := Sat.unkblk (L := [⟨g2, [.slice none 0 0], 23⟩, ⟨g3, [.int .i64 0], 3⟩, ⟨g4, [.int .i64 0], 30⟩, ⟨g5, [.slice none 0 0], 23⟩]) (b := ⟨g6, [.int .i64 0], 3⟩) hs
  have h2 := Sat.unkblk (L := [⟨g2, [.slice none 0 0], 23⟩, ⟨g3, [.int .i64 0], 3⟩, ⟨g4, [.int .i64 0], 30⟩]) (b := ⟨g5, [.slice none 0 0], 23⟩) h1
  have h3 := Sat.unkblk (L := [⟨g2, [.slice none 0 0], 23⟩, ⟨g3, [.int .i64 0], 3⟩]) (b := ⟨g4, [.int .i64 0], 30⟩) h2
  have h4 := Sat.unkblk (L := [⟨g2, [.slice none 0 0], 23⟩]) (b := ⟨g3, [.int .i64 0], 3⟩) h3
  have h5 := Sat.unkblk (L := []) (b := ⟨g2, [.slice none 0 0], 23⟩) h4
  have h6 := (h5.addf (F := fun I => Reps t25 I [] []) (hF := fun _ _ h => Reps.ext h) rfl).sel [4, 5, 3, 2, 1, 0, 6] (by kernel_rfl)
  have h7 : Sat ⟨w, fun _ => False, I0⟩ J nx2 [] (RX g2 g3 g4 g5 g6 false none 0 [] [] 0 0) w1 := h6
  clear h1 h2 h3 h4 h5 h6 hs
  have hrf : c16rf = .rangeFunc (.tmp 10) #[11] c16as c16bd := by kernel_rfl
  rw [hrf]
  refine range_wpR (gf := 42) (lb := #[.pointer (some ⟨b1, 0, none⟩)]) ((ha.eval (by kernel_rfl)).trans (by kernel_rfl)) (fun args w => any_run (by kernel_rfl) w) Es (fun I x xs ⟨A, c, e, _⟩ => by rw [e]; rfl) stop c (recs_stop k a0 k 0 c hc) J (RkS g2 g3 g4 g5 g6) (rl (RX g2 g3 g4 g5 g6 false none 0 [] [] 0 0)) ⟨none, 0, [], rfl⟩ h7.atl ?_ ?_ ?_
  · -- a round
    rintro lid I pre x xs _ W hat ⟨A, c', cs, rfl⟩ hpre ⟨A1, c1, rfl, hl1, hr1⟩ hwl hlW hnl hIl
    have hst := recs_stop k a0 k 0 c hc pre x hpre
    simp only [hst, stE_none pre hst] at hat hnl ⊢
    refine (OKr.region 4 (cOps c16as) (by kernel_rfl) (fun ⟨_, _, h⟩ => h) (by kernel_rfl) ?_ : OKr lid Tryd.prog c16as _ ⟨29, []⟩ [(11, v64 x A1 c1), (10, fv42 b1), (9, .slice Ap0 a0.length cp0), (2, pt' g2 0), (3, pt' g3 0), (4, pt' g4 0), (5, pt' g5 0), (6, pt' g6 0)] ⟨W, fun _ => False, I⟩ I W.heap.size [] []) _ W (knows_round ha 11 (v64 x A1 c1)) (Sat.start W _ I hat.im)
    refine RL.simP (K' := [(7, pt' W.heap.size 0), (2, pt' g2 0), (3, pt' g3 0), (4, pt' g4 0), (5, pt' g5 0), (6, pt' g6 0)]) (nx' := W.heap.size + 1) (L' := [⟨W.heap.size, c64 x A1 c1, 64⟩]) [] (RFacts.nil _ _ _) 2 [.no, .l 0] (by clear hst hpre hat hnl hl1 hr1; obtain ⟨x1, xe, xo⟩ := x; cases xo <;> kernel_rfl) (by clear hst hpre hat hnl hl1 hr1; obtain ⟨x1, xe, xo⟩ := x; cases xo <;> kernel_rfl) ?_
    refine RL.nil (by kernel_rfl) ?_
    intro a1 W1 ha1 hs1
    have hge : W.heap.size ≤ W1.heap.size := hs1.evo.size
    refine ⟨hs1.evo, fun W2 hev => ?_⟩
    have hge2 := hev.size
    have hlen : (stO pre).1.length ≤ pre.length := by
      have := stO_len pre ([], 0)
      unfold stO
      simpa using this
    have hlen2 := hpre.length_le
    simp only [List.length_append, List.length_singleton] at hlen2
    refine scan_round (lid := lid) (fun ⟨_, _, h⟩ => by have := h.1; split at this <;> cases this) (Glob.ext (Imm.le_trans hJ hat.le) hG) g2 g3 g4 g5 g6 W.heap.size x A1 c1 hl1 hr1 A c' cs (stO pre).1 (stO pre).2 (hat.res.1 (frs (stO pre).1 cs) (by simp [RX])) (by show ((stO pre).1.length + 1) * 48 ≤ _; omega) (fun hx A' c'' cs' nx' w3 hp' hs3 a3 => ?_) (fun co hx nx' w3 hs3 a3 => ?_) a1 W2 ha1 (hat.body hs1 hev hlW hnl hIl hge)
    · have hst' : (pre ++ [x]).any stop = false := by simp [hst, stop, hx]
      refine ⟨by simp [stop, hx], _, ⟨A', c'', cs', ?_⟩, hs3.rend (by omega) hs3.res⟩
      rw [hst', stO_snoc, if_pos hx, stE_none _ hst']
    · have hst' : (pre ++ [x]).any stop = true := by simp [stop, hx]
      refine ⟨by simp [stop, hx], _, ⟨A, c', cs, ?_⟩, hs3.rend (by omega) hs3.res⟩
      obtain ⟨x1, xe, xo⟩ := x
      obtain rfl : xo = some co := hx
      rw [hst', stO_snoc, if_neg (by simp), stE_some]
  · -- the iterator
    exact fun l W _ _ => records1.iter k a0 c hc J Ap0 cp0 hlp0 (Rd.ext hJ hrp0) b1 hb1 l W
  · -- behind it
    rintro D W I _ hD ⟨A, c', cs, rfl⟩ hat hnD hev hfp hdef
    have h8 := h7.turnedR hat hev hfp hD hnD hdef
    have hkn : Knows ⟨29, [{ target := .collected D, args := #[] }]⟩ [(10, fv42 b1), (9, .slice Ap0 a0.length cp0), (2, pt' g2 0), (3, pt' g3 0), (4, pt' g4 0), (5, pt' g5 0), (6, pt' g6 0)] { a with defers := { target := .collected D, args := #[] } :: a.defers } := ⟨ha.size, by show _ :: a.defers = _; rw [ha.defers], ha.slot⟩
    cases hst : c.any stop with
    | true =>
      rw [hst] at h8
      refine (?_ : QN (Exit.inBlock 0 (Exit.then (c16t.wp Tryd.prog (bodyPostM Fence.wide 0 Tryd.prog Tryd.f16 _)) (bodyPostM Fence.wide 0 Tryd.prog Tryd.f16 _))) .ret ⟨29, [{ target := .collected D, args := #[] }]⟩ [(10, fv42 b1), (9, .slice Ap0 a0.length cp0), (2, pt' g2 0), (3, pt' g3 0), (4, pt' g4 0), (5, pt' g5 0), (6, pt' g6 0)] ⟨w, fun _ => False, I0⟩ I W.heap.size [] _) _ W hkn h8
      refine QN.blkR ?_
      refine QN.thenR ?_
      refine QN.sub (K' := [(4, pt' g4 0), (3, pt' g3 0), (2, pt' g2 0)]) (by kernel_rfl) (List.Sublist.refl _) (List.Sublist.refl _) ?_
      exact scan_end g2 g3 g4 g5 g6 A c' cs (stO c).1 (stO c).2 (stE c)
    | false =>
      rw [hst, stE_none c hst] at h8
      refine (?_ : QN (Exit.inBlock 0 (Exit.then (c16t.wp Tryd.prog (bodyPostM Fence.wide 0 Tryd.prog Tryd.f16 _)) (bodyPostM Fence.wide 0 Tryd.prog Tryd.f16 _))) .normal ⟨29, [{ target := .collected D, args := #[] }]⟩ [(10, fv42 b1), (9, .slice Ap0 a0.length cp0), (2, pt' g2 0), (3, pt' g3 0), (4, pt' g4 0), (5, pt' g5 0), (6, pt' g6 0)] ⟨w, fun _ => False, I0⟩ I W.heap.size [] _) _ W hkn h8
      refine QN.blkN ?_
      refine QN.then_ ?_
      refine OK.seq c16r9 c16re (by kernel_rfl) ?_
      refine OK.sub (K' := [(6, pt' g6 0), (5, pt' g5 0), (4, pt' g4 0), (3, pt' g3 0), (2, pt' g2 0)]) (by kernel_rfl) (List.Sublist.refl _) (List.Sublist.refl _) ?_
      refine OK.arrange (L' := []) (X' := [RW.kblk g3 3 [.int .i64 0], RW.kblk g4 30 [.int .i64 0], RW.kblk g5 23 [.slice A (stO c).1.length c'], RW.kblk g6 3 [.int .i64 (stO c).2], orow 25 3 A (stO c).1.length c' cs, frs (stO c).1 cs, dres D (some []), RW.kblk g2 23 [.slice none 0 0]]) [] [4, 3, 2, 0, 1, 6, 7, 5] (by kernel_rfl) (by kernel_rfl) rfl rfl ?_
      refine OK.kblkAt 0 rfl ?_
      refine OK.kblkAt 0 rfl ?_
      refine OK.kblkAt 0 rfl ?_
      refine OK.kblkAt 0 rfl ?_
      refine scan_r9 g2 g3 g4 g5 g6 A c' cs (stO c).1 (stO c).2 (frs (stO c).1 cs) (dres D (some [])) ?_
      refine QN.then_ ?_
      refine OK.ret (by kernel_rfl) ?_
      intro a2 w2 ha2 hs2
      have h1 := Sat.unkblk (L := [⟨g3, [.int .i64 (stO c).2], 3⟩, ⟨g4, [.int .i64 0], 30⟩, ⟨g5, [.slice A (stO c).1.length c'], 23⟩]) (b := ⟨g6, [.int .i64 (stO c).2], 3⟩) hs2
      have h2 := Sat.unkblk (L := [⟨g3, [.int .i64 (stO c).2], 3⟩, ⟨g4, [.int .i64 0], 30⟩]) (b := ⟨g5, [.slice A (stO c).1.length c'], 23⟩) h1
      have h3 := Sat.unkblk (L := [⟨g3, [.int .i64 (stO c).2], 3⟩]) (b := ⟨g4, [.int .i64 0], 30⟩) h2
      have h4 := Sat.unkblk (L := []) (b := ⟨g3, [.int .i64 (stO c).2], 3⟩) h3
      have h5 := h4.sel [3, 4, 2, 1, 0, 7, 5, 6] (by kernel_rfl)
      have hq := scan_end (w := w) (I0 := I0) (I := I) (nx := W.heap.size) (D := D) g2 g3 g4 g5 g6 A c' cs (stO c).1 (stO c).2 0 a2 w2 ha2 h5
      rw [stE_none c hst]
      exact hq

end Go.Proofs.YtiomeaoeegikkaaDoor
namespace Go.Proofs.YtiomeaoeegikkaaDoor.led
open Go Go.Proofs.YtiomeaoeegikkaaDoor Go.Proofs.YtiomeaoeegikkaaDoor.RW
set_option linter.unusedVariables false
set_option maxRecDepth 100000
theorem bOr32 (a b : Nat) (ha : a < 4294967296) (hb : b < 4294967296) : bOr .u32 (a : Int) (b : Int) = ((a ||| b : Nat) : Int) := by
  show W .u32 (((BitVec.ofInt 32 (a : Int) ||| BitVec.ofInt 32 (b : Int)).toNat : Nat) : Int) = _
  rw [BitVec.ofInt_natCast, BitVec.ofInt_natCast, W32, BitVec.toNat_or, BitVec.toNat_ofNat, BitVec.toNat_ofNat]
  have h3 : a ||| b < 2 ^ 32 := Nat.or_lt_two_pow (by omega) (by omega)
  show ((a % 4294967296 ||| b % 4294967296 : Nat) : Int) % 4294967296 = _
  rw [Nat.mod_eq_of_lt ha, Nat.mod_eq_of_lt hb]
  omega
def word4 (a b c d : Nat) : Nat := a + b * 256 + c * 65536 + d * 16777216
theorem word_eq (a b c d : Nat) (ha : a < 256) (hb : b < 256) (hc : c < 256) (hd : d < 256) :
    bOr .u32 (bOr .u32 (bOr .u32 (W .u32 (a : Int)) (W .u32 ((W .u32 (b : Int)) * 256))) (W .u32 ((W .u32 (c : Int)) * 65536))) (W .u32 ((W .u32 (d : Int)) * 16777216)) = (word4 a b c d : Int) := by
  have h0 : W .u32 (a : Int) = (a : Int) := by rw [W32]; omega
  have h1 : W .u32 ((W .u32 (b : Int)) * 256) = ((b * 256 : Nat) : Int) := by rw [W32, W32]; omega
  have h2 : W .u32 ((W .u32 (c : Int)) * 65536) = ((c * 65536 : Nat) : Int) := by rw [W32, W32]; omega
  have h3 : W .u32 ((W .u32 (d : Int)) * 16777216) = ((d * 16777216 : Nat) : Int) := by rw [W32, W32]; omega
  have o1 : a ||| b * 256 = a + b * 256 := or_add a b 8 (by omega)
  have o2 : (a + b * 256) ||| c * 65536 = a + b * 256 + c * 65536 := or_add (a + b * 256) c 16 (by omega)
  have o3 : (a + b * 256 + c * 65536) ||| d * 16777216 = a + b * 256 + c * 65536 + d * 16777216 := or_add (a + b * 256 + c * 65536) d 24 (by omega)
  rw [h0, h1, h2, h3, bOr32 _ _ (by omega) (by omega), o1, bOr32 _ _ (by omega) (by omega), o2, bOr32 _ _ (by omega) (by omega), o3]
  rfl
/-- The number at the start. -/
def word (l : List Int) : Nat := word4 (l.getD 0 0).toNat (l.getD 1 0).toNat (l.getD 2 0).toNat (l.getD 3 0).toNat
theorem nth_byte {l : List Int} (hb : isBytes l) {i : Nat} (hi : i < l.length) : (((l.getD i 0).toNat : Nat) : Int) = l.getD i 0 ∧ (l.getD i 0).toNat < 256 := by
  have := hb _ (List.getElem_mem hi)
  rw [List.getD_eq_getElem?_getD, List.getElem?_eq_getElem hi]
  show ((l[i].toNat : Nat) : Int) = l[i] ∧ l[i].toNat < 256
  omega
theorem getWord_eq {l : List Int} (hb : isBytes l) (hl : 4 ≤ l.length) : ledger_getWord.f l = some (word l : Int) := by
  have h0 := nth_byte hb (i := 0) (by omega)
  have h1 := nth_byte hb (i := 1) (by omega)
  have h2 := nth_byte hb (i := 2) (by omega)
  have h3 := nth_byte hb (i := 3) (by omega)
  unfold ledger_getWord.f
  rw [if_pos (by omega), if_pos (by omega), if_pos (by omega), if_pos (by omega)]
  show some (bOr .u32 (bOr .u32 (bOr .u32 (W .u32 (l.getD 0 0)) (W .u32 ((W .u32 (l.getD 1 0)) * 256))) (W .u32 ((W .u32 (l.getD 2 0)) * 65536))) (W .u32 ((W .u32 (l.getD 3 0)) * 16777216))) = _
  rw [← h0.1, ← h1.1, ← h2.1, ← h3.1, word_eq _ _ _ _ h0.2 h1.2 h2.2 h3.2]
  rfl
theorem word_lt {l : List Int} (hb : isBytes l) (hl : 4 ≤ l.length) : word l < 4294967296 := by
  have h0 := nth_byte hb (i := 0) (by omega)
  have h1 := nth_byte hb (i := 1) (by omega)
  have h2 := nth_byte hb (i := 2) (by omega)
  have h3 := nth_byte hb (i := 3) (by omega)
  unfold word word4
  omega
theorem word_w32 (n : Nat) (r : List Int) (h : n < 4294967296) : word (w32 n ++ r) = n := by
  show word4 (n % 256) (n / 256 % 256) (n / 65536 % 256) (n / 16777216 % 256) = n
  unfold word4
  omega

/-! ### the first record -/
theorem isBytes.take {l : List Int} (h : isBytes l) (n : Nat) : isBytes (l.take n) := fun x hx => h x (List.mem_of_mem_take hx)
theorem isBytes.drop {l : List Int} (h : isBytes l) (n : Nat) : isBytes (l.drop n) := fun x hx => h x (List.mem_of_mem_drop hx)
abbrev bad (c : Int) : S25 × Int × Option Int := (⟨0, (⟨#[]⟩ : ByteArray), []⟩, 0, some c)
theorem first_short {l : List Int} (h : l.length < 4) (k : Nat) : ledger_first.f k l = some (bad 271) := by
  unfold ledger_first.f
  rw [if_pos (by omega)]
theorem first_cutN {l : List Int} {n : Nat} (gw : ledger_getWord.f l = some (n : Int)) (hw : n < 4294967296) (h4 : 4 ≤ l.length) (hl : l.length < 1000000000) (h : l.length < 8 + n) (k : Nat) : ledger_first.f k l = some (bad 271) := by
  unfold ledger_first.f
  rw [if_neg (by omega), gw]
  show (if W .i64 ((l.length : Int) - 8) < W .i64 (n : Int) then _ else _) = _
  rw [W64 (by omega) (by omega), W64 (by omega) (by omega), if_pos (by omega)]
theorem first_goN {l : List Int} {n m : Nat} (gw : ledger_getWord.f l = some (n : Int)) (g2 : ledger_getWord.f (l.drop (4 + n)) = some (m : Int)) (hw : n < 4294967296) (hb : isBytes l) (h4 : 4 ≤ l.length) (hl : l.length < 1000000000) (h : 8 + n ≤ l.length) {r : S25 × Int × Option Int}
    (hr : Ev (fun k => if (cs (l.take (4 + n)) : Int) ≠ (m : Int) then some (bad 270) else (codec_DecodeEntry.f k ((l.drop 4).take n)).bind fun t4 => (if t4.2.2 ≠ 0 then (some true) else (some (t4.2.1 != (n : Int)))).bind (fun x1 => if x1 = true then some (bad 272) else some (t4.1, ((8 + n : Nat) : Int), none))) r) : Ev (fun k => ledger_first.f k l) r := by
  have e0 : W .i64 (n : Int) = (n : Int) := W64 (by omega) (by omega)
  have e1 : W .i64 (4 + (n : Int)) = ((4 + n : Nat) : Int) := by rw [W64 (by omega) (by omega)]; omega
  have e2 : W .i64 (((4 + n : Nat) : Int) + 4) = ((8 + n : Nat) : Int) := by rw [W64 (by omega) (by omega)]; omega
  have p1 : rpart l 0 ((4 + n : Nat) : Int) = l.take (4 + n) := by
    unfold rpart
    rw [tn]
    show (l.drop 0).take (4 + n - 0) = _
    rw [List.drop_zero, Nat.sub_zero]
  have p2 : rpart l ((4 + n : Nat) : Int) (l.length : Int) = l.drop (4 + n) := by
    unfold rpart
    rw [tn, tn]
    exact List.take_of_length_le (by rw [List.length_drop]; exact Nat.le_refl _)
  have p3 : rpart l (4 : Int) ((4 + n : Nat) : Int) = (l.drop 4).take n := by
    unfold rpart
    rw [tn]
    show (l.drop 4).take (4 + n - 4) = _
    rw [show 4 + n - 4 = n from by omega]
  have c1 := checksum_ev (hb.take (4 + n)) (by rw [List.length_take]; omega)
  obtain ⟨N, c1⟩ := c1
  obtain ⟨M, hr⟩ := hr
  refine ⟨max N M, fun k hk => ?_⟩
  have c1 := c1 k (by omega)
  have hr := hr k (by omega)
  simp only [] at hr
  have c1 : codec_Checksum.f k (l.take (4 + n)) = _ := c1
  show ledger_first.f k l = some r
  unfold ledger_first.f
  rw [if_neg (by omega), gw]
  simp only [Option.bind_some, e0, e1, p1, p2, p3]
  rw [if_neg (by rw [W64 (by omega) (by omega)]; omega), if_pos (by omega), if_pos (by omega), c1]
  simp only [Option.bind_some]
  rw [if_pos (by omega), if_pos (by omega), g2]
  simp only [Option.bind_some]
  rw [← hr]
  by_cases hc : (cs (l.take (4 + n)) : Int) ≠ (m : Int)
  · rw [if_pos hc, if_pos hc]
  · rw [if_neg hc, if_neg hc, if_pos (by omega), if_pos (by omega), if_pos (by omega)]
    congr 1
    funext t4
    congr 1
    funext x1
    unfold ledger_first.k1
    rw [e0, e1, e2]
theorem first_cut {l : List Int} (hb : isBytes l) (h4 : 4 ≤ l.length) (hl : l.length < 1000000000) (h : l.length < 8 + word l) (k : Nat) : ledger_first.f k l = some (bad 271) :=
  first_cutN (getWord_eq hb h4) (word_lt hb h4) h4 hl h k
theorem first_sum {l : List Int} (hb : isBytes l) (h4 : 4 ≤ l.length) (hl : l.length < 1000000000) (h : 8 + word l ≤ l.length) (hc : cs (l.take (4 + word l)) ≠ word (l.drop (4 + word l))) : Ev (fun k => ledger_first.f k l) (bad 270) := by
  have g1 := getWord_eq hb h4
  have hw := word_lt hb h4
  generalize word l = n at *
  have g2 := getWord_eq (l := l.drop (4 + n)) (hb.drop _) (by rw [List.length_drop]; omega)
  generalize word (l.drop (4 + n)) = m at *
  exact first_goN g1 g2 hw hb h4 hl h (Ev.congr (fun k => if_pos (by omega)) (Ev.const rfl))
theorem first_ok {e : S25} (he : okE e) (r : List Int) (hb : isBytes r) (hl : (rec_ e ++ r).length < 1000000000) : Ev (fun k => ledger_first.f k (rec_ e ++ r)) (e, ((rec_ e).length : Int), none) := by
  have hle := enc_len he
  have hlen := hl
  rw [List.length_append, rec_len] at hlen
  have hw : word (rec_ e ++ r) = (enc e).length := by
    unfold rec_ hd
    rw [List.append_assoc, List.append_assoc]
    exact word_w32 _ _ (by omega)
  have t1 : (rec_ e ++ r).take (4 + (enc e).length) = hd e := by
    unfold rec_
    rw [List.append_assoc, ← hd_len, List.take_left]
  have t2 : (rec_ e ++ r).drop (4 + (enc e).length) = w32 (cs (hd e)) ++ r := by
    unfold rec_
    rw [List.append_assoc, ← hd_len, List.drop_left]
  have t3 : ((rec_ e ++ r).drop 4).take (enc e).length = enc e := by
    unfold rec_ hd
    rw [List.append_assoc, List.append_assoc]
    show (enc e ++ _).take _ = _
    rw [List.take_left]
  have hb2 : isBytes (rec_ e ++ r) := (rec_bytes he).app hb
  have h4 : 4 ≤ (rec_ e ++ r).length := by rw [List.length_append, rec_len]; omega
  have g1 := getWord_eq hb2 h4
  rw [hw] at g1
  have g2 := getWord_eq (l := (rec_ e ++ r).drop (4 + (enc e).length)) (hb2.drop _) (by rw [List.length_drop, List.length_append, rec_len]; omega)
  rw [t2, word_w32 _ _ (cs_lt (hd_bytes he)), ← t2] at g2
  refine first_goN g1 g2 (by omega) hb2 h4 hl (by rw [List.length_append, rec_len]; omega) ?_
  rw [t1, t3, rec_len]
  refine Ev.congr (fun k => if_neg (fun h => h rfl)) ?_
  refine Ev.bind (decE_ev he) (Ev.const ?_)
  show ((if (0 : Int) ≠ 0 then some true else some (((enc e).length : Int) != ((enc e).length : Int))).bind _) = _
  rw [if_neg (fun h => h rfl), bne_self_eq_false]
  rfl
end Go.Proofs.YtiomeaoeegikkaaDoor.led
namespace Go.Proofs.YtiomeaoeegikkaaDoor
open Go Go.Proofs.YtiomeaoeegikkaaDoor.RW
set_option linter.unusedVariables false
set_option maxRecDepth 100000
set_option maxHeartbeats 8000000

/-! ### armillaryref28_SameBytes: function 18, armillary/armillaryref28.SameBytes -/
noncomputable def K18_0 : Code := cBody Tryd.f18
noncomputable def O18_29 : List Oper := cOps (cL (cL (cL (cR (cL (cL (cR (cL (cR (cR K18_0))))))))))
def armillaryref28_SameBytes.k1  : (Unit) ⊕ (Bool) → Option (Bool)
 | .inl () => (some true)
 | .inr r_ => some r_
def armillaryref28_SameBytes.l1 (a0 : List Int) (a1 : List Int) : Nat → Int → Option ((Unit) ⊕ (Bool))
 | 0, _ => none
 | k + 1, x1 => (if x1 < (a0.length : Int) then (if 0 ≤ x1 then (if x1 < (a0.length : Int) then (if 0 ≤ x1 then (if x1 < (a1.length : Int) then (if (a0.getD (x1).toNat 0) ≠ (a1.getD (x1).toNat 0) then (some (Sum.inr false)) else (armillaryref28_SameBytes.l1 a0 a1 k (W .i64 (x1 + 1)))) else none) else none) else none) else none) else (some (Sum.inl ())))
def armillaryref28_SameBytes.f (k : Nat) (a0 : List Int) (a1 : List Int) : Option (Bool) := (if (a0.length : Int) ≠ (a1.length : Int) then (some false) else ((armillaryref28_SameBytes.l1 a0 a1 k 0).bind (armillaryref28_SameBytes.k1)))
def armillaryref28_SameBytes.Post (I : Imm) (w : World) (r : Bool) (v : Value) (w' : World) : Prop :=
 ∃ (J : Imm), v = .bool r ∧ Got w w' I J []
noncomputable def a18_29n : List Nat := [0, 0, 3, 7, 0, 0, 48, 112, 255]
theorem a18_29 : ancs O18_29 [] = a18_29n := by kernel_rfl
theorem a18_29o : drawOk O18_29 a18_29n 8 = true := by kernel_rfl
noncomputable def u18d1l  : List Ld :=
 []
noncomputable def u18d1g (x1 : Int) (g1_ : Nat) (o1_ : Nat) (g2_ : Nat) (o2_ : Nat) : List (Nat × ((Nat → Wt) → Value)) := [(2, fun u => pt g1_ (o1_ + (x1).toNat * 1)), (6, fun u => pt g2_ (o2_ + (x1).toNat * 1))]
noncomputable def u18d1q (a0 : List Int) (Ap0 : Option Addr) (cp0 : Nat) (a1 : List Int) (Ap1 : Option Addr) (cp1 : Nat) (x1 : Int) (g1_ : Nat) (o1_ : Nat) (g2_ : Nat) (o2_ : Nat) (u : Nat → Wt) : Option (List Value × List (Nat × Value) × List (Nat × Nat)) := qSim Tryd.prog [(⟨g1_, o1_ + (x1).toNat * 1, none⟩, .int .u8 (a0.getD (x1).toNat 0)), (⟨g2_, o2_ + (x1).toNat * 1, none⟩, .int .u8 (a1.getD (x1).toNat 0))] [] O18_29 ⟨26, []⟩ (Ld.vl u18d1l) (u18d1g x1 g1_ o1_ g2_ o2_) u [.no, .no, .no, .r 0, .no, .no, .no, .r 1] 0 (O18_29.take 8) [(14, .bool (decide (x1 < (a0.length : Int)))), (0, .slice Ap0 a0.length cp0), (1, .slice Ap1 a1.length cp1), (5, i6 x1)]
noncomputable def u18d1s (a0 : List Int) (Ap0 : Option Addr) (cp0 : Nat) (a1 : List Int) (Ap1 : Option Addr) (cp1 : Nat) (x1 : Int) (g1_ : Nat) (o1_ : Nat) (g2_ : Nat) (o2_ : Nat) (u : Nat → Wt) : List Value := [.slice Ap0 a0.length cp0, i6 x1, pt g1_ (o1_ + (x1).toNat * 1), .int .u8 (a0.getD (x1).toNat 0), .slice Ap1 a1.length cp1, i6 x1, pt g2_ (o2_ + (x1).toNat * 1), .int .u8 (a1.getD (x1).toNat 0)]
noncomputable def u18d1f (a0 : List Int) (Ap0 : Option Addr) (cp0 : Nat) (a1 : List Int) (Ap1 : Option Addr) (cp1 : Nat) (x1 : Int) (g1_ : Nat) (o1_ : Nat) (g2_ : Nat) (o2_ : Nat) (i : Nat) (u : Nat → Wt) : List (Nat × Value) := foldPut ⟨26, []⟩ [(14, .bool (decide (x1 < (a0.length : Int)))), (0, .slice Ap0 a0.length cp0), (1, .slice Ap1 a1.length cp1), (5, i6 x1)] (O18_29.take i) (((u18d1s a0 Ap0 cp0 a1 Ap1 cp1 x1 g1_ o1_ g2_ o2_) u).take i)
theorem u18d1v (a0 : List Int) (Ap0 : Option Addr) (cp0 : Nat) (a1 : List Int) (Ap1 : Option Addr) (cp1 : Nat) (x1 : Int) (g1_ : Nat) (o1_ : Nat) (g2_ : Nat) (o2_ : Nat) (u : Nat → Wt) : (u18d1q a0 Ap0 cp0 a1 Ap1 cp1 x1 g1_ o1_ g2_ o2_ u).map (fun x => (x.1, x.2.1)) = some ((u18d1s a0 Ap0 cp0 a1 Ap1 cp1 x1 g1_ o1_ g2_ o2_) u, (u18d1f a0 Ap0 cp0 a1 Ap1 cp1 x1 g1_ o1_ g2_ o2_ 8) u) := by kernel_rfl
theorem u18d1e (a0 : List Int) (Ap0 : Option Addr) (cp0 : Nat) (a1 : List Int) (Ap1 : Option Addr) (cp1 : Nat) (x1 : Int) (g1_ : Nat) (o1_ : Nat) (g2_ : Nat) (o2_ : Nat) (u : Nat → Wt) : (u18d1q a0 Ap0 cp0 a1 Ap1 cp1 x1 g1_ o1_ g2_ o2_ u).map (fun x => x.2.2.map (·.1)) = (u18d1q a0 Ap0 cp0 a1 Ap1 cp1 x1 g1_ o1_ g2_ o2_ u).map (fun x => x.2.2.map (·.2)) := by kernel_rfl
theorem armillaryref28_SameBytes.calls (k : Nat) (I0 : Imm) (a0 : List Int) (Ap0 : Option Addr) (cp0 : Nat) (a1 : List Int) (Ap1 : Option Addr) (cp1 : Nat) (w : World) (hI : I0.at_ w) (hlp0 : a0.length ≤ cp0) (hrp0 : Rd (Ty.int .u8) I0 Ap0 a0) (hlp1 : a1.length ≤ cp1) (hrp1 : Rd (Ty.int .u8) I0 Ap1 a1) (r : Bool) (h : armillaryref28_SameBytes.f k a0 a1 = some r) :
  Calls Tryd.prog 18 [.slice Ap0 a0.length cp0, .slice Ap1 a1.length cp1].toArray w fun e w' => ∃ v, e = .returned v ∧ armillaryref28_SameBytes.Post I0 w r v w' := by
 have H : (if (a0.length : Int) ≠ (a1.length : Int) then (some false) else ((armillaryref28_SameBytes.l1 a0 a1 k 0).bind (armillaryref28_SameBytes.k1))) = some r := h
 clear h
 refine calls_body Tryd.func18 (by kernel_rfl) 26 (by kernel_rfl) (by kernel_rfl) ⟨w, fun _ => False, I0⟩ I0 [] [(0, .slice Ap0 a0.length cp0), (1, .slice Ap1 a1.length cp1)] (by kernel_rfl) (Sat.start w _ I0 hI) ?_
 generalize w.heap.size = nx0
 show OK _ K18_0 _ _ _ _ _ _ _ _
 refine OK.sr ?_
 refine RL.st 1 [(0, .slice Ap0 a0.length cp0), (1, .slice Ap1 a1.length cp1)] ?_
 refine OK.sq ?_
 refine OK.sr ?_
 refine RL.st 5 [(10, .bool ((a0.length : Int) != (a1.length : Int))), (0, .slice Ap0 a0.length cp0), (1, .slice Ap1 a1.length cp1)] ?_
 refine OK.cd ((a0.length : Int) != (a1.length : Int)) (fun hb => ?_) (fun hb => ?_)
 ·skip
  have hc := (bne_iff_ne.1 hb)
  rw [if_pos hc] at H
  clear hb
  refine OK.sr ?_
  refine RL.st 1 [(4, .bool false)] ?_
  refine OK.re ?_
  refine QN.thenR ?_
  obtain rfl := Option.some.inj H
  refine QN.body rfl [] (RFacts.nil _ _ _) (.no) (.bool false) (by kernel_rfl) (by kernel_rfl) (by kernel_rfl) ?_ _ (.inr rfl)
  exact fun w' hs' => ⟨_, rfl, I0, rfl, hs'.got _ .slnil⟩
 ·skip
  have hc := (not_not_intro (bne_eq_false_iff_eq.1 hb))
  rw [if_neg hc] at H
  clear hb
  refine OK.skt ?_
  refine OK.sq ?_
  refine OK.sr ?_
  refine RL.st 1 [(5, i6 0), (0, .slice Ap0 a0.length cp0), (1, .slice Ap1 a1.length cp1)] ?_
  refine OK.join (fun K' I' _ L' X' => K' = [] ∧ L' = [] ∧ X' = [] ∧ Imm.le I0 I' ∧ armillaryref28_SameBytes.k1 (Sum.inl ()) = some r) ?_ ?_
  ·rintro _ I1 nx1 _ _ ⟨rfl, rfl, rfl, hi1, H⟩
   rw [armillaryref28_SameBytes.k1] at H
   refine QN.then_ ?_
   refine OK.sr ?_
   refine RL.st 1 [(4, .bool true)] ?_
   refine OK.re ?_
   obtain rfl := Option.some.inj H
   refine QN.body rfl [] (RFacts.nil _ _ _) (.no) (.bool true) (by kernel_rfl) (by kernel_rfl) (by kernel_rfl) ?_ _ (.inr rfl)
   exact fun w' hs' => ⟨_, rfl, I1, rfl, hs'.got _ .slnil⟩
  ·intro Q_1 hJ1 hQ1
   obtain ⟨y1, H, HK1⟩ := bnd H
   refine OK.bk 0 ?_
   refine OK.sub (K' := [(0, .slice Ap0 a0.length cp0), (1, .slice Ap1 a1.length cp1), (5, i6 0)]) (L' := []) (by kernel_rfl) .slnil (.refl _) ?_
   refine OK.lp (fun n_ K' I' _ L' X' => ∃ (x1 : Int), K' = [(0, .slice Ap0 a0.length cp0), (1, .slice Ap1 a1.length cp1), (5, i6 x1)] ∧ L' = [] ∧ X' = [] ∧ Imm.le I0 I' ∧ armillaryref28_SameBytes.l1 a0 a1 n_ x1 = some y1) k ⟨0, rfl, rfl, rfl, (Imm.le_refl _), H⟩ ?_ ?_
   ·rintro _ _ _ _ _ ⟨x1, rfl, rfl, rfl, _, H⟩
    cases H
   ·rintro kq1 _ I2 nx2 _ _ ⟨x1, rfl, rfl, rfl, hi2, H⟩ Q_l1 hJ2 hQ2
    rw [armillaryref28_SameBytes.l1] at H
    refine OK.sq ?_
    refine OK.sr ?_
    refine RL.st 4 [(14, .bool (decide (x1 < (a0.length : Int)))), (0, .slice Ap0 a0.length cp0), (1, .slice Ap1 a1.length cp1), (5, i6 x1)] ?_
    refine OK.cd (decide (x1 < (a0.length : Int))) (fun hb => ?_) (fun hb => ?_)
    ·skip
     have hc := (of_decide_eq_true hb)
     rw [if_pos hc] at H
     clear hb
     refine OK.skt ?_
     refine OK.sq ?_
     refine OK.bk 1 ?_
     refine OK.sq ?_
     obtain ⟨hi0_1, H⟩ := ifs H
     obtain ⟨hi1_1, H⟩ := ifs H
     obtain ⟨g1_, o1_, hA1_, hc1_⟩ := Ty.int_at (Rd.ext hi2 hrp0) x1 hi0_1 hi1_1
     obtain ⟨hi0_2, H⟩ := ifs H
     obtain ⟨hi1_2, H⟩ := ifs H
     obtain ⟨g2_, o2_, hA2_, hc2_⟩ := Ty.int_at (Rd.ext hi2 hrp1) x1 hi0_2 hi1_2
     refine OK.drawnC 6 8 O18_29 a18_29n (by kernel_rfl) (by kernel_rfl) u18d1l (u18d1g x1 g1_ o1_ g2_ o2_) [(⟨g1_, o1_ + (x1).toNat * 1, none⟩, .int .u8 (a0.getD (x1).toNat 0)), (⟨g2_, o2_ + (x1).toNat * 1, none⟩, .int .u8 (a1.getD (x1).toNat 0))] (RI.cons (hc1_ 0 _ rfl) (RI.cons (hc2_ 0 _ rfl) (RI.nil _))) [.no, .no, .no, .r 0, .no, .no, .no, .r 1] a18_29 a18_29o (by kernel_rfl) (by kernel_rfl) (u18d1s a0 Ap0 cp0 a1 Ap1 cp1 x1 g1_ o1_ g2_ o2_) (u18d1f a0 Ap0 cp0 a1 Ap1 cp1 x1 g1_ o1_ g2_ o2_ 8) (u18d1v a0 Ap0 cp0 a1 Ap1 cp1 x1 g1_ o1_ g2_ o2_) (u18d1e a0 Ap0 cp0 a1 Ap1 cp1 x1 g1_ o1_ g2_ o2_) [] framesOk.nil ?_ [u18d1f a0 Ap0 cp0 a1 Ap1 cp1 x1 g1_ o1_ g2_ o2_ 2, u18d1f a0 Ap0 cp0 a1 Ap1 cp1 x1 g1_ o1_ g2_ o2_ 6] (framesOk.cons (fun u => rfl) (framesOk.cons (fun u => rfl) framesOk.nil)) ?_ ?_
     ·refine LoudsG.nil
     ·refine Givens.cons (fun u w =>  ?_) (fun _ _ _ => rfl) (Givens.cons (fun u w =>  ?_) (fun _ _ _ => rfl) (Givens.nil))
      ·exact giv_idx (T := 22) (e := 5) 1 .i64 x1 hA1_ a0.length cp0 (by kernel_rfl) (by kernel_rfl) (by kernel_rfl) hi0_1 hi1_1 w
      ·exact giv_idx (T := 22) (e := 5) 1 .i64 x1 hA2_ a1.length cp1 (by kernel_rfl) (by kernel_rfl) (by kernel_rfl) hi0_2 hi1_2 w
     intro u I3 nx3 hi3 hF
     clear hF
     refine RL.norm (K' := [(24, .int .u8 (a1.getD (x1).toNat 0)), (23, pt g2_ (o2_ + (x1).toNat * 1)), (22, i6 x1), (21, .slice Ap1 a1.length cp1), (20, .int .u8 (a0.getD (x1).toNat 0)), (19, pt g1_ (o1_ + (x1).toNat * 1)), (18, i6 x1), (17, .slice Ap0 a0.length cp0), (14, .bool (decide (x1 < (a0.length : Int)))), (0, .slice Ap0 a0.length cp0), (1, .slice Ap1 a1.length cp1), (5, i6 x1)]) (X' := []) (by kernel_rfl) rfl rfl rfl ?_
     refine RL.st 1 [(25, .bool ((a0.getD (x1).toNat 0) != (a1.getD (x1).toNat 0))), (0, .slice Ap0 a0.length cp0), (1, .slice Ap1 a1.length cp1), (5, i6 x1)] ?_
     refine OK.cd ((a0.getD (x1).toNat 0) != (a1.getD (x1).toNat 0)) (fun hb => ?_) (fun hb => ?_)
     ·skip
      have hc := (bne_iff_ne.1 hb)
      rw [if_pos hc] at H
      clear hb
      refine OK.sr ?_
      refine RL.st 1 [(4, .bool false)] ?_
      refine OK.re ?_
      refine QN.blkR ?_
      refine QN.thenR ?_
      refine QN.outR hQ2 ?_
      refine QN.blkR ?_
      refine QN.outR hQ1 ?_
      refine QN.thenR ?_
      obtain rfl := Option.some.inj H
      replace H : some false = some r := HK1
      obtain rfl := Option.some.inj H
      refine QN.body rfl [] (RFacts.nil _ _ _) (.no) (.bool false) (by kernel_rfl) (by kernel_rfl) (by kernel_rfl) ?_ _ (.inr rfl)
      exact fun w' hs' => ⟨_, rfl, I3, rfl, hs'.got _ .slnil⟩
     ·skip
      have hc := (not_not_intro (bne_eq_false_iff_eq.1 hb))
      rw [if_neg hc] at H
      clear hb
      refine OK.sk ?_
      refine QN.blkN ?_
      refine QN.then_ ?_
      refine OK.rg ?_
      refine RL.s 3 [(5, i6 (W .i64 (x1 + 1))), (0, .slice Ap0 a0.length cp0), (1, .slice Ap1 a1.length cp1)] ?_
      refine RL.nil (by kernel_rfl) ?_
      exact QN.sb (hJ2 _ _ _ _ _ ⟨W .i64 (x1 + 1), rfl, rfl, rfl, (Imm.le_trans hi2 hi3), H⟩) .slnil (.refl _)
    ·skip
     have hc := (of_decide_eq_false hb)
     rw [if_neg hc] at H
     clear hb
     refine OK.ex 0 ?_
     refine QN.thenE ?_
     refine QN.outE hQ2 ?_
     refine QN.blkE ?_
     obtain rfl := Option.some.inj H
     exact QN.sb (hJ1 _ _ _ _ _ ⟨rfl, rfl, rfl, hi2, HK1⟩) .slnil (.refl _)

end Go.Proofs.YtiomeaoeegikkaaDoor
namespace Go.Proofs.YtiomeaoeegikkaaDoor
open Go Go.Proofs.YtiomeaoeegikkaaDoor.RW
set_option linter.unusedVariables false
set_option maxRecDepth 100000
set_option maxHeartbeats 8000000

/-! ### armillaryref27_Same: function 26, armillary/armillaryref27.Same -/
noncomputable def K26_0 : Code := cBody Tryd.f26
def armillaryref27_Same.k1  (x1 : Bool) : Option (Bool) := (some x1)
def armillaryref27_Same.f (a0 : S25) (a1 : S25) : Option (Bool) := ((if a0.f0 = a1.f0 then (if a0.f1.toList = a1.f1.toList then (some ((strOfNums a0.f2).toList == (strOfNums a1.f2).toList)) else (some false)) else (some false)).bind (armillaryref27_Same.k1))
def armillaryref27_Same.Post (I : Imm) (w : World) (r : Bool) (v : Value) (w' : World) : Prop :=
 ∃ (J : Imm), v = .bool r ∧ Got w w' I J []
theorem armillaryref27_Same.calls (I0 : Imm) (a0 : S25) (Ap0_2 : Option Addr) (cp0_2 : Nat) (a1 : S25) (Ap1_2 : Option Addr) (cp1_2 : Nat) (w : World) (hI : I0.at_ w) (hlp0_2 : a0.f2.length ≤ cp0_2) (hrp0_2 : Rd (Ty.int .u8) I0 Ap0_2 a0.f2) (hlp1_2 : a1.f2.length ≤ cp1_2) (hrp1_2 : Rd (Ty.int .u8) I0 Ap1_2 a1.f2) (r : Bool) (h : armillaryref27_Same.f a0 a1 = some r) :
  Calls Tryd.prog 26 [.agg #[i6 a0.f0, .string a0.f1, .slice Ap0_2 a0.f2.length cp0_2], .agg #[i6 a1.f0, .string a1.f1, .slice Ap1_2 a1.f2.length cp1_2]].toArray w fun e w' => ∃ v, e = .returned v ∧ armillaryref27_Same.Post I0 w r v w' := by
 have H : ((if a0.f0 = a1.f0 then (if a0.f1.toList = a1.f1.toList then (some ((strOfNums a0.f2).toList == (strOfNums a1.f2).toList)) else (some false)) else (some false)).bind (armillaryref27_Same.k1)) = some r := h
 clear h
 refine calls_body Tryd.func26 (by kernel_rfl) 26 (by kernel_rfl) (by kernel_rfl) ⟨w, fun _ => False, I0⟩ I0 [] [(0, .agg #[i6 a0.f0, .string a0.f1, .slice Ap0_2 a0.f2.length cp0_2]), (1, .agg #[i6 a1.f0, .string a1.f1, .slice Ap1_2 a1.f2.length cp1_2])] (by kernel_rfl) (Sat.start w _ I0 hI) ?_
 generalize w.heap.size = nx0
 show OK _ K26_0 _ _ _ _ _ _ _ _
 refine OK.sr ?_
 refine RL.spt 3 [(3, pt (nx0 + 1) 0), (2, pt nx0 0)] (nx0 + 2) [⟨nx0, [i6 a0.f0, .string a0.f1, .slice Ap0_2 a0.f2.length cp0_2], 25⟩, ⟨nx0 + 1, [i6 a1.f0, .string a1.f1, .slice Ap1_2 a1.f2.length cp1_2], 25⟩] ?_
 refine OK.sq ?_
 refine OK.join (fun K' I' _ L' X' => ∃ (x1 : Bool), K' = [(4, .bool x1)] ∧ L' = [⟨nx0, [i6 a0.f0, .string a0.f1, .slice Ap0_2 a0.f2.length cp0_2], 25⟩, ⟨nx0 + 1, [i6 a1.f0, .string a1.f1, .slice Ap1_2 a1.f2.length cp1_2], 25⟩] ∧ X' = [] ∧ Imm.le I0 I' ∧ armillaryref27_Same.k1 x1 = some r) ?_ ?_
 ·rintro _ I1 nx1 _ _ ⟨x1, rfl, rfl, rfl, hi1, H⟩
  rw [armillaryref27_Same.k1] at H
  refine QN.then_ ?_
  refine OK.re ?_
  obtain rfl := Option.some.inj H
  refine QN.body rfl [] (RFacts.nil _ _ _) (.no) (.bool x1) (by kernel_rfl) (by kernel_rfl) (by kernel_rfl) ?_ _ (.inr rfl)
  exact fun w' hs' => ⟨_, rfl, I1, rfl, hs'.got _ .slnil⟩
 ·intro Q_1 hJ1 hQ1
  obtain ⟨y1, H, HK1⟩ := bnd H
  refine OK.rg ?_
  refine RL.simK (K' := [(10, .bool (a0.f0 == a1.f0)), (3, pt (nx0 + 1) 0), (2, pt nx0 0)]) [] (RFacts.nil _ _ _) 6 [.no, .l 0, .no, .l 1, .no, .no] (by kernel_rfl) (by kernel_rfl) ?_
  refine RL.cases (a0.f0 == a1.f0) (fun hb => ?_) (fun hb => ?_)
  ·have hc := (beq_iff_eq.1 hb)
   rw [hb]
   rw [if_pos hc] at H; clear hb
   refine RL.simK (K' := [(17, .bool (a0.f1.toList == a1.f1.toList)), (3, pt (nx0 + 1) 0), (2, pt nx0 0)]) [] (RFacts.nil _ _ _) 7 [.no, .l 0, .no, .l 1, .no, .no, .no] (by kernel_rfl) (by kernel_rfl) ?_
   refine RL.cases (a0.f1.toList == a1.f1.toList) (fun hb => ?_) (fun hb => ?_)
   ·have hc := (beq_iff_eq.1 hb)
    rw [hb]
    rw [if_pos hc] at H; clear hb
    refine RL.simK (K' := [(19, .slice Ap0_2 a0.f2.length cp0_2), (17, .bool true), (3, pt (nx0 + 1) 0)]) [] (RFacts.nil _ _ _) 2 [.no, .l 0] (by kernel_rfl) (by kernel_rfl) ?_
    refine RL.ofBytes (src := 22) (dst := 9) (e := 5) (S := Ap0_2) (l := a0.f2) (cap := cp0_2) (some 20) (by kernel_rfl) (by kernel_rfl) hrp0_2 (by kernel_rfl) (by kernel_rfl) (by kernel_rfl) (K' := [(20, .string (strOfNums a0.f2)), (19, .slice Ap0_2 a0.f2.length cp0_2), (17, .bool true), (3, pt (nx0 + 1) 0)]) (by kernel_rfl) ?_
    refine RL.simK (K' := [(22, .slice Ap1_2 a1.f2.length cp1_2), (20, .string (strOfNums a0.f2)), (17, .bool true)]) [] (RFacts.nil _ _ _) 2 [.no, .l 1] (by kernel_rfl) (by kernel_rfl) ?_
    refine RL.ofBytes (src := 22) (dst := 9) (e := 5) (S := Ap1_2) (l := a1.f2) (cap := cp1_2) (some 23) (by kernel_rfl) (by kernel_rfl) hrp1_2 (by kernel_rfl) (by kernel_rfl) (by kernel_rfl) (K' := [(23, .string (strOfNums a1.f2)), (22, .slice Ap1_2 a1.f2.length cp1_2), (20, .string (strOfNums a0.f2)), (17, .bool true)]) (by kernel_rfl) ?_
    refine RL.s 3 [(4, .bool ((strOfNums a0.f2).toList == (strOfNums a1.f2).toList))] ?_
    refine RL.nil (by kernel_rfl) ?_
    obtain rfl := Option.some.inj H
    exact QN.sb (hJ1 _ _ _ _ _ ⟨((strOfNums a0.f2).toList == (strOfNums a1.f2).toList), rfl, rfl, rfl, (Imm.le_refl _), HK1⟩) (.cons_cons _ (.cons_cons _ .slnil)) (.refl _)
   ·have hc := (beq_eq_false_iff_ne.1 hb)
    rw [hb]
    rw [if_neg hc] at H; clear hb
    refine RL.s 9 [(4, .bool false)] ?_
    refine RL.nil (by kernel_rfl) ?_
    obtain rfl := Option.some.inj H
    exact QN.sb (hJ1 _ _ _ _ _ ⟨false, rfl, rfl, rfl, (Imm.le_refl _), HK1⟩) (.cons_cons _ (.cons_cons _ .slnil)) (.refl _)
  ·have hc := (beq_eq_false_iff_ne.1 hb)
   rw [hb]
   rw [if_neg hc] at H; clear hb
   refine RL.s 16 [(4, .bool false)] ?_
   refine RL.nil (by kernel_rfl) ?_
   obtain rfl := Option.some.inj H
   exact QN.sb (hJ1 _ _ _ _ _ ⟨false, rfl, rfl, rfl, (Imm.le_refl _), HK1⟩) (.cons_cons _ (.cons_cons _ .slnil)) (.refl _)

end Go.Proofs.YtiomeaoeegikkaaDoor
namespace Go.Proofs.YtiomeaoeegikkaaDoor
open Go Go.Proofs.YtiomeaoeegikkaaDoor.RW
set_option linter.unusedVariables false
set_option maxRecDepth 100000
set_option maxHeartbeats 8000000

/-! ### armillaryref28_Same: function 19, armillary/armillaryref28.Same -/
noncomputable def K19_0 : Code := cBody Tryd.f19
noncomputable def O19_29 : List Oper := cOps (cL (cL (cL (cR (cL (cL (cR (cL (cR (cR K19_0))))))))))
def armillaryref28_Same.k1  : (Unit) ⊕ (Bool) → Option (Bool)
 | .inl () => (some true)
 | .inr r_ => some r_
def armillaryref28_Same.l1 (a0 : List S25) (a1 : List S25) : Nat → Int → Option ((Unit) ⊕ (Bool))
 | 0, _ => none
 | k + 1, x1 => (if x1 < (a0.length : Int) then (if 0 ≤ x1 then (if x1 < (a0.length : Int) then (if 0 ≤ x1 then (if x1 < (a1.length : Int) then ((armillaryref27_Same.f (a0.getD (x1).toNat z25) (a1.getD (x1).toNat z25)).bind fun t1 => (if t1 = true then (armillaryref28_Same.l1 a0 a1 k (W .i64 (x1 + 1))) else (some (Sum.inr false)))) else none) else none) else none) else none) else (some (Sum.inl ())))
def armillaryref28_Same.f (k : Nat) (a0 : List S25) (a1 : List S25) : Option (Bool) := (if (a0.length : Int) ≠ (a1.length : Int) then (some false) else ((armillaryref28_Same.l1 a0 a1 k 0).bind (armillaryref28_Same.k1)))
def armillaryref28_Same.Post (I : Imm) (w : World) (r : Bool) (v : Value) (w' : World) : Prop :=
 ∃ (J : Imm), v = .bool r ∧ Got w w' I J []
noncomputable def a19_29n : List Nat := [0, 0, 3, 7, 0, 0, 48, 112, 255, 511]
theorem a19_29 : ancs O19_29 [] = a19_29n := by kernel_rfl
theorem a19_29o : drawOk O19_29 a19_29n 8 = true := by kernel_rfl
noncomputable def u19d1l  : List Ld :=
 []
noncomputable def u19d1g (x1 : Int) (g1_ : Nat) (o1_ : Nat) (g2_ : Nat) (o2_ : Nat) : List (Nat × ((Nat → Wt) → Value)) := [(2, fun u => pt g1_ (o1_ + (x1).toNat * 3)), (6, fun u => pt g2_ (o2_ + (x1).toNat * 3))]
noncomputable def u19d1q (a0 : List S25) (Ap0 : Option Addr) (cp0 : Nat) (a1 : List S25) (Ap1 : Option Addr) (cp1 : Nat) (x1 : Int) (A1_2_ : Option Addr) (c1_2_ : Nat) (g1_ : Nat) (o1_ : Nat) (A2_2_ : Option Addr) (c2_2_ : Nat) (g2_ : Nat) (o2_ : Nat) (u : Nat → Wt) : Option (List Value × List (Nat × Value) × List (Nat × Nat)) := qSim Tryd.prog [(⟨g1_, o1_ + (x1).toNat * 3, none⟩, i6 ((a0.getD (x1).toNat z25).f0)), (⟨g1_, o1_ + (x1).toNat * 3 + 1, none⟩, .string ((a0.getD (x1).toNat z25).f1)), (⟨g1_, o1_ + (x1).toNat * 3 + 2, none⟩, .slice A1_2_ (((a0.getD (x1).toNat z25).f2).length) c1_2_), (⟨g2_, o2_ + (x1).toNat * 3, none⟩, i6 ((a1.getD (x1).toNat z25).f0)), (⟨g2_, o2_ + (x1).toNat * 3 + 1, none⟩, .string ((a1.getD (x1).toNat z25).f1)), (⟨g2_, o2_ + (x1).toNat * 3 + 2, none⟩, .slice A2_2_ (((a1.getD (x1).toNat z25).f2).length) c2_2_)] [] O19_29 ⟨27, []⟩ (Ld.vl u19d1l) (u19d1g x1 g1_ o1_ g2_ o2_) u [.no, .no, .no, .r 0, .no, .no, .no, .r 3] 0 (O19_29.take 8) [(14, .bool (decide (x1 < (a0.length : Int)))), (0, .slice Ap0 a0.length cp0), (1, .slice Ap1 a1.length cp1), (5, i6 x1)]
noncomputable def u19d1s (a0 : List S25) (Ap0 : Option Addr) (cp0 : Nat) (a1 : List S25) (Ap1 : Option Addr) (cp1 : Nat) (x1 : Int) (A1_2_ : Option Addr) (c1_2_ : Nat) (g1_ : Nat) (o1_ : Nat) (A2_2_ : Option Addr) (c2_2_ : Nat) (g2_ : Nat) (o2_ : Nat) (u : Nat → Wt) : List Value := [.slice Ap0 a0.length cp0, i6 x1, pt g1_ (o1_ + (x1).toNat * 3), .agg #[i6 ((a0.getD (x1).toNat z25).f0), .string ((a0.getD (x1).toNat z25).f1), .slice A1_2_ (((a0.getD (x1).toNat z25).f2).length) c1_2_], .slice Ap1 a1.length cp1, i6 x1, pt g2_ (o2_ + (x1).toNat * 3), .agg #[i6 ((a1.getD (x1).toNat z25).f0), .string ((a1.getD (x1).toNat z25).f1), .slice A2_2_ (((a1.getD (x1).toNat z25).f2).length) c2_2_]]
noncomputable def u19d1f (a0 : List S25) (Ap0 : Option Addr) (cp0 : Nat) (a1 : List S25) (Ap1 : Option Addr) (cp1 : Nat) (x1 : Int) (A1_2_ : Option Addr) (c1_2_ : Nat) (g1_ : Nat) (o1_ : Nat) (A2_2_ : Option Addr) (c2_2_ : Nat) (g2_ : Nat) (o2_ : Nat) (i : Nat) (u : Nat → Wt) : List (Nat × Value) := foldPut ⟨27, []⟩ [(14, .bool (decide (x1 < (a0.length : Int)))), (0, .slice Ap0 a0.length cp0), (1, .slice Ap1 a1.length cp1), (5, i6 x1)] (O19_29.take i) (((u19d1s a0 Ap0 cp0 a1 Ap1 cp1 x1 A1_2_ c1_2_ g1_ o1_ A2_2_ c2_2_ g2_ o2_) u).take i)
theorem u19d1v (a0 : List S25) (Ap0 : Option Addr) (cp0 : Nat) (a1 : List S25) (Ap1 : Option Addr) (cp1 : Nat) (x1 : Int) (A1_2_ : Option Addr) (c1_2_ : Nat) (g1_ : Nat) (o1_ : Nat) (A2_2_ : Option Addr) (c2_2_ : Nat) (g2_ : Nat) (o2_ : Nat) (u : Nat → Wt) : (u19d1q a0 Ap0 cp0 a1 Ap1 cp1 x1 A1_2_ c1_2_ g1_ o1_ A2_2_ c2_2_ g2_ o2_ u).map (fun x => (x.1, x.2.1)) = some ((u19d1s a0 Ap0 cp0 a1 Ap1 cp1 x1 A1_2_ c1_2_ g1_ o1_ A2_2_ c2_2_ g2_ o2_) u, (u19d1f a0 Ap0 cp0 a1 Ap1 cp1 x1 A1_2_ c1_2_ g1_ o1_ A2_2_ c2_2_ g2_ o2_ 8) u) := by kernel_rfl
theorem u19d1e (a0 : List S25) (Ap0 : Option Addr) (cp0 : Nat) (a1 : List S25) (Ap1 : Option Addr) (cp1 : Nat) (x1 : Int) (A1_2_ : Option Addr) (c1_2_ : Nat) (g1_ : Nat) (o1_ : Nat) (A2_2_ : Option Addr) (c2_2_ : Nat) (g2_ : Nat) (o2_ : Nat) (u : Nat → Wt) : (u19d1q a0 Ap0 cp0 a1 Ap1 cp1 x1 A1_2_ c1_2_ g1_ o1_ A2_2_ c2_2_ g2_ o2_ u).map (fun x => x.2.2.map (·.1)) = (u19d1q a0 Ap0 cp0 a1 Ap1 cp1 x1 A1_2_ c1_2_ g1_ o1_ A2_2_ c2_2_ g2_ o2_ u).map (fun x => x.2.2.map (·.2)) := by kernel_rfl
theorem armillaryref28_Same.calls (k : Nat) (I0 : Imm) (a0 : List S25) (Ap0 : Option Addr) (cp0 : Nat) (a1 : List S25) (Ap1 : Option Addr) (cp1 : Nat) (w : World) (hI : I0.at_ w) (hlp0 : a0.length ≤ cp0) (hrp0 : Rd t25 I0 Ap0 a0) (hlp1 : a1.length ≤ cp1) (hrp1 : Rd t25 I0 Ap1 a1) (r : Bool) (h : armillaryref28_Same.f k a0 a1 = some r) :
  Calls Tryd.prog 19 [.slice Ap0 a0.length cp0, .slice Ap1 a1.length cp1].toArray w fun e w' => ∃ v, e = .returned v ∧ armillaryref28_Same.Post I0 w r v w' := by
 have H : (if (a0.length : Int) ≠ (a1.length : Int) then (some false) else ((armillaryref28_Same.l1 a0 a1 k 0).bind (armillaryref28_Same.k1))) = some r := h
 clear h
 refine calls_body Tryd.func19 (by kernel_rfl) 27 (by kernel_rfl) (by kernel_rfl) ⟨w, fun _ => False, I0⟩ I0 [] [(0, .slice Ap0 a0.length cp0), (1, .slice Ap1 a1.length cp1)] (by kernel_rfl) (Sat.start w _ I0 hI) ?_
 generalize w.heap.size = nx0
 show OK _ K19_0 _ _ _ _ _ _ _ _
 refine OK.sr ?_
 refine RL.st 1 [(0, .slice Ap0 a0.length cp0), (1, .slice Ap1 a1.length cp1)] ?_
 refine OK.sq ?_
 refine OK.sr ?_
 refine RL.st 5 [(10, .bool ((a0.length : Int) != (a1.length : Int))), (0, .slice Ap0 a0.length cp0), (1, .slice Ap1 a1.length cp1)] ?_
 refine OK.cd ((a0.length : Int) != (a1.length : Int)) (fun hb => ?_) (fun hb => ?_)
 ·skip
  have hc := (bne_iff_ne.1 hb)
  rw [if_pos hc] at H
  clear hb
  refine OK.sr ?_
  refine RL.st 1 [(4, .bool false)] ?_
  refine OK.re ?_
  refine QN.thenR ?_
  obtain rfl := Option.some.inj H
  refine QN.body rfl [] (RFacts.nil _ _ _) (.no) (.bool false) (by kernel_rfl) (by kernel_rfl) (by kernel_rfl) ?_ _ (.inr rfl)
  exact fun w' hs' => ⟨_, rfl, I0, rfl, hs'.got _ .slnil⟩
 ·skip
  have hc := (not_not_intro (bne_eq_false_iff_eq.1 hb))
  rw [if_neg hc] at H
  clear hb
  refine OK.skt ?_
  refine OK.sq ?_
  refine OK.sr ?_
  refine RL.st 1 [(5, i6 0), (0, .slice Ap0 a0.length cp0), (1, .slice Ap1 a1.length cp1)] ?_
  refine OK.join (fun K' I' _ L' X' => K' = [] ∧ L' = [] ∧ X' = [] ∧ Imm.le I0 I' ∧ armillaryref28_Same.k1 (Sum.inl ()) = some r) ?_ ?_
  ·rintro _ I1 nx1 _ _ ⟨rfl, rfl, rfl, hi1, H⟩
   rw [armillaryref28_Same.k1] at H
   refine QN.then_ ?_
   refine OK.sr ?_
   refine RL.st 1 [(4, .bool true)] ?_
   refine OK.re ?_
   obtain rfl := Option.some.inj H
   refine QN.body rfl [] (RFacts.nil _ _ _) (.no) (.bool true) (by kernel_rfl) (by kernel_rfl) (by kernel_rfl) ?_ _ (.inr rfl)
   exact fun w' hs' => ⟨_, rfl, I1, rfl, hs'.got _ .slnil⟩
  ·intro Q_1 hJ1 hQ1
   obtain ⟨y1, H, HK1⟩ := bnd H
   refine OK.bk 0 ?_
   refine OK.sub (K' := [(0, .slice Ap0 a0.length cp0), (1, .slice Ap1 a1.length cp1), (5, i6 0)]) (L' := []) (by kernel_rfl) .slnil (.refl _) ?_
   refine OK.lp (fun n_ K' I' _ L' X' => ∃ (x1 : Int), K' = [(0, .slice Ap0 a0.length cp0), (1, .slice Ap1 a1.length cp1), (5, i6 x1)] ∧ L' = [] ∧ X' = [] ∧ Imm.le I0 I' ∧ armillaryref28_Same.l1 a0 a1 n_ x1 = some y1) k ⟨0, rfl, rfl, rfl, (Imm.le_refl _), H⟩ ?_ ?_
   ·rintro _ _ _ _ _ ⟨x1, rfl, rfl, rfl, _, H⟩
    cases H
   ·rintro kq1 _ I2 nx2 _ _ ⟨x1, rfl, rfl, rfl, hi2, H⟩ Q_l1 hJ2 hQ2
    rw [armillaryref28_Same.l1] at H
    refine OK.sq ?_
    refine OK.sr ?_
    refine RL.st 4 [(14, .bool (decide (x1 < (a0.length : Int)))), (0, .slice Ap0 a0.length cp0), (1, .slice Ap1 a1.length cp1), (5, i6 x1)] ?_
    refine OK.cd (decide (x1 < (a0.length : Int))) (fun hb => ?_) (fun hb => ?_)
    ·skip
     have hc := (of_decide_eq_true hb)
     rw [if_pos hc] at H
     clear hb
     refine OK.skt ?_
     refine OK.sq ?_
     refine OK.bk 1 ?_
     refine OK.sq ?_
     obtain ⟨hi0_1, H⟩ := ifs H
     obtain ⟨hi1_1, H⟩ := ifs H
     obtain ⟨g1_, o1_, hA1_, A1_2_, c1_2_, hl1_2_, hr1_2_, hc1_⟩ := t25_at (Rd.ext hi2 hrp0) x1 hi0_1 hi1_1
     obtain ⟨hi0_2, H⟩ := ifs H
     obtain ⟨hi1_2, H⟩ := ifs H
     obtain ⟨g2_, o2_, hA2_, A2_2_, c2_2_, hl2_2_, hr2_2_, hc2_⟩ := t25_at (Rd.ext hi2 hrp1) x1 hi0_2 hi1_2
     refine OK.drawnC 6 8 O19_29 a19_29n (by kernel_rfl) (by kernel_rfl) u19d1l (u19d1g x1 g1_ o1_ g2_ o2_) [(⟨g1_, o1_ + (x1).toNat * 3, none⟩, i6 ((a0.getD (x1).toNat z25).f0)), (⟨g1_, o1_ + (x1).toNat * 3 + 1, none⟩, .string ((a0.getD (x1).toNat z25).f1)), (⟨g1_, o1_ + (x1).toNat * 3 + 2, none⟩, .slice A1_2_ (((a0.getD (x1).toNat z25).f2).length) c1_2_), (⟨g2_, o2_ + (x1).toNat * 3, none⟩, i6 ((a1.getD (x1).toNat z25).f0)), (⟨g2_, o2_ + (x1).toNat * 3 + 1, none⟩, .string ((a1.getD (x1).toNat z25).f1)), (⟨g2_, o2_ + (x1).toNat * 3 + 2, none⟩, .slice A2_2_ (((a1.getD (x1).toNat z25).f2).length) c2_2_)] (RI.cons (hc1_ 0 _ rfl) (RI.cons (hc1_ 1 _ rfl) (RI.cons (hc1_ 2 _ rfl) (RI.cons (hc2_ 0 _ rfl) (RI.cons (hc2_ 1 _ rfl) (RI.cons (hc2_ 2 _ rfl) (RI.nil _))))))) [.no, .no, .no, .r 0, .no, .no, .no, .r 3] a19_29 a19_29o (by kernel_rfl) (by kernel_rfl) (u19d1s a0 Ap0 cp0 a1 Ap1 cp1 x1 A1_2_ c1_2_ g1_ o1_ A2_2_ c2_2_ g2_ o2_) (u19d1f a0 Ap0 cp0 a1 Ap1 cp1 x1 A1_2_ c1_2_ g1_ o1_ A2_2_ c2_2_ g2_ o2_ 8) (u19d1v a0 Ap0 cp0 a1 Ap1 cp1 x1 A1_2_ c1_2_ g1_ o1_ A2_2_ c2_2_ g2_ o2_) (u19d1e a0 Ap0 cp0 a1 Ap1 cp1 x1 A1_2_ c1_2_ g1_ o1_ A2_2_ c2_2_ g2_ o2_) [] framesOk.nil ?_ [u19d1f a0 Ap0 cp0 a1 Ap1 cp1 x1 A1_2_ c1_2_ g1_ o1_ A2_2_ c2_2_ g2_ o2_ 2, u19d1f a0 Ap0 cp0 a1 Ap1 cp1 x1 A1_2_ c1_2_ g1_ o1_ A2_2_ c2_2_ g2_ o2_ 6] (framesOk.cons (fun u => rfl) (framesOk.cons (fun u => rfl) framesOk.nil)) ?_ ?_
     ·refine LoudsG.nil
     ·refine Givens.cons (fun u w =>  ?_) (fun _ _ _ => rfl) (Givens.cons (fun u w =>  ?_) (fun _ _ _ => rfl) (Givens.nil))
      ·exact giv_idx (T := 23) (e := 25) 3 .i64 x1 hA1_ a0.length cp0 (by kernel_rfl) (by kernel_rfl) (by kernel_rfl) hi0_1 hi1_1 w
      ·exact giv_idx (T := 23) (e := 25) 3 .i64 x1 hA2_ a1.length cp1 (by kernel_rfl) (by kernel_rfl) (by kernel_rfl) hi0_2 hi1_2 w
     intro u I3 nx3 hi3 hF
     clear hF
     refine RL.norm (K' := [(24, .agg #[i6 ((a1.getD (x1).toNat z25).f0), .string ((a1.getD (x1).toNat z25).f1), .slice A2_2_ (((a1.getD (x1).toNat z25).f2).length) c2_2_]), (23, pt g2_ (o2_ + (x1).toNat * 3)), (22, i6 x1), (21, .slice Ap1 a1.length cp1), (20, .agg #[i6 ((a0.getD (x1).toNat z25).f0), .string ((a0.getD (x1).toNat z25).f1), .slice A1_2_ (((a0.getD (x1).toNat z25).f2).length) c1_2_]), (19, pt g1_ (o1_ + (x1).toNat * 3)), (18, i6 x1), (17, .slice Ap0 a0.length cp0), (14, .bool (decide (x1 < (a0.length : Int)))), (0, .slice Ap0 a0.length cp0), (1, .slice Ap1 a1.length cp1), (5, i6 x1)]) (X' := []) (by kernel_rfl) rfl rfl rfl ?_
     obtain ⟨t1, hA1, H⟩ := bnd H
     refine RL.callP 26 [.agg #[i6 ((a0.getD (x1).toNat z25).f0), .string ((a0.getD (x1).toNat z25).f1), .slice A1_2_ (((a0.getD (x1).toNat z25).f2).length) c1_2_], .agg #[i6 ((a1.getD (x1).toNat z25).f0), .string ((a1.getD (x1).toNat z25).f1), .slice A2_2_ (((a1.getD (x1).toNat z25).f2).length) c2_2_]] (some 25) (fun w => armillaryref27_Same.Post I3 w t1) (by kernel_rfl) (by kernel_rfl) (fun w hs => armillaryref27_Same.calls I3 (a0.getD (x1).toNat z25) A1_2_ c1_2_ (a1.getD (x1).toNat z25) A2_2_ c2_2_ w hs.im hl1_2_ (Rd.ext hi3 hr1_2_) hl2_2_ (Rd.ext hi3 hr2_2_) t1 hA1) ?_
     rintro w v w' hs ⟨I4, rfl, hg⟩
     have hi4 := hg.le
     refine RL.resume (X' := []) rfl (hs.call hg) ?_
     clear hs hg
     generalize w'.heap.size = nx4
     clear w w'
     refine RL.st 1 [(26, .bool (!t1)), (0, .slice Ap0 a0.length cp0), (1, .slice Ap1 a1.length cp1), (5, i6 x1)] ?_
     refine OK.cd (!t1) (fun hb => ?_) (fun hb => ?_)
     ·have hb : t1 = false := by simpa using hb
      have hc := (Bool.eq_false_iff.1 hb)
      rw [if_neg hc] at H
      clear hb
      refine OK.sr ?_
      refine RL.st 1 [(4, .bool false)] ?_
      refine OK.re ?_
      refine QN.blkR ?_
      refine QN.thenR ?_
      refine QN.outR hQ2 ?_
      refine QN.blkR ?_
      refine QN.outR hQ1 ?_
      refine QN.thenR ?_
      obtain rfl := Option.some.inj H
      replace H : some false = some r := HK1
      obtain rfl := Option.some.inj H
      refine QN.body rfl [] (RFacts.nil _ _ _) (.no) (.bool false) (by kernel_rfl) (by kernel_rfl) (by kernel_rfl) ?_ _ (.inr rfl)
      exact fun w' hs' => ⟨_, rfl, I4, rfl, hs'.got _ .slnil⟩
     ·have hb : t1 = true := by simpa using hb
      have hc := hb
      rw [if_pos hc] at H
      clear hb
      refine OK.sk ?_
      refine QN.blkN ?_
      refine QN.then_ ?_
      refine OK.rg ?_
      refine RL.s 3 [(5, i6 (W .i64 (x1 + 1))), (0, .slice Ap0 a0.length cp0), (1, .slice Ap1 a1.length cp1)] ?_
      refine RL.nil (by kernel_rfl) ?_
      exact QN.sb (hJ2 _ _ _ _ _ ⟨W .i64 (x1 + 1), rfl, rfl, rfl, (Imm.le_trans (Imm.le_trans hi2 hi3) hi4), H⟩) .slnil (.refl _)
    ·skip
     have hc := (of_decide_eq_false hb)
     rw [if_neg hc] at H
     clear hb
     refine OK.ex 0 ?_
     refine QN.thenE ?_
     refine QN.outE hQ2 ?_
     refine QN.blkE ?_
     obtain rfl := Option.some.inj H
     exact QN.sb (hJ1 _ _ _ _ _ ⟨rfl, rfl, rfl, hi2, HK1⟩) .slnil (.refl _)

end Go.Proofs.YtiomeaoeegikkaaDoor
namespace Go.Proofs.YtiomeaoeegikkaaDoor.led
open Go Go.Proofs.YtiomeaoeegikkaaDoor Go.Proofs.YtiomeaoeegikkaaDoor.RW
set_option linter.unusedVariables false
set_option maxRecDepth 100000
def EvR (log : List Int) (p : Nat) (c : List Stp) : Prop := ∃ N, ∀ k m, N ≤ k → N ≤ m → recs k log m (p : Int) = some c
theorem rpart_tail (l : List Int) (p : Nat) : rpart l (p : Int) (l.length : Int) = l.drop p := by
  unfold rpart
  rw [tn, tn]
  exact List.take_of_length_le (by rw [List.length_drop]; exact Nat.le_refl _)
theorem recs_end {log : List Int} {p : Nat} (h : log.length ≤ p) : EvR log p [] := by
  refine ⟨1, fun k m _ hm => ?_⟩
  obtain ⟨m, rfl⟩ : ∃ n, m = n + 1 := ⟨m - 1, by omega⟩
  rw [recs, if_neg (by omega)]
theorem recs_good {log : List Int} {p q : Nat} {e : S25} {c : List Stp} (hp : p < log.length) (hl : log.length < 1000000000) (hf : Ev (fun k => ledger_first.f k (log.drop p)) (e, ((q : Nat) : Int), none)) (hq : q < 1000000000) (hc : EvR log (p + q) c) : EvR log p ((e, ((p + q : Nat) : Int), none) :: c) := by
  obtain ⟨N, hf⟩ := hf
  obtain ⟨M, hc⟩ := hc
  refine ⟨max N M + 1, fun k m hk hm => ?_⟩
  obtain ⟨m, rfl⟩ : ∃ n, m = n + 1 := ⟨m - 1, by omega⟩
  have h1 : ledger_first.f k (log.drop p) = _ := hf k (by omega)
  have e1 : W .i64 ((p : Int) + (q : Int)) = ((p + q : Nat) : Int) := by rw [W64 (by omega) (by omega)]; omega
  rw [recs, if_pos (by omega), if_pos (by omega), rpart_tail, h1]
  simp only [Option.bind_some]
  rw [if_pos trivial, e1, hc k m (by omega) (by omega)]
  rfl
theorem recs_bad {log : List Int} {p : Nat} {x : Int} (hp : p < log.length) (hl : log.length < 1000000000) (hf : Ev (fun k => ledger_first.f k (log.drop p)) (bad x)) : EvR log p [(⟨0, (⟨#[]⟩ : ByteArray), []⟩, (p : Int), some x)] := by
  obtain ⟨N, hf⟩ := hf
  refine ⟨N + 1, fun k m hk hm => ?_⟩
  obtain ⟨m, rfl⟩ : ∃ n, m = n + 1 := ⟨m - 1, by omega⟩
  have h1 : ledger_first.f k (log.drop p) = _ := hf k (by omega)
  rw [recs, if_pos (by omega), if_pos (by omega), rpart_tail, h1]
  simp only [Option.bind_some]
  rw [if_neg (by simp), show (p : Int) + 0 = (p : Int) from by omega, W64 (by omega) (by omega)]
def steps : Nat → List S25 → List Stp
  | _, [] => []
  | p, e :: es => (e, ((p + (rec_ e).length : Nat) : Int), none) :: steps (p + (rec_ e).length) es
theorem recs_steps {log : List Int} (hb : isBytes log) (hl : log.length < 1000000000) {r : List Int} {c : List Stp} : ∀ (es : List S25) (p : Nat), okL es → log.drop p = logOf es ++ r → EvR log (p + (logOf es).length) c → EvR log p (steps p es ++ c)
  | [], p, _, _, hc => by simpa [logOf, steps] using hc
  | e :: es, p, hok, h, hc => by
    have he := hok e List.mem_cons_self
    have hle := enc_len he
    rw [logOf_cons, List.append_assoc] at h
    have hd := drop_app h
    have hp := drop_le h (.inl (by rw [rec_len]; omega))
    rw [rec_len] at hp
    have hf := first_ok he (logOf es ++ r) (by rw [← hd]; exact hb.drop _) (by rw [← h, List.length_drop]; omega)
    rw [← h] at hf
    have ih := recs_steps hb hl es (p + (rec_ e).length) (fun x hx => hok x (List.mem_cons_of_mem _ hx)) hd (by rw [logOf_cons, List.length_append] at hc; rwa [Nat.add_assoc])
    exact recs_good (by omega) hl hf (by rw [rec_len]; omega) ih
def stF (s : List S25 × Int) (x : Stp) : List S25 × Int := if x.2.2 = none then (s.1 ++ [x.1], x.2.1) else s
theorem fold_steps : ∀ (es : List S25) (acc : List S25) (p : Nat), (steps p es).foldl stF (acc, (p : Int)) = (acc ++ es, ((p + (logOf es).length : Nat) : Int))
  | [], acc, p => by simp [steps, logOf]
  | e :: es, acc, p => by
    show (steps (p + (rec_ e).length) es).foldl stF (acc ++ [e], ((p + (rec_ e).length : Nat) : Int)) = _
    rw [fold_steps es, logOf_cons, List.length_append]
    simp only [List.append_assoc, List.cons_append, List.nil_append, Nat.add_assoc]
theorem stO_steps (es : List S25) : stO (steps 0 es) = (es, ((logOf es).length : Int)) := by
  have h := fold_steps es [] 0
  rw [Nat.zero_add, List.nil_append] at h
  exact h
theorem steps_len : ∀ (es : List S25) (p : Nat), (steps p es).length = es.length
  | [], _ => rfl
  | e :: es, p => by rw [steps, List.length_cons, steps_len es, List.length_cons]
theorem steps_none : ∀ (es : List S25) (p : Nat), ∀ x ∈ steps p es, x.2.2 = none
  | [], _, x, h => by cases h
  | e :: es, p, x, h => by
    rcases List.mem_cons.1 h with rfl | h
    · rfl
    · exact steps_none es _ x h
theorem scan_ev {log : List Int} {c : List Stp} (h : EvR log 0 c) (hc : c.length ≤ 1000000000) : Ev (fun k => ledger_Scan.f k log) ((stO c).1, (stO c).2, stE c) := by
  obtain ⟨N, h⟩ := h
  refine ⟨N, fun k hk => ?_⟩
  show ((recs k log k ((0 : Nat) : Int)).bind _) = _
  rw [h k k hk hk, Option.bind_some, if_pos (by omega)]
theorem scan_log {es : List S25} (hok : okL es) (hn : es.length ≤ 1000) : Ev (fun k => ledger_Scan.f k (logOf es)) (es, ((logOf es).length : Int), 0) := by
  have hl := logOf_len hok
  have h1 : EvR (logOf es) 0 (steps 0 es ++ []) := recs_steps (r := []) (logOf_bytes hok) (by omega) es 0 hok (by simp) (recs_end (by omega))
  rw [List.append_nil] at h1
  have h2 := scan_ev h1 (by rw [steps_len]; omega)
  rw [stO_steps] at h2
  have h3 : stE (steps 0 es) = 0 := stE_none _ (by
    rw [List.any_eq_false]
    intro x hx
    rw [stop, steps_none es 0 x hx]
    decide)
  rwa [h3] at h2
/-- A log with something behind it that is not a record. -/
theorem scan_bad {es : List S25} (hok : okL es) (hn : es.length ≤ 1000) {r : List Int} {x : Int} (hb : isBytes r) (hr : 1 ≤ r.length) (hr2 : r.length < 100000000) (hf : Ev (fun k => ledger_first.f k r) (bad x)) : Ev (fun k => ledger_Scan.f k (logOf es ++ r)) (es, ((logOf es).length : Int), x) := by
  have hl := logOf_len hok
  have hb2 : isBytes (logOf es ++ r) := (logOf_bytes hok).app hb
  have hd : (logOf es ++ r).drop (logOf es).length = r := List.drop_left
  have h0 : EvR (logOf es ++ r) (0 + (logOf es).length) [(⟨0, (⟨#[]⟩ : ByteArray), []⟩, ((logOf es).length : Int), some x)] := by
    rw [Nat.zero_add]
    exact recs_bad (by rw [List.length_append]; omega) (by rw [List.length_append]; omega) (by rw [hd]; exact hf)
  have h1 := recs_steps (r := r) hb2 (by rw [List.length_append]; omega) es 0 hok (by simp) h0
  have h2 := scan_ev h1 (by rw [List.length_append, steps_len]; simp; omega)
  rw [stO_snoc, if_neg (by simp), stO_steps, stE_some] at h2
  exact h2

/-! ### comparisons -/
theorem same_bytes {a : List Int} (hl : a.length < 1000000000) : Ev (fun k => armillaryref28_SameBytes.f k a a) true := by
  have key : ∀ (d n : Nat), d + n = a.length → Ev (fun k => armillaryref28_SameBytes.l1 a a k (n : Int)) (.inl ()) := by
    intro d
    induction d with
    | zero =>
      intro n h
      exact Ev.succ (g := fun _ => some (.inl ())) (fun k => by rw [armillaryref28_SameBytes.l1, if_neg (by omega)]) (Ev.const rfl)
    | succ d ih =>
      intro n h
      exact Ev.succ (fun k => by rw [armillaryref28_SameBytes.l1, if_pos (by omega), if_pos (by omega), if_pos (by omega), if_pos (by omega), if_pos (by omega), if_neg (fun h => h rfl), Wn (by omega)]) (ih (n + 1) (by omega))
  refine Ev.congr (fun k => if_neg (fun h => h rfl)) ?_
  exact Ev.bind (key a.length 0 rfl) (Ev.const rfl)
theorem same_entry (e : S25) : armillaryref27_Same.f e e = some true := by
  unfold armillaryref27_Same.f
  rw [if_pos rfl, if_pos rfl, beq_self_eq_true]
  rfl
theorem same_ev {a : List S25} (hl : a.length < 1000000000) : Ev (fun k => armillaryref28_Same.f k a a) true := by
  have key : ∀ (d n : Nat), d + n = a.length → Ev (fun k => armillaryref28_Same.l1 a a k (n : Int)) (.inl ()) := by
    intro d
    induction d with
    | zero =>
      intro n h
      exact Ev.succ (g := fun _ => some (.inl ())) (fun k => by rw [armillaryref28_Same.l1, if_neg (by omega)]) (Ev.const rfl)
    | succ d ih =>
      intro n h
      refine Ev.succ (fun k => ?_) (ih (n + 1) (by omega))
      rw [armillaryref28_Same.l1, if_pos (by omega), if_pos (by omega), if_pos (by omega), if_pos (by omega), if_pos (by omega), same_entry, Wn (by omega)]
      simp only [Option.bind_some]
      rw [if_pos trivial]
  refine Ev.congr (fun k => if_neg (fun h => h rfl)) ?_
  exact Ev.bind (key a.length 0 rfl) (Ev.const rfl)

/-! ### entries made -/
theorem u8_wf {n : Int} (h : (Lit.int .u8 n).wf = true) : 0 ≤ n ∧ n < 256 := by
  simp [Lit.wf, IntKind.min, IntKind.max, IntKind.signed, IntKind.bits] at h
  omega
theorem and3 (x : Int) : 0 ≤ bAnd .i64 x 3 ∧ bAnd .i64 x 3 ≤ 3 := by
  have h : ((BitVec.ofInt 64 x &&& 3#64).toNat) ≤ 3 := by
    rw [BitVec.toNat_and]
    exact Nat.and_le_right
  show 0 ≤ W .i64 (((BitVec.ofInt 64 x &&& 3#64).toNat : Nat) : Int) ∧ W .i64 (((BitVec.ofInt 64 x &&& 3#64).toNat : Nat) : Int) ≤ 3
  rw [W64 (by omega) (by omega)]
  omega
theorem iMin_eq (x y : Int) : iMin x y = min x y := by
  unfold iMin
  split <;> omega
theorem made_entry {e : S25} (h : p25 e) : ∃ e', armillaryref27_MadeEntry.f e = some e' ∧ okE e' ∧ e'.f2.length ≤ 60 := by
  obtain ⟨h0, h1, h2⟩ := h
  have hs : ((sPart e.f1 0 (iMin (e.f1.size : Int) 40)).size) = min e.f1.size 40 := by
    unfold sPart
    rw [ByteArray.size_extract, iMin_eq]
    omega
  have hm : iMin (e.f2.length : Int) 60 = ((min e.f2.length 60 : Nat) : Int) := by rw [iMin_eq]; omega
  have hr : rpart e.f2 0 (iMin (e.f2.length : Int) 60) = e.f2.take (min e.f2.length 60) := by
    unfold rpart
    rw [hm, tn]
    show (e.f2.drop 0).take (_ - 0) = _
    rw [List.drop_zero, Nat.sub_zero]
  have hk := and3 e.f0
  have hkw : W .i64 (1 + bAnd .i64 e.f0 3) = 1 + bAnd .i64 e.f0 3 := W64 (by omega) (by omega)
  have hby : isBytes (e.f2.take (min e.f2.length 60)) := fun x hx => u8_wf (h2 x (List.mem_of_mem_take hx))
  have hlen : (e.f2.take (min e.f2.length 60)).length ≤ 60 := by rw [List.length_take]; omega
  unfold armillaryref27_MadeEntry.f armillaryref27_MadeEntry.k1
  rw [if_pos (by rw [iMin_eq]; omega), if_pos (by rw [iMin_eq]; omega), if_pos (by rw [iMin_eq]; omega), if_pos (by rw [iMin_eq]; omega), hkw, hr]
  by_cases hz : ((sPart e.f1 0 (iMin (e.f1.size : Int) 40)).size : Int) = 0
  · rw [if_pos hz]
    exact ⟨_, rfl, ⟨by show 1 ≤ 1 + _; omega, by show 1 + _ ≤ 4; omega, Nat.le_refl 1, by show 1 ≤ 40; decide, by show (e.f2.take _).length ≤ 20000; omega, hby⟩, hlen⟩
  · rw [if_neg hz]
    exact ⟨_, rfl, ⟨by show 1 ≤ 1 + _; omega, by show 1 + _ ≤ 4; omega, by show 1 ≤ (sPart _ _ _).size; omega, by show (sPart _ _ _).size ≤ 40; omega, by show (e.f2.take _).length ≤ 20000; omega, hby⟩, hlen⟩
theorem made_ev (a : List S25) (ha : ∀ x ∈ a, p25 x) (hl : (a.length : Int) ≤ 9223372036854775807) (n : Nat) (hn : n ≤ 100) : ∃ es, Ev (fun k => armillaryref28_Made.f k a (n : Int)) es ∧ okL es ∧ es.length ≤ n ∧ ∀ e ∈ es, e.f2.length ≤ 60 := by
  have key : ∀ (d q : Nat) (x : List S25), d + q = n → q ≤ a.length → x.length = q → okL x → (∀ e ∈ x, e.f2.length ≤ 60) → ∃ es, Ev (fun k => armillaryref28_Made.l1 a (n : Int) k x (q : Int)) es ∧ okL es ∧ es.length ≤ n ∧ ∀ e ∈ es, e.f2.length ≤ 60 := by
    intro d
    induction d with
    | zero =>
      intro q x h hq hx hok h60
      refine ⟨x, Ev.succ (g := fun _ => some x) (fun k => ?_) (Ev.const rfl), hok, by omega, h60⟩
      rw [armillaryref28_Made.l1]
      by_cases hqa : (q : Int) < (a.length : Int)
      · rw [if_pos hqa, decide_eq_false (by omega)]
        rfl
      · rw [if_neg hqa]
        rfl
    | succ d ih =>
      intro q x h hq hx hok h60
      by_cases hqa : q < a.length
      · obtain ⟨e', he, hoke, h60e⟩ := made_entry (ha _ (List.getElem_mem hqa))
        obtain ⟨es, h1, h2⟩ := ih (q + 1) (x ++ [e']) (by omega) (by omega) (by rw [List.length_append, List.length_singleton, hx]) (fun y hy => by
          rcases List.mem_append.1 hy with hy | hy
          · exact hok y hy
          · rw [List.mem_singleton.1 hy]; exact hoke) (fun y hy => by
          rcases List.mem_append.1 hy with hy | hy
          · exact h60 y hy
          · rw [List.mem_singleton.1 hy]; exact h60e)
        refine ⟨es, Ev.succ (fun k => ?_) h1, h2⟩
        rw [armillaryref28_Made.l1, if_pos (by omega), decide_eq_true (by omega)]
        simp only [Option.bind_some, if_true]
        rw [if_pos (by omega), if_pos (by omega), tn, getD_at hqa, he]
        simp only [Option.bind_some]
        rw [if_pos (by simp only [List.length_singleton]; omega), Wn (by omega)]
      · refine ⟨x, Ev.succ (g := fun _ => some x) (fun k => ?_) (Ev.const rfl), hok, by omega, h60⟩
        rw [armillaryref28_Made.l1, if_neg (by omega)]
        rfl
  obtain ⟨es, h1, h2⟩ := key n 0 [] rfl (Nat.zero_le _) rfl (fun x hx => by cases hx) (fun x hx => by cases hx)
  exact ⟨es, Ev.bind h1 (Ev.const rfl), h2⟩
end Go.Proofs.YtiomeaoeegikkaaDoor.led
namespace Go.Proofs.YtiomeaoeegikkaaDoor
open Go Go.Proofs.YtiomeaoeegikkaaDoor.RW
set_option linter.unusedVariables false
set_option maxRecDepth 100000
set_option maxHeartbeats 8000000

/-! ### armillaryref27_ValidEntry: function 30, armillary/armillaryref27.ValidEntry -/
noncomputable def K30_0 : Code := cBody Tryd.f30
def armillaryref27_ValidEntry.k1  (x1 : Bool) : Option (Bool) := (some x1)
def armillaryref27_ValidEntry.f (a0 : S25) : Option (Bool) := ((if a0.f0 ≥ 1 then (if a0.f0 ≤ 4 then (if (a0.f1.size : Int) ≥ 1 then (if (a0.f1.size : Int) ≤ 40 then (some (decide ((a0.f2.length : Int) ≤ 20000))) else (some false)) else (some false)) else (some false)) else (some false)).bind (armillaryref27_ValidEntry.k1))
def armillaryref27_ValidEntry.Post (I : Imm) (w : World) (r : Bool) (v : Value) (w' : World) : Prop :=
 ∃ (J : Imm), v = .bool r ∧ Got w w' I J []
theorem armillaryref27_ValidEntry.calls (I0 : Imm) (a0 : S25) (Ap0_2 : Option Addr) (cp0_2 : Nat) (w : World) (hI : I0.at_ w) (hlp0_2 : a0.f2.length ≤ cp0_2) (hrp0_2 : Rd (Ty.int .u8) I0 Ap0_2 a0.f2) (r : Bool) (h : armillaryref27_ValidEntry.f a0 = some r) :
  Calls Tryd.prog 30 [.agg #[i6 a0.f0, .string a0.f1, .slice Ap0_2 a0.f2.length cp0_2]].toArray w fun e w' => ∃ v, e = .returned v ∧ armillaryref27_ValidEntry.Post I0 w r v w' := by
 have H : ((if a0.f0 ≥ 1 then (if a0.f0 ≤ 4 then (if (a0.f1.size : Int) ≥ 1 then (if (a0.f1.size : Int) ≤ 40 then (some (decide ((a0.f2.length : Int) ≤ 20000))) else (some false)) else (some false)) else (some false)) else (some false)).bind (armillaryref27_ValidEntry.k1)) = some r := h
 clear h
 refine calls_body Tryd.func30 (by kernel_rfl) 29 (by kernel_rfl) (by kernel_rfl) ⟨w, fun _ => False, I0⟩ I0 [] [(0, .agg #[i6 a0.f0, .string a0.f1, .slice Ap0_2 a0.f2.length cp0_2])] (by kernel_rfl) (Sat.start w _ I0 hI) ?_
 generalize w.heap.size = nx0
 show OK _ K30_0 _ _ _ _ _ _ _ _
 refine OK.sr ?_
 refine RL.spt 2 [(1, pt nx0 0)] (nx0 + 1) [⟨nx0, [i6 a0.f0, .string a0.f1, .slice Ap0_2 a0.f2.length cp0_2], 25⟩] ?_
 refine OK.sq ?_
 refine OK.join (fun K' I' _ L' X' => ∃ (x1 : Bool), K' = [(2, .bool x1)] ∧ L' = [⟨nx0, [i6 a0.f0, .string a0.f1, .slice Ap0_2 a0.f2.length cp0_2], 25⟩] ∧ X' = [] ∧ Imm.le I0 I' ∧ armillaryref27_ValidEntry.k1 x1 = some r) ?_ ?_
 ·rintro _ I1 nx1 _ _ ⟨x1, rfl, rfl, rfl, hi1, H⟩
  rw [armillaryref27_ValidEntry.k1] at H
  refine QN.then_ ?_
  refine OK.re ?_
  obtain rfl := Option.some.inj H
  refine QN.body rfl [] (RFacts.nil _ _ _) (.no) (.bool x1) (by kernel_rfl) (by kernel_rfl) (by kernel_rfl) ?_ _ (.inr rfl)
  exact fun w' hs' => ⟨_, rfl, I1, rfl, hs'.got _ .slnil⟩
 ·intro Q_1 hJ1 hQ1
  obtain ⟨y1, H, HK1⟩ := bnd H
  refine OK.rg ?_
  refine RL.simK (K' := [(6, .bool (decide (a0.f0 ≥ 1))), (1, pt nx0 0)]) [] (RFacts.nil _ _ _) 4 [.no, .l 0, .no, .no] (by kernel_rfl) (by kernel_rfl) ?_
  refine RL.cases (decide (a0.f0 ≥ 1)) (fun hb => ?_) (fun hb => ?_)
  ·have hc := (of_decide_eq_true hb)
   rw [hb]
   rw [if_pos hc] at H; clear hb
   refine RL.simK (K' := [(11, .bool (decide (a0.f0 ≤ 4))), (1, pt nx0 0)]) [] (RFacts.nil _ _ _) 5 [.no, .l 0, .no, .no, .no] (by kernel_rfl) (by kernel_rfl) ?_
   refine RL.cases (decide (a0.f0 ≤ 4)) (fun hb => ?_) (fun hb => ?_)
   ·have hc := (of_decide_eq_true hb)
    rw [hb]
    rw [if_pos hc] at H; clear hb
    refine RL.simK (K' := [(17, .bool (decide ((a0.f1.size : Int) ≥ 1))), (1, pt nx0 0)]) [] (RFacts.nil _ _ _) 6 [.no, .l 0, .no, .no, .no, .no] (by kernel_rfl) (by kernel_rfl) ?_
    refine RL.cases (decide ((a0.f1.size : Int) ≥ 1)) (fun hb => ?_) (fun hb => ?_)
    ·have hc := (of_decide_eq_true hb)
     rw [hb]
     rw [if_pos hc] at H; clear hb
     refine RL.simK (K' := [(23, .bool (decide ((a0.f1.size : Int) ≤ 40))), (1, pt nx0 0)]) [] (RFacts.nil _ _ _) 6 [.no, .l 0, .no, .no, .no, .no] (by kernel_rfl) (by kernel_rfl) ?_
     refine RL.cases (decide ((a0.f1.size : Int) ≤ 40)) (fun hb => ?_) (fun hb => ?_)
     ·have hc := (of_decide_eq_true hb)
      rw [hb]
      rw [if_pos hc] at H; clear hb
      refine RL.simK (K' := [(2, .bool (decide ((a0.f2.length : Int) ≤ 20000)))]) [] (RFacts.nil _ _ _) 6 [.no, .l 0, .no, .no, .no, .no] (by kernel_rfl) (by kernel_rfl) ?_
      refine RL.nil (by kernel_rfl) ?_
      obtain rfl := Option.some.inj H
      exact QN.sb (hJ1 _ _ _ _ _ ⟨(decide ((a0.f2.length : Int) ≤ 20000)), rfl, rfl, rfl, (Imm.le_refl _), HK1⟩) (.cons_cons _ .slnil) (.refl _)
     ·have hc := (of_decide_eq_false hb)
      rw [hb]
      rw [if_neg hc] at H; clear hb
      refine RL.s 6 [(2, .bool false)] ?_
      refine RL.nil (by kernel_rfl) ?_
      obtain rfl := Option.some.inj H
      exact QN.sb (hJ1 _ _ _ _ _ ⟨false, rfl, rfl, rfl, (Imm.le_refl _), HK1⟩) (.cons_cons _ .slnil) (.refl _)
    ·have hc := (of_decide_eq_false hb)
     rw [hb]
     rw [if_neg hc] at H; clear hb
     refine RL.s 12 [(2, .bool false)] ?_
     refine RL.nil (by kernel_rfl) ?_
     obtain rfl := Option.some.inj H
     exact QN.sb (hJ1 _ _ _ _ _ ⟨false, rfl, rfl, rfl, (Imm.le_refl _), HK1⟩) (.cons_cons _ .slnil) (.refl _)
   ·have hc := (of_decide_eq_false hb)
    rw [hb]
    rw [if_neg hc] at H; clear hb
    refine RL.s 18 [(2, .bool false)] ?_
    refine RL.nil (by kernel_rfl) ?_
    obtain rfl := Option.some.inj H
    exact QN.sb (hJ1 _ _ _ _ _ ⟨false, rfl, rfl, rfl, (Imm.le_refl _), HK1⟩) (.cons_cons _ .slnil) (.refl _)
  ·have hc := (of_decide_eq_false hb)
   rw [hb]
   rw [if_neg hc] at H; clear hb
   refine RL.s 23 [(2, .bool false)] ?_
   refine RL.nil (by kernel_rfl) ?_
   obtain rfl := Option.some.inj H
   exact QN.sb (hJ1 _ _ _ _ _ ⟨false, rfl, rfl, rfl, (Imm.le_refl _), HK1⟩) (.cons_cons _ .slnil) (.refl _)

end Go.Proofs.YtiomeaoeegikkaaDoor
namespace Go.Proofs.YtiomeaoeegikkaaDoor
open Go Go.Proofs.YtiomeaoeegikkaaDoor.RW
set_option linter.unusedVariables false
set_option maxRecDepth 100000
set_option maxHeartbeats 8000000

/-! ### armillaryref27_AppendVarint: function 54, armillary/armillaryref27.AppendVarint -/
noncomputable def K54_0 : Code := cBody Tryd.f54
def armillaryref27_AppendVarint.k1  : Int × List Int → Option (List Int)
 | (x2, x3) => (if (x3.length + [W .u8 (x2)].length) * 1 ≤ 140737488355328 then (some (x3 ++ [W .u8 (x2)])) else none)
def armillaryref27_AppendVarint.l1 : Nat → Int → (List Int) → Option (Int × List Int)
 | 0, _, _ => none
 | k + 1, x4, x5 => (if x4 ≥ 128 then (if (x5.length + [bOr .u8 (W .u8 (x4)) 128].length) * 1 ≤ 140737488355328 then (armillaryref27_AppendVarint.l1 k (Int.fdiv x4 128) (x5 ++ [bOr .u8 (W .u8 (x4)) 128])) else none) else (some (x4, x5)))
def armillaryref27_AppendVarint.k2 (k : Nat) (a0 : List Int) (x1 : Int) : Option (List Int) := (if (([] : List Int).length + a0.length) * 1 ≤ 140737488355328 then ((armillaryref27_AppendVarint.l1 k x1 (([] : List Int) ++ a0)).bind (armillaryref27_AppendVarint.k1)) else none)
def armillaryref27_AppendVarint.f (k : Nat) (a0 : List Int) (a1 : Int) : Option (List Int) := ((if a1 < 0 then (some (bXor .u64 18446744073709551615 (W .u64 ((W .u64 (a1)) * 2)))) else (some (W .u64 ((W .u64 (a1)) * 2)))).bind (armillaryref27_AppendVarint.k2 k a0))
def armillaryref27_AppendVarint.Post (I : Imm) (w : World) (r : List Int) (v : Value) (w' : World) : Prop :=
 ∃ (J : Imm) (A0 : Option Addr) (c0 : Nat) (cs0 : List Value), v = .slice A0 r.length c0 ∧ Got w w' I J [orow 5 1 A0 r.length c0 cs0] ∧ Reps (Ty.int .u8) J r cs0
theorem armillaryref27_AppendVarint.calls (k : Nat) (I0 : Imm) (a0 : List Int) (Ap0 : Option Addr) (cp0 : Nat) (a1 : Int) (w : World) (hI : I0.at_ w) (hlp0 : a0.length ≤ cp0) (hrp0 : Rd (Ty.int .u8) I0 Ap0 a0) (r : List Int) (h : armillaryref27_AppendVarint.f k a0 a1 = some r) :
  Calls Tryd.prog 54 [.slice Ap0 a0.length cp0, i6 a1].toArray w fun e w' => ∃ v, e = .returned v ∧ armillaryref27_AppendVarint.Post I0 w r v w' := by
 have H : ((if a1 < 0 then (some (bXor .u64 18446744073709551615 (W .u64 ((W .u64 (a1)) * 2)))) else (some (W .u64 ((W .u64 (a1)) * 2)))).bind (armillaryref27_AppendVarint.k2 k a0)) = some r := h
 clear h
 refine calls_body Tryd.func54 (by kernel_rfl) 32 (by kernel_rfl) (by kernel_rfl) ⟨w, fun _ => False, I0⟩ I0 [] [(0, .slice Ap0 a0.length cp0), (1, i6 a1)] (by kernel_rfl) (Sat.start w _ I0 hI) ?_
 generalize w.heap.size = nx0
 show OK _ K54_0 _ _ _ _ _ _ _ _
 refine OK.sr ?_
 refine RL.st 1 [(0, .slice Ap0 a0.length cp0), (1, i6 a1)] ?_
 refine OK.sr ?_
 refine RL.st 4 [(5, .int .u64 (W .u64 ((W .u64 (a1)) * 2))), (0, .slice Ap0 a0.length cp0), (1, i6 a1)] ?_
 refine OK.sq ?_
 refine OK.sr ?_
 refine RL.st 2 [(11, .bool (decide (a1 < 0))), (5, .int .u64 (W .u64 ((W .u64 (a1)) * 2))), (0, .slice Ap0 a0.length cp0)] ?_
 refine OK.join (fun K' I' _ L' X' => ∃ (x1 : Int), K' = [(0, .slice Ap0 a0.length cp0), (5, .int .u64 x1)] ∧ L' = [] ∧ X' = [] ∧ Imm.le I0 I' ∧ armillaryref27_AppendVarint.k2 k a0 x1 = some r) ?_ ?_
 ·rintro _ I1 nx1 _ _ ⟨x1, rfl, rfl, rfl, hi1, H⟩
  rw [armillaryref27_AppendVarint.k2] at H
  refine QN.then_ ?_
  refine OK.sr ?_
  refine RL.sp 2 [(15, .slice Ap0 a0.length cp0), (14, .slice (some ⟨nx1, 0, none⟩) 0 0), (5, .int .u64 x1)] (nx1 + 1) [⟨nx1, [], 5⟩] ?_
  refine RL.toRow (b := ⟨nx1, [], 5⟩) 0 0 1 (by kernel_rfl) (by kernel_rfl) (by decide) ?_
  have hp1 : Reps (Ty.int .u8) I1 ([] : List Int) [] := rfl
  refine RL.norm (L' := []) (X' := [orow 5 1 (some ⟨nx1, 0, none⟩) (([] : List Int).length) 0 []]) rfl rfl (by kernel_rfl) (by kernel_rfl) ?_
  obtain ⟨hz1, H⟩ := ifs H
  refine RL.appendR (T := 22) (e := 5) (S := (some ⟨nx1, 0, none⟩)) (S2 := Ap0) 1 1 22 0 cp0 [] (Ty.int .u8) ([] : List Int) a0 0 (some 16) (by kernel_rfl) (by kernel_rfl) (by kernel_rfl) (by kernel_rfl) (by kernel_rfl) (by decide) (by kernel_rfl) hp1 (Rd.ext hi1 hrp0) hz1 (by omega) (fun A1 c1 nx2 cs1 hp2 => ?_)
  refine RL.sub (K' := [(16, .slice A1 ((([] : List Int) ++ a0).length) c1), (15, .slice Ap0 a0.length cp0), (14, .slice (some ⟨nx1, 0, none⟩) 0 0), (5, .int .u64 x1)]) (L' := []) (X' := [orow 5 1 A1 ((([] : List Int) ++ a0).length) c1 cs1]) (by kernel_rfl) (.refl _) (.refl _) ?_
  refine RL.st 1 [(6, .slice A1 ((([] : List Int) ++ a0).length) c1), (5, .int .u64 x1)] ?_
  refine OK.sq ?_
  refine OK.join (fun K' I' _ L' X' => ∃ (x2 : Int) (x3 : List Int) (A2 : Option Addr) (c2 : Nat) (cs2 : List Value), K' = [(5, .int .u64 x2), (6, .slice A2 x3.length c2)] ∧ L' = [] ∧ X' = [orow 5 1 A2 x3.length c2 cs2] ∧ Imm.le I1 I' ∧ Reps (Ty.int .u8) I' x3 cs2 ∧ armillaryref27_AppendVarint.k1 (x2, x3) = some r) ?_ ?_
  ·rintro _ I2 nx3 _ _ ⟨x2, x3, A2, c2, cs2, rfl, rfl, rfl, hi2, hp3, H⟩
   rw [armillaryref27_AppendVarint.k1] at H
   refine QN.then_ ?_
   refine OK.sr ?_
   refine RL.sp 4 [(30, .slice (some ⟨nx3, 0, none⟩) 1 1), (27, .slice A2 x3.length c2)] (nx3 + 1) [⟨nx3, [.int .u8 (W .u8 (x2))], 5⟩] ?_
   obtain ⟨hz2, H⟩ := ifs H
   refine RL.appendB (T := 22) (e := 5) (S := A2) 1 1 22 c2 0 1 nx3 5 cs2 [.int .u8 (W .u8 (x2))] (Ty.int .u8) x3 [W .u8 (x2)] 0 (some 31) (by kernel_rfl) (by kernel_rfl) (by kernel_rfl) (by kernel_rfl) (by kernel_rfl) (by decide) (by kernel_rfl) hp3 (by kernel_rfl) ⟨_, _, rfl, rfl, rfl⟩ hz2 (by omega) (fun A3 c3 nx4 cs3 hp4 => ?_)
   refine RL.sub (K' := [(31, .slice A3 ((x3 ++ [W .u8 (x2)]).length) c3), (30, .slice (some ⟨nx3, 0, none⟩) 1 1)]) (L' := [⟨nx3, [.int .u8 (W .u8 (x2))], 5⟩]) (X' := [orow 5 1 A3 ((x3 ++ [W .u8 (x2)]).length) c3 cs3]) (by kernel_rfl) (.refl _) (.refl _) ?_
   refine RL.st 1 [(4, .slice A3 ((x3 ++ [W .u8 (x2)]).length) c3)] ?_
   refine OK.re ?_
   obtain rfl := Option.some.inj H
   refine QN.body rfl [] (RFacts.nil _ _ _) (.no) (.slice A3 ((x3 ++ [W .u8 (x2)]).length) c3) (by kernel_rfl) (by kernel_rfl) (by kernel_rfl) ?_ _ (.inr rfl)
   exact fun w' hs' => ⟨_, rfl, I2, A3, c3, cs3, rfl, hs'.got _ (.cons_cons _ .slnil), hp4⟩
  ·intro Q_1 hJ2 hQ2
   obtain ⟨y2, H, HK2⟩ := bnd H
   refine OK.bk 0 ?_
   refine OK.sub (K' := [(5, .int .u64 x1), (6, .slice A1 ((([] : List Int) ++ a0).length) c1)]) (L' := []) (by kernel_rfl) .slnil (.refl _) ?_
   refine OK.lp (fun n_ K' I' _ L' X' => ∃ (x4 : Int) (x5 : List Int) (A4 : Option Addr) (c4 : Nat) (cs4 : List Value), K' = [(5, .int .u64 x4), (6, .slice A4 x5.length c4)] ∧ L' = [] ∧ X' = [orow 5 1 A4 x5.length c4 cs4] ∧ Imm.le I1 I' ∧ Reps (Ty.int .u8) I' x5 cs4 ∧ armillaryref27_AppendVarint.l1 n_ x4 x5 = some y2) k ⟨x1, (([] : List Int) ++ a0), A1, c1, cs1, rfl, rfl, rfl, (Imm.le_refl _), hp2, H⟩ ?_ ?_
   ·rintro _ _ _ _ _ ⟨x4, x5, A4, c4, cs4, rfl, rfl, rfl, _, hp5, H⟩
    cases H
   ·rintro kq1 _ I3 nx5 _ _ ⟨x4, x5, A4, c4, cs4, rfl, rfl, rfl, hi3, hp5, H⟩ Q_l1 hJ3 hQ3
    rw [armillaryref27_AppendVarint.l1] at H
    refine OK.sq ?_
    refine OK.sr ?_
    refine RL.st 2 [(18, .bool (decide (x4 ≥ 128))), (5, .int .u64 x4), (6, .slice A4 x5.length c4)] ?_
    refine OK.cd (decide (x4 ≥ 128)) (fun hb => ?_) (fun hb => ?_)
    ·skip
     have hc := (of_decide_eq_true hb)
     rw [if_pos hc] at H
     clear hb
     refine OK.skt ?_
     refine OK.bk 1 ?_
     refine OK.sr ?_
     refine RL.sp 5 [(23, .slice (some ⟨nx5, 0, none⟩) 1 1), (19, .slice A4 x5.length c4), (5, .int .u64 x4), (6, .slice A4 x5.length c4)] (nx5 + 1) [⟨nx5, [.int .u8 (bOr .u8 (W .u8 (x4)) 128)], 5⟩] ?_
     obtain ⟨hz3, H⟩ := ifs H
     refine RL.appendB (T := 22) (e := 5) (S := A4) 1 1 22 c4 0 1 nx5 5 cs4 [.int .u8 (bOr .u8 (W .u8 (x4)) 128)] (Ty.int .u8) x5 [bOr .u8 (W .u8 (x4)) 128] 0 (some 24) (by kernel_rfl) (by kernel_rfl) (by kernel_rfl) (by kernel_rfl) (by kernel_rfl) (by decide) (by kernel_rfl) hp5 (by kernel_rfl) ⟨_, _, rfl, rfl, rfl⟩ hz3 (by omega) (fun A5 c5 nx6 cs5 hp6 => ?_)
     refine RL.sub (K' := [(24, .slice A5 ((x5 ++ [bOr .u8 (W .u8 (x4)) 128]).length) c5), (23, .slice (some ⟨nx5, 0, none⟩) 1 1), (5, .int .u64 x4)]) (L' := [⟨nx5, [.int .u8 (bOr .u8 (W .u8 (x4)) 128)], 5⟩]) (X' := [orow 5 1 A5 ((x5 ++ [bOr .u8 (W .u8 (x4)) 128]).length) c5 cs5]) (by kernel_rfl) (.refl _) (.refl _) ?_
     refine RL.st 1 [(6, .slice A5 ((x5 ++ [bOr .u8 (W .u8 (x4)) 128]).length) c5), (5, .int .u64 x4)] ?_
     refine OK.rg ?_
     refine RL.s 3 [(5, .int .u64 (Int.fdiv x4 128)), (6, .slice A5 ((x5 ++ [bOr .u8 (W .u8 (x4)) 128]).length) c5)] ?_
     refine RL.nil (by kernel_rfl) ?_
     refine QN.blkN ?_
     exact QN.sb (hJ3 _ _ _ _ _ ⟨Int.fdiv x4 128, (x5 ++ [bOr .u8 (W .u8 (x4)) 128]), A5, c5, cs5, rfl, rfl, rfl, hi3, hp6, H⟩) (.cons _ .slnil) (.refl _)
    ·skip
     have hc := (of_decide_eq_false hb)
     rw [if_neg hc] at H
     clear hb
     refine OK.ex 0 ?_
     refine QN.thenE ?_
     refine QN.outE hQ3 ?_
     refine QN.blkE ?_
     obtain rfl := Option.some.inj H
     exact QN.sb (hJ2 _ _ _ _ _ ⟨x4, x5, A4, c4, cs4, rfl, rfl, rfl, hi3, hp5, HK2⟩) .slnil (.refl _)
 ·intro Q_2 hJ1 hQ1
  obtain ⟨y1, H, HK1⟩ := bnd H
  refine OK.cd (decide (a1 < 0)) (fun hb => ?_) (fun hb => ?_)
  ·skip
   have hc := (of_decide_eq_true hb)
   rw [if_pos hc] at H
   clear hb
   refine OK.rg ?_
   refine RL.s 3 [(5, .int .u64 (bXor .u64 18446744073709551615 (W .u64 ((W .u64 (a1)) * 2)))), (0, .slice Ap0 a0.length cp0)] ?_
   refine RL.nil (by kernel_rfl) ?_
   obtain rfl := Option.some.inj H
   exact QN.sb (hJ1 _ _ _ _ _ ⟨bXor .u64 18446744073709551615 (W .u64 ((W .u64 (a1)) * 2)), rfl, rfl, rfl, (Imm.le_refl _), HK1⟩) .slnil (.refl _)
  ·skip
   have hc := (of_decide_eq_false hb)
   rw [if_neg hc] at H
   clear hb
   refine OK.sk ?_
   obtain rfl := Option.some.inj H
   exact QN.sb (hJ1 _ _ _ _ _ ⟨W .u64 ((W .u64 (a1)) * 2), rfl, rfl, rfl, (Imm.le_refl _), HK1⟩) .slnil (.refl _)

end Go.Proofs.YtiomeaoeegikkaaDoor
namespace Go.Proofs.YtiomeaoeegikkaaDoor
open Go Go.Proofs.YtiomeaoeegikkaaDoor.RW
set_option linter.unusedVariables false
set_option maxRecDepth 100000
set_option maxHeartbeats 8000000

/-! ### armillaryref27_EncodeEntry: function 38, armillary/armillaryref27.EncodeEntry -/
noncomputable def K38_0 : Code := cBody Tryd.f38
def armillaryref27_EncodeEntry.f (k : Nat) (a0 : S25) : Option (List Int × Int) := ((armillaryref27_ValidEntry.f a0).bind fun t1 => (if t1 = true then ((armillaryref27_AppendVarint.f k [] a0.f0).bind fun t2 => ((armillaryref27_AppendVarint.f k t2 (a0.f1.size : Int)).bind fun t3 => (if a0.f1.size ≤ 9223372036854775807 then (if (t3.length + (bytesOf a0.f1).length) * 1 ≤ 140737488355328 then ((armillaryref27_AppendVarint.f k (t3 ++ (bytesOf a0.f1)) (a0.f2.length : Int)).bind fun t4 => (if (t4.length + a0.f2.length) * 1 ≤ 140737488355328 then (some ((t4 ++ a0.f2), 0)) else none)) else none) else none))) else (some ([], 1))))
def armillaryref27_EncodeEntry.Post (I : Imm) (w : World) (r : List Int × Int) (v : Value) (w' : World) : Prop :=
 ∃ (J : Imm) (A0 : Option Addr) (c0 : Nat) (cs0 : List Value), v = .tuple #[.slice A0 r.1.length c0, .int .i64 r.2] ∧ Got w w' I J [orow 5 1 A0 r.1.length c0 cs0] ∧ Reps (Ty.int .u8) J r.1 cs0
theorem armillaryref27_EncodeEntry.calls (k : Nat) (I0 : Imm) (a0 : S25) (Ap0_2 : Option Addr) (cp0_2 : Nat) (w : World) (hI : I0.at_ w) (hlp0_2 : a0.f2.length ≤ cp0_2) (hrp0_2 : Rd (Ty.int .u8) I0 Ap0_2 a0.f2) (r : List Int × Int) (h : armillaryref27_EncodeEntry.f k a0 = some r) :
  Calls Tryd.prog 38 [.agg #[i6 a0.f0, .string a0.f1, .slice Ap0_2 a0.f2.length cp0_2]].toArray w fun e w' => ∃ v, e = .returned v ∧ armillaryref27_EncodeEntry.Post I0 w r v w' := by
 have H : ((armillaryref27_ValidEntry.f a0).bind fun t1 => (if t1 = true then ((armillaryref27_AppendVarint.f k [] a0.f0).bind fun t2 => ((armillaryref27_AppendVarint.f k t2 (a0.f1.size : Int)).bind fun t3 => (if a0.f1.size ≤ 9223372036854775807 then (if (t3.length + (bytesOf a0.f1).length) * 1 ≤ 140737488355328 then ((armillaryref27_AppendVarint.f k (t3 ++ (bytesOf a0.f1)) (a0.f2.length : Int)).bind fun t4 => (if (t4.length + a0.f2.length) * 1 ≤ 140737488355328 then (some ((t4 ++ a0.f2), 0)) else none)) else none) else none))) else (some ([], 1)))) = some r := h
 clear h
 refine calls_body Tryd.func38 (by kernel_rfl) 30 (by kernel_rfl) (by kernel_rfl) ⟨w, fun _ => False, I0⟩ I0 [] [(0, .agg #[i6 a0.f0, .string a0.f1, .slice Ap0_2 a0.f2.length cp0_2])] (by kernel_rfl) (Sat.start w _ I0 hI) ?_
 generalize w.heap.size = nx0
 show OK _ K38_0 _ _ _ _ _ _ _ _
 refine OK.sr ?_
 refine RL.spt 3 [(1, pt nx0 0)] (nx0 + 1) [⟨nx0, [i6 a0.f0, .string a0.f1, .slice Ap0_2 a0.f2.length cp0_2], 25⟩] ?_
 refine OK.sq ?_
 refine OK.sr ?_
 refine RL.simK (K' := [(5, .agg #[i6 a0.f0, .string a0.f1, .slice Ap0_2 a0.f2.length cp0_2]), (1, pt nx0 0)]) [] (RFacts.nil _ _ _) 1 [.l 0] (by kernel_rfl) (by kernel_rfl) ?_
 obtain ⟨t1, hA1, H⟩ := bnd H
 refine RL.callP 30 [.agg #[i6 a0.f0, .string a0.f1, .slice Ap0_2 a0.f2.length cp0_2]] (some 6) (fun w => armillaryref27_ValidEntry.Post I0 w t1) (by kernel_rfl) (by kernel_rfl) (fun w hs => armillaryref27_ValidEntry.calls I0 a0 Ap0_2 cp0_2 w hs.im hlp0_2 hrp0_2 t1 hA1) ?_
 rintro w v w' hs ⟨I1, rfl, hg⟩
 have hi1 := hg.le
 refine RL.resume (X' := []) rfl (hs.call hg) ?_
 clear hs hg
 generalize w'.heap.size = nx1
 clear w w'
 refine RL.st 1 [(7, .bool (!t1)), (1, pt nx0 0)] ?_
 refine OK.cd (!t1) (fun hb => ?_) (fun hb => ?_)
 ·have hb : t1 = false := by simpa using hb
  have hc := (Bool.eq_false_iff.1 hb)
  rw [if_neg hc] at H
  clear hb
  refine OK.sr ?_
  refine RL.st 2 [(3, i6 1), (2, .slice none 0 0)] ?_
  refine OK.re ?_
  refine QN.thenR ?_
  obtain rfl := Option.some.inj H
  refine QN.body rfl [] (RFacts.nil _ _ _) (.no) (.tuple #[.slice none 0 0, i6 1]) (by kernel_rfl) (by kernel_rfl) (by kernel_rfl) ?_ _ (.inr rfl)
  exact fun w' hs' => ⟨_, rfl, I1, none, 0, [], rfl, gotNil1 (hs'.got [] (List.nil_sublist _)), rfl⟩
 ·have hb : t1 = true := by simpa using hb
  have hc := hb
  rw [if_pos hc] at H
  clear hb
  refine OK.skt ?_
  refine OK.sr ?_
  refine RL.simK (K' := [(9, i6 a0.f0), (1, pt nx0 0)]) [] (RFacts.nil _ _ _) 2 [.no, .l 0] (by kernel_rfl) (by kernel_rfl) ?_
  obtain ⟨t2, hA2, H⟩ := bnd H
  refine RL.callP 54 [.slice none 0 0, i6 a0.f0] (some 10) (fun w => armillaryref27_AppendVarint.Post I1 w t2) (by kernel_rfl) (by kernel_rfl) (fun w hs => armillaryref27_AppendVarint.calls k I1 [] none 0 a0.f0 w hs.im (Nat.le_refl _) (Rd.nil _ _ _) t2 hA2) ?_
  rintro w v w' hs ⟨I2, A1, c1, cs1, rfl, hg, hp1⟩
  have hi2 := hg.le
  refine RL.resume (X' := [orow 5 1 A1 t2.length c1 cs1]) rfl (hs.call hg) ?_
  clear hs hg
  generalize w'.heap.size = nx2
  clear w w'
  refine RL.st 1 [(4, .slice A1 t2.length c1), (1, pt nx0 0)] ?_
  refine OK.sr ?_
  refine RL.simK (K' := [(14, i6 (a0.f1.size : Int)), (11, .slice A1 t2.length c1), (4, .slice A1 t2.length c1), (1, pt nx0 0)]) [] (RFacts.nil _ _ _) 4 [.no, .no, .l 0, .no] (by kernel_rfl) (by kernel_rfl) ?_
  refine RL.freeze (e := 5) (sz := 1) (S := A1) (n := t2.length) (cap := c1) 0 (by kernel_rfl) hp1 rfl (fun I3 hi3 hl1 hr1 => ?_)
  skip
  obtain ⟨t3, hA3, H⟩ := bnd H
  refine RL.callP 54 [.slice A1 t2.length c1, i6 (a0.f1.size : Int)] (some 15) (fun w => armillaryref27_AppendVarint.Post I3 w t3) (by kernel_rfl) (by kernel_rfl) (fun w hs => armillaryref27_AppendVarint.calls k I3 t2 A1 c1 (a0.f1.size : Int) w hs.im hl1 hr1 t3 hA3) ?_
  rintro w v w' hs ⟨I4, A2, c2, cs2, rfl, hg, hp2⟩
  have hi4 := hg.le
  refine RL.resume (X' := [orow 5 1 A2 t3.length c2 cs2]) rfl (hs.call hg) ?_
  clear hs hg
  generalize w'.heap.size = nx3
  clear w w'
  refine RL.st 1 [(4, .slice A2 t3.length c2), (1, pt nx0 0)] ?_
  refine OK.sr ?_
  refine RL.simK (K' := [(18, .string a0.f1), (16, .slice A2 t3.length c2), (4, .slice A2 t3.length c2), (1, pt nx0 0)]) [] (RFacts.nil _ _ _) 3 [.no, .no, .l 0] (by kernel_rfl) (by kernel_rfl) ?_
  obtain ⟨hz1, H⟩ := ifs H
  refine RL.toBytes (src := 9) (dst := 22) (e := 5) a0.f1 .string (some 19) (by kernel_rfl) (by kernel_rfl) (by kernel_rfl) (by kernel_rfl) (by kernel_rfl) hz1 (fun I5 c3 nx4 hi5 hl2 hr2 => ?_)
  refine RL.norm (K' := [(19, .slice (some ⟨nx3, 0, none⟩) ((bytesOf a0.f1).length) c3), (18, .string a0.f1), (16, .slice A2 t3.length c2), (4, .slice A2 t3.length c2), (1, pt nx0 0)]) (by kernel_rfl) rfl rfl rfl ?_
  obtain ⟨hz2, H⟩ := ifs H
  refine RL.appendR (T := 22) (e := 5) (S := A2) (S2 := (some ⟨nx3, 0, none⟩)) 1 1 22 c2 c3 cs2 (Ty.int .u8) t3 (bytesOf a0.f1) 0 (some 20) (by kernel_rfl) (by kernel_rfl) (by kernel_rfl) (by kernel_rfl) (by kernel_rfl) (by decide) (by kernel_rfl) (Reps.ext hi5 hp2) hr2 hz2 (by omega) (fun A3 c4 nx5 cs3 hp3 => ?_)
  refine RL.sub (K' := [(20, .slice A3 ((t3 ++ (bytesOf a0.f1)).length) c4), (19, .slice (some ⟨nx3, 0, none⟩) ((bytesOf a0.f1).length) c3), (18, .string a0.f1), (1, pt nx0 0)]) (L' := [⟨nx0, [i6 a0.f0, .string a0.f1, .slice Ap0_2 a0.f2.length cp0_2], 25⟩]) (X' := [orow 5 1 A3 ((t3 ++ (bytesOf a0.f1)).length) c4 cs3]) (by kernel_rfl) (.refl _) (.refl _) ?_
  refine RL.st 1 [(4, .slice A3 ((t3 ++ (bytesOf a0.f1)).length) c4), (1, pt nx0 0)] ?_
  refine OK.sr ?_
  refine RL.simK (K' := [(24, i6 (a0.f2.length : Int)), (21, .slice A3 ((t3 ++ (bytesOf a0.f1)).length) c4), (4, .slice A3 ((t3 ++ (bytesOf a0.f1)).length) c4), (1, pt nx0 0)]) [] (RFacts.nil _ _ _) 4 [.no, .no, .l 0, .no] (by kernel_rfl) (by kernel_rfl) ?_
  refine RL.freeze (e := 5) (sz := 1) (S := A3) (n := (t3 ++ (bytesOf a0.f1)).length) (cap := c4) 0 (by kernel_rfl) hp3 rfl (fun I6 hi6 hl3 hr3 => ?_)
  skip
  obtain ⟨t4, hA4, H⟩ := bnd H
  refine RL.callP 54 [.slice A3 ((t3 ++ (bytesOf a0.f1)).length) c4, i6 (a0.f2.length : Int)] (some 25) (fun w => armillaryref27_AppendVarint.Post I6 w t4) (by kernel_rfl) (by kernel_rfl) (fun w hs => armillaryref27_AppendVarint.calls k I6 (t3 ++ (bytesOf a0.f1)) A3 c4 (a0.f2.length : Int) w hs.im hl3 hr3 t4 hA4) ?_
  rintro w v w' hs ⟨I7, A4, c5, cs4, rfl, hg, hp4⟩
  have hi7 := hg.le
  refine RL.resume (X' := [orow 5 1 A4 t4.length c5 cs4]) rfl (hs.call hg) ?_
  clear hs hg
  generalize w'.heap.size = nx6
  clear w w'
  refine RL.st 1 [(4, .slice A4 t4.length c5), (1, pt nx0 0)] ?_
  refine OK.sr ?_
  refine RL.simK (K' := [(28, .slice Ap0_2 a0.f2.length cp0_2), (26, .slice A4 t4.length c5)]) [] (RFacts.nil _ _ _) 3 [.no, .no, .l 0] (by kernel_rfl) (by kernel_rfl) ?_
  obtain ⟨hz3, H⟩ := ifs H
  refine RL.appendR (T := 22) (e := 5) (S := A4) (S2 := Ap0_2) 1 1 22 c5 cp0_2 cs4 (Ty.int .u8) t4 a0.f2 0 (some 29) (by kernel_rfl) (by kernel_rfl) (by kernel_rfl) (by kernel_rfl) (by kernel_rfl) (by decide) (by kernel_rfl) hp4 (Rd.ext (Imm.le_trans (Imm.le_trans (Imm.le_trans (Imm.le_trans (Imm.le_trans (Imm.le_trans hi1 hi2) hi3) hi4) hi5) hi6) hi7) hrp0_2) hz3 (by omega) (fun A5 c6 nx7 cs5 hp5 => ?_)
  refine RL.sub (K' := [(29, .slice A5 ((t4 ++ a0.f2).length) c6), (28, .slice Ap0_2 a0.f2.length cp0_2)]) (L' := [⟨nx0, [i6 a0.f0, .string a0.f1, .slice Ap0_2 a0.f2.length cp0_2], 25⟩]) (X' := [orow 5 1 A5 ((t4 ++ a0.f2).length) c6 cs5]) (by kernel_rfl) (.refl _) (.refl _) ?_
  refine RL.st 2 [(3, i6 0), (2, .slice A5 ((t4 ++ a0.f2).length) c6)] ?_
  refine OK.re ?_
  obtain rfl := Option.some.inj H
  refine QN.body rfl [] (RFacts.nil _ _ _) (.no) (.tuple #[.slice A5 ((t4 ++ a0.f2).length) c6, i6 0]) (by kernel_rfl) (by kernel_rfl) (by kernel_rfl) ?_ _ (.inr rfl)
  exact fun w' hs' => ⟨_, rfl, I7, A5, c6, cs5, rfl, hs'.got _ (.cons_cons _ .slnil), hp5⟩

end Go.Proofs.YtiomeaoeegikkaaDoor
namespace Go.Proofs.YtiomeaoeegikkaaDoor
open Go Go.Proofs.YtiomeaoeegikkaaDoor.RW
set_option linter.unusedVariables false
set_option maxRecDepth 100000
set_option maxHeartbeats 8000000

/-! ### armillaryref28_appendWords0: function 39, armillary/armillaryref28.appendWord -/
noncomputable def K39s0_0 : Code := cBody Tryd.f39
def armillaryref28_appendWords0.k1  (x1 : List Int) : Option (List Int) := (some x1)
def armillaryref28_appendWords0.l1 : Nat → (List Int) → Int → Int → Option (List Int)
 | 0, _, _, _ => none
 | k + 1, x2, x3, x4 => (if x4 < 4 then (if (x2.length + [W .u8 (x3.tmod 256)].length) * 1 ≤ 140737488355328 then (armillaryref28_appendWords0.l1 k (x2 ++ [W .u8 (x3.tmod 256)]) (W .u32 (x3.tdiv 256)) (W .i64 (x4 + 1))) else none) else (some x2))
def armillaryref28_appendWords0.f (k : Nat) (a0 : List Int) (a1 : Int) : Option (List Int) := ((armillaryref28_appendWords0.l1 k a0 a1 0).bind (armillaryref28_appendWords0.k1))
def armillaryref28_appendWords0.Post (S : Nat → Prop) (a0 : List Int) (Aa0 : Option Addr) (ca0 : Nat) (csa0 : List Value) (a1 : Int) (I : Imm) (w : World) (r : List Int) (v : Value) (w' : World) : Prop :=
 ∃ (J : Imm) (Ar0 : Option Addr) (cr0 : Nat) (csr0 : List Value), v = .slice Ar0 r.length cr0 ∧ Sat ⟨w, S, I⟩ J w'.heap.size [] [orow 5 1 Ar0 r.length cr0 csr0] w' ∧ Reps (Ty.int .u8) J r csr0
theorem armillaryref28_appendWords0.calls (k : Nat) (I0 : Imm) (a0 : List Int) (Aa0 : Option Addr) (ca0 : Nat) (csa0 : List Value) (a1 : Int) (w : World) (hs : Sat ⟨w, SM [] [orow 5 1 Aa0 a0.length ca0 csa0], I0⟩ I0 w.heap.size [] [orow 5 1 Aa0 a0.length ca0 csa0] w) (hpa0 : Reps (Ty.int .u8) I0 a0 csa0) (r : List Int) (h : armillaryref28_appendWords0.f k a0 a1 = some r) :
  Calls Tryd.prog 39 [.slice Aa0 a0.length ca0, .int .u32 a1].toArray w fun e w' => ∃ v, e = .returned v ∧ armillaryref28_appendWords0.Post (SM [] [orow 5 1 Aa0 a0.length ca0 csa0]) a0 Aa0 ca0 csa0 a1 I0 w r v w' := by
 have H : ((armillaryref28_appendWords0.l1 k a0 a1 0).bind (armillaryref28_appendWords0.k1)) = some r := h
 clear h
 refine calls_bodyL Tryd.func39 (by kernel_rfl) 19 (by kernel_rfl) (by kernel_rfl) ⟨w, SM [] [orow 5 1 Aa0 a0.length ca0 csa0], I0⟩ I0 [] [orow 5 1 Aa0 a0.length ca0 csa0] [(0, .slice Aa0 a0.length ca0), (1, .int .u32 a1)] (by kernel_rfl) hs ?_
 generalize w.heap.size = nx0
 show OK _ K39s0_0 _ _ _ _ _ _ _ _
 refine OK.sr ?_
 refine RL.st 1 [(0, .slice Aa0 a0.length ca0), (1, .int .u32 a1)] ?_
 refine OK.sq ?_
 refine OK.sr ?_
 refine RL.st 1 [(5, i6 0), (0, .slice Aa0 a0.length ca0), (1, .int .u32 a1)] ?_
 refine OK.join (fun K' I' _ L' X' => ∃ (x1 : List Int) (A1 : Option Addr) (c1 : Nat) (cs1 : List Value), K' = [(0, .slice A1 x1.length c1)] ∧ L' = [] ∧ X' = [orow 5 1 A1 x1.length c1 cs1] ∧ Imm.le I0 I' ∧ Reps (Ty.int .u8) I' x1 cs1 ∧ armillaryref28_appendWords0.k1 x1 = some r) ?_ ?_
 ·rintro _ I1 nx1 _ _ ⟨x1, A1, c1, cs1, rfl, rfl, rfl, hi1, hp1, H⟩
  rw [armillaryref28_appendWords0.k1] at H
  refine QN.then_ ?_
  refine OK.sr ?_
  refine RL.st 2 [(4, .slice A1 x1.length c1)] ?_
  refine OK.re ?_
  obtain rfl := Option.some.inj H
  refine QN.body rfl [] (RFacts.nil _ _ _) (.no) (.slice A1 x1.length c1) (by kernel_rfl) (by kernel_rfl) (by kernel_rfl) ?_ _ (.inr rfl)
  exact fun w' hs' => ⟨_, rfl, I1, A1, c1, cs1, rfl, ((hs'.fin.selB [] (by kernel_rfl)).sel [0] (by kernel_rfl)), hp1⟩
 ·intro Q_1 hJ1 hQ1
  obtain ⟨y1, H, HK1⟩ := bnd H
  refine OK.bk 0 ?_
  refine OK.sub (K' := [(0, .slice Aa0 a0.length ca0), (1, .int .u32 a1), (5, i6 0)]) (L' := []) (by kernel_rfl) .slnil (.refl _) ?_
  refine OK.lp (fun n_ K' I' _ L' X' => ∃ (x2 : List Int) (x3 : Int) (x4 : Int) (A2 : Option Addr) (c2 : Nat) (cs2 : List Value), K' = [(0, .slice A2 x2.length c2), (1, .int .u32 x3), (5, i6 x4)] ∧ L' = [] ∧ X' = [orow 5 1 A2 x2.length c2 cs2] ∧ Imm.le I0 I' ∧ Reps (Ty.int .u8) I' x2 cs2 ∧ armillaryref28_appendWords0.l1 n_ x2 x3 x4 = some y1) k ⟨a0, a1, 0, Aa0, ca0, csa0, rfl, rfl, rfl, (Imm.le_refl _), hpa0, H⟩ ?_ ?_
  ·rintro _ _ _ _ _ ⟨x2, x3, x4, A2, c2, cs2, rfl, rfl, rfl, _, hp2, H⟩
   cases H
  ·rintro kq1 _ I2 nx2 _ _ ⟨x2, x3, x4, A2, c2, cs2, rfl, rfl, rfl, hi2, hp2, H⟩ Q_l1 hJ2 hQ2
   rw [armillaryref28_appendWords0.l1] at H
   refine OK.sq ?_
   refine OK.sr ?_
   refine RL.st 2 [(7, .bool (decide (x4 < 4))), (0, .slice A2 x2.length c2), (1, .int .u32 x3), (5, i6 x4)] ?_
   refine OK.cd (decide (x4 < 4)) (fun hb => ?_) (fun hb => ?_)
   ·skip
    have hc := (of_decide_eq_true hb)
    rw [if_pos hc] at H
    clear hb
    refine OK.skt ?_
    refine OK.sq ?_
    refine OK.bk 1 ?_
    refine OK.sr ?_
    refine RL.sp 5 [(14, .slice (some ⟨nx2, 0, none⟩) 1 1), (10, .slice A2 x2.length c2), (0, .slice A2 x2.length c2), (1, .int .u32 x3), (5, i6 x4)] (nx2 + 1) [⟨nx2, [.int .u8 (W .u8 (x3.tmod 256))], 5⟩] ?_
    obtain ⟨hz1, H⟩ := ifs H
    refine RL.appendB (T := 22) (e := 5) (S := A2) 1 1 22 c2 0 1 nx2 5 cs2 [.int .u8 (W .u8 (x3.tmod 256))] (Ty.int .u8) x2 [W .u8 (x3.tmod 256)] 0 (some 15) (by kernel_rfl) (by kernel_rfl) (by kernel_rfl) (by kernel_rfl) (by kernel_rfl) (by decide) (by kernel_rfl) hp2 (by kernel_rfl) ⟨_, _, rfl, rfl, rfl⟩ hz1 (by omega) (fun A3 c3 nx3 cs3 hp3 => ?_)
    refine RL.sub (K' := [(15, .slice A3 ((x2 ++ [W .u8 (x3.tmod 256)]).length) c3), (14, .slice (some ⟨nx2, 0, none⟩) 1 1), (1, .int .u32 x3), (5, i6 x4)]) (L' := [⟨nx2, [.int .u8 (W .u8 (x3.tmod 256))], 5⟩]) (X' := [orow 5 1 A3 ((x2 ++ [W .u8 (x3.tmod 256)]).length) c3 cs3]) (by kernel_rfl) (.refl _) (.refl _) ?_
    refine RL.st 1 [(0, .slice A3 ((x2 ++ [W .u8 (x3.tmod 256)]).length) c3), (1, .int .u32 x3), (5, i6 x4)] ?_
    refine OK.rg ?_
    refine RL.s 3 [(1, .int .u32 (W .u32 (x3.tdiv 256))), (0, .slice A3 ((x2 ++ [W .u8 (x3.tmod 256)]).length) c3), (5, i6 x4)] ?_
    refine RL.nil (by kernel_rfl) ?_
    refine QN.blkN ?_
    refine QN.then_ ?_
    refine OK.rg ?_
    refine RL.s 3 [(5, i6 (W .i64 (x4 + 1))), (1, .int .u32 (W .u32 (x3.tdiv 256))), (0, .slice A3 ((x2 ++ [W .u8 (x3.tmod 256)]).length) c3)] ?_
    refine RL.nil (by kernel_rfl) ?_
    exact QN.sb (hJ2 _ _ _ _ _ ⟨(x2 ++ [W .u8 (x3.tmod 256)]), W .u32 (x3.tdiv 256), W .i64 (x4 + 1), A3, c3, cs3, rfl, rfl, rfl, hi2, hp3, H⟩) (.cons _ .slnil) (.refl _)
   ·skip
    have hc := (of_decide_eq_false hb)
    rw [if_neg hc] at H
    clear hb
    refine OK.ex 0 ?_
    refine QN.thenE ?_
    refine QN.outE hQ2 ?_
    refine QN.blkE ?_
    obtain rfl := Option.some.inj H
    exact QN.sb (hJ1 _ _ _ _ _ ⟨x2, A2, c2, cs2, rfl, rfl, rfl, hi2, hp2, HK1⟩) .slnil (.refl _)

end Go.Proofs.YtiomeaoeegikkaaDoor
namespace Go.Proofs.YtiomeaoeegikkaaDoor
open Go Go.Proofs.YtiomeaoeegikkaaDoor.RW
set_option linter.unusedVariables false
set_option maxRecDepth 100000
set_option maxHeartbeats 8000000

/-! ### armillaryref27_Checksum: function 40, armillary/armillaryref27.Checksum -/
noncomputable def K40_0 : Code := cBody Tryd.f40
def armillaryref27_Checksum.k1  (x1 : Int) : Option (Int) := (some (bXor .u32 x1 4294967295))
def armillaryref27_Checksum.k3  (x5 : Int) : Option (Int) := (some x5)
def armillaryref27_Checksum.l2 : Nat → Int → Int → Option (Int)
 | 0, _, _ => none
 | k + 1, x6, x7 => (if x7 < 8 then ((if (bAnd .u32 x6 1) = 1 then (some (bXor .u32 (Int.fdiv x6 2) 3988292384)) else (some (Int.fdiv x6 2))).bind (fun x8 => (armillaryref27_Checksum.l2 k x8 (W .i64 (x7 + 1))))) else (some x6))
def armillaryref27_Checksum.l1 (a0 : List Int) : Nat → Int → Int → Option (Int)
 | 0, _, _ => none
 | k + 1, x2, x3 => (if x3 < (a0.length : Int) then ((if 0 ≤ x3 then (if x3 < (a0.length : Int) then ((armillaryref27_Checksum.l2 k (bXor .u32 x2 (W .u32 ((a0.getD (x3).toNat 0)))) 0).bind (armillaryref27_Checksum.k3)) else none) else none).bind (fun x4 => (armillaryref27_Checksum.l1 a0 k x4 (W .i64 (x3 + 1))))) else (some x2))
def armillaryref27_Checksum.f (k : Nat) (a0 : List Int) : Option (Int) := ((armillaryref27_Checksum.l1 a0 k 4294967295 0).bind (armillaryref27_Checksum.k1))
def armillaryref27_Checksum.Post (I : Imm) (w : World) (r : Int) (v : Value) (w' : World) : Prop :=
 ∃ (J : Imm), v = .int .u32 r ∧ Got w w' I J []
theorem armillaryref27_Checksum.calls (k : Nat) (I0 : Imm) (a0 : List Int) (Ap0 : Option Addr) (cp0 : Nat) (w : World) (hI : I0.at_ w) (hlp0 : a0.length ≤ cp0) (hrp0 : Rd (Ty.int .u8) I0 Ap0 a0) (r : Int) (h : armillaryref27_Checksum.f k a0 = some r) :
  Calls Tryd.prog 40 [.slice Ap0 a0.length cp0].toArray w fun e w' => ∃ v, e = .returned v ∧ armillaryref27_Checksum.Post I0 w r v w' := by
 have H : ((armillaryref27_Checksum.l1 a0 k 4294967295 0).bind (armillaryref27_Checksum.k1)) = some r := h
 clear h
 refine calls_body Tryd.func40 (by kernel_rfl) 33 (by kernel_rfl) (by kernel_rfl) ⟨w, fun _ => False, I0⟩ I0 [] [(0, .slice Ap0 a0.length cp0)] (by kernel_rfl) (Sat.start w _ I0 hI) ?_
 generalize w.heap.size = nx0
 show OK _ K40_0 _ _ _ _ _ _ _ _
 refine OK.sr ?_
 refine RL.st 1 [(0, .slice Ap0 a0.length cp0)] ?_
 refine OK.sr ?_
 refine RL.st 1 [(3, .int .u32 4294967295), (0, .slice Ap0 a0.length cp0)] ?_
 refine OK.sq ?_
 refine OK.sr ?_
 refine RL.st 1 [(4, i6 0), (3, .int .u32 4294967295), (0, .slice Ap0 a0.length cp0)] ?_
 refine OK.join (fun K' I' _ L' X' => ∃ (x1 : Int), K' = [(3, .int .u32 x1)] ∧ L' = [] ∧ X' = [] ∧ Imm.le I0 I' ∧ armillaryref27_Checksum.k1 x1 = some r) ?_ ?_
 ·rintro _ I1 nx1 _ _ ⟨x1, rfl, rfl, rfl, hi1, H⟩
  rw [armillaryref27_Checksum.k1] at H
  refine QN.then_ ?_
  refine OK.sr ?_
  refine RL.st 3 [(2, .int .u32 (bXor .u32 x1 4294967295))] ?_
  refine OK.re ?_
  obtain rfl := Option.some.inj H
  refine QN.body rfl [] (RFacts.nil _ _ _) (.no) (.int .u32 (bXor .u32 x1 4294967295)) (by kernel_rfl) (by kernel_rfl) (by kernel_rfl) ?_ _ (.inr rfl)
  exact fun w' hs' => ⟨_, rfl, I1, rfl, hs'.got _ .slnil⟩
 ·intro Q_1 hJ1 hQ1
  obtain ⟨y1, H, HK1⟩ := bnd H
  refine OK.bk 0 ?_
  refine OK.sub (K' := [(0, .slice Ap0 a0.length cp0), (3, .int .u32 4294967295), (4, i6 0)]) (L' := []) (by kernel_rfl) .slnil (.refl _) ?_
  refine OK.lp (fun n_ K' I' _ L' X' => ∃ (x2 : Int) (x3 : Int), K' = [(0, .slice Ap0 a0.length cp0), (3, .int .u32 x2), (4, i6 x3)] ∧ L' = [] ∧ X' = [] ∧ Imm.le I0 I' ∧ armillaryref27_Checksum.l1 a0 n_ x2 x3 = some y1) k ⟨4294967295, 0, rfl, rfl, rfl, (Imm.le_refl _), H⟩ ?_ ?_
  ·rintro _ _ _ _ _ ⟨x2, x3, rfl, rfl, rfl, _, H⟩
   cases H
  ·rintro kq1 _ I2 nx2 _ _ ⟨x2, x3, rfl, rfl, rfl, hi2, H⟩ Q_l1 hJ2 hQ2
   rw [armillaryref27_Checksum.l1] at H
   refine OK.sq ?_
   refine OK.sr ?_
   refine RL.st 4 [(9, .bool (decide (x3 < (a0.length : Int)))), (0, .slice Ap0 a0.length cp0), (3, .int .u32 x2), (4, i6 x3)] ?_
   refine OK.cd (decide (x3 < (a0.length : Int))) (fun hb => ?_) (fun hb => ?_)
   ·skip
    have hc := (of_decide_eq_true hb)
    rw [if_pos hc] at H
    clear hb
    refine OK.skt ?_
    refine OK.sq ?_
    refine OK.join (fun K' I' _ L' X' => ∃ (x4 : Int), K' = [(0, .slice Ap0 a0.length cp0), (3, .int .u32 x4), (4, i6 x3)] ∧ L' = [] ∧ X' = [] ∧ Imm.le I2 I' ∧ (armillaryref27_Checksum.l1 a0 kq1 x4 (W .i64 (x3 + 1))) = some y1) ?_ ?_
    ·rintro _ I3 nx3 _ _ ⟨x4, rfl, rfl, rfl, hi3, H⟩
     replace H : (armillaryref27_Checksum.l1 a0 kq1 x4 (W .i64 (x3 + 1))) = some y1 := H
     refine QN.then_ ?_
     refine OK.rg ?_
     refine RL.s 3 [(4, i6 (W .i64 (x3 + 1))), (0, .slice Ap0 a0.length cp0), (3, .int .u32 x4)] ?_
     refine RL.nil (by kernel_rfl) ?_
     exact QN.sb (hJ2 _ _ _ _ _ ⟨x4, W .i64 (x3 + 1), rfl, rfl, rfl, (Imm.le_trans hi2 hi3), H⟩) .slnil (.refl _)
    ·intro Q_2 hJ3 hQ3
     obtain ⟨y2, H, HK2⟩ := bnd H
     refine OK.bk 1 ?_
     refine OK.sr ?_
     refine RL.s 3 [(14, i6 x3), (13, .slice Ap0 a0.length cp0), (12, .int .u32 x2), (0, .slice Ap0 a0.length cp0), (3, .int .u32 x2), (4, i6 x3)] ?_
     obtain ⟨hib0, H⟩ := ifs H
     obtain ⟨hib1, H⟩ := ifs H
     obtain ⟨g1_, o1_, hA1_, hc1_⟩ := Ty.int_at (Rd.ext hi2 hrp0) x3 hib0 hib1
     refine RL.idx 1 .i64 x3 hA1_ a0.length cp0 (some 15) (by kernel_rfl) (by kernel_rfl) (T := 22) (e := 5) (by kernel_rfl) (by kernel_rfl) hib0 hib1 (K' := [(15, pt g1_ (o1_ + (x3).toNat * 1)), (14, i6 x3), (13, .slice Ap0 a0.length cp0), (12, .int .u32 x2), (0, .slice Ap0 a0.length cp0), (3, .int .u32 x2), (4, i6 x3)]) (by kernel_rfl) ?_
     refine RL.simK (K' := [(3, .int .u32 (bXor .u32 x2 (W .u32 ((a0.getD (x3).toNat 0))))), (0, .slice Ap0 a0.length cp0), (4, i6 x3)]) [(⟨g1_, o1_ + (x3).toNat * 1, none⟩, .int .u8 (a0.getD (x3).toNat 0))] (RFacts.imm (hc1_ 0 _ rfl) (RFacts.nil _ _ _)) 4 [.r 0, .no, .no, .no] (by kernel_rfl) (by kernel_rfl) ?_
     refine RL.nt ?_
     refine OK.sr ?_
     refine RL.st 1 [(5, i6 0), (3, .int .u32 (bXor .u32 x2 (W .u32 ((a0.getD (x3).toNat 0))))), (0, .slice Ap0 a0.length cp0), (4, i6 x3)] ?_
     refine OK.join (fun K' I' _ L' X' => ∃ (x5 : Int), K' = [(0, .slice Ap0 a0.length cp0), (3, .int .u32 x5), (4, i6 x3)] ∧ L' = [] ∧ X' = [] ∧ Imm.le I2 I' ∧ armillaryref27_Checksum.k3 x5 = some y2) ?_ ?_
     ·rintro _ I4 nx4 _ _ ⟨x5, rfl, rfl, rfl, hi4, H⟩
      rw [armillaryref27_Checksum.k3] at H
      refine QN.blkN ?_
      obtain rfl := Option.some.inj H
      exact QN.sb (hJ3 _ _ _ _ _ ⟨x5, rfl, rfl, rfl, hi4, HK2⟩) .slnil (.refl _)
     ·intro Q_3 hJ4 hQ4
      obtain ⟨y3, H, HK3⟩ := bnd H
      refine OK.bk 2 ?_
      refine OK.sub (K' := [(0, .slice Ap0 a0.length cp0), (3, .int .u32 (bXor .u32 x2 (W .u32 ((a0.getD (x3).toNat 0))))), (4, i6 x3), (5, i6 0)]) (L' := []) (by kernel_rfl) .slnil (.refl _) ?_
      refine OK.lp (fun n_ K' I' _ L' X' => ∃ (x6 : Int) (x7 : Int), K' = [(0, .slice Ap0 a0.length cp0), (3, .int .u32 x6), (4, i6 x3), (5, i6 x7)] ∧ L' = [] ∧ X' = [] ∧ Imm.le I2 I' ∧ armillaryref27_Checksum.l2 n_ x6 x7 = some y3) kq1 ⟨bXor .u32 x2 (W .u32 ((a0.getD (x3).toNat 0))), 0, rfl, rfl, rfl, (Imm.le_refl _), H⟩ ?_ ?_
      ·rintro _ _ _ _ _ ⟨x6, x7, rfl, rfl, rfl, _, H⟩
       cases H
      ·rintro kq2 _ I5 nx5 _ _ ⟨x6, x7, rfl, rfl, rfl, hi5, H⟩ Q_l2 hJ5 hQ5
       rw [armillaryref27_Checksum.l2] at H
       refine OK.sq ?_
       refine OK.sr ?_
       refine RL.st 2 [(20, .bool (decide (x7 < 8))), (0, .slice Ap0 a0.length cp0), (3, .int .u32 x6), (4, i6 x3), (5, i6 x7)] ?_
       refine OK.cd (decide (x7 < 8)) (fun hb => ?_) (fun hb => ?_)
       ·skip
        have hc := (of_decide_eq_true hb)
        rw [if_pos hc] at H
        clear hb
        refine OK.skt ?_
        refine OK.sq ?_
        refine OK.bk 3 ?_
        refine OK.sr ?_
        refine RL.st 3 [(25, .bool ((bAnd .u32 x6 1) == 1)), (0, .slice Ap0 a0.length cp0), (3, .int .u32 x6), (4, i6 x3), (5, i6 x7)] ?_
        refine OK.join (fun K' I' _ L' X' => ∃ (x8 : Int), K' = [(0, .slice Ap0 a0.length cp0), (3, .int .u32 x8), (4, i6 x3), (5, i6 x7)] ∧ L' = [] ∧ X' = [] ∧ Imm.le I5 I' ∧ (armillaryref27_Checksum.l2 kq2 x8 (W .i64 (x7 + 1))) = some y3) ?_ ?_
        ·rintro _ I6 nx6 _ _ ⟨x8, rfl, rfl, rfl, hi6, H⟩
         replace H : (armillaryref27_Checksum.l2 kq2 x8 (W .i64 (x7 + 1))) = some y3 := H
         refine QN.blkN ?_
         refine QN.then_ ?_
         refine OK.rg ?_
         refine RL.s 3 [(5, i6 (W .i64 (x7 + 1))), (0, .slice Ap0 a0.length cp0), (3, .int .u32 x8), (4, i6 x3)] ?_
         refine RL.nil (by kernel_rfl) ?_
         exact QN.sb (hJ5 _ _ _ _ _ ⟨x8, W .i64 (x7 + 1), rfl, rfl, rfl, (Imm.le_trans hi5 hi6), H⟩) .slnil (.refl _)
        ·intro Q_4 hJ6 hQ6
         obtain ⟨y4, H, HK4⟩ := bnd H
         refine OK.cd ((bAnd .u32 x6 1) == 1) (fun hb => ?_) (fun hb => ?_)
         ·skip
          have hc := (beq_iff_eq.1 hb)
          rw [if_pos hc] at H
          clear hb
          refine OK.rg ?_
          refine RL.s 4 [(3, .int .u32 (bXor .u32 (Int.fdiv x6 2) 3988292384)), (0, .slice Ap0 a0.length cp0), (4, i6 x3), (5, i6 x7)] ?_
          refine RL.nil (by kernel_rfl) ?_
          obtain rfl := Option.some.inj H
          exact QN.sb (hJ6 _ _ _ _ _ ⟨bXor .u32 (Int.fdiv x6 2) 3988292384, rfl, rfl, rfl, (Imm.le_refl _), HK4⟩) .slnil (.refl _)
         ·skip
          have hc := (beq_eq_false_iff_ne.1 hb)
          rw [if_neg hc] at H
          clear hb
          refine OK.rg ?_
          refine RL.s 3 [(3, .int .u32 (Int.fdiv x6 2)), (0, .slice Ap0 a0.length cp0), (4, i6 x3), (5, i6 x7)] ?_
          refine RL.nil (by kernel_rfl) ?_
          obtain rfl := Option.some.inj H
          exact QN.sb (hJ6 _ _ _ _ _ ⟨Int.fdiv x6 2, rfl, rfl, rfl, (Imm.le_refl _), HK4⟩) .slnil (.refl _)
       ·skip
        have hc := (of_decide_eq_false hb)
        rw [if_neg hc] at H
        clear hb
        refine OK.ex 2 ?_
        refine QN.thenE ?_
        refine QN.outE hQ5 ?_
        refine QN.blkE ?_
        obtain rfl := Option.some.inj H
        exact QN.sb (hJ4 _ _ _ _ _ ⟨x6, rfl, rfl, rfl, hi5, HK3⟩) .slnil (.refl _)
   ·skip
    have hc := (of_decide_eq_false hb)
    rw [if_neg hc] at H
    clear hb
    refine OK.ex 0 ?_
    refine QN.thenE ?_
    refine QN.outE hQ2 ?_
    refine QN.blkE ?_
    obtain rfl := Option.some.inj H
    exact QN.sb (hJ1 _ _ _ _ _ ⟨x2, rfl, rfl, rfl, hi2, HK1⟩) .slnil (.refl _)

end Go.Proofs.YtiomeaoeegikkaaDoor
namespace Go.Proofs.YtiomeaoeegikkaaDoor
open Go Go.Proofs.YtiomeaoeegikkaaDoor.RW
set_option linter.unusedVariables false
set_option maxRecDepth 100000
set_option maxHeartbeats 8000000

/-! ### armillaryref28_ChainHash: function 23, armillary/armillaryref28.ChainHash -/
noncomputable def K23_0 : Code := cBody Tryd.f23
def armillaryref28_ChainHash.body (k : Nat) (rec_ : (List S25) → Option (Int)) (a0 : List S25) : Option (Int) := (if (a0.length : Int) = 0 then (some 0) else (if 0 ≤ (W .i64 ((a0.length : Int) - 1)) then (if (W .i64 ((a0.length : Int) - 1)) < (a0.length : Int) then ((armillaryref27_EncodeEntry.f k (a0.getD (W .i64 ((a0.length : Int) - 1)).toNat z25)).bind fun t1 => (if (0 : Int) ≤ (W .i64 ((a0.length : Int) - 1)) then (if (W .i64 ((a0.length : Int) - 1)) ≤ (a0.length : Int) then ((rec_ (rpart a0 0 (W .i64 ((a0.length : Int) - 1)))).bind fun t2 => ((armillaryref28_appendWords0.f k ([] : List Int) t2).bind fun t3 => (if (t3.length + t1.1.length) * 1 ≤ 140737488355328 then ((armillaryref27_Checksum.f k (t3 ++ t1.1)).bind fun t4 => (some t4)) else none))) else none) else none)) else none) else none))
def armillaryref28_ChainHash.f : Nat → (List S25) → Option (Int)
 | 0, _ => none
 | k + 1, a0 => armillaryref28_ChainHash.body k (armillaryref28_ChainHash.f k) a0
def armillaryref28_ChainHash.Post (I : Imm) (w : World) (r : Int) (v : Value) (w' : World) : Prop :=
 ∃ (J : Imm), v = .int .u32 r ∧ Got w w' I J []
theorem armillaryref28_ChainHash.bodyCalls (k : Nat) (rec_ : (List S25) → Option (Int)) (hrec : ∀ (I0 : Imm) (a0 : List S25) (Ap0 : Option Addr) (cp0 : Nat) (w : World) (hI : I0.at_ w) (hlp0 : a0.length ≤ cp0) (hrp0 : Rd t25 I0 Ap0 a0) (r : Int) (h : rec_ a0 = some r), Calls Tryd.prog 23 [.slice Ap0 a0.length cp0].toArray w fun e w' => ∃ v, e = .returned v ∧ armillaryref28_ChainHash.Post I0 w r v w') (I0 : Imm) (a0 : List S25) (Ap0 : Option Addr) (cp0 : Nat) (w : World) (hI : I0.at_ w) (hlp0 : a0.length ≤ cp0) (hrp0 : Rd t25 I0 Ap0 a0) (r : Int) (h : armillaryref28_ChainHash.body k rec_ a0 = some r) : Calls Tryd.prog 23 [.slice Ap0 a0.length cp0].toArray w fun e w' => ∃ v, e = .returned v ∧ armillaryref28_ChainHash.Post I0 w r v w' := by
 have H : (if (a0.length : Int) = 0 then (some 0) else (if 0 ≤ (W .i64 ((a0.length : Int) - 1)) then (if (W .i64 ((a0.length : Int) - 1)) < (a0.length : Int) then ((armillaryref27_EncodeEntry.f k (a0.getD (W .i64 ((a0.length : Int) - 1)).toNat z25)).bind fun t1 => (if (0 : Int) ≤ (W .i64 ((a0.length : Int) - 1)) then (if (W .i64 ((a0.length : Int) - 1)) ≤ (a0.length : Int) then ((rec_ (rpart a0 0 (W .i64 ((a0.length : Int) - 1)))).bind fun t2 => ((armillaryref28_appendWords0.f k ([] : List Int) t2).bind fun t3 => (if (t3.length + t1.1.length) * 1 ≤ 140737488355328 then ((armillaryref27_Checksum.f k (t3 ++ t1.1)).bind fun t4 => (some t4)) else none))) else none) else none)) else none) else none)) = some r := h
 clear h
 refine calls_body Tryd.func23 (by kernel_rfl) 32 (by kernel_rfl) (by kernel_rfl) ⟨w, fun _ => False, I0⟩ I0 [] [(0, .slice Ap0 a0.length cp0)] (by kernel_rfl) (Sat.start w _ I0 hI) ?_
 generalize w.heap.size = nx0
 show OK _ K23_0 _ _ _ _ _ _ _ _
 refine OK.sr ?_
 refine RL.st 1 [(0, .slice Ap0 a0.length cp0)] ?_
 refine OK.sq ?_
 refine OK.sr ?_
 refine RL.st 3 [(8, .bool ((a0.length : Int) == 0)), (0, .slice Ap0 a0.length cp0)] ?_
 refine OK.cd ((a0.length : Int) == 0) (fun hb => ?_) (fun hb => ?_)
 ·skip
  have hc := (beq_iff_eq.1 hb)
  rw [if_pos hc] at H
  clear hb
  refine OK.sr ?_
  refine RL.st 1 [(2, .int .u32 0)] ?_
  refine OK.re ?_
  refine QN.thenR ?_
  obtain rfl := Option.some.inj H
  refine QN.body rfl [] (RFacts.nil _ _ _) (.no) (.int .u32 0) (by kernel_rfl) (by kernel_rfl) (by kernel_rfl) ?_ _ (.inr rfl)
  exact fun w' hs' => ⟨_, rfl, I0, rfl, hs'.got _ .slnil⟩
 ·skip
  have hc := (beq_eq_false_iff_ne.1 hb)
  rw [if_neg hc] at H
  clear hb
  refine OK.skt ?_
  refine OK.sr ?_
  refine RL.s 4 [(13, i6 (W .i64 ((a0.length : Int) - 1))), (10, .slice Ap0 a0.length cp0), (0, .slice Ap0 a0.length cp0)] ?_
  obtain ⟨hib0, H⟩ := ifs H
  obtain ⟨hib1, H⟩ := ifs H
  obtain ⟨g1_, o1_, hA1_, A1_2_, c1_2_, hl1_2_, hr1_2_, hc1_⟩ := t25_at hrp0 (W .i64 ((a0.length : Int) - 1)) hib0 hib1
  refine RL.idx 3 .i64 (W .i64 ((a0.length : Int) - 1)) hA1_ a0.length cp0 (some 14) (by kernel_rfl) (by kernel_rfl) (T := 23) (e := 25) (by kernel_rfl) (by kernel_rfl) hib0 hib1 (K' := [(14, pt g1_ (o1_ + (W .i64 ((a0.length : Int) - 1)).toNat * 3)), (13, i6 (W .i64 ((a0.length : Int) - 1))), (10, .slice Ap0 a0.length cp0), (0, .slice Ap0 a0.length cp0)]) (by kernel_rfl) ?_
  refine RL.simK (K' := [(15, .agg #[i6 ((a0.getD (W .i64 ((a0.length : Int) - 1)).toNat z25).f0), .string ((a0.getD (W .i64 ((a0.length : Int) - 1)).toNat z25).f1), .slice A1_2_ (((a0.getD (W .i64 ((a0.length : Int) - 1)).toNat z25).f2).length) c1_2_]), (0, .slice Ap0 a0.length cp0)]) [(⟨g1_, o1_ + (W .i64 ((a0.length : Int) - 1)).toNat * 3, none⟩, i6 ((a0.getD (W .i64 ((a0.length : Int) - 1)).toNat z25).f0)), (⟨g1_, o1_ + (W .i64 ((a0.length : Int) - 1)).toNat * 3 + 1, none⟩, .string ((a0.getD (W .i64 ((a0.length : Int) - 1)).toNat z25).f1)), (⟨g1_, o1_ + (W .i64 ((a0.length : Int) - 1)).toNat * 3 + 2, none⟩, .slice A1_2_ (((a0.getD (W .i64 ((a0.length : Int) - 1)).toNat z25).f2).length) c1_2_)] (RFacts.imm (hc1_ 0 _ rfl) (RFacts.imm (hc1_ 1 _ rfl) (RFacts.imm (hc1_ 2 _ rfl) (RFacts.nil _ _ _)))) 1 [.r 0] (by kernel_rfl) (by kernel_rfl) ?_
  obtain ⟨t1, hA1, H⟩ := bnd H
  refine RL.callP 38 [.agg #[i6 ((a0.getD (W .i64 ((a0.length : Int) - 1)).toNat z25).f0), .string ((a0.getD (W .i64 ((a0.length : Int) - 1)).toNat z25).f1), .slice A1_2_ (((a0.getD (W .i64 ((a0.length : Int) - 1)).toNat z25).f2).length) c1_2_]] (some 16) (fun w => armillaryref27_EncodeEntry.Post I0 w t1) (by kernel_rfl) (by kernel_rfl) (fun w hs => armillaryref27_EncodeEntry.calls k I0 (a0.getD (W .i64 ((a0.length : Int) - 1)).toNat z25) A1_2_ c1_2_ w hs.im hl1_2_ hr1_2_ t1 hA1) ?_
  rintro w v w' hs ⟨I1, A1, c1, cs1, rfl, hg, hp1⟩
  have hi1 := hg.le
  refine RL.resume (X' := [orow 5 1 A1 t1.1.length c1 cs1]) rfl (hs.call hg) ?_
  clear hs hg
  generalize w'.heap.size = nx1
  clear w w'
  refine RL.st 5 [(3, .slice A1 t1.1.length c1), (0, .slice Ap0 a0.length cp0)] ?_
  refine OK.sr ?_
  refine RL.sp 5 [(23, i6 (W .i64 ((a0.length : Int) - 1))), (20, .slice Ap0 a0.length cp0), (19, .slice (some ⟨nx1, 0, none⟩) 0 0), (3, .slice A1 t1.1.length c1)] (nx1 + 1) [⟨nx1, [], 5⟩] ?_
  obtain ⟨hs1_1, H⟩ := ifs H
  obtain ⟨hs2_1, H⟩ := ifs H
  refine RL.subH (T := 23) (e := 25) (l := a0) (S := Ap0) (cap := cp0) (hi := W .i64 ((a0.length : Int) - 1)) 3 .i64 (some 24) (by kernel_rfl) (by kernel_rfl) (by kernel_rfl) (by kernel_rfl) hlp0 hs1_1 hs2_1 (K' := [(24, .slice (slA Ap0 (0 : Int).toNat cp0 3) ((rpart a0 0 (W .i64 ((a0.length : Int) - 1))).length) (cp0 - (0 : Int).toNat)), (23, i6 (W .i64 ((a0.length : Int) - 1))), (20, .slice Ap0 a0.length cp0), (19, .slice (some ⟨nx1, 0, none⟩) 0 0), (3, .slice A1 t1.1.length c1)]) (by kernel_rfl) ?_
  obtain ⟨t2, hA2, H⟩ := bnd H
  refine RL.callP 23 [.slice (slA Ap0 (0 : Int).toNat cp0 3) ((rpart a0 0 (W .i64 ((a0.length : Int) - 1))).length) (cp0 - (0 : Int).toNat)] (some 25) (fun w => armillaryref28_ChainHash.Post I1 w t2) (by kernel_rfl) (by kernel_rfl) (fun w hs => hrec I1 (rpart a0 0 (W .i64 ((a0.length : Int) - 1))) (slA Ap0 (0 : Int).toNat cp0 3) (cp0 - (0 : Int).toNat) w hs.im (part_le hlp0 (Int.le_refl 0) hs1_1 hs2_1) (rd_sub (Rd.ext hi1 hrp0) hlp0 (Int.le_refl 0) hs1_1 hs2_1) t2 hA2) ?_
  rintro w v w' hs ⟨I2, rfl, hg⟩
  have hi2 := hg.le
  refine RL.resume (X' := [orow 5 1 A1 t1.1.length c1 cs1]) rfl (hs.call hg) ?_
  clear hs hg
  generalize w'.heap.size = nx2
  clear w w'
  refine RL.toRow (b := ⟨nx1, [], 5⟩) 0 0 1 (by kernel_rfl) (by kernel_rfl) (by decide) ?_
  have hp2 : Reps (Ty.int .u8) I2 ([] : List Int) [] := rfl
  refine RL.norm (K' := [(25, .int .u32 t2), (24, .slice (slA Ap0 (0 : Int).toNat cp0 3) ((rpart a0 0 (W .i64 ((a0.length : Int) - 1))).length) (cp0 - (0 : Int).toNat)), (23, i6 (W .i64 ((a0.length : Int) - 1))), (20, .slice Ap0 a0.length cp0), (19, .slice (some ⟨nx1, 0, none⟩) (([] : List Int).length) 0), (3, .slice A1 t1.1.length c1)]) (L' := []) (X' := [orow 5 1 A1 t1.1.length c1 cs1, orow 5 1 (some ⟨nx1, 0, none⟩) (([] : List Int).length) 0 []]) (by kernel_rfl) rfl (by kernel_rfl) (by kernel_rfl) ?_
  refine RL.arrange (L' := []) (X' := [orow 5 1 (some ⟨nx1, 0, none⟩) (([] : List Int).length) 0 [], orow 5 1 A1 t1.1.length c1 cs1]) [] [1, 0] (by kernel_rfl) (by kernel_rfl) (by kernel_rfl) (by kernel_rfl) ?_
  obtain ⟨t3, hA3, H⟩ := bnd H
  refine RL.callM (L1 := []) (L2 := []) (X1 := [orow 5 1 (some ⟨nx1, 0, none⟩) (([] : List Int).length) 0 []]) (X2 := [orow 5 1 A1 t1.1.length c1 cs1]) rfl rfl 39 [.slice (some ⟨nx1, 0, none⟩) (([] : List Int).length) 0, .int .u32 t2] (some 26) (fun w => armillaryref28_appendWords0.Post (SM [] [orow 5 1 (some ⟨nx1, 0, none⟩) (([] : List Int).length) 0 []]) ([] : List Int) (some ⟨nx1, 0, none⟩) 0 [] t2 I2 w t3) (by kernel_rfl) (by kernel_rfl) (fun w hs => armillaryref28_appendWords0.calls k I2 ([] : List Int) (some ⟨nx1, 0, none⟩) 0 [] t2 w hs hp2 t3 hA3) ?_
  rintro w v w' hs ⟨I3, A2, c2, cs2, rfl, hg, hp3⟩
  have hi3 : Imm.le I2 I3 := hg.le
  refine RL.resume (L' := []) (X' := [orow 5 1 A2 t3.length c2 cs2, orow 5 1 A1 t1.1.length c1 cs1]) rfl (hs.outof hg) ?_
  clear hs hg
  generalize w'.heap.size = nx3
  clear w w'
  refine RL.sub (K' := [(26, .slice A2 t3.length c2), (25, .int .u32 t2), (24, .slice (slA Ap0 (0 : Int).toNat cp0 3) ((rpart a0 0 (W .i64 ((a0.length : Int) - 1))).length) (cp0 - (0 : Int).toNat)), (23, i6 (W .i64 ((a0.length : Int) - 1))), (20, .slice Ap0 a0.length cp0), (3, .slice A1 t1.1.length c1)]) (L' := []) (X' := [orow 5 1 A2 t3.length c2 cs2, orow 5 1 A1 t1.1.length c1 cs1]) (by kernel_rfl) (.refl _) (.refl _) ?_
  refine RL.st 1 [(5, .slice A2 t3.length c2), (3, .slice A1 t1.1.length c1)] ?_
  refine OK.sr ?_
  refine RL.s 2 [(28, .slice A1 t1.1.length c1), (27, .slice A2 t3.length c2), (5, .slice A2 t3.length c2)] ?_
  refine RL.freeze (e := 5) (sz := 1) (S := A1) (n := t1.1.length) (cap := c1) 1 (by kernel_rfl) (Reps.ext (Imm.le_trans hi2 hi3) hp1) rfl (fun I4 hi4 hl1 hr1 => ?_)
  skip
  obtain ⟨hz1, H⟩ := ifs H
  refine RL.appendR (T := 22) (e := 5) (S := A2) (S2 := A1) 1 1 22 c2 c1 cs2 (Ty.int .u8) t3 t1.1 0 (some 29) (by kernel_rfl) (by kernel_rfl) (by kernel_rfl) (by kernel_rfl) (by kernel_rfl) (by decide) (by kernel_rfl) (Reps.ext hi4 hp3) hr1 hz1 (by omega) (fun A3 c3 nx4 cs3 hp4 => ?_)
  refine RL.sub (K' := [(29, .slice A3 ((t3 ++ t1.1).length) c3), (28, .slice A1 t1.1.length c1)]) (L' := []) (X' := [orow 5 1 A3 ((t3 ++ t1.1).length) c3 cs3]) (by kernel_rfl) (.refl _) (.refl _) ?_
  refine RL.st 1 [(5, .slice A3 ((t3 ++ t1.1).length) c3)] ?_
  refine OK.sr ?_
  refine RL.s 1 [(30, .slice A3 ((t3 ++ t1.1).length) c3)] ?_
  obtain ⟨t4, hA4, H⟩ := bnd H
  refine RL.callP 40 [.slice A3 ((t3 ++ t1.1).length) c3] (some 31) (fun w v w' => ∃ I', Imm.le I4 I' ∧ armillaryref27_Checksum.Post I' w t4 v w') (by kernel_rfl) (by kernel_rfl) (fun w hs => ?_) ?_
  ·skip
   obtain ⟨JL1, hj1, hn1, hw1, hs⟩ := Sat.freeze (e := 5) (sz := 1) (S := A3) (n := (t3 ++ t1.1).length) (cap := c3) (m := 0) hs (by kernel_rfl) hp4 rfl
   exact (armillaryref27_Checksum.calls k JL1 (t3 ++ t1.1) A3 c3 _ hs.im hn1 hw1 t4 hA4).mono (fun e w' ⟨v, hv, hp⟩ => ⟨v, hv, JL1, hj1, hp⟩)
  rintro w v w' hs ⟨I', hle, J, rfl, hg⟩
  refine RL.resume (X' := [orow 5 1 A3 ((t3 ++ t1.1).length) c3 cs3]) rfl (hs.call (hg.back hle)) ?_
  clear hs hg hle I' J
  generalize w'.heap.size = nx5
  clear w w'
  refine RL.st 1 [(2, .int .u32 t4)] ?_
  refine OK.re ?_
  obtain rfl := Option.some.inj H
  refine QN.body rfl [] (RFacts.nil _ _ _) (.no) (.int .u32 t4) (by kernel_rfl) (by kernel_rfl) (by kernel_rfl) ?_ _ (.inr rfl)
  exact fun w' hs' => ⟨_, rfl, I4, rfl, hs'.got _ (.cons _ .slnil)⟩
theorem armillaryref28_ChainHash.calls (k : Nat) : ∀ (I0 : Imm) (a0 : List S25) (Ap0 : Option Addr) (cp0 : Nat) (w : World) (hI : I0.at_ w) (hlp0 : a0.length ≤ cp0) (hrp0 : Rd t25 I0 Ap0 a0) (r : Int) (h : armillaryref28_ChainHash.f k a0 = some r), Calls Tryd.prog 23 [.slice Ap0 a0.length cp0].toArray w fun e w' => ∃ v, e = .returned v ∧ armillaryref28_ChainHash.Post I0 w r v w' := by
 induction k with
 | zero => intro I0 a0 Ap0 cp0 w hI hlp0 hrp0 r h; cases h
 | succ k ih => intro I0 a0 Ap0 cp0 w hI hlp0 hrp0 r h; exact armillaryref28_ChainHash.bodyCalls k (armillaryref28_ChainHash.f k) ih I0 a0 Ap0 cp0 w hI hlp0 hrp0 r h

end Go.Proofs.YtiomeaoeegikkaaDoor
namespace Go.Proofs.YtiomeaoeegikkaaDoor
open Go Go.Proofs.YtiomeaoeegikkaaDoor.RW
set_option linter.unusedVariables false
set_option maxRecDepth 100000
set_option maxHeartbeats 8000000

/-! ### ledger_ChainHash: function 22, armillary/ledger.ChainHash -/
noncomputable def K22_0 : Code := cBody Tryd.f22
def ledger_ChainHash.k1  (x1 : Int) : Option (Int) := (some x1)
def ledger_ChainHash.l1 (a0 : List S25) : Nat → Int → Int → Option (Int)
 | 0, _, _ => none
 | k + 1, x2, x3 => (if x3 < (a0.length : Int) then (if 0 ≤ x3 then (if x3 < (a0.length : Int) then ((codec_EncodeEntry.f k (a0.getD (x3).toNat z25)).bind fun t1 => ((ledger_putWords0.f x2).bind fun t2 => ((slices_Concat_byte_byte.f k [t2, t1.1]).bind fun t3 => ((codec_Checksum.f k t3).bind fun t4 => (ledger_ChainHash.l1 a0 k t4 (W .i64 (x3 + 1))))))) else none) else none) else (some x2))
def ledger_ChainHash.f (k : Nat) (a0 : List S25) : Option (Int) := ((ledger_ChainHash.l1 a0 k 0 0).bind (ledger_ChainHash.k1))
def ledger_ChainHash.Post (I : Imm) (w : World) (r : Int) (v : Value) (w' : World) : Prop :=
 ∃ (J : Imm), v = .int .u32 r ∧ Got w w' I J []
theorem ledger_ChainHash.calls (k : Nat) (I0 : Imm) (a0 : List S25) (Ap0 : Option Addr) (cp0 : Nat) (w : World) (hI : I0.at_ w) (hlp0 : a0.length ≤ cp0) (hrp0 : Rd t25 I0 Ap0 a0) (r : Int) (h : ledger_ChainHash.f k a0 = some r) :
  Calls Tryd.prog 22 [.slice Ap0 a0.length cp0].toArray w fun e w' => ∃ v, e = .returned v ∧ ledger_ChainHash.Post I0 w r v w' := by
 have H : ((ledger_ChainHash.l1 a0 k 0 0).bind (ledger_ChainHash.k1)) = some r := h
 clear h
 refine calls_body Tryd.func22 (by kernel_rfl) 27 (by kernel_rfl) (by kernel_rfl) ⟨w, fun _ => False, I0⟩ I0 [] [(0, .slice Ap0 a0.length cp0)] (by kernel_rfl) (Sat.start w _ I0 hI) ?_
 generalize w.heap.size = nx0
 show OK _ K22_0 _ _ _ _ _ _ _ _
 refine OK.sr ?_
 refine RL.st 1 [(0, .slice Ap0 a0.length cp0)] ?_
 refine OK.sr ?_
 refine RL.st 1 [(3, .int .u32 0), (0, .slice Ap0 a0.length cp0)] ?_
 refine OK.sq ?_
 refine OK.sr ?_
 refine RL.st 3 [(10, i6 0), (9, i6 (a0.length : Int)), (8, .slice Ap0 a0.length cp0), (3, .int .u32 0)] ?_
 refine OK.join (fun K' I' _ L' X' => ∃ (x1 : Int), K' = [(3, .int .u32 x1)] ∧ L' = [] ∧ X' = [] ∧ Imm.le I0 I' ∧ ledger_ChainHash.k1 x1 = some r) ?_ ?_
 ·rintro _ I1 nx1 _ _ ⟨x1, rfl, rfl, rfl, hi1, H⟩
  rw [ledger_ChainHash.k1] at H
  refine QN.then_ ?_
  refine OK.sr ?_
  refine RL.st 2 [(2, .int .u32 x1)] ?_
  refine OK.re ?_
  obtain rfl := Option.some.inj H
  refine QN.body rfl [] (RFacts.nil _ _ _) (.no) (.int .u32 x1) (by kernel_rfl) (by kernel_rfl) (by kernel_rfl) ?_ _ (.inr rfl)
  exact fun w' hs' => ⟨_, rfl, I1, rfl, hs'.got _ .slnil⟩
 ·intro Q_1 hJ1 hQ1
  obtain ⟨y1, H, HK1⟩ := bnd H
  refine OK.bk 0 ?_
  refine OK.sub (K' := [(3, .int .u32 0), (8, .slice Ap0 a0.length cp0), (9, i6 (a0.length : Int)), (10, i6 0)]) (L' := []) (by kernel_rfl) .slnil (.refl _) ?_
  refine OK.lp (fun n_ K' I' _ L' X' => ∃ (x2 : Int) (x3 : Int), K' = [(3, .int .u32 x2), (8, .slice Ap0 a0.length cp0), (9, i6 (a0.length : Int)), (10, i6 x3)] ∧ L' = [] ∧ X' = [] ∧ Imm.le I0 I' ∧ ledger_ChainHash.l1 a0 n_ x2 x3 = some y1) k ⟨0, 0, rfl, rfl, rfl, (Imm.le_refl _), H⟩ ?_ ?_
  ·rintro _ _ _ _ _ ⟨x2, x3, rfl, rfl, rfl, _, H⟩
   cases H
  ·rintro kq1 _ I2 nx2 _ _ ⟨x2, x3, rfl, rfl, rfl, hi2, H⟩ Q_l1 hJ2 hQ2
   rw [ledger_ChainHash.l1] at H
   refine OK.sr ?_
   refine RL.st 1 [(11, .bool (decide (x3 < (a0.length : Int)))), (3, .int .u32 x2), (8, .slice Ap0 a0.length cp0), (9, i6 (a0.length : Int)), (10, i6 x3)] ?_
   refine OK.sq ?_
   refine OK.cd (decide (x3 < (a0.length : Int))) (fun hb => ?_) (fun hb => ?_)
   ·skip
    have hc := (of_decide_eq_true hb)
    rw [if_pos hc] at H
    clear hb
    refine OK.skt ?_
    refine OK.sq ?_
    refine OK.bk 1 ?_
    refine OK.sr ?_
    obtain ⟨hib0, H⟩ := ifs H
    obtain ⟨hib1, H⟩ := ifs H
    obtain ⟨g1_, o1_, hA1_, A1_2_, c1_2_, hl1_2_, hr1_2_, hc1_⟩ := t25_at (Rd.ext hi2 hrp0) x3 hib0 hib1
    refine RL.idx 3 .i64 x3 hA1_ a0.length cp0 (some 12) (by kernel_rfl) (by kernel_rfl) (T := 23) (e := 25) (by kernel_rfl) (by kernel_rfl) hib0 hib1 (K' := [(12, pt g1_ (o1_ + (x3).toNat * 3)), (11, .bool (decide (x3 < (a0.length : Int)))), (3, .int .u32 x2), (8, .slice Ap0 a0.length cp0), (9, i6 (a0.length : Int)), (10, i6 x3)]) (by kernel_rfl) ?_
    refine RL.simP (K' := [(5, pt nx2 0), (3, .int .u32 x2), (8, .slice Ap0 a0.length cp0), (9, i6 (a0.length : Int)), (10, i6 x3)]) (nx' := nx2 + 1) (L' := [⟨nx2, [i6 ((a0.getD (x3).toNat z25).f0), .string ((a0.getD (x3).toNat z25).f1), .slice A1_2_ (((a0.getD (x3).toNat z25).f2).length) c1_2_], 25⟩]) [(⟨g1_, o1_ + (x3).toNat * 3, none⟩, i6 ((a0.getD (x3).toNat z25).f0)), (⟨g1_, o1_ + (x3).toNat * 3 + 1, none⟩, .string ((a0.getD (x3).toNat z25).f1)), (⟨g1_, o1_ + (x3).toNat * 3 + 2, none⟩, .slice A1_2_ (((a0.getD (x3).toNat z25).f2).length) c1_2_)] (RFacts.imm (hc1_ 0 _ rfl) (RFacts.imm (hc1_ 1 _ rfl) (RFacts.imm (hc1_ 2 _ rfl) (RFacts.nil _ _ _)))) 3 [.r 0, .no, .l 0] (by kernel_rfl) (by kernel_rfl) ?_
    refine RL.nt ?_
    refine OK.sr ?_
    refine RL.simK (K' := [(15, .agg #[i6 ((a0.getD (x3).toNat z25).f0), .string ((a0.getD (x3).toNat z25).f1), .slice A1_2_ (((a0.getD (x3).toNat z25).f2).length) c1_2_]), (3, .int .u32 x2), (8, .slice Ap0 a0.length cp0), (9, i6 (a0.length : Int)), (10, i6 x3)]) [] (RFacts.nil _ _ _) 1 [.l 0] (by kernel_rfl) (by kernel_rfl) ?_
    obtain ⟨t1, hA1, H⟩ := bnd H
    refine RL.callP 35 [.agg #[i6 ((a0.getD (x3).toNat z25).f0), .string ((a0.getD (x3).toNat z25).f1), .slice A1_2_ (((a0.getD (x3).toNat z25).f2).length) c1_2_]] (some 16) (fun w => codec_EncodeEntry.Post I2 w t1) (by kernel_rfl) (by kernel_rfl) (fun w hs => codec_EncodeEntry.calls kq1 I2 (a0.getD (x3).toNat z25) A1_2_ c1_2_ w hs.im hl1_2_ hr1_2_ t1 hA1) ?_
    rintro w v w' hs ⟨I3, A1, c1, cs1, rfl, hg, hp1⟩
    have hi3 := hg.le
    refine RL.resume (X' := [orow 5 1 A1 t1.1.length c1 cs1]) rfl (hs.call hg) ?_
    clear hs hg
    generalize w'.heap.size = nx3
    clear w w'
    refine RL.st 5 [(6, .slice A1 t1.1.length c1), (3, .int .u32 x2), (8, .slice Ap0 a0.length cp0), (9, i6 (a0.length : Int)), (10, i6 x3)] ?_
    refine OK.rg ?_
    refine RL.s 1 [(19, .int .u32 x2), (6, .slice A1 t1.1.length c1), (3, .int .u32 x2), (8, .slice Ap0 a0.length cp0), (9, i6 (a0.length : Int)), (10, i6 x3)] ?_
    obtain ⟨t2, hA2, H⟩ := bnd H
    refine RL.callM (L1 := []) (L2 := [⟨nx2, [i6 ((a0.getD (x3).toNat z25).f0), .string ((a0.getD (x3).toNat z25).f1), .slice A1_2_ (((a0.getD (x3).toNat z25).f2).length) c1_2_], 25⟩]) (X1 := []) (X2 := [orow 5 1 A1 t1.1.length c1 cs1]) rfl rfl 37 [.slice none 0 0, .int .u32 x2] (some 20) (fun w => ledger_putWords0.Post (SM [] []) x2 I3 w t2) (by kernel_rfl) (by kernel_rfl) (fun w hs => ledger_putWords0.calls I3 x2 w hs  t2 hA2) ?_
    rintro w v w' hs ⟨I4, A2, c2, cs2, rfl, hg, hp2⟩
    have hi4 : Imm.le I3 I4 := hg.le
    refine RL.resume (L' := [⟨nx2, [i6 ((a0.getD (x3).toNat z25).f0), .string ((a0.getD (x3).toNat z25).f1), .slice A1_2_ (((a0.getD (x3).toNat z25).f2).length) c1_2_], 25⟩]) (X' := [orow 5 1 A2 t2.length c2 cs2, orow 5 1 A1 t1.1.length c1 cs1]) rfl (hs.outof hg) ?_
    clear hs hg
    generalize w'.heap.size = nx4
    clear w w'
    refine RL.sp 2 [(22, .slice (some ⟨nx4, 0, none⟩) 2 2), (3, .int .u32 x2), (8, .slice Ap0 a0.length cp0), (9, i6 (a0.length : Int)), (10, i6 x3)] (nx4 + 1) [⟨nx2, [i6 ((a0.getD (x3).toNat z25).f0), .string ((a0.getD (x3).toNat z25).f1), .slice A1_2_ (((a0.getD (x3).toNat z25).f2).length) c1_2_], 25⟩, ⟨nx4, [.slice A2 t2.length c2, .slice A1 t1.1.length c1], 22⟩] ?_
    refine RL.freeze (e := 5) (sz := 1) (S := A2) (n := t2.length) (cap := c2) 0 (by kernel_rfl) hp2 rfl (fun I5 hi5 hl1 hr1 => ?_)
    skip
    refine RL.freeze (e := 5) (sz := 1) (S := A1) (n := t1.1.length) (cap := c1) 0 (by kernel_rfl) (Reps.ext (Imm.le_trans hi4 hi5) hp1) rfl (fun I6 hi6 hl2 hr2 => ?_)
    skip
    refine RL.freezeL (d := (Ty.slice (Ty.int .u8))) (xs := [t2, t1.1]) (b := ⟨nx4, [.slice A2 t2.length c2, .slice A1 t1.1.length c1], 22⟩) 1 (by kernel_rfl) ⟨_, _, rfl, ⟨_, _, rfl, hl1, (Rd.ext hi6 hr1)⟩, ⟨_, _, rfl, ⟨_, _, rfl, hl2, hr2⟩, rfl⟩⟩ (Nat.le_of_ble_eq_true rfl) (fun I7 hi7 hr3 => ?_)
    obtain ⟨t3, hA3, H⟩ := bnd H
    refine RL.callP 29 [.slice (some ⟨nx4, 0, none⟩) 2 2] (some 23) (fun w => slices_Concat_byte_byte.Post I7 w t3) (by kernel_rfl) (by kernel_rfl) (fun w hs => slices_Concat_byte_byte.calls kq1 I7 [t2, t1.1] (some ⟨nx4, 0, none⟩) 2 w hs.im (Nat.le_of_ble_eq_true rfl) hr3 t3 hA3) ?_
    rintro w v w' hs ⟨I8, A3, c3, cs3, rfl, hg, hp3⟩
    have hi8 := hg.le
    refine RL.resume (X' := [orow 5 1 A3 t3.length c3 cs3]) rfl (hs.call hg) ?_
    clear hs hg
    generalize w'.heap.size = nx5
    clear w w'
    obtain ⟨t4, hA4, H⟩ := bnd H
    refine RL.callP 36 [.slice A3 t3.length c3] (some 24) (fun w v w' => ∃ I', Imm.le I8 I' ∧ codec_Checksum.Post I' w t4 v w') (by kernel_rfl) (by kernel_rfl) (fun w hs => ?_) ?_
    ·skip
     obtain ⟨JL1, hj1, hn1, hw1, hs⟩ := Sat.freeze (e := 5) (sz := 1) (S := A3) (n := t3.length) (cap := c3) (m := 0) hs (by kernel_rfl) hp3 rfl
     exact (codec_Checksum.calls kq1 JL1 t3 A3 c3 _ hs.im hn1 hw1 t4 hA4).mono (fun e w' ⟨v, hv, hp⟩ => ⟨v, hv, JL1, hj1, hp⟩)
    rintro w v w' hs ⟨I', hle, J, rfl, hg⟩
    refine RL.resume (X' := [orow 5 1 A3 t3.length c3 cs3]) rfl (hs.call (hg.back hle)) ?_
    clear hs hg hle I' J
    generalize w'.heap.size = nx6
    clear w w'
    refine RL.s 1 [(3, .int .u32 t4), (8, .slice Ap0 a0.length cp0), (9, i6 (a0.length : Int)), (10, i6 x3)] ?_
    refine RL.nil (by kernel_rfl) ?_
    refine QN.blkN ?_
    refine QN.then_ ?_
    refine OK.rg ?_
    refine RL.s 2 [(10, i6 (W .i64 (x3 + 1))), (3, .int .u32 t4), (8, .slice Ap0 a0.length cp0), (9, i6 (a0.length : Int))] ?_
    refine RL.nil (by kernel_rfl) ?_
    refine QN.sel (K' := [(3, .int .u32 t4), (8, .slice Ap0 a0.length cp0), (9, i6 (a0.length : Int)), (10, i6 (W .i64 (x3 + 1)))]) (L' := []) [] (by kernel_rfl) (by kernel_rfl) (.cons _ .slnil) ?_
    refine QN.norm (X' := []) rfl rfl rfl (by kernel_rfl) ?_
    exact hJ2 _ _ _ _ _ ⟨t4, W .i64 (x3 + 1), rfl, rfl, rfl, (Imm.le_trans (Imm.le_trans (Imm.le_trans (Imm.le_trans (Imm.le_trans (Imm.le_trans hi2 hi3) hi4) hi5) hi6) hi7) hi8), H⟩
   ·skip
    have hc := (of_decide_eq_false hb)
    rw [if_neg hc] at H
    clear hb
    refine OK.ex 0 ?_
    refine QN.thenE ?_
    refine QN.outE hQ2 ?_
    refine QN.blkE ?_
    obtain rfl := Option.some.inj H
    exact QN.sb (hJ1 _ _ _ _ _ ⟨x2, rfl, rfl, rfl, hi2, HK1⟩) .slnil (.refl _)

end Go.Proofs.YtiomeaoeegikkaaDoor
namespace Go.Proofs.YtiomeaoeegikkaaDoor
open Go Go.Proofs.YtiomeaoeegikkaaDoor.RW
set_option linter.unusedVariables false
set_option maxRecDepth 100000
set_option maxHeartbeats 8000000

/-! ### armillaryref28_Record: function 27, armillary/armillaryref28.Record -/
noncomputable def K27_0 : Code := cBody Tryd.f27
def armillaryref28_Record.f (k : Nat) (a0 : S25) : Option (List Int) := ((armillaryref27_EncodeEntry.f k a0).bind fun t1 => ((armillaryref28_appendWords0.f k ([] : List Int) (W .u32 ((t1.1.length : Int)))).bind fun t2 => (if (t2.length + t1.1.length) * 1 ≤ 140737488355328 then ((armillaryref27_Checksum.f k (t2 ++ t1.1)).bind fun t3 => ((armillaryref28_appendWords0.f k (t2 ++ t1.1) t3).bind fun t4 => (some t4))) else none)))
def armillaryref28_Record.Post (I : Imm) (w : World) (r : List Int) (v : Value) (w' : World) : Prop :=
 ∃ (J : Imm) (A0 : Option Addr) (c0 : Nat) (cs0 : List Value), v = .slice A0 r.length c0 ∧ Got w w' I J [orow 5 1 A0 r.length c0 cs0] ∧ Reps (Ty.int .u8) J r cs0
theorem armillaryref28_Record.calls (k : Nat) (I0 : Imm) (a0 : S25) (Ap0_2 : Option Addr) (cp0_2 : Nat) (w : World) (hI : I0.at_ w) (hlp0_2 : a0.f2.length ≤ cp0_2) (hrp0_2 : Rd (Ty.int .u8) I0 Ap0_2 a0.f2) (r : List Int) (h : armillaryref28_Record.f k a0 = some r) :
  Calls Tryd.prog 27 [.agg #[i6 a0.f0, .string a0.f1, .slice Ap0_2 a0.f2.length cp0_2]].toArray w fun e w' => ∃ v, e = .returned v ∧ armillaryref28_Record.Post I0 w r v w' := by
 have H : ((armillaryref27_EncodeEntry.f k a0).bind fun t1 => ((armillaryref28_appendWords0.f k ([] : List Int) (W .u32 ((t1.1.length : Int)))).bind fun t2 => (if (t2.length + t1.1.length) * 1 ≤ 140737488355328 then ((armillaryref27_Checksum.f k (t2 ++ t1.1)).bind fun t3 => ((armillaryref28_appendWords0.f k (t2 ++ t1.1) t3).bind fun t4 => (some t4))) else none))) = some r := h
 clear h
 refine calls_body Tryd.func27 (by kernel_rfl) 24 (by kernel_rfl) (by kernel_rfl) ⟨w, fun _ => False, I0⟩ I0 [] [(0, .agg #[i6 a0.f0, .string a0.f1, .slice Ap0_2 a0.f2.length cp0_2])] (by kernel_rfl) (Sat.start w _ I0 hI) ?_
 generalize w.heap.size = nx0
 show OK _ K27_0 _ _ _ _ _ _ _ _
 refine OK.sr ?_
 refine RL.spt 2 [(1, pt nx0 0)] (nx0 + 1) [⟨nx0, [i6 a0.f0, .string a0.f1, .slice Ap0_2 a0.f2.length cp0_2], 25⟩] ?_
 refine OK.sr ?_
 refine RL.simK (K' := [(7, .agg #[i6 a0.f0, .string a0.f1, .slice Ap0_2 a0.f2.length cp0_2])]) [] (RFacts.nil _ _ _) 1 [.l 0] (by kernel_rfl) (by kernel_rfl) ?_
 obtain ⟨t1, hA1, H⟩ := bnd H
 refine RL.callP 38 [.agg #[i6 a0.f0, .string a0.f1, .slice Ap0_2 a0.f2.length cp0_2]] (some 8) (fun w => armillaryref27_EncodeEntry.Post I0 w t1) (by kernel_rfl) (by kernel_rfl) (fun w hs => armillaryref27_EncodeEntry.calls k I0 a0 Ap0_2 cp0_2 w hs.im hlp0_2 hrp0_2 t1 hA1) ?_
 rintro w v w' hs ⟨I1, A1, c1, cs1, rfl, hg, hp1⟩
 have hi1 := hg.le
 refine RL.resume (X' := [orow 5 1 A1 t1.1.length c1 cs1]) rfl (hs.call hg) ?_
 clear hs hg
 generalize w'.heap.size = nx1
 clear w w'
 refine RL.st 5 [(3, .slice A1 t1.1.length c1)] ?_
 refine OK.sr ?_
 refine RL.sp 4 [(14, .int .u32 (W .u32 ((t1.1.length : Int)))), (11, .slice (some ⟨nx1, 0, none⟩) 0 0), (3, .slice A1 t1.1.length c1)] (nx1 + 1) [⟨nx0, [i6 a0.f0, .string a0.f1, .slice Ap0_2 a0.f2.length cp0_2], 25⟩, ⟨nx1, [], 5⟩] ?_
 refine RL.toRow (b := ⟨nx1, [], 5⟩) 1 0 1 (by kernel_rfl) (by kernel_rfl) (by decide) ?_
 have hp2 : Reps (Ty.int .u8) I1 ([] : List Int) [] := rfl
 refine RL.norm (K' := [(14, .int .u32 (W .u32 ((t1.1.length : Int)))), (11, .slice (some ⟨nx1, 0, none⟩) (([] : List Int).length) 0), (3, .slice A1 t1.1.length c1)]) (L' := [⟨nx0, [i6 a0.f0, .string a0.f1, .slice Ap0_2 a0.f2.length cp0_2], 25⟩]) (X' := [orow 5 1 A1 t1.1.length c1 cs1, orow 5 1 (some ⟨nx1, 0, none⟩) (([] : List Int).length) 0 []]) (by kernel_rfl) rfl (by kernel_rfl) (by kernel_rfl) ?_
 refine RL.arrange (L' := [⟨nx0, [i6 a0.f0, .string a0.f1, .slice Ap0_2 a0.f2.length cp0_2], 25⟩]) (X' := [orow 5 1 (some ⟨nx1, 0, none⟩) (([] : List Int).length) 0 [], orow 5 1 A1 t1.1.length c1 cs1]) [0] [1, 0] (by kernel_rfl) (by kernel_rfl) (by kernel_rfl) (by kernel_rfl) ?_
 obtain ⟨t2, hA2, H⟩ := bnd H
 refine RL.callM (L1 := []) (L2 := [⟨nx0, [i6 a0.f0, .string a0.f1, .slice Ap0_2 a0.f2.length cp0_2], 25⟩]) (X1 := [orow 5 1 (some ⟨nx1, 0, none⟩) (([] : List Int).length) 0 []]) (X2 := [orow 5 1 A1 t1.1.length c1 cs1]) rfl rfl 39 [.slice (some ⟨nx1, 0, none⟩) (([] : List Int).length) 0, .int .u32 (W .u32 ((t1.1.length : Int)))] (some 15) (fun w => armillaryref28_appendWords0.Post (SM [] [orow 5 1 (some ⟨nx1, 0, none⟩) (([] : List Int).length) 0 []]) ([] : List Int) (some ⟨nx1, 0, none⟩) 0 [] (W .u32 ((t1.1.length : Int))) I1 w t2) (by kernel_rfl) (by kernel_rfl) (fun w hs => armillaryref28_appendWords0.calls k I1 ([] : List Int) (some ⟨nx1, 0, none⟩) 0 [] (W .u32 ((t1.1.length : Int))) w hs hp2 t2 hA2) ?_
 rintro w v w' hs ⟨I2, A2, c2, cs2, rfl, hg, hp3⟩
 have hi2 : Imm.le I1 I2 := hg.le
 refine RL.resume (L' := [⟨nx0, [i6 a0.f0, .string a0.f1, .slice Ap0_2 a0.f2.length cp0_2], 25⟩]) (X' := [orow 5 1 A2 t2.length c2 cs2, orow 5 1 A1 t1.1.length c1 cs1]) rfl (hs.outof hg) ?_
 clear hs hg
 generalize w'.heap.size = nx2
 clear w w'
 refine RL.sub (K' := [(15, .slice A2 t2.length c2), (14, .int .u32 (W .u32 ((t1.1.length : Int)))), (3, .slice A1 t1.1.length c1)]) (L' := [⟨nx0, [i6 a0.f0, .string a0.f1, .slice Ap0_2 a0.f2.length cp0_2], 25⟩]) (X' := [orow 5 1 A2 t2.length c2 cs2, orow 5 1 A1 t1.1.length c1 cs1]) (by kernel_rfl) (.refl _) (.refl _) ?_
 refine RL.st 1 [(5, .slice A2 t2.length c2), (3, .slice A1 t1.1.length c1)] ?_
 refine OK.sr ?_
 refine RL.s 2 [(17, .slice A1 t1.1.length c1), (16, .slice A2 t2.length c2), (5, .slice A2 t2.length c2)] ?_
 refine RL.freeze (e := 5) (sz := 1) (S := A1) (n := t1.1.length) (cap := c1) 1 (by kernel_rfl) (Reps.ext hi2 hp1) rfl (fun I3 hi3 hl1 hr1 => ?_)
 skip
 obtain ⟨hz1, H⟩ := ifs H
 refine RL.appendR (T := 22) (e := 5) (S := A2) (S2 := A1) 1 1 22 c2 c1 cs2 (Ty.int .u8) t2 t1.1 0 (some 18) (by kernel_rfl) (by kernel_rfl) (by kernel_rfl) (by kernel_rfl) (by kernel_rfl) (by decide) (by kernel_rfl) (Reps.ext hi3 hp3) hr1 hz1 (by omega) (fun A3 c3 nx3 cs3 hp4 => ?_)
 refine RL.sub (K' := [(18, .slice A3 ((t2 ++ t1.1).length) c3), (17, .slice A1 t1.1.length c1)]) (L' := [⟨nx0, [i6 a0.f0, .string a0.f1, .slice Ap0_2 a0.f2.length cp0_2], 25⟩]) (X' := [orow 5 1 A3 ((t2 ++ t1.1).length) c3 cs3]) (by kernel_rfl) (.refl _) (.refl _) ?_
 refine RL.st 1 [(5, .slice A3 ((t2 ++ t1.1).length) c3)] ?_
 refine OK.sr ?_
 refine RL.s 2 [(20, .slice A3 ((t2 ++ t1.1).length) c3), (19, .slice A3 ((t2 ++ t1.1).length) c3), (5, .slice A3 ((t2 ++ t1.1).length) c3)] ?_
 obtain ⟨t3, hA3, H⟩ := bnd H
 refine RL.callP 40 [.slice A3 ((t2 ++ t1.1).length) c3] (some 21) (fun w v w' => ∃ I', Imm.le I3 I' ∧ armillaryref27_Checksum.Post I' w t3 v w') (by kernel_rfl) (by kernel_rfl) (fun w hs => ?_) ?_
 ·skip
  obtain ⟨JL1, hj1, hn1, hw1, hs⟩ := Sat.freeze (e := 5) (sz := 1) (S := A3) (n := (t2 ++ t1.1).length) (cap := c3) (m := 0) hs (by kernel_rfl) hp4 rfl
  exact (armillaryref27_Checksum.calls k JL1 (t2 ++ t1.1) A3 c3 _ hs.im hn1 hw1 t3 hA3).mono (fun e w' ⟨v, hv, hp⟩ => ⟨v, hv, JL1, hj1, hp⟩)
 rintro w v w' hs ⟨I', hle, J, rfl, hg⟩
 refine RL.resume (X' := [orow 5 1 A3 ((t2 ++ t1.1).length) c3 cs3]) rfl (hs.call (hg.back hle)) ?_
 clear hs hg hle I' J
 generalize w'.heap.size = nx4
 clear w w'
 obtain ⟨t4, hA4, H⟩ := bnd H
 refine RL.callM (L1 := []) (L2 := [⟨nx0, [i6 a0.f0, .string a0.f1, .slice Ap0_2 a0.f2.length cp0_2], 25⟩]) (X1 := [orow 5 1 A3 ((t2 ++ t1.1).length) c3 cs3]) (X2 := []) rfl rfl 39 [.slice A3 ((t2 ++ t1.1).length) c3, .int .u32 t3] (some 22) (fun w => armillaryref28_appendWords0.Post (SM [] [orow 5 1 A3 ((t2 ++ t1.1).length) c3 cs3]) (t2 ++ t1.1) A3 c3 cs3 t3 I3 w t4) (by kernel_rfl) (by kernel_rfl) (fun w hs => armillaryref28_appendWords0.calls k I3 (t2 ++ t1.1) A3 c3 cs3 t3 w hs hp4 t4 hA4) ?_
 rintro w v w' hs ⟨I4, A4, c4, cs4, rfl, hg, hp5⟩
 have hi4 : Imm.le I3 I4 := hg.le
 refine RL.resume (L' := [⟨nx0, [i6 a0.f0, .string a0.f1, .slice Ap0_2 a0.f2.length cp0_2], 25⟩]) (X' := [orow 5 1 A4 t4.length c4 cs4]) rfl (hs.outof hg) ?_
 clear hs hg
 generalize w'.heap.size = nx5
 clear w w'
 refine RL.sub (K' := [(22, .slice A4 t4.length c4), (21, .int .u32 t3)]) (L' := [⟨nx0, [i6 a0.f0, .string a0.f1, .slice Ap0_2 a0.f2.length cp0_2], 25⟩]) (X' := [orow 5 1 A4 t4.length c4 cs4]) (by kernel_rfl) (.refl _) (.refl _) ?_
 refine RL.st 1 [(5, .slice A4 t4.length c4)] ?_
 refine OK.sr ?_
 refine RL.st 2 [(2, .slice A4 t4.length c4)] ?_
 refine OK.re ?_
 obtain rfl := Option.some.inj H
 refine QN.body rfl [] (RFacts.nil _ _ _) (.no) (.slice A4 t4.length c4) (by kernel_rfl) (by kernel_rfl) (by kernel_rfl) ?_ _ (.inr rfl)
 exact fun w' hs' => ⟨_, rfl, I4, A4, c4, cs4, rfl, hs'.got _ (.cons_cons _ .slnil), hp5⟩

end Go.Proofs.YtiomeaoeegikkaaDoor
