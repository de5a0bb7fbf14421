/- Words of the walk, the functions' walks and plain laws, joined; no conditions beyond those that the theorems name. -/
import Derived.Test.YtiomeaoeegikkaaDoorY3
import Derived.Recover
import Derived.WalkKit
import Derived.Test.YtiomeaoeegikkaaDoorY2
namespace Go.Proofs.YtiomeaoeegikkaaDoor
open Go Go.Proofs.YtiomeaoeegikkaaDoor.RW
set_option linter.unusedVariables false
set_option maxRecDepth 100000
set_option maxHeartbeats 8000000

/-! ### armillaryref28_Made: function 12, armillary/armillaryref28.Made -/
noncomputable def K12_0 : Code := cBody Tryd.f12
def armillaryref28_Made.k1  (x1 : List S25) : Option (List S25) := (some x1)
def armillaryref28_Made.l1 (a0 : List S25) (a1 : Int) : Nat → (List S25) → Int → Option (List S25)
 | 0, _, _ => none
 | k + 1, x2, x3 => ((if x3 < (a0.length : Int) then (some (decide (x3 < a1))) else (some false)).bind (fun x4 => (if x4 = true then (if 0 ≤ x3 then (if x3 < (a0.length : Int) then ((armillaryref27_MadeEntry.f (a0.getD (x3).toNat z25)).bind fun t1 => (if (x2.length + [t1].length) * 48 ≤ 140737488355328 then (armillaryref28_Made.l1 a0 a1 k (x2 ++ [t1]) (W .i64 (x3 + 1))) else none)) else none) else none) else (some x2))))
def armillaryref28_Made.f (k : Nat) (a0 : List S25) (a1 : Int) : Option (List S25) := ((armillaryref28_Made.l1 a0 a1 k ([] : List S25) 0).bind (armillaryref28_Made.k1))
def armillaryref28_Made.Post (I : Imm) (w : World) (r : List S25) (v : Value) (w' : World) : Prop :=
 ∃ (J : Imm) (A0 : Option Addr) (c0 : Nat) (cs0 : List Value), v = .slice A0 r.length c0 ∧ Got w w' I J [orow 25 3 A0 r.length c0 cs0] ∧ Reps t25 J r cs0
theorem armillaryref28_Made.calls (k : Nat) (I0 : Imm) (a0 : List S25) (Ap0 : Option Addr) (cp0 : Nat) (a1 : Int) (w : World) (hI : I0.at_ w) (hlp0 : a0.length ≤ cp0) (hrp0 : Rd t25 I0 Ap0 a0) (r : List S25) (h : armillaryref28_Made.f k a0 a1 = some r) :
  Calls Tryd.prog 12 [.slice Ap0 a0.length cp0, i6 a1].toArray w fun e w' => ∃ v, e = .returned v ∧ armillaryref28_Made.Post I0 w r v w' := by
 have H : ((armillaryref28_Made.l1 a0 a1 k ([] : List S25) 0).bind (armillaryref28_Made.k1)) = some r := h
 clear h
 refine calls_body Tryd.func12 (by kernel_rfl) 28 (by kernel_rfl) (by kernel_rfl) ⟨w, fun _ => False, I0⟩ I0 [] [(0, .slice Ap0 a0.length cp0), (1, i6 a1)] (by kernel_rfl) (Sat.start w _ I0 hI) ?_
 generalize w.heap.size = nx0
 show OK _ K12_0 _ _ _ _ _ _ _ _
 refine OK.sr ?_
 refine RL.st 1 [(0, .slice Ap0 a0.length cp0), (1, i6 a1)] ?_
 refine OK.sr ?_
 refine RL.spt 2 [(5, .slice (some ⟨nx0, 0, none⟩) 0 0), (0, .slice Ap0 a0.length cp0), (1, i6 a1)] (nx0 + 1) [⟨nx0, [], 25⟩] ?_
 refine OK.sq ?_
 refine OK.sr ?_
 refine RL.st 1 [(6, i6 0), (5, .slice (some ⟨nx0, 0, none⟩) 0 0), (0, .slice Ap0 a0.length cp0), (1, i6 a1)] ?_
 refine OK.join (fun K' I' _ L' X' => ∃ (x1 : List S25) (A1 : Option Addr) (c1 : Nat) (cs1 : List Value), K' = [(5, .slice A1 x1.length c1)] ∧ L' = [] ∧ X' = [orow 25 3 A1 x1.length c1 cs1] ∧ Imm.le I0 I' ∧ Reps t25 I' x1 cs1 ∧ armillaryref28_Made.k1 x1 = some r) ?_ ?_
 ·rintro _ I1 nx1 _ _ ⟨x1, A1, c1, cs1, rfl, rfl, rfl, hi1, hp1, H⟩
  rw [armillaryref28_Made.k1] at H
  refine QN.then_ ?_
  refine OK.sr ?_
  refine RL.st 2 [(4, .slice A1 x1.length c1)] ?_
  refine OK.re ?_
  obtain rfl := Option.some.inj H
  refine QN.body rfl [] (RFacts.nil _ _ _) (.no) (.slice A1 x1.length c1) (by kernel_rfl) (by kernel_rfl) (by kernel_rfl) ?_ _ (.inr rfl)
  exact fun w' hs' => ⟨_, rfl, I1, A1, c1, cs1, rfl, hs'.got _ (.cons_cons _ .slnil), hp1⟩
 ·intro Q_1 hJ1 hQ1
  obtain ⟨y1, H, HK1⟩ := bnd H
  refine OK.bk 0 ?_
  refine OK.toRow (b := ⟨nx0, [], 25⟩) 0 0 3 (by kernel_rfl) (by kernel_rfl) (by decide) ?_
  have hp4 : Reps t25 I0 ([] : List S25) [] := rfl
  refine OK.norm (L' := []) (X' := [orow 25 3 (some ⟨nx0, 0, none⟩) (([] : List S25).length) 0 []]) rfl rfl (by kernel_rfl) (by kernel_rfl) ?_
  refine OK.sub (K' := [(0, .slice Ap0 a0.length cp0), (1, i6 a1), (5, .slice (some ⟨nx0, 0, none⟩) 0 0), (6, i6 0)]) (L' := []) (by kernel_rfl) .slnil (.refl _) ?_
  refine OK.lp (fun n_ K' I' _ L' X' => ∃ (x2 : List S25) (x3 : Int) (A2 : Option Addr) (c2 : Nat) (cs2 : List Value), K' = [(0, .slice Ap0 a0.length cp0), (1, i6 a1), (5, .slice A2 x2.length c2), (6, i6 x3)] ∧ L' = [] ∧ X' = [orow 25 3 A2 x2.length c2 cs2] ∧ Imm.le I0 I' ∧ Reps t25 I' x2 cs2 ∧ armillaryref28_Made.l1 a0 a1 n_ x2 x3 = some y1) k ⟨([] : List S25), 0, (some ⟨nx0, 0, none⟩), 0, [], rfl, rfl, rfl, (Imm.le_refl _), hp4, H⟩ ?_ ?_
  ·rintro _ _ _ _ _ ⟨x2, x3, A2, c2, cs2, rfl, rfl, rfl, _, hp2, H⟩
   cases H
  ·rintro kq1 _ I2 nx2 _ _ ⟨x2, x3, A2, c2, cs2, rfl, rfl, rfl, hi2, hp2, H⟩ Q_l1 hJ2 hQ2
   rw [armillaryref28_Made.l1] at H
   refine OK.sq ?_
   refine OK.sq ?_
   refine OK.join (fun K' I' _ L' X' => ∃ (x4 : Bool), K' = [(0, .slice Ap0 a0.length cp0), (1, i6 a1), (5, .slice A2 x2.length c2), (6, i6 x3), (16, .bool x4)] ∧ L' = [] ∧ X' = [orow 25 3 A2 x2.length c2 cs2] ∧ Imm.le I2 I' ∧ (if x4 = true then (if 0 ≤ x3 then (if x3 < (a0.length : Int) then ((armillaryref27_MadeEntry.f (a0.getD (x3).toNat z25)).bind fun t1 => (if (x2.length + [t1].length) * 48 ≤ 140737488355328 then (armillaryref28_Made.l1 a0 a1 kq1 (x2 ++ [t1]) (W .i64 (x3 + 1))) else none)) else none) else none) else (some x2)) = some y1) ?_ ?_
   ·rintro _ I3 nx3 _ _ ⟨x4, rfl, rfl, rfl, hi3, H⟩
    replace H : (if x4 = true then (if 0 ≤ x3 then (if x3 < (a0.length : Int) then ((armillaryref27_MadeEntry.f (a0.getD (x3).toNat z25)).bind fun t1 => (if (x2.length + [t1].length) * 48 ≤ 140737488355328 then (armillaryref28_Made.l1 a0 a1 kq1 (x2 ++ [t1]) (W .i64 (x3 + 1))) else none)) else none) else none) else (some x2)) = some y1 := H
    refine QN.then_ ?_
    refine OK.cd x4 (fun hb => ?_) (fun hb => ?_)
    ·skip
     have hc := hb
     rw [if_pos hc] at H
     clear hb
     refine OK.skt ?_
     refine OK.sq ?_
     refine OK.bk 1 ?_
     refine OK.rg ?_
     refine RL.s 3 [(21, i6 x3), (20, .slice Ap0 a0.length cp0), (19, .slice A2 x2.length c2), (0, .slice Ap0 a0.length cp0), (1, i6 a1), (5, .slice A2 x2.length c2), (6, i6 x3)] ?_
     obtain ⟨hib0, H⟩ := ifs H
     obtain ⟨hib1, H⟩ := ifs H
     obtain ⟨g1_, o1_, hA1_, A1_2_, c1_2_, hl1_2_, hr1_2_, hc1_⟩ := t25_at (Rd.ext (Imm.le_trans hi2 hi3) hrp0) x3 hib0 hib1
     refine RL.idx 3 .i64 x3 hA1_ a0.length cp0 (some 22) (by kernel_rfl) (by kernel_rfl) (T := 23) (e := 25) (by kernel_rfl) (by kernel_rfl) hib0 hib1 (K' := [(22, pt g1_ (o1_ + (x3).toNat * 3)), (21, i6 x3), (20, .slice Ap0 a0.length cp0), (19, .slice A2 x2.length c2), (0, .slice Ap0 a0.length cp0), (1, i6 a1), (5, .slice A2 x2.length c2), (6, i6 x3)]) (by kernel_rfl) ?_
     refine RL.simK (K' := [(23, .agg #[i6 ((a0.getD (x3).toNat z25).f0), .string ((a0.getD (x3).toNat z25).f1), .slice A1_2_ (((a0.getD (x3).toNat z25).f2).length) c1_2_]), (19, .slice A2 x2.length c2), (0, .slice Ap0 a0.length cp0), (1, i6 a1), (5, .slice A2 x2.length c2), (6, i6 x3)]) [(⟨g1_, o1_ + (x3).toNat * 3, none⟩, i6 ((a0.getD (x3).toNat z25).f0)), (⟨g1_, o1_ + (x3).toNat * 3 + 1, none⟩, .string ((a0.getD (x3).toNat z25).f1)), (⟨g1_, o1_ + (x3).toNat * 3 + 2, none⟩, .slice A1_2_ (((a0.getD (x3).toNat z25).f2).length) c1_2_)] (RFacts.imm (hc1_ 0 _ rfl) (RFacts.imm (hc1_ 1 _ rfl) (RFacts.imm (hc1_ 2 _ rfl) (RFacts.nil _ _ _)))) 1 [.r 0] (by kernel_rfl) (by kernel_rfl) ?_
     obtain ⟨t1, hA1, H⟩ := bnd H
     refine RL.callP 25 [.agg #[i6 ((a0.getD (x3).toNat z25).f0), .string ((a0.getD (x3).toNat z25).f1), .slice A1_2_ (((a0.getD (x3).toNat z25).f2).length) c1_2_]] (some 24) (fun w => armillaryref27_MadeEntry.Post I3 w t1) (by kernel_rfl) (by kernel_rfl) (fun w hs => armillaryref27_MadeEntry.calls I3 (a0.getD (x3).toNat z25) A1_2_ c1_2_ w hs.im hl1_2_ hr1_2_ t1 hA1) ?_
     rintro w v w' hs ⟨I4, A3, c3, rfl, hg, hl1, hr1⟩
     have hi4 := hg.le
     refine RL.resume (X' := [orow 25 3 A2 x2.length c2 cs2]) rfl (hs.call hg) ?_
     clear hs hg
     generalize w'.heap.size = nx4
     clear w w'
     refine RL.sp 1 [(25, .slice (some ⟨nx4, 0, none⟩) 1 1), (19, .slice A2 x2.length c2), (0, .slice Ap0 a0.length cp0), (1, i6 a1), (5, .slice A2 x2.length c2), (6, i6 x3)] (nx4 + 1) [⟨nx4, [i6 t1.f0, .string t1.f1, .slice A3 t1.f2.length c3], 25⟩] ?_
     obtain ⟨hz1, H⟩ := ifs H
     refine RL.appendB (T := 23) (e := 25) (S := A2) 3 48 23 c2 0 1 nx4 25 cs2 [i6 t1.f0, .string t1.f1, .slice A3 t1.f2.length c3] t25 x2 [t1] 0 (some 26) (by kernel_rfl) (by kernel_rfl) (by kernel_rfl) (by kernel_rfl) (by kernel_rfl) (by decide) (by kernel_rfl) (Reps.ext (Imm.le_trans hi3 hi4) hp2) (by kernel_rfl) ⟨_, _, rfl, (t25_mk _ _ hl1 hr1), rfl⟩ hz1 (by omega) (fun A4 c4 nx5 cs3 hp3 => ?_)
     refine RL.sub (K' := [(26, .slice A4 ((x2 ++ [t1]).length) c4), (25, .slice (some ⟨nx4, 0, none⟩) 1 1), (0, .slice Ap0 a0.length cp0), (1, i6 a1), (6, i6 x3)]) (L' := [⟨nx4, [i6 t1.f0, .string t1.f1, .slice A3 t1.f2.length c3], 25⟩]) (X' := [orow 25 3 A4 ((x2 ++ [t1]).length) c4 cs3]) (by kernel_rfl) (.refl _) (.refl _) ?_
     refine RL.s 1 [(5, .slice A4 ((x2 ++ [t1]).length) c4), (0, .slice Ap0 a0.length cp0), (1, i6 a1), (6, i6 x3)] ?_
     refine RL.nil (by kernel_rfl) ?_
     refine QN.blkN ?_
     refine QN.then_ ?_
     refine OK.rg ?_
     refine RL.s 3 [(6, i6 (W .i64 (x3 + 1))), (5, .slice A4 ((x2 ++ [t1]).length) c4), (0, .slice Ap0 a0.length cp0), (1, i6 a1)] ?_
     refine RL.nil (by kernel_rfl) ?_
     exact QN.sb (hJ2 _ _ _ _ _ ⟨(x2 ++ [t1]), W .i64 (x3 + 1), A4, c4, cs3, rfl, rfl, rfl, (Imm.le_trans (Imm.le_trans hi2 hi3) hi4), hp3, H⟩) (.cons _ .slnil) (.refl _)
    ·skip
     have hc := (Bool.eq_false_iff.1 hb)
     rw [if_neg hc] at H
     clear hb
     refine OK.ex 0 ?_
     refine QN.thenE ?_
     refine QN.outE hQ2 ?_
     refine QN.blkE ?_
     obtain rfl := Option.some.inj H
     exact QN.sb (hJ1 _ _ _ _ _ ⟨x2, A2, c2, cs2, rfl, rfl, rfl, (Imm.le_trans hi2 hi3), (Reps.ext hi3 hp2), HK1⟩) .slnil (.refl _)
   ·intro Q_2 hJ3 hQ3
    obtain ⟨y2, H, HK2⟩ := bnd H
    refine OK.rg ?_
    refine RL.s 5 [(12, .bool (decide (x3 < (a0.length : Int)))), (0, .slice Ap0 a0.length cp0), (1, i6 a1), (5, .slice A2 x2.length c2), (6, i6 x3)] ?_
    refine RL.cases (decide (x3 < (a0.length : Int))) (fun hb => ?_) (fun hb => ?_)
    ·have hc := (of_decide_eq_true hb)
     rw [hb]
     rw [if_pos hc] at H; clear hb
     refine RL.s 4 [(16, .bool (decide (x3 < a1))), (0, .slice Ap0 a0.length cp0), (1, i6 a1), (5, .slice A2 x2.length c2), (6, i6 x3)] ?_
     refine RL.nil (by kernel_rfl) ?_
     obtain rfl := Option.some.inj H
     exact QN.sb (hJ3 _ _ _ _ _ ⟨(decide (x3 < a1)), rfl, rfl, rfl, (Imm.le_refl _), HK2⟩) .slnil (.refl _)
    ·have hc := (of_decide_eq_false hb)
     rw [hb]
     rw [if_neg hc] at H; clear hb
     refine RL.s 4 [(16, .bool false), (0, .slice Ap0 a0.length cp0), (1, i6 a1), (5, .slice A2 x2.length c2), (6, i6 x3)] ?_
     refine RL.nil (by kernel_rfl) ?_
     obtain rfl := Option.some.inj H
     exact QN.sb (hJ3 _ _ _ _ _ ⟨false, rfl, rfl, rfl, (Imm.le_refl _), HK2⟩) .slnil (.refl _)

end Go.Proofs.YtiomeaoeegikkaaDoor
namespace Go.Proofs.YtiomeaoeegikkaaDoor.led
open Go Go.Proofs.YtiomeaoeegikkaaDoor Go.Proofs.YtiomeaoeegikkaaDoor.RW
set_option linter.unusedVariables false
set_option maxRecDepth 100000
theorem isBytes.app {l m : List Int} (h : isBytes l) (h2 : isBytes m) : isBytes (l ++ m) := fun x hx => by
  rcases List.mem_append.1 hx with hx | hx
  · exact h x hx
  · exact h2 x hx
theorem bytes_app {l m : List Int} (h : isBytes (l ++ m)) : isBytes l ∧ isBytes m := ⟨fun x hx => h x (List.mem_append_left _ hx), fun x hx => h x (List.mem_append_right _ hx)⟩
theorem bytesOf_bytes (s : ByteArray) : isBytes (bytesOf s) := fun x hx => by
  obtain ⟨b, _, rfl⟩ := List.mem_map.1 hx
  have := b.toNat_lt
  omega

theorem Ev.shift {α : Type} {f : Nat → Option α} {r : α} (h : Ev f r) : Ev (fun k => f (k + 1)) r := ⟨h.choose, fun k hk => h.choose_spec _ (by omega)⟩
/-! ### variable-length numbers -/
def vg (u : Nat) : List Int := if u < 128 then [(u : Int)] else ((u % 128 + 128 : Nat) : Int) :: vg (u / 128)
theorem vg_small {u : Nat} (h : u < 128) : vg u = [(u : Int)] := by rw [vg, if_pos h]
theorem vg_big {u : Nat} (h : ¬ u < 128) : vg u = ((u % 128 + 128 : Nat) : Int) :: vg (u / 128) := by rw [vg, if_neg h]
theorem vg_bytes (u : Nat) : isBytes (vg u) := by
  induction u using Nat.strongRecOn with
  | _ u ih =>
    by_cases h : u < 128
    · rw [vg_small h]
      intro x hx
      rw [List.mem_singleton.1 hx]
      omega
    · rw [vg_big h]
      intro x hx
      rcases List.mem_cons.1 hx with rfl | hx
      · omega
      · exact ih (u / 128) (by omega) x hx
theorem vg_len {u : Nat} (h : u < 2097152) : (vg u).length ≤ 3 ∧ 1 ≤ (vg u).length := by
  by_cases h1 : u < 128
  · rw [vg_small h1]; simp
  · rw [vg_big h1]
    by_cases h2 : u / 128 < 128
    · rw [vg_small h2]; simp
    · rw [vg_big h2, vg_small (by omega)]; simp
theorem or128 : ∀ b : Nat, b < 256 → b ||| 128 = b % 128 + 128 := by decide
theorem bOr8 (u : Nat) : bOr .u8 (W .u8 (u : Int)) 128 = ((u % 128 + 128 : Nat) : Int) := by
  rw [W8]
  show W .u8 (((BitVec.ofInt 8 ((u : Int) % 256) ||| 128#8).toNat : Nat) : Int) = _
  rw [show (u : Int) % 256 = ((u % 256 : Nat) : Int) from by omega, BitVec.ofInt_natCast, W8, BitVec.toNat_or, BitVec.toNat_ofNat]
  show ((u % 256 % 256 ||| 128 : Nat) : Int) % 256 = _
  rw [Nat.mod_eq_of_lt (Nat.mod_lt u (by decide)), or128 _ (Nat.mod_lt u (by decide))]
  omega
theorem vl1_ev (u : Nat) : ∀ (x : List Int), u < 2097152 → x.length + u < 140737488355000 → Ev (fun k => codec_AppendVarint.l1 k x (u : Int)) (x ++ vg u) := by
  induction u using Nat.strongRecOn with
  | _ u ih =>
    intro x hu hx
    by_cases h : u < 128
    · refine Ev.succ (g := fun _ => some (x ++ vg u)) (fun k => ?_) (Ev.const rfl)
      rw [codec_AppendVarint.l1, if_neg (by omega), if_pos (by simp only [List.length_singleton]; omega), vg_small h, W8, show (u : Int) % 256 = (u : Int) from by omega]
    · have h1 := ih (u / 128) (by omega) (x ++ [((u % 128 + 128 : Nat) : Int)]) (by omega) (by
        simp only [List.length_append, List.length_singleton]
        omega)
      rw [vg_big h, show x ++ ((u % 128 + 128 : Nat) : Int) :: vg (u / 128) = (x ++ [((u % 128 + 128 : Nat) : Int)]) ++ vg (u / 128) from by simp]
      refine Ev.succ (fun k => ?_) h1
      rw [codec_AppendVarint.l1, if_pos (by omega), bOr8, if_pos (by simp only [List.length_singleton]; omega), Int.fdiv_eq_ediv_of_nonneg _ (by decide), show (u : Int) / 128 = ((u / 128 : Nat) : Int) from by omega]
theorem zig (n : Nat) (h : n < 1000000) : bXor .u64 (W .u64 (W .i64 ((n : Int) * 2))) (W .u64 (Int.fdiv (n : Int) 9223372036854775808)) = ((2 * n : Nat) : Int) := by
  have h1 : W .u64 (W .i64 ((n : Int) * 2)) = ((2 * n : Nat) : Int) := by
    rw [W64 (by omega) (by omega), WU64]; omega
  have h2 : W .u64 (Int.fdiv (n : Int) 9223372036854775808) = ((0 : Nat) : Int) := by
    rw [Int.fdiv_eq_ediv_of_nonneg _ (by decide), WU64]; omega
  rw [h1, h2]
  show W .u64 (((BitVec.ofInt 64 ((2 * n : Nat) : Int) ^^^ BitVec.ofInt 64 ((0 : Nat) : Int)).toNat : Nat) : Int) = _
  rw [BitVec.ofInt_natCast, BitVec.ofInt_natCast, BitVec.toNat_xor, BitVec.toNat_ofNat, BitVec.toNat_ofNat, WU64, Nat.zero_mod, Nat.xor_zero, Nat.mod_eq_of_lt (by omega)]
  omega
/-- A number is written. -/
theorem av_ev (x : List Int) (n : Nat) (hn : n < 1000000) (hx : x.length < 1000000000000) : Ev (fun k => codec_AppendVarint.f k x (n : Int)) (x ++ vg (2 * n)) := by
  refine Ev.congr (g := fun k => codec_AppendVarint.l1 (k + 1) x ((2 * n : Nat) : Int)) (fun k => ?_) (Ev.shift (vl1_ev (2 * n) x (by omega) (by omega)))
  rw [← zig n hn]
  rfl
theorem ab_ev (x y : List Int) (hy : y.length < 1000000) (hx : x.length < 1000000000) : Ev (fun k => codec_appendBytes.f k x y) (x ++ (vg (2 * y.length) ++ y)) := by
  have h1 := vg_len (u := 2 * y.length) (by omega)
  refine Ev.bind (av_ev x y.length hy (by omega)) (Ev.const ?_)
  rw [if_pos (by simp only [List.length_append]; omega), List.append_assoc]

/-! ### entries, records, logs -/
structure okE (e : S25) : Prop where
  k1 : 1 ≤ e.f0
  k2 : e.f0 ≤ 4
  s1 : 1 ≤ e.f1.size
  s2 : e.f1.size ≤ 40
  b1 : e.f2.length ≤ 20000
  by_ : isBytes e.f2
def enc (e : S25) : List Int := vg (2 * e.f0.toNat) ++ ((vg (2 * e.f1.size) ++ bytesOf e.f1) ++ (vg (2 * e.f2.length) ++ e.f2))
theorem enc_len {e : S25} (h : okE e) : 1 ≤ (enc e).length ∧ (enc e).length ≤ 20100 := by
  have h1 := vg_len (u := 2 * e.f0.toNat) (by have := h.k2; omega)
  have h2 := vg_len (u := 2 * e.f1.size) (by have := h.s2; omega)
  have h3 := vg_len (u := 2 * e.f2.length) (by have := h.b1; omega)
  have := h.s2
  have := h.b1
  unfold enc
  simp only [List.length_append, bytesOf_length]
  omega
theorem enc_bytes {e : S25} (h : okE e) : isBytes (enc e) := (vg_bytes _).app (((vg_bytes _).app (bytesOf_bytes _)).app ((vg_bytes _).app h.by_))
theorem valid_ok {e : S25} (h : okE e) : codec_validEntry.f e = some true := by
  have := h.s1; have := h.s2; have := h.b1
  unfold codec_validEntry.f codec_validEntry.k1
  rw [if_pos h.k1, if_pos h.k2, if_pos (by omega), if_pos (by omega), decide_eq_true (by omega)]
  rfl
theorem enc_ev {e : S25} (h : okE e) : Ev (fun k => codec_EncodeEntry.f k e) (enc e, 0) := by
  have h1 := vg_len (u := 2 * e.f0.toNat) (by have := h.k2; omega)
  have h2 := vg_len (u := 2 * e.f1.size) (by have := h.s2; omega)
  have hs1 := h.s1; have hs2 := h.s2; have hb := h.b1; have hk1 := h.k1; have hk2 := h.k2
  refine Ev.bind1 (valid_ok h) ?_
  refine Ev.congr (fun k => if_pos rfl) ?_
  have e0 : Ev (fun k => codec_AppendVarint.f k [] e.f0) (vg (2 * e.f0.toNat)) := by
    have := av_ev [] e.f0.toNat (by omega) (by simp)
    rwa [Int.toNat_of_nonneg (by omega), List.nil_append] at this
  refine Ev.bind e0 ?_
  refine Ev.congr (fun k => if_pos (by omega)) ?_
  have e1 := ab_ev (vg (2 * e.f0.toNat)) (bytesOf e.f1) (by rw [bytesOf_length]; omega) (by omega)
  rw [bytesOf_length] at e1
  refine Ev.bind e1 ?_
  have e2 := ab_ev (vg (2 * e.f0.toNat) ++ (vg (2 * e.f1.size) ++ bytesOf e.f1)) e.f2 (by omega) (by simp only [List.length_append, bytesOf_length]; omega)
  refine Ev.bind e2 (Ev.const ?_)
  unfold enc
  simp only [List.append_assoc]
def w32 (n : Nat) : List Int := [((n % 256 : Nat) : Int), ((n / 256 % 256 : Nat) : Int), ((n / 65536 % 256 : Nat) : Int), ((n / 16777216 % 256 : Nat) : Int)]
theorem w32_bytes (n : Nat) : isBytes (w32 n) := by
  intro x hx
  unfold w32 at hx
  simp only [List.mem_cons, List.not_mem_nil, or_false] at hx
  rcases hx with rfl | rfl | rfl | rfl <;> omega
theorem words_eq (n : Nat) : [W .u8 (n : Int), W .u8 (Int.fdiv (n : Int) 256), W .u8 (Int.fdiv (n : Int) 65536), W .u8 (Int.fdiv (n : Int) 16777216)] = w32 n := by
  unfold w32
  rw [W8, W8, W8, W8, Int.fdiv_eq_ediv_of_nonneg _ (by decide), Int.fdiv_eq_ediv_of_nonneg _ (by decide), Int.fdiv_eq_ediv_of_nonneg _ (by decide)]
  congr 1
theorem put0 (n : Nat) : ledger_putWords0.f (n : Int) = some (w32 n) := by
  unfold ledger_putWords0.f
  rw [words_eq, if_pos (by show (0 + 4) * 1 ≤ _; omega)]
  rfl
theorem put1 (l : List Int) (n : Nat) (h : l.length < 1000000000) : ledger_putWords1.f l (n : Int) = some (l ++ w32 n) := by
  unfold ledger_putWords1.f
  rw [words_eq, if_pos (by show (l.length + 4) * 1 ≤ _; omega)]
def hd (e : S25) : List Int := w32 (enc e).length ++ enc e
def rec_ (e : S25) : List Int := hd e ++ w32 (cs (hd e))
theorem hd_bytes {e : S25} (h : okE e) : isBytes (hd e) := (w32_bytes _).app (enc_bytes h)
theorem rec_bytes {e : S25} (h : okE e) : isBytes (rec_ e) := (hd_bytes h).app (w32_bytes _)
theorem hd_len (e : S25) : (hd e).length = 4 + (enc e).length := by unfold hd; rw [List.length_append]; rfl
theorem rec_len (e : S25) : (rec_ e).length = 8 + (enc e).length := by
  unfold rec_
  rw [List.length_append, hd_len]
  show 4 + _ + 4 = _
  omega
theorem record_ev {e : S25} (h : okE e) : Ev (fun k => ledger_record.f k e) (rec_ e, 0) := by
  have hl := enc_len h
  refine Ev.bind (enc_ev h) ?_
  refine Ev.congr (fun k => if_neg (fun h => h rfl)) ?_
  have e1 : ledger_putWords0.f (W .u32 ((enc e).length : Int)) = some (w32 (enc e).length) := by
    rw [W32, show ((enc e).length : Int) % 4294967296 = ((enc e).length : Int) from by omega]
    exact put0 _
  refine Ev.bind1 e1 ?_
  refine Ev.congr (fun k => if_pos (by show (4 + (enc e).length) * 1 ≤ _; omega)) ?_
  refine Ev.bind (checksum_ev (l := hd e) (hd_bytes h) (by rw [hd_len]; omega)) ?_
  exact Ev.bind1 (put1 (hd e) (cs (hd e)) (by rw [hd_len]; omega)) (Ev.const rfl)

/-! ### two rows in one -/
theorem grow_eq (n : Nat) (h : n < 100000000000) : slices_Grow_byte_bytes0.f (n : Int) = some [] := by
  unfold slices_Grow_byte_bytes0.f slices_Grow_byte_bytes0.k1
  rw [if_neg (by omega), show (n : Int) - 0 = (n : Int) from by omega, W64 (by omega) (by omega)]
  by_cases h0 : (n : Int) > 0
  · rw [if_pos h0, if_pos h0, if_pos (by omega), if_pos (by decide), if_pos (by omega)]
    rfl
  · rw [if_neg h0]; rfl
theorem concat_ev (a b : List Int) (ha : a.length < 1000000000) (hb : b.length < 1000000000) : Ev (fun k => slices_Concat_byte_byte.f k [a, b]) (a ++ b) := by
  have g0 : [a, b].getD (0 : Nat) [] = a := rfl
  have g1 : [a, b].getD (1 : Nat) [] = b := rfl
  have l2 : Ev (fun k => slices_Concat_byte_byte.l2 [a, b] k 0 0) ((a.length + b.length : Nat) : Int) := by
    refine ⟨3, fun k hk => ?_⟩
    obtain ⟨m, rfl⟩ : ∃ m, k = m + 3 := ⟨k - 3, by omega⟩
    show slices_Concat_byte_byte.l2 [a, b] (m + 3) ((0 : Nat) : Int) ((0 : Nat) : Int) = _
    rw [slices_Concat_byte_byte.l2, if_pos (by simp), if_pos (by decide), if_pos (by simp), Wn (by decide), tn, g0, show ((0 : Nat) : Int) + (a.length : Int) = (a.length : Int) from by omega, W64 (by omega) (by omega), if_neg (by omega)]
    rw [slices_Concat_byte_byte.l2, if_pos (by simp), if_pos (by omega), if_pos (by simp), Wn (by decide), tn, g1, W64 (by omega) (by omega), if_neg (by omega)]
    rw [slices_Concat_byte_byte.l2, if_neg (by simp)]
    congr 1
  have l1 : Ev (fun k => slices_Concat_byte_byte.l1 [a, b] k [] 0) (a ++ b) := by
    refine ⟨3, fun k hk => ?_⟩
    obtain ⟨m, rfl⟩ : ∃ m, k = m + 3 := ⟨k - 3, by omega⟩
    show slices_Concat_byte_byte.l1 [a, b] (m + 3) [] ((0 : Nat) : Int) = _
    rw [slices_Concat_byte_byte.l1, if_pos (by simp), if_pos (by decide), if_pos (by simp), Wn (by decide), tn, g0, if_pos (by simp only [List.length_nil]; omega), List.nil_append]
    rw [slices_Concat_byte_byte.l1, if_pos (by simp), if_pos (by omega), if_pos (by simp), Wn (by decide), tn, g1, if_pos (by omega)]
    rw [slices_Concat_byte_byte.l1, if_neg (by simp)]
  refine Ev.bind l2 ?_
  refine Ev.bind1 (grow_eq _ (by omega)) ?_
  exact Ev.bind l1 (Ev.const rfl)
theorem append_ev {e : S25} (h : okE e) (log : List Int) (hl : log.length < 1000000000) : Ev (fun k => ledger_Append.f k log e) (log ++ rec_ e, 0) := by
  have hle := enc_len h
  refine Ev.bind (record_ev h) ?_
  refine Ev.congr (fun k => if_neg (fun h => h rfl)) ?_
  exact Ev.bind (concat_ev log (rec_ e) hl (by rw [rec_len]; omega)) (Ev.const rfl)
def logOf (l : List S25) : List Int := l.flatMap rec_
theorem logOf_cons (e : S25) (l : List S25) : logOf (e :: l) = rec_ e ++ logOf l := rfl
theorem logOf_app (l m : List S25) : logOf (l ++ m) = logOf l ++ logOf m := by simp [logOf]
def okL (l : List S25) : Prop := ∀ e ∈ l, okE e
theorem logOf_len {l : List S25} (h : okL l) : (logOf l).length ≤ 20200 * l.length := by
  induction l with
  | nil => exact Nat.le_refl _
  | cons e l ih =>
    have h1 := ih (fun x hx => h x (List.mem_cons_of_mem _ hx))
    have h2 := enc_len (h e List.mem_cons_self)
    rw [logOf_cons, List.length_append, rec_len, List.length_cons]
    omega
theorem logOf_bytes {l : List S25} (h : okL l) : isBytes (logOf l) := by
  induction l with
  | nil => intro x hx; cases hx
  | cons e l ih => exact (rec_bytes (h e List.mem_cons_self)).app (ih (fun x hx => h x (List.mem_cons_of_mem _ hx)))
theorem getD_at {l : List S25} {n : Nat} (h : n < l.length) : l.getD n z25 = l[n] := by
  rw [List.getD_eq_getElem?_getD, List.getElem?_eq_getElem h]; rfl
theorem build_l1 (l : List S25) (h : okL l) (hl : l.length ≤ 1000) : ∀ (d n : Nat) (x : List Int), d + n = l.length → x.length + 20200 * d < 100000000 → Ev (fun k => armillarylaw28_build.l1 l k x (n : Int)) (.inl (x ++ logOf (l.drop n)))
  | 0, n, x, hd, hx => by
    obtain rfl : n = l.length := by omega
    rw [List.drop_length]
    refine Ev.succ (g := fun _ => some (.inl (x ++ logOf []))) (fun k => ?_) (Ev.const rfl)
    rw [armillarylaw28_build.l1, if_neg (by omega)]
    simp [logOf]
  | d + 1, n, x, hd, hx => by
    have hn : n < l.length := by omega
    have he := h _ (List.getElem_mem hn)
    have hle := enc_len he
    have ih := build_l1 l h hl d (n + 1) (x ++ rec_ l[n]) (by omega) (by rw [List.length_append, rec_len]; omega)
    rw [List.drop_eq_getElem_cons hn, logOf_cons, ← List.append_assoc]
    refine Ev.succ (g := fun k => (ledger_Append.f k x (l.getD n z25)).bind fun t1 => ((if t1.2 ≠ 0 then (some true) else (some (decide ((t1.1.length : Int) ≤ (x.length : Int))))).bind (fun x4 => (if x4 = true then (some (Sum.inr ([], false))) else (armillarylaw28_build.l1 l k t1.1 ((n + 1 : Nat) : Int)))))) (fun k => ?_) ?_
    · rw [armillarylaw28_build.l1, if_pos (by omega), if_pos (by omega), if_pos (by omega), tn, Wn (by omega)]
    rw [getD_at hn]
    refine Ev.bind (append_ev he x (by omega)) ?_
    refine Ev.congr (g := fun k => armillarylaw28_build.l1 l k (x ++ rec_ l[n]) ((n + 1 : Nat) : Int)) (fun k => ?_) ih
    have h1 : decide (((x ++ rec_ l[n]).length : Int) ≤ (x.length : Int)) = false := by
      rw [List.length_append, rec_len]
      exact decide_eq_false (by omega)
    show ((if (0 : Int) ≠ 0 then some true else some (decide (((x ++ rec_ l[n]).length : Int) ≤ (x.length : Int)))).bind _) = _
    rw [if_neg (fun h => h rfl), h1]
    rfl
theorem build_ev (l : List S25) (h : okL l) (hl : l.length ≤ 1000) (x : List Int) (hx : x.length < 10000000) : Ev (fun k => armillarylaw28_build.f k x l) (x ++ logOf l, true) :=
  Ev.bind (r := .inl (x ++ logOf l)) (build_l1 l h hl l.length 0 x rfl (by omega)) (Ev.const rfl)

end Go.Proofs.YtiomeaoeegikkaaDoor.led
namespace Go.Proofs.YtiomeaoeegikkaaDoor
open Go Go.Proofs.YtiomeaoeegikkaaDoor.RW
set_option linter.unusedVariables false
set_option maxRecDepth 100000
set_option maxHeartbeats 8000000

/-! ### codec_decoder_fails0: function 72, (*armillary/codec.decoder).fail -/
noncomputable def K72s0_0 : Code := cBody Tryd.f72
def codec_decoder_fails0.f (a1 : Int) (b0 : S124) : Option (Int ⊕ (Unit)) := (some (Sum.inl a1))
def codec_decoder_fails0.Post (S : Nat → Prop) (gb0 : Nat) (a1 : Int) (b0 : S124) (Ab0_0 : Option Addr) (cb0_0 : Nat) (I : Imm) (w : World) (r : Unit) (v : Value) (w' : World) : Prop :=
 ∃ (J : Imm), v = .tuple #[] ∧ Sat ⟨w, S, I⟩ J w'.heap.size [⟨gb0, [.slice Ab0_0 b0.f0.length cb0_0, .int .i64 b0.f1], 124⟩] [] w'
theorem codec_decoder_fails0.callsX (I0 : Imm) (gb0 : Nat) (a1 : Int) (b0 : S124) (Ab0_0 : Option Addr) (cb0_0 : Nat) (w : World) (hs : Sat ⟨w, SM [⟨gb0, [.slice Ab0_0 b0.f0.length cb0_0, i6 b0.f1], 124⟩] [], I0⟩ I0 w.heap.size [⟨gb0, [.slice Ab0_0 b0.f0.length cb0_0, i6 b0.f1], 124⟩] [] w) (hlb0_0 : b0.f0.length ≤ cb0_0) (hrb0_0 : Rd (Ty.int .u8) I0 Ab0_0 b0.f0) (r : Int ⊕ (Unit)) (h : codec_decoder_fails0.f a1 b0 = some r) :
  Calls Tryd.prog 72 [pt gb0 0, i6 a1].toArray w fun e w' => pan r (fun x => e = .panicked (pch 121 x) ∧ Evo (SM [⟨gb0, [.slice Ab0_0 b0.f0.length cb0_0, i6 b0.f1], 124⟩] []) w w' ∧ I0.at_ w') (fun r => ∃ v, e = .returned v ∧ codec_decoder_fails0.Post (SM [⟨gb0, [.slice Ab0_0 b0.f0.length cb0_0, i6 b0.f1], 124⟩] []) gb0 a1 b0 Ab0_0 cb0_0 I0 w r v w') := by
 have H : (some (Sum.inl a1)) = some r := h
 clear h
 refine calls_bodyL Tryd.func72 (by kernel_rfl) 7 (by kernel_rfl) (by kernel_rfl) ⟨w, SM [⟨gb0, [.slice Ab0_0 b0.f0.length cb0_0, i6 b0.f1], 124⟩] [], I0⟩ I0 [⟨gb0, [.slice Ab0_0 b0.f0.length cb0_0, i6 b0.f1], 124⟩] [] [(0, pt gb0 0), (1, i6 a1)] (by kernel_rfl) hs ?_
 generalize w.heap.size = nx0
 show OK _ K72s0_0 _ _ _ _ _ _ _ _
 refine OK.rg ?_
 refine RL.s 3 [(6, .iface 121 (.agg #[i6 a1]))] ?_
 refine RL.panic 121 (.agg #[i6 a1]) (by kernel_rfl) (by kernel_rfl) ?_
 obtain rfl := Option.some.inj H
 exact QP.body rfl (fun w he hi => ⟨rfl, he, fun a v h => hi a v ((Imm.le_refl _) a v h)⟩)
theorem codec_decoder_fails0.calls (I0 : Imm) (gb0 : Nat) (a1 : Int) (b0 : S124) (Ab0_0 : Option Addr) (cb0_0 : Nat) (w : World) (hs : Sat ⟨w, SM [⟨gb0, [.slice Ab0_0 b0.f0.length cb0_0, i6 b0.f1], 124⟩] [], I0⟩ I0 w.heap.size [⟨gb0, [.slice Ab0_0 b0.f0.length cb0_0, i6 b0.f1], 124⟩] [] w) (hlb0_0 : b0.f0.length ≤ cb0_0) (hrb0_0 : Rd (Ty.int .u8) I0 Ab0_0 b0.f0) (r : Unit) (h : codec_decoder_fails0.f a1 b0 = some (.inr r)) :
  Calls Tryd.prog 72 [pt gb0 0, i6 a1].toArray w fun e w' => ∃ v, e = .returned v ∧ codec_decoder_fails0.Post (SM [⟨gb0, [.slice Ab0_0 b0.f0.length cb0_0, i6 b0.f1], 124⟩] []) gb0 a1 b0 Ab0_0 cb0_0 I0 w r v w' :=
 codec_decoder_fails0.callsX I0 gb0 a1 b0 Ab0_0 cb0_0 w hs hlb0_0 hrb0_0 (.inr r) h
theorem codec_decoder_fails0.callsP (I0 : Imm) (gb0 : Nat) (a1 : Int) (b0 : S124) (Ab0_0 : Option Addr) (cb0_0 : Nat) (w : World) (hs : Sat ⟨w, SM [⟨gb0, [.slice Ab0_0 b0.f0.length cb0_0, i6 b0.f1], 124⟩] [], I0⟩ I0 w.heap.size [⟨gb0, [.slice Ab0_0 b0.f0.length cb0_0, i6 b0.f1], 124⟩] [] w) (hlb0_0 : b0.f0.length ≤ cb0_0) (hrb0_0 : Rd (Ty.int .u8) I0 Ab0_0 b0.f0) (x : Int) (h : codec_decoder_fails0.f a1 b0 = some (.inl x)) :
  Calls Tryd.prog 72 [pt gb0 0, i6 a1].toArray w fun e w' => e = .panicked (pch 121 x) ∧ Evo (SM [⟨gb0, [.slice Ab0_0 b0.f0.length cb0_0, i6 b0.f1], 124⟩] []) w w' ∧ I0.at_ w' :=
 codec_decoder_fails0.callsX I0 gb0 a1 b0 Ab0_0 cb0_0 w hs hlb0_0 hrb0_0 (.inl x) h

end Go.Proofs.YtiomeaoeegikkaaDoor
namespace Go.Proofs.YtiomeaoeegikkaaDoor
open Go Go.Proofs.YtiomeaoeegikkaaDoor.RW
set_option linter.unusedVariables false
set_option maxRecDepth 100000
set_option maxHeartbeats 8000000

/-! ### codec_decoder_varints0: function 71, (*armillary/codec.decoder).varint -/
noncomputable def K71s0_0 : Code := cBody Tryd.f71
noncomputable def O71s0_15 : List Oper := cOps (cL (cL (cL (cL (cL (cL (cR (cR (cR K71s0_0)))))))))
noncomputable def O71s0_22 : List Oper := cOps (cL (cR (cL (cL (cL (cL (cR (cR (cR K71s0_0)))))))))
def codec_decoder_varints0.l1 (b0 : S124) : Nat → Int → Int → Int → Option (Int ⊕ (Int × S124))
 | 0, _, _, _ => none
 | k + 1, x1, x2, x3 => ((if x1 = (b0.f0.length : Int) then (pb (codec_decoder_fails0.f 271 (⟨b0.f0, x1⟩ : S124)) (fun e2 => (some (Sum.inr (Sum.inl e2)))) fun t2 => (some (Sum.inl ()))) else (some (Sum.inl ()))).bind (fun s_ => match s_ with | .inl _ => (if 0 ≤ x1 then (if x1 < (b0.f0.length : Int) then ((if x3 = 63 then (if (b0.f0.getD (x1).toNat 0) ≠ 1 then (some true) else (if x3 > 0 then (some ((b0.f0.getD (x1).toNat 0) == 0)) else (some false))) else (if x3 > 0 then (some ((b0.f0.getD (x1).toNat 0) == 0)) else (some false))).bind (fun x4 => ((if x4 = true then (pb (codec_decoder_fails0.f 272 (⟨b0.f0, x1⟩ : S124)) (fun e1 => (some (Sum.inr (Sum.inl e1)))) fun t1 => (some (Sum.inl ()))) else (some (Sum.inl ()))).bind (fun s_ => match s_ with | .inl _ => (if 0 ≤ x3 then (if (b0.f0.getD (x1).toNat 0) < 128 then (some (Sum.inr (bXor .i64 (W .i64 (Int.fdiv (bOr .u64 x2 (W .u64 ((W .u64 (bClr .u8 (b0.f0.getD (x1).toNat 0) 128)) * 2 ^ (min (x3).toNat 64)))) 2)) (W .i64 (0 - (W .i64 (bAnd .u64 (bOr .u64 x2 (W .u64 ((W .u64 (bClr .u8 (b0.f0.getD (x1).toNat 0) 128)) * 2 ^ (min (x3).toNat 64)))) 1)))), (⟨b0.f0, W .i64 (x1 + 1)⟩ : S124)))) else (codec_decoder_varints0.l1 b0 k (W .i64 (x1 + 1)) (bOr .u64 x2 (W .u64 ((W .u64 (bClr .u8 (b0.f0.getD (x1).toNat 0) 128)) * 2 ^ (min (x3).toNat 64)))) (W .i64 (x3 + 7)))) else none) | .inr r_ => some r_)))) else none) else none) | .inr r_ => some r_))
def codec_decoder_varints0.f (k : Nat) (b0 : S124) : Option (Int ⊕ (Int × S124)) := (codec_decoder_varints0.l1 b0 k b0.f1 0 0)
def codec_decoder_varints0.Post (S : Nat → Prop) (gb0 : Nat) (b0 : S124) (Ab0_0 : Option Addr) (cb0_0 : Nat) (I : Imm) (w : World) (r : Int × S124) (v : Value) (w' : World) : Prop :=
 ∃ (J : Imm) (Ar1_0 : Option Addr) (cr1_0 : Nat), v = .int .i64 r.1 ∧ Sat ⟨w, S, I⟩ J w'.heap.size [⟨gb0, [.slice Ar1_0 r.2.f0.length cr1_0, .int .i64 r.2.f1], 124⟩] [] w' ∧ r.2.f0.length ≤ cr1_0 ∧ Rd (Ty.int .u8) J Ar1_0 r.2.f0
noncomputable def a71s0_15n : List Nat := [0, 1, 3, 7, 0, 16, 48, 112, 240, 511]
theorem a71s0_15 : ancs O71s0_15 [] = a71s0_15n := by kernel_rfl
theorem a71s0_15o : drawOk O71s0_15 a71s0_15n 9 = true := by kernel_rfl
noncomputable def u71d1l  : List Ld :=
 []
noncomputable def u71d1g  : List (Nat × ((Nat → Wt) → Value)) := []
noncomputable def u71d1q (gb0 : Nat) (b0 : S124) (Ab0_0 : Option Addr) (cb0_0 : Nat) (x1 : Int) (x2 : Int) (x3 : Int) (u : Nat → Wt) : Option (List Value × List (Nat × Value) × List (Nat × Nat)) := qSim Tryd.prog [] [⟨gb0, [.slice Ab0_0 b0.f0.length cb0_0, i6 x1], 124⟩] O71s0_15 ⟨70, []⟩ (Ld.vl u71d1l) u71d1g u [.no, .no, .no, .l 0, .no, .no, .no, .l 0, .no] 0 (O71s0_15.take 9) [(0, pt gb0 0), (3, .int .u64 x2), (4, i6 x3)]
noncomputable def u71d1s (gb0 : Nat) (b0 : S124) (Ab0_0 : Option Addr) (cb0_0 : Nat) (x1 : Int) (u : Nat → Wt) : List Value := [pt gb0 0, pt gb0 0, pt gb0 1, i6 x1, pt gb0 0, pt gb0 0, pt gb0 0, .slice Ab0_0 b0.f0.length cb0_0, i6 (b0.f0.length : Int)]
noncomputable def u71d1f (gb0 : Nat) (b0 : S124) (Ab0_0 : Option Addr) (cb0_0 : Nat) (x1 : Int) (x2 : Int) (x3 : Int) (i : Nat) (u : Nat → Wt) : List (Nat × Value) := foldPut ⟨70, []⟩ [(0, pt gb0 0), (3, .int .u64 x2), (4, i6 x3)] (O71s0_15.take i) (((u71d1s gb0 b0 Ab0_0 cb0_0 x1) u).take i)
theorem u71d1v (gb0 : Nat) (b0 : S124) (Ab0_0 : Option Addr) (cb0_0 : Nat) (x1 : Int) (x2 : Int) (x3 : Int) (u : Nat → Wt) : (u71d1q gb0 b0 Ab0_0 cb0_0 x1 x2 x3 u).map (fun x => (x.1, x.2.1)) = some ((u71d1s gb0 b0 Ab0_0 cb0_0 x1) u, (u71d1f gb0 b0 Ab0_0 cb0_0 x1 x2 x3 9) u) := by kernel_rfl
theorem u71d1e (gb0 : Nat) (b0 : S124) (Ab0_0 : Option Addr) (cb0_0 : Nat) (x1 : Int) (x2 : Int) (x3 : Int) (u : Nat → Wt) : (u71d1q gb0 b0 Ab0_0 cb0_0 x1 x2 x3 u).map (fun x => x.2.2.map (·.1)) = (u71d1q gb0 b0 Ab0_0 cb0_0 x1 x2 x3 u).map (fun x => x.2.2.map (·.2)) := by kernel_rfl
noncomputable def a71s0_22n : List Nat := [0, 1, 3, 7, 0, 16, 48, 112, 255, 511, 1023]
theorem a71s0_22 : ancs O71s0_22 [] = a71s0_22n := by kernel_rfl
theorem a71s0_22o : drawOk O71s0_22 a71s0_22n 8 = true := by kernel_rfl
noncomputable def u71d2l  : List Ld :=
 []
noncomputable def u71d2g  : List (Nat × ((Nat → Wt) → Value)) := []
noncomputable def u71d2q (gb0 : Nat) (b0 : S124) (Ab0_0 : Option Addr) (cb0_0 : Nat) (x1 : Int) (x2 : Int) (x3 : Int) (u : Nat → Wt) : Option (List Value × List (Nat × Value) × List (Nat × Nat)) := qSim Tryd.prog [] [⟨gb0, [.slice Ab0_0 b0.f0.length cb0_0, i6 x1], 124⟩] O71s0_22 ⟨70, []⟩ (Ld.vl u71d2l) u71d2g u [.no, .no, .no, .l 0, .no, .no, .no, .l 0] 0 (O71s0_22.take 8) [(0, pt gb0 0), (3, .int .u64 x2), (4, i6 x3)]
noncomputable def u71d2s (gb0 : Nat) (b0 : S124) (Ab0_0 : Option Addr) (cb0_0 : Nat) (x1 : Int) (u : Nat → Wt) : List Value := [pt gb0 0, pt gb0 0, pt gb0 0, .slice Ab0_0 b0.f0.length cb0_0, pt gb0 0, pt gb0 0, pt gb0 1, i6 x1]
noncomputable def u71d2f (gb0 : Nat) (b0 : S124) (Ab0_0 : Option Addr) (cb0_0 : Nat) (x1 : Int) (x2 : Int) (x3 : Int) (i : Nat) (u : Nat → Wt) : List (Nat × Value) := foldPut ⟨70, []⟩ [(0, pt gb0 0), (3, .int .u64 x2), (4, i6 x3)] (O71s0_22.take i) (((u71d2s gb0 b0 Ab0_0 cb0_0 x1) u).take i)
theorem u71d2v (gb0 : Nat) (b0 : S124) (Ab0_0 : Option Addr) (cb0_0 : Nat) (x1 : Int) (x2 : Int) (x3 : Int) (u : Nat → Wt) : (u71d2q gb0 b0 Ab0_0 cb0_0 x1 x2 x3 u).map (fun x => (x.1, x.2.1)) = some ((u71d2s gb0 b0 Ab0_0 cb0_0 x1) u, (u71d2f gb0 b0 Ab0_0 cb0_0 x1 x2 x3 8) u) := by kernel_rfl
theorem u71d2e (gb0 : Nat) (b0 : S124) (Ab0_0 : Option Addr) (cb0_0 : Nat) (x1 : Int) (x2 : Int) (x3 : Int) (u : Nat → Wt) : (u71d2q gb0 b0 Ab0_0 cb0_0 x1 x2 x3 u).map (fun x => x.2.2.map (·.1)) = (u71d2q gb0 b0 Ab0_0 cb0_0 x1 x2 x3 u).map (fun x => x.2.2.map (·.2)) := by kernel_rfl
theorem codec_decoder_varints0.callsX (k : Nat) (I0 : Imm) (gb0 : Nat) (b0 : S124) (Ab0_0 : Option Addr) (cb0_0 : Nat) (w : World) (hs : Sat ⟨w, SM [⟨gb0, [.slice Ab0_0 b0.f0.length cb0_0, i6 b0.f1], 124⟩] [], I0⟩ I0 w.heap.size [⟨gb0, [.slice Ab0_0 b0.f0.length cb0_0, i6 b0.f1], 124⟩] [] w) (hlb0_0 : b0.f0.length ≤ cb0_0) (hrb0_0 : Rd (Ty.int .u8) I0 Ab0_0 b0.f0) (r : Int ⊕ (Int × S124)) (h : codec_decoder_varints0.f k b0 = some r) :
  Calls Tryd.prog 71 [pt gb0 0].toArray w fun e w' => pan r (fun x => e = .panicked (pch 121 x) ∧ Evo (SM [⟨gb0, [.slice Ab0_0 b0.f0.length cb0_0, i6 b0.f1], 124⟩] []) w w' ∧ I0.at_ w') (fun r => ∃ v, e = .returned v ∧ codec_decoder_varints0.Post (SM [⟨gb0, [.slice Ab0_0 b0.f0.length cb0_0, i6 b0.f1], 124⟩] []) gb0 b0 Ab0_0 cb0_0 I0 w r v w') := by
 have H : (codec_decoder_varints0.l1 b0 k b0.f1 0 0) = some r := h
 clear h
 refine calls_bodyL Tryd.func71 (by kernel_rfl) 70 (by kernel_rfl) (by kernel_rfl) ⟨w, SM [⟨gb0, [.slice Ab0_0 b0.f0.length cb0_0, i6 b0.f1], 124⟩] [], I0⟩ I0 [⟨gb0, [.slice Ab0_0 b0.f0.length cb0_0, i6 b0.f1], 124⟩] [] [(0, pt gb0 0)] (by kernel_rfl) hs ?_
 generalize w.heap.size = nx0
 show OK _ K71s0_0 _ _ _ _ _ _ _ _
 refine OK.sr ?_
 refine RL.st 1 [(0, pt gb0 0)] ?_
 refine OK.sr ?_
 refine RL.st 1 [(3, .int .u64 0), (0, pt gb0 0)] ?_
 refine OK.sr ?_
 refine RL.st 1 [(4, i6 0), (3, .int .u64 0), (0, pt gb0 0)] ?_
 refine OK.bk 0 ?_
 refine OK.sub (K' := [(0, pt gb0 0), (3, .int .u64 0), (4, i6 0)]) (L' := [⟨gb0, [.slice Ab0_0 b0.f0.length cb0_0, i6 b0.f1], 124⟩]) (by kernel_rfl) (.cons_cons _ .slnil) (.refl _) ?_
 refine OK.lp (fun n_ K' I' _ L' X' => ∃ (x1 : Int) (x2 : Int) (x3 : Int), K' = [(0, pt gb0 0), (3, .int .u64 x2), (4, i6 x3)] ∧ L' = [⟨gb0, [.slice Ab0_0 b0.f0.length cb0_0, i6 x1], 124⟩] ∧ X' = [] ∧ Imm.le I0 I' ∧ codec_decoder_varints0.l1 b0 n_ x1 x2 x3 = some r) k ⟨b0.f1, 0, 0, rfl, rfl, rfl, (Imm.le_refl _), H⟩ ?_ ?_
 ·rintro _ _ _ _ _ ⟨x1, x2, x3, rfl, rfl, rfl, _, H⟩
  cases H
 ·rintro kq1 _ I1 nx1 _ _ ⟨x1, x2, x3, rfl, rfl, rfl, hi1, H⟩ Q_l1 hJ1 hQ1
  rw [codec_decoder_varints0.l1] at H
  refine OK.sq ?_
  refine OK.bk 1 ?_
  refine OK.sq ?_
  refine OK.sq ?_
  refine OK.drawnC 4 9 O71s0_15 a71s0_15n (by kernel_rfl) (by kernel_rfl) u71d1l u71d1g [] (RI.nil _) [.no, .no, .no, .l 0, .no, .no, .no, .l 0, .no] a71s0_15 a71s0_15o (by kernel_rfl) (by kernel_rfl) (u71d1s gb0 b0 Ab0_0 cb0_0 x1) (u71d1f gb0 b0 Ab0_0 cb0_0 x1 x2 x3 9) (u71d1v gb0 b0 Ab0_0 cb0_0 x1 x2 x3) (u71d1e gb0 b0 Ab0_0 cb0_0 x1 x2 x3) [] framesOk.nil ?_ [] framesOk.nil ?_ ?_
  ·refine LoudsG.nil
  ·refine Givens.nil
  intro u I2 nx2 hi2 hF
  clear hF
  refine RL.norm (K' := [(16, i6 (b0.f0.length : Int)), (15, .slice Ab0_0 b0.f0.length cb0_0), (14, pt gb0 0), (13, pt gb0 0), (12, pt gb0 0), (11, i6 x1), (10, pt gb0 1), (9, pt gb0 0), (8, pt gb0 0), (0, pt gb0 0), (3, .int .u64 x2), (4, i6 x3)]) (X' := []) (by kernel_rfl) rfl rfl rfl ?_
  refine RL.st 1 [(17, .bool (x1 == (b0.f0.length : Int))), (0, pt gb0 0), (3, .int .u64 x2), (4, i6 x3)] ?_
  refine OK.join (fun K' I' _ L' X' => K' = [(0, pt gb0 0), (3, .int .u64 x2), (4, i6 x3)] ∧ L' = [⟨gb0, [.slice Ab0_0 b0.f0.length cb0_0, i6 x1], 124⟩] ∧ X' = [] ∧ Imm.le I2 I' ∧ (if 0 ≤ x1 then (if x1 < (b0.f0.length : Int) then ((if x3 = 63 then (if (b0.f0.getD (x1).toNat 0) ≠ 1 then (some true) else (if x3 > 0 then (some ((b0.f0.getD (x1).toNat 0) == 0)) else (some false))) else (if x3 > 0 then (some ((b0.f0.getD (x1).toNat 0) == 0)) else (some false))).bind (fun x4 => ((if x4 = true then (pb (codec_decoder_fails0.f 272 (⟨b0.f0, x1⟩ : S124)) (fun e1 => (some (Sum.inr (Sum.inl e1)))) fun t1 => (some (Sum.inl ()))) else (some (Sum.inl ()))).bind (fun s_ => match s_ with | .inl _ => (if 0 ≤ x3 then (if (b0.f0.getD (x1).toNat 0) < 128 then (some (Sum.inr (bXor .i64 (W .i64 (Int.fdiv (bOr .u64 x2 (W .u64 ((W .u64 (bClr .u8 (b0.f0.getD (x1).toNat 0) 128)) * 2 ^ (min (x3).toNat 64)))) 2)) (W .i64 (0 - (W .i64 (bAnd .u64 (bOr .u64 x2 (W .u64 ((W .u64 (bClr .u8 (b0.f0.getD (x1).toNat 0) 128)) * 2 ^ (min (x3).toNat 64)))) 1)))), (⟨b0.f0, W .i64 (x1 + 1)⟩ : S124)))) else (codec_decoder_varints0.l1 b0 kq1 (W .i64 (x1 + 1)) (bOr .u64 x2 (W .u64 ((W .u64 (bClr .u8 (b0.f0.getD (x1).toNat 0) 128)) * 2 ^ (min (x3).toNat 64)))) (W .i64 (x3 + 7)))) else none) | .inr r_ => some r_)))) else none) else none) = some r) ?_ ?_
  ·rintro _ I3 nx3 _ _ ⟨rfl, rfl, rfl, hi3, H⟩
   replace H : (if 0 ≤ x1 then (if x1 < (b0.f0.length : Int) then ((if x3 = 63 then (if (b0.f0.getD (x1).toNat 0) ≠ 1 then (some true) else (if x3 > 0 then (some ((b0.f0.getD (x1).toNat 0) == 0)) else (some false))) else (if x3 > 0 then (some ((b0.f0.getD (x1).toNat 0) == 0)) else (some false))).bind (fun x4 => ((if x4 = true then (pb (codec_decoder_fails0.f 272 (⟨b0.f0, x1⟩ : S124)) (fun e1 => (some (Sum.inr (Sum.inl e1)))) fun t1 => (some (Sum.inl ()))) else (some (Sum.inl ()))).bind (fun s_ => match s_ with | .inl _ => (if 0 ≤ x3 then (if (b0.f0.getD (x1).toNat 0) < 128 then (some (Sum.inr (bXor .i64 (W .i64 (Int.fdiv (bOr .u64 x2 (W .u64 ((W .u64 (bClr .u8 (b0.f0.getD (x1).toNat 0) 128)) * 2 ^ (min (x3).toNat 64)))) 2)) (W .i64 (0 - (W .i64 (bAnd .u64 (bOr .u64 x2 (W .u64 ((W .u64 (bClr .u8 (b0.f0.getD (x1).toNat 0) 128)) * 2 ^ (min (x3).toNat 64)))) 1)))), (⟨b0.f0, W .i64 (x1 + 1)⟩ : S124)))) else (codec_decoder_varints0.l1 b0 kq1 (W .i64 (x1 + 1)) (bOr .u64 x2 (W .u64 ((W .u64 (bClr .u8 (b0.f0.getD (x1).toNat 0) 128)) * 2 ^ (min (x3).toNat 64)))) (W .i64 (x3 + 7)))) else none) | .inr r_ => some r_)))) else none) else none) = some r := H
   refine QN.then_ ?_
   refine OK.sq ?_
   refine OK.drawnC 6 8 O71s0_22 a71s0_22n (by kernel_rfl) (by kernel_rfl) u71d2l u71d2g [] (RI.nil _) [.no, .no, .no, .l 0, .no, .no, .no, .l 0] a71s0_22 a71s0_22o (by kernel_rfl) (by kernel_rfl) (u71d2s gb0 b0 Ab0_0 cb0_0 x1) (u71d2f gb0 b0 Ab0_0 cb0_0 x1 x2 x3 8) (u71d2v gb0 b0 Ab0_0 cb0_0 x1 x2 x3) (u71d2e gb0 b0 Ab0_0 cb0_0 x1 x2 x3) [] framesOk.nil ?_ [] framesOk.nil ?_ ?_
   ·refine LoudsG.nil
   ·refine Givens.nil
   intro u I4 nx4 hi4 hF
   clear hF
   refine RL.norm (K' := [(27, i6 x1), (26, pt gb0 1), (25, pt gb0 0), (24, pt gb0 0), (23, .slice Ab0_0 b0.f0.length cb0_0), (22, pt gb0 0), (21, pt gb0 0), (20, pt gb0 0), (0, pt gb0 0), (3, .int .u64 x2), (4, i6 x3)]) (X' := []) (by kernel_rfl) rfl rfl rfl ?_
   obtain ⟨hib0, H⟩ := ifs H
   obtain ⟨hib1, H⟩ := ifs H
   obtain ⟨g1_, o1_, hA1_, hc1_⟩ := Ty.int_at (Rd.ext (Imm.le_trans (Imm.le_trans (Imm.le_trans hi1 hi2) hi3) hi4) hrb0_0) x1 hib0 hib1
   refine RL.idx 1 .i64 x1 hA1_ b0.f0.length cb0_0 (some 28) (by kernel_rfl) (by kernel_rfl) (T := 22) (e := 5) (by kernel_rfl) (by kernel_rfl) hib0 hib1 (K' := [(28, pt g1_ (o1_ + (x1).toNat * 1)), (27, i6 x1), (26, pt gb0 1), (25, pt gb0 0), (24, pt gb0 0), (23, .slice Ab0_0 b0.f0.length cb0_0), (22, pt gb0 0), (21, pt gb0 0), (20, pt gb0 0), (0, pt gb0 0), (3, .int .u64 x2), (4, i6 x3)]) (by kernel_rfl) ?_
   refine RL.simK (K' := [(5, .int .u8 (b0.f0.getD (x1).toNat 0)), (0, pt gb0 0), (3, .int .u64 x2), (4, i6 x3)]) [(⟨g1_, o1_ + (x1).toNat * 1, none⟩, .int .u8 (b0.f0.getD (x1).toNat 0))] (RFacts.imm (hc1_ 0 _ rfl) (RFacts.nil _ _ _)) 2 [.r 0, .no] (by kernel_rfl) (by kernel_rfl) ?_
   refine RL.nt ?_
   refine OK.sq ?_
   refine OK.sq ?_
   refine OK.join (fun K' I' _ L' X' => ∃ (x4 : Bool), K' = [(0, pt gb0 0), (3, .int .u64 x2), (4, i6 x3), (5, .int .u8 (b0.f0.getD (x1).toNat 0)), (43, .bool x4)] ∧ L' = [⟨gb0, [.slice Ab0_0 b0.f0.length cb0_0, i6 x1], 124⟩] ∧ X' = [] ∧ Imm.le I4 I' ∧ ((if x4 = true then (pb (codec_decoder_fails0.f 272 (⟨b0.f0, x1⟩ : S124)) (fun e1 => (some (Sum.inr (Sum.inl e1)))) fun t1 => (some (Sum.inl ()))) else (some (Sum.inl ()))).bind (fun s_ => match s_ with | .inl _ => (if 0 ≤ x3 then (if (b0.f0.getD (x1).toNat 0) < 128 then (some (Sum.inr (bXor .i64 (W .i64 (Int.fdiv (bOr .u64 x2 (W .u64 ((W .u64 (bClr .u8 (b0.f0.getD (x1).toNat 0) 128)) * 2 ^ (min (x3).toNat 64)))) 2)) (W .i64 (0 - (W .i64 (bAnd .u64 (bOr .u64 x2 (W .u64 ((W .u64 (bClr .u8 (b0.f0.getD (x1).toNat 0) 128)) * 2 ^ (min (x3).toNat 64)))) 1)))), (⟨b0.f0, W .i64 (x1 + 1)⟩ : S124)))) else (codec_decoder_varints0.l1 b0 kq1 (W .i64 (x1 + 1)) (bOr .u64 x2 (W .u64 ((W .u64 (bClr .u8 (b0.f0.getD (x1).toNat 0) 128)) * 2 ^ (min (x3).toNat 64)))) (W .i64 (x3 + 7)))) else none) | .inr r_ => some r_)) = some r) ?_ ?_
   ·rintro _ I5 nx5 _ _ ⟨x4, rfl, rfl, rfl, hi5, H⟩
    replace H : ((if x4 = true then (pb (codec_decoder_fails0.f 272 (⟨b0.f0, x1⟩ : S124)) (fun e1 => (some (Sum.inr (Sum.inl e1)))) fun t1 => (some (Sum.inl ()))) else (some (Sum.inl ()))).bind (fun s_ => match s_ with | .inl _ => (if 0 ≤ x3 then (if (b0.f0.getD (x1).toNat 0) < 128 then (some (Sum.inr (bXor .i64 (W .i64 (Int.fdiv (bOr .u64 x2 (W .u64 ((W .u64 (bClr .u8 (b0.f0.getD (x1).toNat 0) 128)) * 2 ^ (min (x3).toNat 64)))) 2)) (W .i64 (0 - (W .i64 (bAnd .u64 (bOr .u64 x2 (W .u64 ((W .u64 (bClr .u8 (b0.f0.getD (x1).toNat 0) 128)) * 2 ^ (min (x3).toNat 64)))) 1)))), (⟨b0.f0, W .i64 (x1 + 1)⟩ : S124)))) else (codec_decoder_varints0.l1 b0 kq1 (W .i64 (x1 + 1)) (bOr .u64 x2 (W .u64 ((W .u64 (bClr .u8 (b0.f0.getD (x1).toNat 0) 128)) * 2 ^ (min (x3).toNat 64)))) (W .i64 (x3 + 7)))) else none) | .inr r_ => some r_)) = some r := H
    refine QN.then_ ?_
    refine OK.join (fun K' I' _ L' X' => K' = [(0, pt gb0 0), (3, .int .u64 x2), (4, i6 x3), (5, .int .u8 (b0.f0.getD (x1).toNat 0))] ∧ L' = [⟨gb0, [.slice Ab0_0 b0.f0.length cb0_0, i6 x1], 124⟩] ∧ X' = [] ∧ Imm.le I5 I' ∧ (if 0 ≤ x3 then (if (b0.f0.getD (x1).toNat 0) < 128 then (some (Sum.inr (bXor .i64 (W .i64 (Int.fdiv (bOr .u64 x2 (W .u64 ((W .u64 (bClr .u8 (b0.f0.getD (x1).toNat 0) 128)) * 2 ^ (min (x3).toNat 64)))) 2)) (W .i64 (0 - (W .i64 (bAnd .u64 (bOr .u64 x2 (W .u64 ((W .u64 (bClr .u8 (b0.f0.getD (x1).toNat 0) 128)) * 2 ^ (min (x3).toNat 64)))) 1)))), (⟨b0.f0, W .i64 (x1 + 1)⟩ : S124)))) else (codec_decoder_varints0.l1 b0 kq1 (W .i64 (x1 + 1)) (bOr .u64 x2 (W .u64 ((W .u64 (bClr .u8 (b0.f0.getD (x1).toNat 0) 128)) * 2 ^ (min (x3).toNat 64)))) (W .i64 (x3 + 7)))) else none) = some r) ?_ ?_
    ·rintro _ I6 nx6 _ _ ⟨rfl, rfl, rfl, hi6, H⟩
     replace H : (if 0 ≤ x3 then (if (b0.f0.getD (x1).toNat 0) < 128 then (some (Sum.inr (bXor .i64 (W .i64 (Int.fdiv (bOr .u64 x2 (W .u64 ((W .u64 (bClr .u8 (b0.f0.getD (x1).toNat 0) 128)) * 2 ^ (min (x3).toNat 64)))) 2)) (W .i64 (0 - (W .i64 (bAnd .u64 (bOr .u64 x2 (W .u64 ((W .u64 (bClr .u8 (b0.f0.getD (x1).toNat 0) 128)) * 2 ^ (min (x3).toNat 64)))) 1)))), (⟨b0.f0, W .i64 (x1 + 1)⟩ : S124)))) else (codec_decoder_varints0.l1 b0 kq1 (W .i64 (x1 + 1)) (bOr .u64 x2 (W .u64 ((W .u64 (bClr .u8 (b0.f0.getD (x1).toNat 0) 128)) * 2 ^ (min (x3).toNat 64)))) (W .i64 (x3 + 7)))) else none) = some r := H
     refine QN.then_ ?_
     refine OK.sr ?_
     refine RL.simP (K' := [(0, pt gb0 0), (3, .int .u64 x2), (4, i6 x3), (5, .int .u8 (b0.f0.getD (x1).toNat 0))]) (nx' := nx6) (L' := [⟨gb0, [.slice Ab0_0 b0.f0.length cb0_0, i6 (W .i64 (x1 + 1))], 124⟩]) [] (RFacts.nil _ _ _) 8 [.no, .no, .no, .l 0, .no, .no, .no, .l 0] (by kernel_rfl) (by kernel_rfl) ?_
     refine RL.nt ?_
     refine OK.sr ?_
     refine RL.s 5 [(57, i6 x3), (56, .int .u64 (W .u64 (bClr .u8 (b0.f0.getD (x1).toNat 0) 128))), (53, .int .u64 x2), (0, pt gb0 0), (3, .int .u64 x2), (4, i6 x3), (5, .int .u8 (b0.f0.getD (x1).toNat 0))] ?_
     obtain ⟨hc, H⟩ := ifs H
     refine RL.shl .u64 .i64 (W .u64 (bClr .u8 (b0.f0.getD (x1).toNat 0) 128)) x3 (some 58) (by kernel_rfl) (by kernel_rfl) hc (K' := [(58, .int .u64 (W .u64 ((W .u64 (bClr .u8 (b0.f0.getD (x1).toNat 0) 128)) * 2 ^ (min (x3).toNat 64)))), (57, i6 x3), (56, .int .u64 (W .u64 (bClr .u8 (b0.f0.getD (x1).toNat 0) 128))), (53, .int .u64 x2), (0, pt gb0 0), (3, .int .u64 x2), (4, i6 x3), (5, .int .u8 (b0.f0.getD (x1).toNat 0))]) (by kernel_rfl) ?_
     refine RL.st 2 [(3, .int .u64 (bOr .u64 x2 (W .u64 ((W .u64 (bClr .u8 (b0.f0.getD (x1).toNat 0) 128)) * 2 ^ (min (x3).toNat 64))))), (0, pt gb0 0), (4, i6 x3), (5, .int .u8 (b0.f0.getD (x1).toNat 0))] ?_
     refine OK.sr ?_
     refine RL.st 2 [(61, .bool (decide ((b0.f0.getD (x1).toNat 0) < 128))), (3, .int .u64 (bOr .u64 x2 (W .u64 ((W .u64 (bClr .u8 (b0.f0.getD (x1).toNat 0) 128)) * 2 ^ (min (x3).toNat 64))))), (0, pt gb0 0), (4, i6 x3)] ?_
     refine OK.cd (decide ((b0.f0.getD (x1).toNat 0) < 128)) (fun hb => ?_) (fun hb => ?_)
     ·skip
      have hc := (of_decide_eq_true hb)
      rw [if_pos hc] at H
      clear hb
      refine OK.sr ?_
      refine RL.st 9 [(2, i6 (bXor .i64 (W .i64 (Int.fdiv (bOr .u64 x2 (W .u64 ((W .u64 (bClr .u8 (b0.f0.getD (x1).toNat 0) 128)) * 2 ^ (min (x3).toNat 64)))) 2)) (W .i64 (0 - (W .i64 (bAnd .u64 (bOr .u64 x2 (W .u64 ((W .u64 (bClr .u8 (b0.f0.getD (x1).toNat 0) 128)) * 2 ^ (min (x3).toNat 64)))) 1))))))] ?_
      refine OK.re ?_
      refine QN.blkR ?_
      refine QN.thenR ?_
      refine QN.outR hQ1 ?_
      refine QN.blkR ?_
      obtain rfl := Option.some.inj H
      refine QN.body rfl [] (RFacts.nil _ _ _) (.no) (i6 (bXor .i64 (W .i64 (Int.fdiv (bOr .u64 x2 (W .u64 ((W .u64 (bClr .u8 (b0.f0.getD (x1).toNat 0) 128)) * 2 ^ (min (x3).toNat 64)))) 2)) (W .i64 (0 - (W .i64 (bAnd .u64 (bOr .u64 x2 (W .u64 ((W .u64 (bClr .u8 (b0.f0.getD (x1).toNat 0) 128)) * 2 ^ (min (x3).toNat 64)))) 1)))))) (by kernel_rfl) (by kernel_rfl) (by kernel_rfl) ?_ _ (.inr rfl)
      exact fun w' hs' => ⟨_, rfl, I6, Ab0_0, cb0_0, rfl, ((hs'.fin.selB [0] (by kernel_rfl)).sel [] (by kernel_rfl)), hlb0_0, (Rd.ext (Imm.le_trans (Imm.le_trans (Imm.le_trans (Imm.le_trans (Imm.le_trans hi1 hi2) hi3) hi4) hi5) hi6) hrb0_0)⟩
     ·skip
      have hc := (of_decide_eq_false hb)
      rw [if_neg hc] at H
      clear hb
      refine OK.sk ?_
      refine QN.blkN ?_
      refine QN.then_ ?_
      refine OK.rg ?_
      refine RL.s 3 [(4, i6 (W .i64 (x3 + 7))), (3, .int .u64 (bOr .u64 x2 (W .u64 ((W .u64 (bClr .u8 (b0.f0.getD (x1).toNat 0) 128)) * 2 ^ (min (x3).toNat 64))))), (0, pt gb0 0)] ?_
      refine RL.nil (by kernel_rfl) ?_
      exact QN.sb (hJ1 _ _ _ _ _ ⟨W .i64 (x1 + 1), bOr .u64 x2 (W .u64 ((W .u64 (bClr .u8 (b0.f0.getD (x1).toNat 0) 128)) * 2 ^ (min (x3).toNat 64))), W .i64 (x3 + 7), rfl, rfl, rfl, (Imm.le_trans (Imm.le_trans (Imm.le_trans (Imm.le_trans (Imm.le_trans hi1 hi2) hi3) hi4) hi5) hi6), H⟩) (.cons_cons _ .slnil) (.refl _)
    ·intro Q_1 hJ4 hQ4
     obtain ⟨y3, H, HK3⟩ := bnd H
     refine OK.cd x4 (fun hb => ?_) (fun hb => ?_)
     ·skip
      have hc := hb
      rw [if_pos hc] at H
      clear hb
      refine OK.rg ?_
      refine RL.s 1 [(44, pt gb0 0), (0, pt gb0 0), (3, .int .u64 x2), (4, i6 x3), (5, .int .u8 (b0.f0.getD (x1).toNat 0))] ?_
      rcases pb_some H with ⟨e1, hA2, H⟩ | ⟨t1, hA1, H⟩
      ·refine RL.callE (L1 := [⟨gb0, [.slice Ab0_0 b0.f0.length cb0_0, i6 x1], 124⟩]) (L2 := []) (X1 := []) (X2 := []) rfl rfl 72 [pt gb0 0, i6 272] (some 45) (pch 121 e1) (by kernel_rfl) (by kernel_rfl) (fun w hs => codec_decoder_fails0.callsP I5 gb0 272 (⟨b0.f0, x1⟩ : S124) Ab0_0 cb0_0 w hs hlb0_0 (Rd.ext (Imm.le_trans (Imm.le_trans (Imm.le_trans (Imm.le_trans hi1 hi2) hi3) hi4) hi5) hrb0_0) e1 hA2) ?_
       refine QP.out hQ4 ?_
       refine QP.then_ ?_
       refine QP.blk ?_
       refine QP.then_ ?_
       refine QP.out hQ1 ?_
       refine QP.blk ?_
       obtain rfl := Option.some.inj H
       replace H : some (Sum.inl e1) = some r := HK3
       obtain rfl := Option.some.inj H
       exact QP.body rfl (fun w he hi => ⟨rfl, he, fun a v h => hi a v ((Imm.le_trans (Imm.le_trans (Imm.le_trans (Imm.le_trans hi1 hi2) hi3) hi4) hi5) a v h)⟩)
      refine RL.callM (L1 := [⟨gb0, [.slice Ab0_0 b0.f0.length cb0_0, i6 x1], 124⟩]) (L2 := []) (X1 := []) (X2 := []) rfl rfl 72 [pt gb0 0, i6 272] (some 45) (fun w => codec_decoder_fails0.Post (SM [⟨gb0, [.slice Ab0_0 b0.f0.length cb0_0, i6 x1], 124⟩] []) gb0 272 (⟨b0.f0, x1⟩ : S124) Ab0_0 cb0_0 I5 w t1) (by kernel_rfl) (by kernel_rfl) (fun w hs => codec_decoder_fails0.calls I5 gb0 272 (⟨b0.f0, x1⟩ : S124) Ab0_0 cb0_0 w hs hlb0_0 (Rd.ext (Imm.le_trans (Imm.le_trans (Imm.le_trans (Imm.le_trans hi1 hi2) hi3) hi4) hi5) hrb0_0) t1 hA1) ?_
      rintro w v w' hs ⟨I7, rfl, hg⟩
      have hi7 : Imm.le I5 I7 := hg.le
      refine RL.resume (L' := [⟨gb0, [.slice Ab0_0 b0.f0.length cb0_0, i6 x1], 124⟩]) (X' := []) rfl (hs.outof hg) ?_
      clear hs hg
      generalize w'.heap.size = nx7
      clear w w'
      refine RL.nil (by kernel_rfl) ?_
      refine QN.sub (K' := [(0, pt gb0 0), (3, .int .u64 x2), (4, i6 x3), (5, .int .u8 (b0.f0.getD (x1).toNat 0))]) (L' := [⟨gb0, [.slice Ab0_0 b0.f0.length cb0_0, i6 x1], 124⟩]) (by kernel_rfl) (.cons_cons _ .slnil) (.refl _) ?_
      obtain rfl := Option.some.inj H
      exact QN.sb (hJ4 _ _ _ _ _ ⟨rfl, rfl, rfl, hi7, HK3⟩) (.cons_cons _ .slnil) (.refl _)
     ·skip
      have hc := (Bool.eq_false_iff.1 hb)
      rw [if_neg hc] at H
      clear hb
      refine OK.sk ?_
      obtain rfl := Option.some.inj H
      exact QN.sb (hJ4 _ _ _ _ _ ⟨rfl, rfl, rfl, (Imm.le_refl _), HK3⟩) (.cons_cons _ .slnil) (.refl _)
   ·intro Q_2 hJ3 hQ3
    obtain ⟨y2, H, HK2⟩ := bnd H
    refine OK.rg ?_
    refine RL.s 3 [(32, .bool (x3 == 63)), (5, .int .u8 (b0.f0.getD (x1).toNat 0)), (0, pt gb0 0), (3, .int .u64 x2), (4, i6 x3)] ?_
    refine RL.cases (x3 == 63) (fun hb => ?_) (fun hb => ?_)
    ·have hc := (beq_iff_eq.1 hb)
     rw [hb]
     rw [if_pos hc] at H; clear hb
     refine RL.s 4 [(36, .bool ((b0.f0.getD (x1).toNat 0) != 1)), (5, .int .u8 (b0.f0.getD (x1).toNat 0)), (0, pt gb0 0), (3, .int .u64 x2), (4, i6 x3)] ?_
     refine RL.cases ((b0.f0.getD (x1).toNat 0) != 1) (fun hb => ?_) (fun hb => ?_)
     ·have hc := (bne_iff_ne.1 hb)
      rw [hb]
      rw [if_pos hc] at H; clear hb
      refine RL.s 7 [(43, .bool true), (5, .int .u8 (b0.f0.getD (x1).toNat 0)), (0, pt gb0 0), (3, .int .u64 x2), (4, i6 x3)] ?_
      refine RL.nil (by kernel_rfl) ?_
      obtain rfl := Option.some.inj H
      exact QN.sb (hJ3 _ _ _ _ _ ⟨true, rfl, rfl, rfl, (Imm.le_refl _), HK2⟩) (.cons_cons _ .slnil) (.refl _)
     ·have hc := (not_not_intro (bne_eq_false_iff_eq.1 hb))
      rw [hb]
      rw [if_neg hc] at H; clear hb
      refine RL.s 3 [(39, .bool (decide (x3 > 0))), (36, .bool false), (5, .int .u8 (b0.f0.getD (x1).toNat 0)), (0, pt gb0 0), (3, .int .u64 x2), (4, i6 x3)] ?_
      refine RL.cases (decide (x3 > 0)) (fun hb => ?_) (fun hb => ?_)
      ·have hc := (of_decide_eq_true hb)
       rw [hb]
       rw [if_pos hc] at H; clear hb
       refine RL.s 4 [(43, .bool ((b0.f0.getD (x1).toNat 0) == 0)), (5, .int .u8 (b0.f0.getD (x1).toNat 0)), (0, pt gb0 0), (3, .int .u64 x2), (4, i6 x3)] ?_
       refine RL.nil (by kernel_rfl) ?_
       obtain rfl := Option.some.inj H
       exact QN.sb (hJ3 _ _ _ _ _ ⟨((b0.f0.getD (x1).toNat 0) == 0), rfl, rfl, rfl, (Imm.le_refl _), HK2⟩) (.cons_cons _ .slnil) (.refl _)
      ·have hc := (of_decide_eq_false hb)
       rw [hb]
       rw [if_neg hc] at H; clear hb
       refine RL.s 4 [(43, .bool false), (5, .int .u8 (b0.f0.getD (x1).toNat 0)), (0, pt gb0 0), (3, .int .u64 x2), (4, i6 x3)] ?_
       refine RL.nil (by kernel_rfl) ?_
       obtain rfl := Option.some.inj H
       exact QN.sb (hJ3 _ _ _ _ _ ⟨false, rfl, rfl, rfl, (Imm.le_refl _), HK2⟩) (.cons_cons _ .slnil) (.refl _)
    ·have hc := (beq_eq_false_iff_ne.1 hb)
     rw [hb]
     rw [if_neg hc] at H; clear hb
     refine RL.s 7 [(39, .bool (decide (x3 > 0))), (36, .bool false), (5, .int .u8 (b0.f0.getD (x1).toNat 0)), (0, pt gb0 0), (3, .int .u64 x2), (4, i6 x3)] ?_
     refine RL.cases (decide (x3 > 0)) (fun hb => ?_) (fun hb => ?_)
     ·have hc := (of_decide_eq_true hb)
      rw [hb]
      rw [if_pos hc] at H; clear hb
      refine RL.s 4 [(43, .bool ((b0.f0.getD (x1).toNat 0) == 0)), (5, .int .u8 (b0.f0.getD (x1).toNat 0)), (0, pt gb0 0), (3, .int .u64 x2), (4, i6 x3)] ?_
      refine RL.nil (by kernel_rfl) ?_
      obtain rfl := Option.some.inj H
      exact QN.sb (hJ3 _ _ _ _ _ ⟨((b0.f0.getD (x1).toNat 0) == 0), rfl, rfl, rfl, (Imm.le_refl _), HK2⟩) (.cons_cons _ .slnil) (.refl _)
     ·have hc := (of_decide_eq_false hb)
      rw [hb]
      rw [if_neg hc] at H; clear hb
      refine RL.s 4 [(43, .bool false), (5, .int .u8 (b0.f0.getD (x1).toNat 0)), (0, pt gb0 0), (3, .int .u64 x2), (4, i6 x3)] ?_
      refine RL.nil (by kernel_rfl) ?_
      obtain rfl := Option.some.inj H
      exact QN.sb (hJ3 _ _ _ _ _ ⟨false, rfl, rfl, rfl, (Imm.le_refl _), HK2⟩) (.cons_cons _ .slnil) (.refl _)
  ·intro Q_3 hJ2 hQ2
   obtain ⟨y1, H, HK1⟩ := bnd H
   refine OK.cd (x1 == (b0.f0.length : Int)) (fun hb => ?_) (fun hb => ?_)
   ·skip
    have hc := (beq_iff_eq.1 hb)
    rw [if_pos hc] at H
    clear hb
    refine OK.rg ?_
    refine RL.s 1 [(18, pt gb0 0), (0, pt gb0 0), (3, .int .u64 x2), (4, i6 x3)] ?_
    rcases pb_some H with ⟨e2, hA4, H⟩ | ⟨t2, hA3, H⟩
    ·refine RL.callE (L1 := [⟨gb0, [.slice Ab0_0 b0.f0.length cb0_0, i6 x1], 124⟩]) (L2 := []) (X1 := []) (X2 := []) rfl rfl 72 [pt gb0 0, i6 271] (some 19) (pch 121 e2) (by kernel_rfl) (by kernel_rfl) (fun w hs => codec_decoder_fails0.callsP I2 gb0 271 (⟨b0.f0, x1⟩ : S124) Ab0_0 cb0_0 w hs hlb0_0 (Rd.ext (Imm.le_trans hi1 hi2) hrb0_0) e2 hA4) ?_
     refine QP.out hQ2 ?_
     refine QP.then_ ?_
     refine QP.blk ?_
     refine QP.then_ ?_
     refine QP.out hQ1 ?_
     refine QP.blk ?_
     obtain rfl := Option.some.inj H
     replace H : some (Sum.inl e2) = some r := HK1
     obtain rfl := Option.some.inj H
     exact QP.body rfl (fun w he hi => ⟨rfl, he, fun a v h => hi a v ((Imm.le_trans hi1 hi2) a v h)⟩)
    refine RL.callM (L1 := [⟨gb0, [.slice Ab0_0 b0.f0.length cb0_0, i6 x1], 124⟩]) (L2 := []) (X1 := []) (X2 := []) rfl rfl 72 [pt gb0 0, i6 271] (some 19) (fun w => codec_decoder_fails0.Post (SM [⟨gb0, [.slice Ab0_0 b0.f0.length cb0_0, i6 x1], 124⟩] []) gb0 271 (⟨b0.f0, x1⟩ : S124) Ab0_0 cb0_0 I2 w t2) (by kernel_rfl) (by kernel_rfl) (fun w hs => codec_decoder_fails0.calls I2 gb0 271 (⟨b0.f0, x1⟩ : S124) Ab0_0 cb0_0 w hs hlb0_0 (Rd.ext (Imm.le_trans hi1 hi2) hrb0_0) t2 hA3) ?_
    rintro w v w' hs ⟨I8, rfl, hg⟩
    have hi8 : Imm.le I2 I8 := hg.le
    refine RL.resume (L' := [⟨gb0, [.slice Ab0_0 b0.f0.length cb0_0, i6 x1], 124⟩]) (X' := []) rfl (hs.outof hg) ?_
    clear hs hg
    generalize w'.heap.size = nx8
    clear w w'
    refine RL.nil (by kernel_rfl) ?_
    refine QN.sub (K' := [(0, pt gb0 0), (3, .int .u64 x2), (4, i6 x3)]) (L' := [⟨gb0, [.slice Ab0_0 b0.f0.length cb0_0, i6 x1], 124⟩]) (by kernel_rfl) (.cons_cons _ .slnil) (.refl _) ?_
    obtain rfl := Option.some.inj H
    exact QN.sb (hJ2 _ _ _ _ _ ⟨rfl, rfl, rfl, hi8, HK1⟩) (.cons_cons _ .slnil) (.refl _)
   ·skip
    have hc := (beq_eq_false_iff_ne.1 hb)
    rw [if_neg hc] at H
    clear hb
    refine OK.sk ?_
    obtain rfl := Option.some.inj H
    exact QN.sb (hJ2 _ _ _ _ _ ⟨rfl, rfl, rfl, (Imm.le_refl _), HK1⟩) (.cons_cons _ .slnil) (.refl _)
theorem codec_decoder_varints0.calls (k : Nat) (I0 : Imm) (gb0 : Nat) (b0 : S124) (Ab0_0 : Option Addr) (cb0_0 : Nat) (w : World) (hs : Sat ⟨w, SM [⟨gb0, [.slice Ab0_0 b0.f0.length cb0_0, i6 b0.f1], 124⟩] [], I0⟩ I0 w.heap.size [⟨gb0, [.slice Ab0_0 b0.f0.length cb0_0, i6 b0.f1], 124⟩] [] w) (hlb0_0 : b0.f0.length ≤ cb0_0) (hrb0_0 : Rd (Ty.int .u8) I0 Ab0_0 b0.f0) (r : Int × S124) (h : codec_decoder_varints0.f k b0 = some (.inr r)) :
  Calls Tryd.prog 71 [pt gb0 0].toArray w fun e w' => ∃ v, e = .returned v ∧ codec_decoder_varints0.Post (SM [⟨gb0, [.slice Ab0_0 b0.f0.length cb0_0, i6 b0.f1], 124⟩] []) gb0 b0 Ab0_0 cb0_0 I0 w r v w' :=
 codec_decoder_varints0.callsX k I0 gb0 b0 Ab0_0 cb0_0 w hs hlb0_0 hrb0_0 (.inr r) h
theorem codec_decoder_varints0.callsP (k : Nat) (I0 : Imm) (gb0 : Nat) (b0 : S124) (Ab0_0 : Option Addr) (cb0_0 : Nat) (w : World) (hs : Sat ⟨w, SM [⟨gb0, [.slice Ab0_0 b0.f0.length cb0_0, i6 b0.f1], 124⟩] [], I0⟩ I0 w.heap.size [⟨gb0, [.slice Ab0_0 b0.f0.length cb0_0, i6 b0.f1], 124⟩] [] w) (hlb0_0 : b0.f0.length ≤ cb0_0) (hrb0_0 : Rd (Ty.int .u8) I0 Ab0_0 b0.f0) (x : Int) (h : codec_decoder_varints0.f k b0 = some (.inl x)) :
  Calls Tryd.prog 71 [pt gb0 0].toArray w fun e w' => e = .panicked (pch 121 x) ∧ Evo (SM [⟨gb0, [.slice Ab0_0 b0.f0.length cb0_0, i6 b0.f1], 124⟩] []) w w' ∧ I0.at_ w' :=
 codec_decoder_varints0.callsX k I0 gb0 b0 Ab0_0 cb0_0 w hs hlb0_0 hrb0_0 (.inl x) h

end Go.Proofs.YtiomeaoeegikkaaDoor
namespace Go.Proofs.YtiomeaoeegikkaaDoor
open Go Go.Proofs.YtiomeaoeegikkaaDoor.RW
set_option linter.unusedVariables false
set_option maxRecDepth 100000
set_option maxHeartbeats 8000000

/-! ### codec_decoder_numbers0: function 68, (*armillary/codec.decoder).number -/
noncomputable def K68s0_0 : Code := cBody Tryd.f68
def codec_decoder_numbers0.k1 (t1 : Int × S124) : (Unit) ⊕ (Int ⊕ (Int × S124)) → Option (Int ⊕ (Int × S124))
 | .inl () => (some (Sum.inr (t1.1, t1.2)))
 | .inr r_ => some r_
def codec_decoder_numbers0.k2 (t1 : Int × S124) (x1 : Bool) : Option (Int ⊕ (Int × S124)) := ((if x1 = true then (pb (codec_decoder_fails0.f 272 t1.2) (fun e2 => (some (Sum.inr (Sum.inl e2)))) fun t2 => (some (Sum.inl ()))) else (some (Sum.inl ()))).bind (codec_decoder_numbers0.k1 t1))
def codec_decoder_numbers0.f (k : Nat) (a1 : Int) (a2 : Int) (b0 : S124) : Option (Int ⊕ (Int × S124)) := (pb (codec_decoder_varints0.f k b0) (fun e1 => (some (Sum.inl e1))) fun t1 => ((if t1.1 < a1 then (some true) else (some (decide (t1.1 > a2)))).bind (codec_decoder_numbers0.k2 t1)))
def codec_decoder_numbers0.Post (S : Nat → Prop) (gb0 : Nat) (a1 : Int) (a2 : Int) (b0 : S124) (Ab0_0 : Option Addr) (cb0_0 : Nat) (I : Imm) (w : World) (r : Int × S124) (v : Value) (w' : World) : Prop :=
 ∃ (J : Imm) (Ar1_0 : Option Addr) (cr1_0 : Nat), v = .int .i64 r.1 ∧ Sat ⟨w, S, I⟩ J w'.heap.size [⟨gb0, [.slice Ar1_0 r.2.f0.length cr1_0, .int .i64 r.2.f1], 124⟩] [] w' ∧ r.2.f0.length ≤ cr1_0 ∧ Rd (Ty.int .u8) J Ar1_0 r.2.f0
theorem codec_decoder_numbers0.callsX (k : Nat) (I0 : Imm) (gb0 : Nat) (a1 : Int) (a2 : Int) (b0 : S124) (Ab0_0 : Option Addr) (cb0_0 : Nat) (w : World) (hs : Sat ⟨w, SM [⟨gb0, [.slice Ab0_0 b0.f0.length cb0_0, i6 b0.f1], 124⟩] [], I0⟩ I0 w.heap.size [⟨gb0, [.slice Ab0_0 b0.f0.length cb0_0, i6 b0.f1], 124⟩] [] w) (hlb0_0 : b0.f0.length ≤ cb0_0) (hrb0_0 : Rd (Ty.int .u8) I0 Ab0_0 b0.f0) (r : Int ⊕ (Int × S124)) (h : codec_decoder_numbers0.f k a1 a2 b0 = some r) :
  Calls Tryd.prog 68 [pt gb0 0, i6 a1, i6 a2].toArray w fun e w' => pan r (fun x => e = .panicked (pch 121 x) ∧ Evo (SM [⟨gb0, [.slice Ab0_0 b0.f0.length cb0_0, i6 b0.f1], 124⟩] []) w w' ∧ I0.at_ w') (fun r => ∃ v, e = .returned v ∧ codec_decoder_numbers0.Post (SM [⟨gb0, [.slice Ab0_0 b0.f0.length cb0_0, i6 b0.f1], 124⟩] []) gb0 a1 a2 b0 Ab0_0 cb0_0 I0 w r v w') := by
 have H : (pb (codec_decoder_varints0.f k b0) (fun e1 => (some (Sum.inl e1))) fun t1 => ((if t1.1 < a1 then (some true) else (some (decide (t1.1 > a2)))).bind (codec_decoder_numbers0.k2 t1))) = some r := h
 clear h
 refine calls_bodyL Tryd.func68 (by kernel_rfl) 21 (by kernel_rfl) (by kernel_rfl) ⟨w, SM [⟨gb0, [.slice Ab0_0 b0.f0.length cb0_0, i6 b0.f1], 124⟩] [], I0⟩ I0 [⟨gb0, [.slice Ab0_0 b0.f0.length cb0_0, i6 b0.f1], 124⟩] [] [(0, pt gb0 0), (1, i6 a1), (2, i6 a2)] (by kernel_rfl) hs ?_
 generalize w.heap.size = nx0
 show OK _ K68s0_0 _ _ _ _ _ _ _ _
 refine OK.sr ?_
 refine RL.st 1 [(0, pt gb0 0), (1, i6 a1), (2, i6 a2)] ?_
 refine OK.sr ?_
 refine RL.s 1 [(8, pt gb0 0), (0, pt gb0 0), (1, i6 a1), (2, i6 a2)] ?_
 rcases pb_some H with ⟨e1, hA2, H⟩ | ⟨t1, hA1, H⟩
 ·refine RL.callE (L1 := [⟨gb0, [.slice Ab0_0 b0.f0.length cb0_0, i6 b0.f1], 124⟩]) (L2 := []) (X1 := []) (X2 := []) rfl rfl 71 [pt gb0 0] (some 9) (pch 121 e1) (by kernel_rfl) (by kernel_rfl) (fun w hs => codec_decoder_varints0.callsP k I0 gb0 b0 Ab0_0 cb0_0 w hs hlb0_0 hrb0_0 e1 hA2) ?_
  refine QP.then_ ?_
  obtain rfl := Option.some.inj H
  exact QP.body rfl (fun w he hi => ⟨rfl, he, fun a v h => hi a v ((Imm.le_refl _) a v h)⟩)
 refine RL.callM (L1 := [⟨gb0, [.slice Ab0_0 b0.f0.length cb0_0, i6 b0.f1], 124⟩]) (L2 := []) (X1 := []) (X2 := []) rfl rfl 71 [pt gb0 0] (some 9) (fun w => codec_decoder_varints0.Post (SM [⟨gb0, [.slice Ab0_0 b0.f0.length cb0_0, i6 b0.f1], 124⟩] []) gb0 b0 Ab0_0 cb0_0 I0 w t1) (by kernel_rfl) (by kernel_rfl) (fun w hs => codec_decoder_varints0.calls k I0 gb0 b0 Ab0_0 cb0_0 w hs hlb0_0 hrb0_0 t1 hA1) ?_
 rintro w v w' hs ⟨I1, A1, c1, rfl, hg, hl1, hr1⟩
 have hi1 : Imm.le I0 I1 := hg.le
 refine RL.resume (L' := [⟨gb0, [.slice A1 t1.2.f0.length c1, i6 t1.2.f1], 124⟩]) (X' := []) rfl (hs.outof hg) ?_
 clear hs hg
 generalize w'.heap.size = nx1
 clear w w'
 refine RL.st 1 [(7, i6 t1.1), (0, pt gb0 0), (1, i6 a1), (2, i6 a2)] ?_
 refine OK.sq ?_
 refine OK.sq ?_
 refine OK.join (fun K' I' _ L' X' => ∃ (x1 : Bool), K' = [(0, pt gb0 0), (7, i6 t1.1), (17, .bool x1)] ∧ L' = [⟨gb0, [.slice A1 t1.2.f0.length c1, i6 t1.2.f1], 124⟩] ∧ X' = [] ∧ Imm.le I1 I' ∧ codec_decoder_numbers0.k2 t1 x1 = some r) ?_ ?_
 ·rintro _ I2 nx2 _ _ ⟨x1, rfl, rfl, rfl, hi2, H⟩
  rw [codec_decoder_numbers0.k2] at H
  refine QN.then_ ?_
  refine OK.join (fun K' I' _ L' X' => K' = [(7, i6 t1.1)] ∧ L' = [⟨gb0, [.slice A1 t1.2.f0.length c1, i6 t1.2.f1], 124⟩] ∧ X' = [] ∧ Imm.le I2 I' ∧ codec_decoder_numbers0.k1 t1 (Sum.inl ()) = some r) ?_ ?_
  ·rintro _ I3 nx3 _ _ ⟨rfl, rfl, rfl, hi3, H⟩
   rw [codec_decoder_numbers0.k1] at H
   refine QN.then_ ?_
   refine OK.sr ?_
   refine RL.st 2 [(6, i6 t1.1)] ?_
   refine OK.re ?_
   obtain rfl := Option.some.inj H
   refine QN.body rfl [] (RFacts.nil _ _ _) (.no) (i6 t1.1) (by kernel_rfl) (by kernel_rfl) (by kernel_rfl) ?_ _ (.inr rfl)
   exact fun w' hs' => ⟨_, rfl, I3, A1, c1, rfl, ((hs'.fin.selB [0] (by kernel_rfl)).sel [] (by kernel_rfl)), hl1, (Rd.ext (Imm.le_trans hi2 hi3) hr1)⟩
  ·intro Q_1 hJ2 hQ2
   obtain ⟨y2, H, HK2⟩ := bnd H
   refine OK.cd x1 (fun hb => ?_) (fun hb => ?_)
   ·skip
    have hc := hb
    rw [if_pos hc] at H
    clear hb
    refine OK.rg ?_
    refine RL.s 1 [(18, pt gb0 0), (7, i6 t1.1)] ?_
    rcases pb_some H with ⟨e2, hA4, H⟩ | ⟨t2, hA3, H⟩
    ·refine RL.callE (L1 := [⟨gb0, [.slice A1 t1.2.f0.length c1, i6 t1.2.f1], 124⟩]) (L2 := []) (X1 := []) (X2 := []) rfl rfl 72 [pt gb0 0, i6 272] (some 19) (pch 121 e2) (by kernel_rfl) (by kernel_rfl) (fun w hs => codec_decoder_fails0.callsP I2 gb0 272 t1.2 A1 c1 w hs hl1 (Rd.ext hi2 hr1) e2 hA4) ?_
     refine QP.out hQ2 ?_
     refine QP.then_ ?_
     obtain rfl := Option.some.inj H
     replace H : some (Sum.inl e2) = some r := HK2
     obtain rfl := Option.some.inj H
     exact QP.body rfl (fun w he hi => ⟨rfl, he, fun a v h => hi a v ((Imm.le_trans hi1 hi2) a v h)⟩)
    refine RL.callM (L1 := [⟨gb0, [.slice A1 t1.2.f0.length c1, i6 t1.2.f1], 124⟩]) (L2 := []) (X1 := []) (X2 := []) rfl rfl 72 [pt gb0 0, i6 272] (some 19) (fun w => codec_decoder_fails0.Post (SM [⟨gb0, [.slice A1 t1.2.f0.length c1, i6 t1.2.f1], 124⟩] []) gb0 272 t1.2 A1 c1 I2 w t2) (by kernel_rfl) (by kernel_rfl) (fun w hs => codec_decoder_fails0.calls I2 gb0 272 t1.2 A1 c1 w hs hl1 (Rd.ext hi2 hr1) t2 hA3) ?_
    rintro w v w' hs ⟨I4, rfl, hg⟩
    have hi4 : Imm.le I2 I4 := hg.le
    refine RL.resume (L' := [⟨gb0, [.slice A1 t1.2.f0.length c1, i6 t1.2.f1], 124⟩]) (X' := []) rfl (hs.outof hg) ?_
    clear hs hg
    generalize w'.heap.size = nx4
    clear w w'
    refine RL.nil (by kernel_rfl) ?_
    refine QN.sub (K' := [(7, i6 t1.1)]) (L' := [⟨gb0, [.slice A1 t1.2.f0.length c1, i6 t1.2.f1], 124⟩]) (by kernel_rfl) (.cons_cons _ .slnil) (.refl _) ?_
    obtain rfl := Option.some.inj H
    exact QN.sb (hJ2 _ _ _ _ _ ⟨rfl, rfl, rfl, hi4, HK2⟩) (.cons_cons _ .slnil) (.refl _)
   ·skip
    have hc := (Bool.eq_false_iff.1 hb)
    rw [if_neg hc] at H
    clear hb
    refine OK.sk ?_
    obtain rfl := Option.some.inj H
    exact QN.sb (hJ2 _ _ _ _ _ ⟨rfl, rfl, rfl, (Imm.le_refl _), HK2⟩) (.cons_cons _ .slnil) (.refl _)
 ·intro Q_2 hJ1 hQ1
  obtain ⟨y1, H, HK1⟩ := bnd H
  refine OK.rg ?_
  refine RL.s 4 [(13, .bool (decide (t1.1 < a1))), (7, i6 t1.1), (0, pt gb0 0), (2, i6 a2)] ?_
  refine RL.cases (decide (t1.1 < a1)) (fun hb => ?_) (fun hb => ?_)
  ·have hc := (of_decide_eq_true hb)
   rw [hb]
   rw [if_pos hc] at H; clear hb
   refine RL.s 4 [(17, .bool true), (7, i6 t1.1), (0, pt gb0 0)] ?_
   refine RL.nil (by kernel_rfl) ?_
   obtain rfl := Option.some.inj H
   exact QN.sb (hJ1 _ _ _ _ _ ⟨true, rfl, rfl, rfl, (Imm.le_refl _), HK1⟩) (.cons_cons _ .slnil) (.refl _)
  ·have hc := (of_decide_eq_false hb)
   rw [hb]
   rw [if_neg hc] at H; clear hb
   refine RL.s 4 [(17, .bool (decide (t1.1 > a2))), (7, i6 t1.1), (0, pt gb0 0)] ?_
   refine RL.nil (by kernel_rfl) ?_
   obtain rfl := Option.some.inj H
   exact QN.sb (hJ1 _ _ _ _ _ ⟨(decide (t1.1 > a2)), rfl, rfl, rfl, (Imm.le_refl _), HK1⟩) (.cons_cons _ .slnil) (.refl _)
theorem codec_decoder_numbers0.calls (k : Nat) (I0 : Imm) (gb0 : Nat) (a1 : Int) (a2 : Int) (b0 : S124) (Ab0_0 : Option Addr) (cb0_0 : Nat) (w : World) (hs : Sat ⟨w, SM [⟨gb0, [.slice Ab0_0 b0.f0.length cb0_0, i6 b0.f1], 124⟩] [], I0⟩ I0 w.heap.size [⟨gb0, [.slice Ab0_0 b0.f0.length cb0_0, i6 b0.f1], 124⟩] [] w) (hlb0_0 : b0.f0.length ≤ cb0_0) (hrb0_0 : Rd (Ty.int .u8) I0 Ab0_0 b0.f0) (r : Int × S124) (h : codec_decoder_numbers0.f k a1 a2 b0 = some (.inr r)) :
  Calls Tryd.prog 68 [pt gb0 0, i6 a1, i6 a2].toArray w fun e w' => ∃ v, e = .returned v ∧ codec_decoder_numbers0.Post (SM [⟨gb0, [.slice Ab0_0 b0.f0.length cb0_0, i6 b0.f1], 124⟩] []) gb0 a1 a2 b0 Ab0_0 cb0_0 I0 w r v w' :=
 codec_decoder_numbers0.callsX k I0 gb0 a1 a2 b0 Ab0_0 cb0_0 w hs hlb0_0 hrb0_0 (.inr r) h
theorem codec_decoder_numbers0.callsP (k : Nat) (I0 : Imm) (gb0 : Nat) (a1 : Int) (a2 : Int) (b0 : S124) (Ab0_0 : Option Addr) (cb0_0 : Nat) (w : World) (hs : Sat ⟨w, SM [⟨gb0, [.slice Ab0_0 b0.f0.length cb0_0, i6 b0.f1], 124⟩] [], I0⟩ I0 w.heap.size [⟨gb0, [.slice Ab0_0 b0.f0.length cb0_0, i6 b0.f1], 124⟩] [] w) (hlb0_0 : b0.f0.length ≤ cb0_0) (hrb0_0 : Rd (Ty.int .u8) I0 Ab0_0 b0.f0) (x : Int) (h : codec_decoder_numbers0.f k a1 a2 b0 = some (.inl x)) :
  Calls Tryd.prog 68 [pt gb0 0, i6 a1, i6 a2].toArray w fun e w' => e = .panicked (pch 121 x) ∧ Evo (SM [⟨gb0, [.slice Ab0_0 b0.f0.length cb0_0, i6 b0.f1], 124⟩] []) w w' ∧ I0.at_ w' :=
 codec_decoder_numbers0.callsX k I0 gb0 a1 a2 b0 Ab0_0 cb0_0 w hs hlb0_0 hrb0_0 (.inl x) h

end Go.Proofs.YtiomeaoeegikkaaDoor
namespace Go.Proofs.YtiomeaoeegikkaaDoor
open Go Go.Proofs.YtiomeaoeegikkaaDoor.RW
set_option linter.unusedVariables false
set_option maxRecDepth 100000
set_option maxHeartbeats 8000000

/-! ### slices_Clone_byte_byte: function 34, slices.Clone[[]byte,byte] -/
noncomputable def K34_0 : Code := cBody Tryd.f34
noncomputable def K34_8 : Code := cL (cR (cL (cR K34_0)))
noncomputable def K34_12 : Code := cR (cR (cL (cR K34_0)))
def slices_Clone_byte_byte.f (a0 : List Int) : Option (List Int) := (if a0 = [] then (some []) else (if (([] : List Int).length + a0.length) * 1 ≤ 140737488355328 then (some (([] : List Int) ++ a0)) else none))
def slices_Clone_byte_byte.Post (I : Imm) (w : World) (r : List Int) (v : Value) (w' : World) : Prop :=
 ∃ (J : Imm) (A0 : Option Addr) (c0 : Nat) (cs0 : List Value), v = .slice A0 r.length c0 ∧ Got w w' I J [orow 5 1 A0 r.length c0 cs0] ∧ Reps (Ty.int .u8) J r cs0
theorem slices_Clone_byte_byte.calls (I0 : Imm) (a0 : List Int) (Ap0 : Option Addr) (cp0 : Nat) (w : World) (hI : I0.at_ w) (hlp0 : a0.length ≤ cp0) (hrp0 : Rd (Ty.int .u8) I0 Ap0 a0) (r : List Int) (h : slices_Clone_byte_byte.f a0 = some r) :
  Calls Tryd.prog 34 [.slice Ap0 a0.length cp0].toArray w fun e w' => ∃ v, e = .returned v ∧ slices_Clone_byte_byte.Post I0 w r v w' := by
 have H : (if a0 = [] then (some []) else (if (([] : List Int).length + a0.length) * 1 ≤ 140737488355328 then (some (([] : List Int) ++ a0)) else none)) = some r := h
 clear h
 refine calls_body Tryd.func34 (by kernel_rfl) 8 (by kernel_rfl) (by kernel_rfl) ⟨w, fun _ => False, I0⟩ I0 [] [(0, .slice Ap0 a0.length cp0)] (by kernel_rfl) (Sat.start w _ I0 hI) ?_
 generalize w.heap.size = nx0
 show OK _ K34_0 _ _ _ _ _ _ _ _
 refine OK.sr ?_
 refine RL.st 1 [(0, .slice Ap0 a0.length cp0)] ?_
 refine OK.sq ?_
 refine OK.sr ?_
 refine RL.s 1 [(3, .slice Ap0 a0.length cp0), (0, .slice Ap0 a0.length cp0)] ?_
 rcases Ap0 with _ | ad_1
 ·have hn1 : a0 = [] := rd_isNone hrp0
  rw [if_pos hn1] at H
  refine RL.s 1 [(4, .bool true), (3, .slice none a0.length cp0), (0, .slice none a0.length cp0)] ?_
  refine RL.nil (by kernel_rfl) ?_
  refine QN.sub (K' := [(4, .bool true), (0, .slice none a0.length cp0)]) (L' := []) (by kernel_rfl) .slnil (.refl _) ?_
  refine QN.then_ ?_
  refine OK.condT (.tmp 4) K34_8 K34_12 (by kernel_rfl) (by kernel_rfl) (by kernel_rfl) ?_
  refine OK.sr ?_
  refine RL.st 1 [(2, .slice none 0 0)] ?_
  refine OK.re ?_
  refine QN.thenR ?_
  obtain rfl := Option.some.inj H
  refine QN.body rfl [] (RFacts.nil _ _ _) (.no) (.slice none 0 0) (by kernel_rfl) (by kernel_rfl) (by kernel_rfl) ?_ _ (.inr rfl)
  exact fun w' hs' => ⟨_, rfl, I0, none, 0, [], rfl, gotNil1 (hs'.got [] (List.nil_sublist _)), rfl⟩
 ·replace H : (if (([] : List Int).length + a0.length) * 1 ≤ 140737488355328 then (some (([] : List Int) ++ a0)) else none) = some r := by
   by_cases hn1 : a0 = []
   ·rw [if_pos hn1] at H; rw [hn1]; simpa using H
   ·rwa [if_neg hn1] at H
  refine RL.s 1 [(4, .bool false), (3, .slice (some ad_1) a0.length cp0), (0, .slice (some ad_1) a0.length cp0)] ?_
  refine RL.nil (by kernel_rfl) ?_
  refine QN.sub (K' := [(4, .bool false), (0, .slice (some ad_1) a0.length cp0)]) (L' := []) (by kernel_rfl) .slnil (.refl _) ?_
  refine QN.then_ ?_
  refine OK.condF (.tmp 4) K34_8 K34_12 (by kernel_rfl) (by kernel_rfl) (by kernel_rfl) ?_
  refine OK.skt ?_
  refine OK.sr ?_
  refine RL.sp 2 [(6, .slice (some ad_1) a0.length cp0), (5, .slice (some ⟨nx0, 0, none⟩) 0 0)] (nx0 + 1) [⟨nx0, [], 5⟩] ?_
  refine RL.toRow (b := ⟨nx0, [], 5⟩) 0 0 1 (by kernel_rfl) (by kernel_rfl) (by decide) ?_
  have hp1 : Reps (Ty.int .u8) I0 ([] : List Int) [] := rfl
  refine RL.norm (L' := []) (X' := [orow 5 1 (some ⟨nx0, 0, none⟩) (([] : List Int).length) 0 []]) rfl rfl (by kernel_rfl) (by kernel_rfl) ?_
  obtain ⟨hz1, H⟩ := ifs H
  refine RL.appendR (T := 22) (e := 5) (S := (some ⟨nx0, 0, none⟩)) (S2 := (some ad_1)) 1 1 22 0 cp0 [] (Ty.int .u8) ([] : List Int) a0 0 (some 7) (by kernel_rfl) (by kernel_rfl) (by kernel_rfl) (by kernel_rfl) (by kernel_rfl) (by decide) (by kernel_rfl) hp1 hrp0 hz1 (by omega) (fun A1 c1 nx1 cs1 hp2 => ?_)
  refine RL.sub (K' := [(7, .slice A1 ((([] : List Int) ++ a0).length) c1), (6, .slice (some ad_1) a0.length cp0), (5, .slice (some ⟨nx0, 0, none⟩) 0 0)]) (L' := []) (X' := [orow 5 1 A1 ((([] : List Int) ++ a0).length) c1 cs1]) (by kernel_rfl) (.refl _) (.refl _) ?_
  refine RL.st 1 [(2, .slice A1 ((([] : List Int) ++ a0).length) c1)] ?_
  refine OK.re ?_
  obtain rfl := Option.some.inj H
  refine QN.body rfl [] (RFacts.nil _ _ _) (.no) (.slice A1 ((([] : List Int) ++ a0).length) c1) (by kernel_rfl) (by kernel_rfl) (by kernel_rfl) ?_ _ (.inr rfl)
  exact fun w' hs' => ⟨_, rfl, I0, A1, c1, cs1, rfl, hs'.got _ (.cons_cons _ .slnil), hp2⟩

end Go.Proofs.YtiomeaoeegikkaaDoor
namespace Go.Proofs.YtiomeaoeegikkaaDoor
open Go Go.Proofs.YtiomeaoeegikkaaDoor.RW
set_option linter.unusedVariables false
set_option maxRecDepth 100000
set_option maxHeartbeats 8000000

/-! ### codec_decoder_bytess0: function 69, (*armillary/codec.decoder).bytes -/
noncomputable def K69s0_0 : Code := cBody Tryd.f69
noncomputable def O69s0_8 : List Oper := cOps (cL (cL (cR (cR K69s0_0))))
noncomputable def O69s0_18 : List Oper := cOps (cL (cR (cR (cR (cR K69s0_0)))))
def codec_decoder_bytess0.k1 (t1 : Int × S124) : (Unit) ⊕ (Int ⊕ (List Int × S124)) → Option (Int ⊕ (List Int × S124))
 | .inl () => (if (0 : Int) ≤ (W .i64 ((W .i64 (t1.2.f1 + t1.1)) - t1.1)) then (if (W .i64 ((W .i64 (t1.2.f1 + t1.1)) - t1.1)) ≤ (W .i64 (t1.2.f1 + t1.1)) then (if (W .i64 (t1.2.f1 + t1.1)) ≤ (t1.2.f0.length : Int) then ((slices_Clone_byte_byte.f (rpart t1.2.f0 (W .i64 ((W .i64 (t1.2.f1 + t1.1)) - t1.1)) (W .i64 (t1.2.f1 + t1.1)))).bind fun t2 => (some (Sum.inr (t2, (⟨t1.2.f0, W .i64 (t1.2.f1 + t1.1)⟩ : S124))))) else none) else none) else none)
 | .inr r_ => some r_
def codec_decoder_bytess0.f (k : Nat) (a1 : Int) (a2 : Int) (b0 : S124) : Option (Int ⊕ (List Int × S124)) := (pb (codec_decoder_numbers0.f k a1 a2 b0) (fun e1 => (some (Sum.inl e1))) fun t1 => ((if (W .i64 ((t1.2.f0.length : Int) - t1.2.f1)) < t1.1 then (pb (codec_decoder_fails0.f 271 t1.2) (fun e2 => (some (Sum.inr (Sum.inl e2)))) fun t3 => (some (Sum.inl ()))) else (some (Sum.inl ()))).bind (codec_decoder_bytess0.k1 t1)))
def codec_decoder_bytess0.Post (S : Nat → Prop) (gb0 : Nat) (a1 : Int) (a2 : Int) (b0 : S124) (Ab0_0 : Option Addr) (cb0_0 : Nat) (I : Imm) (w : World) (r : List Int × S124) (v : Value) (w' : World) : Prop :=
 ∃ (J : Imm) (Ar0 : Option Addr) (cr0 : Nat) (csr0 : List Value) (Ar1_0 : Option Addr) (cr1_0 : Nat), v = .slice Ar0 r.1.length cr0 ∧ Sat ⟨w, S, I⟩ J w'.heap.size [⟨gb0, [.slice Ar1_0 r.2.f0.length cr1_0, .int .i64 r.2.f1], 124⟩] [orow 5 1 Ar0 r.1.length cr0 csr0] w' ∧ Reps (Ty.int .u8) J r.1 csr0 ∧ r.2.f0.length ≤ cr1_0 ∧ Rd (Ty.int .u8) J Ar1_0 r.2.f0
noncomputable def a69s0_8n : List Nat := [0, 1, 3, 7, 15, 0, 32, 96, 224, 511, 0, 2047]
theorem a69s0_8 : ancs O69s0_8 [] = a69s0_8n := by kernel_rfl
theorem a69s0_8o : drawOk O69s0_8 a69s0_8n 11 = true := by kernel_rfl
noncomputable def u69d1l  : List Ld :=
 []
noncomputable def u69d1g  : List (Nat × ((Nat → Wt) → Value)) := []
noncomputable def u69d1q (gb0 : Nat) (t1 : Int × S124) (A1 : Option Addr) (c1 : Nat) (u : Nat → Wt) : Option (List Value × List (Nat × Value) × List (Nat × Nat)) := qSim Tryd.prog [] [⟨gb0, [.slice A1 t1.2.f0.length c1, i6 t1.2.f1], 124⟩] O69s0_8 ⟨50, []⟩ (Ld.vl u69d1l) u69d1g u [.no, .no, .no, .l 0, .no, .no, .no, .no, .l 0, .no, .no] 0 (O69s0_8.take 11) [(7, i6 t1.1), (0, pt gb0 0)]
noncomputable def u69d1s (gb0 : Nat) (t1 : Int × S124) (A1 : Option Addr) (c1 : Nat) (u : Nat → Wt) : List Value := [pt gb0 0, pt gb0 0, pt gb0 0, .slice A1 t1.2.f0.length c1, i6 (t1.2.f0.length : Int), pt gb0 0, pt gb0 0, pt gb0 1, i6 t1.2.f1, i6 (W .i64 ((t1.2.f0.length : Int) - t1.2.f1)), i6 t1.1]
noncomputable def u69d1f (gb0 : Nat) (t1 : Int × S124) (A1 : Option Addr) (c1 : Nat) (i : Nat) (u : Nat → Wt) : List (Nat × Value) := foldPut ⟨50, []⟩ [(7, i6 t1.1), (0, pt gb0 0)] (O69s0_8.take i) (((u69d1s gb0 t1 A1 c1) u).take i)
theorem u69d1v (gb0 : Nat) (t1 : Int × S124) (A1 : Option Addr) (c1 : Nat) (u : Nat → Wt) : (u69d1q gb0 t1 A1 c1 u).map (fun x => (x.1, x.2.1)) = some ((u69d1s gb0 t1 A1 c1) u, (u69d1f gb0 t1 A1 c1 11) u) := by kernel_rfl
theorem u69d1e (gb0 : Nat) (t1 : Int × S124) (A1 : Option Addr) (c1 : Nat) (u : Nat → Wt) : (u69d1q gb0 t1 A1 c1 u).map (fun x => x.2.2.map (·.1)) = (u69d1q gb0 t1 A1 c1 u).map (fun x => x.2.2.map (·.2)) := by kernel_rfl
noncomputable def a69s0_18n : List Nat := [0, 1, 3, 7, 0, 16, 48, 112, 0, 496, 0, 1024, 3072, 7168, 16383, 32767, 65535]
theorem a69s0_18 : ancs O69s0_18 [] = a69s0_18n := by kernel_rfl
theorem a69s0_18o : drawOk O69s0_18 a69s0_18n 14 = true := by kernel_rfl
noncomputable def u69d2l  : List Ld :=
 []
noncomputable def u69d2g  : List (Nat × ((Nat → Wt) → Value)) := []
noncomputable def u69d2q (gb0 : Nat) (t1 : Int × S124) (A1 : Option Addr) (c1 : Nat) (u : Nat → Wt) : Option (List Value × List (Nat × Value) × List (Nat × Nat)) := qSim Tryd.prog [] [⟨gb0, [.slice A1 t1.2.f0.length c1, i6 (W .i64 (t1.2.f1 + t1.1))], 124⟩] O69s0_18 ⟨50, []⟩ (Ld.vl u69d2l) u69d2g u [.no, .no, .no, .l 0, .no, .no, .no, .l 0, .no, .no, .no, .no, .no, .l 0] 0 (O69s0_18.take 14) [(0, pt gb0 0), (7, i6 t1.1)]
noncomputable def u69d2s (gb0 : Nat) (t1 : Int × S124) (A1 : Option Addr) (c1 : Nat) (u : Nat → Wt) : List Value := [pt gb0 0, pt gb0 0, pt gb0 0, .slice A1 t1.2.f0.length c1, pt gb0 0, pt gb0 0, pt gb0 1, i6 (W .i64 (t1.2.f1 + t1.1)), i6 t1.1, i6 (W .i64 ((W .i64 (t1.2.f1 + t1.1)) - t1.1)), pt gb0 0, pt gb0 0, pt gb0 1, i6 (W .i64 (t1.2.f1 + t1.1))]
noncomputable def u69d2f (gb0 : Nat) (t1 : Int × S124) (A1 : Option Addr) (c1 : Nat) (i : Nat) (u : Nat → Wt) : List (Nat × Value) := foldPut ⟨50, []⟩ [(0, pt gb0 0), (7, i6 t1.1)] (O69s0_18.take i) (((u69d2s gb0 t1 A1 c1) u).take i)
theorem u69d2v (gb0 : Nat) (t1 : Int × S124) (A1 : Option Addr) (c1 : Nat) (u : Nat → Wt) : (u69d2q gb0 t1 A1 c1 u).map (fun x => (x.1, x.2.1)) = some ((u69d2s gb0 t1 A1 c1) u, (u69d2f gb0 t1 A1 c1 14) u) := by kernel_rfl
theorem u69d2e (gb0 : Nat) (t1 : Int × S124) (A1 : Option Addr) (c1 : Nat) (u : Nat → Wt) : (u69d2q gb0 t1 A1 c1 u).map (fun x => x.2.2.map (·.1)) = (u69d2q gb0 t1 A1 c1 u).map (fun x => x.2.2.map (·.2)) := by kernel_rfl
theorem codec_decoder_bytess0.callsX (k : Nat) (I0 : Imm) (gb0 : Nat) (a1 : Int) (a2 : Int) (b0 : S124) (Ab0_0 : Option Addr) (cb0_0 : Nat) (w : World) (hs : Sat ⟨w, SM [⟨gb0, [.slice Ab0_0 b0.f0.length cb0_0, i6 b0.f1], 124⟩] [], I0⟩ I0 w.heap.size [⟨gb0, [.slice Ab0_0 b0.f0.length cb0_0, i6 b0.f1], 124⟩] [] w) (hlb0_0 : b0.f0.length ≤ cb0_0) (hrb0_0 : Rd (Ty.int .u8) I0 Ab0_0 b0.f0) (r : Int ⊕ (List Int × S124)) (h : codec_decoder_bytess0.f k a1 a2 b0 = some r) :
  Calls Tryd.prog 69 [pt gb0 0, i6 a1, i6 a2].toArray w fun e w' => pan r (fun x => e = .panicked (pch 121 x) ∧ Evo (SM [⟨gb0, [.slice Ab0_0 b0.f0.length cb0_0, i6 b0.f1], 124⟩] []) w w' ∧ I0.at_ w') (fun r => ∃ v, e = .returned v ∧ codec_decoder_bytess0.Post (SM [⟨gb0, [.slice Ab0_0 b0.f0.length cb0_0, i6 b0.f1], 124⟩] []) gb0 a1 a2 b0 Ab0_0 cb0_0 I0 w r v w') := by
 have H : (pb (codec_decoder_numbers0.f k a1 a2 b0) (fun e1 => (some (Sum.inl e1))) fun t1 => ((if (W .i64 ((t1.2.f0.length : Int) - t1.2.f1)) < t1.1 then (pb (codec_decoder_fails0.f 271 t1.2) (fun e2 => (some (Sum.inr (Sum.inl e2)))) fun t3 => (some (Sum.inl ()))) else (some (Sum.inl ()))).bind (codec_decoder_bytess0.k1 t1))) = some r := h
 clear h
 refine calls_bodyL Tryd.func69 (by kernel_rfl) 50 (by kernel_rfl) (by kernel_rfl) ⟨w, SM [⟨gb0, [.slice Ab0_0 b0.f0.length cb0_0, i6 b0.f1], 124⟩] [], I0⟩ I0 [⟨gb0, [.slice Ab0_0 b0.f0.length cb0_0, i6 b0.f1], 124⟩] [] [(0, pt gb0 0), (1, i6 a1), (2, i6 a2)] (by kernel_rfl) hs ?_
 generalize w.heap.size = nx0
 show OK _ K69s0_0 _ _ _ _ _ _ _ _
 refine OK.sr ?_
 refine RL.st 1 [(0, pt gb0 0), (1, i6 a1), (2, i6 a2)] ?_
 refine OK.sr ?_
 refine RL.s 3 [(10, i6 a2), (9, i6 a1), (8, pt gb0 0), (0, pt gb0 0)] ?_
 rcases pb_some H with ⟨e1, hA2, H⟩ | ⟨t1, hA1, H⟩
 ·refine RL.callE (L1 := [⟨gb0, [.slice Ab0_0 b0.f0.length cb0_0, i6 b0.f1], 124⟩]) (L2 := []) (X1 := []) (X2 := []) rfl rfl 68 [pt gb0 0, i6 a1, i6 a2] (some 11) (pch 121 e1) (by kernel_rfl) (by kernel_rfl) (fun w hs => codec_decoder_numbers0.callsP k I0 gb0 a1 a2 b0 Ab0_0 cb0_0 w hs hlb0_0 hrb0_0 e1 hA2) ?_
  refine QP.then_ ?_
  obtain rfl := Option.some.inj H
  exact QP.body rfl (fun w he hi => ⟨rfl, he, fun a v h => hi a v ((Imm.le_refl _) a v h)⟩)
 refine RL.callM (L1 := [⟨gb0, [.slice Ab0_0 b0.f0.length cb0_0, i6 b0.f1], 124⟩]) (L2 := []) (X1 := []) (X2 := []) rfl rfl 68 [pt gb0 0, i6 a1, i6 a2] (some 11) (fun w => codec_decoder_numbers0.Post (SM [⟨gb0, [.slice Ab0_0 b0.f0.length cb0_0, i6 b0.f1], 124⟩] []) gb0 a1 a2 b0 Ab0_0 cb0_0 I0 w t1) (by kernel_rfl) (by kernel_rfl) (fun w hs => codec_decoder_numbers0.calls k I0 gb0 a1 a2 b0 Ab0_0 cb0_0 w hs hlb0_0 hrb0_0 t1 hA1) ?_
 rintro w v w' hs ⟨I1, A1, c1, rfl, hg, hl1, hr1⟩
 have hi1 : Imm.le I0 I1 := hg.le
 refine RL.resume (L' := [⟨gb0, [.slice A1 t1.2.f0.length c1, i6 t1.2.f1], 124⟩]) (X' := []) rfl (hs.outof hg) ?_
 clear hs hg
 generalize w'.heap.size = nx1
 clear w w'
 refine RL.st 1 [(7, i6 t1.1), (0, pt gb0 0)] ?_
 refine OK.sq ?_
 refine OK.sq ?_
 refine OK.drawnC 2 11 O69s0_8 a69s0_8n (by kernel_rfl) (by kernel_rfl) u69d1l u69d1g [] (RI.nil _) [.no, .no, .no, .l 0, .no, .no, .no, .no, .l 0, .no, .no] a69s0_8 a69s0_8o (by kernel_rfl) (by kernel_rfl) (u69d1s gb0 t1 A1 c1) (u69d1f gb0 t1 A1 c1 11) (u69d1v gb0 t1 A1 c1) (u69d1e gb0 t1 A1 c1) [] framesOk.nil ?_ [] framesOk.nil ?_ ?_
 ·refine LoudsG.nil
 ·refine Givens.nil
 intro u I2 nx2 hi2 hF
 clear hF
 refine RL.norm (K' := [(22, i6 t1.1), (21, i6 (W .i64 ((t1.2.f0.length : Int) - t1.2.f1))), (20, i6 t1.2.f1), (19, pt gb0 1), (18, pt gb0 0), (17, pt gb0 0), (16, i6 (t1.2.f0.length : Int)), (15, .slice A1 t1.2.f0.length c1), (14, pt gb0 0), (13, pt gb0 0), (12, pt gb0 0), (7, i6 t1.1), (0, pt gb0 0)]) (X' := []) (by kernel_rfl) rfl rfl rfl ?_
 refine RL.st 1 [(23, .bool (decide ((W .i64 ((t1.2.f0.length : Int) - t1.2.f1)) < t1.1))), (7, i6 t1.1), (0, pt gb0 0)] ?_
 refine OK.join (fun K' I' _ L' X' => K' = [(0, pt gb0 0), (7, i6 t1.1)] ∧ L' = [⟨gb0, [.slice A1 t1.2.f0.length c1, i6 t1.2.f1], 124⟩] ∧ X' = [] ∧ Imm.le I2 I' ∧ codec_decoder_bytess0.k1 t1 (Sum.inl ()) = some r) ?_ ?_
 ·rintro _ I3 nx3 _ _ ⟨rfl, rfl, rfl, hi3, H⟩
  rw [codec_decoder_bytess0.k1] at H
  refine QN.then_ ?_
  refine OK.sr ?_
  refine RL.simP (K' := [(0, pt gb0 0), (7, i6 t1.1)]) (nx' := nx3) (L' := [⟨gb0, [.slice A1 t1.2.f0.length c1, i6 (W .i64 (t1.2.f1 + t1.1))], 124⟩]) [] (RFacts.nil _ _ _) 9 [.no, .no, .no, .l 0, .no, .no, .no, .no, .l 0] (by kernel_rfl) (by kernel_rfl) ?_
  refine RL.nt ?_
  refine OK.sq ?_
  refine OK.drawnC 5 14 O69s0_18 a69s0_18n (by kernel_rfl) (by kernel_rfl) u69d2l u69d2g [] (RI.nil _) [.no, .no, .no, .l 0, .no, .no, .no, .l 0, .no, .no, .no, .no, .no, .l 0] a69s0_18 a69s0_18o (by kernel_rfl) (by kernel_rfl) (u69d2s gb0 t1 A1 c1) (u69d2f gb0 t1 A1 c1 14) (u69d2v gb0 t1 A1 c1) (u69d2e gb0 t1 A1 c1) [] framesOk.nil ?_ [] framesOk.nil ?_ ?_
  ·refine LoudsG.nil
  ·refine Givens.nil
  intro u I4 nx4 hi4 hF
  clear hF
  refine RL.norm (K' := [(47, i6 (W .i64 (t1.2.f1 + t1.1))), (46, pt gb0 1), (45, pt gb0 0), (44, pt gb0 0), (43, i6 (W .i64 ((W .i64 (t1.2.f1 + t1.1)) - t1.1))), (42, i6 t1.1), (41, i6 (W .i64 (t1.2.f1 + t1.1))), (40, pt gb0 1), (39, pt gb0 0), (38, pt gb0 0), (37, .slice A1 t1.2.f0.length c1), (36, pt gb0 0), (35, pt gb0 0), (34, pt gb0 0), (0, pt gb0 0), (7, i6 t1.1)]) (X' := []) (by kernel_rfl) rfl rfl rfl ?_
  obtain ⟨hs0_1, H⟩ := ifs H
  obtain ⟨hs1_1, H⟩ := ifs H
  obtain ⟨hs2_1, H⟩ := ifs H
  refine RL.sub1 (T := 22) (e := 5) (l := t1.2.f0) (S := A1) (cap := c1) (lo := W .i64 ((W .i64 (t1.2.f1 + t1.1)) - t1.1)) (hi := W .i64 (t1.2.f1 + t1.1)) 1 .i64 .i64 (some 48) (by kernel_rfl) (by kernel_rfl) (by kernel_rfl) (by kernel_rfl) hl1 hs0_1 hs1_1 hs2_1 (K' := [(48, .slice (slA A1 ((W .i64 ((W .i64 (t1.2.f1 + t1.1)) - t1.1))).toNat c1 1) ((rpart t1.2.f0 (W .i64 ((W .i64 (t1.2.f1 + t1.1)) - t1.1)) (W .i64 (t1.2.f1 + t1.1))).length) (c1 - ((W .i64 ((W .i64 (t1.2.f1 + t1.1)) - t1.1))).toNat)), (47, i6 (W .i64 (t1.2.f1 + t1.1))), (46, pt gb0 1), (45, pt gb0 0), (44, pt gb0 0), (43, i6 (W .i64 ((W .i64 (t1.2.f1 + t1.1)) - t1.1))), (42, i6 t1.1), (41, i6 (W .i64 (t1.2.f1 + t1.1))), (40, pt gb0 1), (39, pt gb0 0), (38, pt gb0 0), (37, .slice A1 t1.2.f0.length c1), (36, pt gb0 0), (35, pt gb0 0), (34, pt gb0 0), (0, pt gb0 0), (7, i6 t1.1)]) (by kernel_rfl) ?_
  obtain ⟨t2, hA3, H⟩ := bnd H
  refine RL.callP 34 [.slice (slA A1 ((W .i64 ((W .i64 (t1.2.f1 + t1.1)) - t1.1))).toNat c1 1) ((rpart t1.2.f0 (W .i64 ((W .i64 (t1.2.f1 + t1.1)) - t1.1)) (W .i64 (t1.2.f1 + t1.1))).length) (c1 - ((W .i64 ((W .i64 (t1.2.f1 + t1.1)) - t1.1))).toNat)] (some 49) (fun w => slices_Clone_byte_byte.Post I4 w t2) (by kernel_rfl) (by kernel_rfl) (fun w hs => slices_Clone_byte_byte.calls I4 (rpart t1.2.f0 (W .i64 ((W .i64 (t1.2.f1 + t1.1)) - t1.1)) (W .i64 (t1.2.f1 + t1.1))) (slA A1 ((W .i64 ((W .i64 (t1.2.f1 + t1.1)) - t1.1))).toNat c1 1) (c1 - ((W .i64 ((W .i64 (t1.2.f1 + t1.1)) - t1.1))).toNat) w hs.im (part_le hl1 hs0_1 hs1_1 hs2_1) (rd_sub (Rd.ext (Imm.le_trans (Imm.le_trans hi2 hi3) hi4) hr1) hl1 hs0_1 hs1_1 hs2_1) t2 hA3) ?_
  rintro w v w' hs ⟨I5, A2, c2, cs1, rfl, hg, hp1⟩
  have hi5 := hg.le
  refine RL.resume (X' := [orow 5 1 A2 t2.length c2 cs1]) rfl (hs.call hg) ?_
  clear hs hg
  generalize w'.heap.size = nx5
  clear w w'
  refine RL.st 1 [(6, .slice A2 t2.length c2)] ?_
  refine OK.re ?_
  obtain rfl := Option.some.inj H
  refine QN.body rfl [] (RFacts.nil _ _ _) (.no) (.slice A2 t2.length c2) (by kernel_rfl) (by kernel_rfl) (by kernel_rfl) ?_ _ (.inr rfl)
  exact fun w' hs' => ⟨_, rfl, I5, A2, c2, cs1, A1, c1, rfl, ((hs'.fin.selB [0] (by kernel_rfl)).sel [0] (by kernel_rfl)), hp1, hl1, (Rd.ext (Imm.le_trans (Imm.le_trans (Imm.le_trans hi2 hi3) hi4) hi5) hr1)⟩
 ·intro Q_1 hJ1 hQ1
  obtain ⟨y1, H, HK1⟩ := bnd H
  refine OK.cd (decide ((W .i64 ((t1.2.f0.length : Int) - t1.2.f1)) < t1.1)) (fun hb => ?_) (fun hb => ?_)
  ·skip
   have hc := (of_decide_eq_true hb)
   rw [if_pos hc] at H
   clear hb
   refine OK.rg ?_
   refine RL.s 1 [(24, pt gb0 0), (7, i6 t1.1), (0, pt gb0 0)] ?_
   rcases pb_some H with ⟨e2, hA5, H⟩ | ⟨t3, hA4, H⟩
   ·refine RL.callE (L1 := [⟨gb0, [.slice A1 t1.2.f0.length c1, i6 t1.2.f1], 124⟩]) (L2 := []) (X1 := []) (X2 := []) rfl rfl 72 [pt gb0 0, i6 271] (some 25) (pch 121 e2) (by kernel_rfl) (by kernel_rfl) (fun w hs => codec_decoder_fails0.callsP I2 gb0 271 t1.2 A1 c1 w hs hl1 (Rd.ext hi2 hr1) e2 hA5) ?_
    refine QP.out hQ1 ?_
    refine QP.then_ ?_
    obtain rfl := Option.some.inj H
    replace H : some (Sum.inl e2) = some r := HK1
    obtain rfl := Option.some.inj H
    exact QP.body rfl (fun w he hi => ⟨rfl, he, fun a v h => hi a v ((Imm.le_trans hi1 hi2) a v h)⟩)
   refine RL.callM (L1 := [⟨gb0, [.slice A1 t1.2.f0.length c1, i6 t1.2.f1], 124⟩]) (L2 := []) (X1 := []) (X2 := []) rfl rfl 72 [pt gb0 0, i6 271] (some 25) (fun w => codec_decoder_fails0.Post (SM [⟨gb0, [.slice A1 t1.2.f0.length c1, i6 t1.2.f1], 124⟩] []) gb0 271 t1.2 A1 c1 I2 w t3) (by kernel_rfl) (by kernel_rfl) (fun w hs => codec_decoder_fails0.calls I2 gb0 271 t1.2 A1 c1 w hs hl1 (Rd.ext hi2 hr1) t3 hA4) ?_
   rintro w v w' hs ⟨I6, rfl, hg⟩
   have hi6 : Imm.le I2 I6 := hg.le
   refine RL.resume (L' := [⟨gb0, [.slice A1 t1.2.f0.length c1, i6 t1.2.f1], 124⟩]) (X' := []) rfl (hs.outof hg) ?_
   clear hs hg
   generalize w'.heap.size = nx6
   clear w w'
   refine RL.nil (by kernel_rfl) ?_
   refine QN.sub (K' := [(7, i6 t1.1), (0, pt gb0 0)]) (L' := [⟨gb0, [.slice A1 t1.2.f0.length c1, i6 t1.2.f1], 124⟩]) (by kernel_rfl) (.cons_cons _ .slnil) (.refl _) ?_
   obtain rfl := Option.some.inj H
   exact QN.sb (hJ1 _ _ _ _ _ ⟨rfl, rfl, rfl, hi6, HK1⟩) (.cons_cons _ .slnil) (.refl _)
  ·skip
   have hc := (of_decide_eq_false hb)
   rw [if_neg hc] at H
   clear hb
   refine OK.sk ?_
   obtain rfl := Option.some.inj H
   exact QN.sb (hJ1 _ _ _ _ _ ⟨rfl, rfl, rfl, (Imm.le_refl _), HK1⟩) (.cons_cons _ .slnil) (.refl _)
theorem codec_decoder_bytess0.calls (k : Nat) (I0 : Imm) (gb0 : Nat) (a1 : Int) (a2 : Int) (b0 : S124) (Ab0_0 : Option Addr) (cb0_0 : Nat) (w : World) (hs : Sat ⟨w, SM [⟨gb0, [.slice Ab0_0 b0.f0.length cb0_0, i6 b0.f1], 124⟩] [], I0⟩ I0 w.heap.size [⟨gb0, [.slice Ab0_0 b0.f0.length cb0_0, i6 b0.f1], 124⟩] [] w) (hlb0_0 : b0.f0.length ≤ cb0_0) (hrb0_0 : Rd (Ty.int .u8) I0 Ab0_0 b0.f0) (r : List Int × S124) (h : codec_decoder_bytess0.f k a1 a2 b0 = some (.inr r)) :
  Calls Tryd.prog 69 [pt gb0 0, i6 a1, i6 a2].toArray w fun e w' => ∃ v, e = .returned v ∧ codec_decoder_bytess0.Post (SM [⟨gb0, [.slice Ab0_0 b0.f0.length cb0_0, i6 b0.f1], 124⟩] []) gb0 a1 a2 b0 Ab0_0 cb0_0 I0 w r v w' :=
 codec_decoder_bytess0.callsX k I0 gb0 a1 a2 b0 Ab0_0 cb0_0 w hs hlb0_0 hrb0_0 (.inr r) h
theorem codec_decoder_bytess0.callsP (k : Nat) (I0 : Imm) (gb0 : Nat) (a1 : Int) (a2 : Int) (b0 : S124) (Ab0_0 : Option Addr) (cb0_0 : Nat) (w : World) (hs : Sat ⟨w, SM [⟨gb0, [.slice Ab0_0 b0.f0.length cb0_0, i6 b0.f1], 124⟩] [], I0⟩ I0 w.heap.size [⟨gb0, [.slice Ab0_0 b0.f0.length cb0_0, i6 b0.f1], 124⟩] [] w) (hlb0_0 : b0.f0.length ≤ cb0_0) (hrb0_0 : Rd (Ty.int .u8) I0 Ab0_0 b0.f0) (x : Int) (h : codec_decoder_bytess0.f k a1 a2 b0 = some (.inl x)) :
  Calls Tryd.prog 69 [pt gb0 0, i6 a1, i6 a2].toArray w fun e w' => e = .panicked (pch 121 x) ∧ Evo (SM [⟨gb0, [.slice Ab0_0 b0.f0.length cb0_0, i6 b0.f1], 124⟩] []) w w' ∧ I0.at_ w' :=
 codec_decoder_bytess0.callsX k I0 gb0 a1 a2 b0 Ab0_0 cb0_0 w hs hlb0_0 hrb0_0 (.inl x) h

end Go.Proofs.YtiomeaoeegikkaaDoor
namespace Go.Proofs.YtiomeaoeegikkaaDoor
open Go Go.Proofs.YtiomeaoeegikkaaDoor.RW
set_option linter.unusedVariables false
set_option maxRecDepth 100000
set_option maxHeartbeats 8000000

/-! ### codec_decoder_entrys0: function 64, (*armillary/codec.decoder).entry -/
noncomputable def K64s0_0 : Code := cBody Tryd.f64
def codec_decoder_entrys0.f (k : Nat) (b0 : S124) : Option (Int ⊕ (S25 × S124)) := (pb (codec_decoder_numbers0.f k 1 4 b0) (fun e1 => (some (Sum.inl e1))) fun t1 => (pb (codec_decoder_bytess0.f k 1 40 t1.2) (fun e2 => (some (Sum.inl e2))) fun t2 => (pb (codec_decoder_bytess0.f k 0 20000 t2.2) (fun e3 => (some (Sum.inl e3))) fun t3 => (some (Sum.inr ((⟨t1.1, strOfNums t2.1, t3.1⟩ : S25), t3.2))))))
def codec_decoder_entrys0.Post (S : Nat → Prop) (gb0 : Nat) (b0 : S124) (Ab0_0 : Option Addr) (cb0_0 : Nat) (I : Imm) (w : World) (r : S25 × S124) (v : Value) (w' : World) : Prop :=
 ∃ (J : Imm) (Ar0_2 : Option Addr) (cr0_2 : Nat) (csr0_2 : List Value) (Ar1_0 : Option Addr) (cr1_0 : Nat), v = .agg #[.int .i64 r.1.f0, .string r.1.f1, .slice Ar0_2 r.1.f2.length cr0_2] ∧ Sat ⟨w, S, I⟩ J w'.heap.size [⟨gb0, [.slice Ar1_0 r.2.f0.length cr1_0, .int .i64 r.2.f1], 124⟩] [orow 5 1 Ar0_2 r.1.f2.length cr0_2 csr0_2] w' ∧ Reps (Ty.int .u8) J r.1.f2 csr0_2 ∧ r.2.f0.length ≤ cr1_0 ∧ Rd (Ty.int .u8) J Ar1_0 r.2.f0
theorem codec_decoder_entrys0.callsX (k : Nat) (I0 : Imm) (gb0 : Nat) (b0 : S124) (Ab0_0 : Option Addr) (cb0_0 : Nat) (w : World) (hs : Sat ⟨w, SM [⟨gb0, [.slice Ab0_0 b0.f0.length cb0_0, i6 b0.f1], 124⟩] [], I0⟩ I0 w.heap.size [⟨gb0, [.slice Ab0_0 b0.f0.length cb0_0, i6 b0.f1], 124⟩] [] w) (hlb0_0 : b0.f0.length ≤ cb0_0) (hrb0_0 : Rd (Ty.int .u8) I0 Ab0_0 b0.f0) (r : Int ⊕ (S25 × S124)) (h : codec_decoder_entrys0.f k b0 = some r) :
  Calls Tryd.prog 64 [pt gb0 0].toArray w fun e w' => pan r (fun x => e = .panicked (pch 121 x) ∧ Evo (SM [⟨gb0, [.slice Ab0_0 b0.f0.length cb0_0, i6 b0.f1], 124⟩] []) w w' ∧ I0.at_ w') (fun r => ∃ v, e = .returned v ∧ codec_decoder_entrys0.Post (SM [⟨gb0, [.slice Ab0_0 b0.f0.length cb0_0, i6 b0.f1], 124⟩] []) gb0 b0 Ab0_0 cb0_0 I0 w r v w') := by
 have H : (pb (codec_decoder_numbers0.f k 1 4 b0) (fun e1 => (some (Sum.inl e1))) fun t1 => (pb (codec_decoder_bytess0.f k 1 40 t1.2) (fun e2 => (some (Sum.inl e2))) fun t2 => (pb (codec_decoder_bytess0.f k 0 20000 t2.2) (fun e3 => (some (Sum.inl e3))) fun t3 => (some (Sum.inr ((⟨t1.1, strOfNums t2.1, t3.1⟩ : S25), t3.2)))))) = some r := h
 clear h
 refine calls_bodyL Tryd.func64 (by kernel_rfl) 15 (by kernel_rfl) (by kernel_rfl) ⟨w, SM [⟨gb0, [.slice Ab0_0 b0.f0.length cb0_0, i6 b0.f1], 124⟩] [], I0⟩ I0 [⟨gb0, [.slice Ab0_0 b0.f0.length cb0_0, i6 b0.f1], 124⟩] [] [(0, pt gb0 0)] (by kernel_rfl) hs ?_
 generalize w.heap.size = nx0
 show OK _ K64s0_0 _ _ _ _ _ _ _ _
 refine OK.sr ?_
 refine RL.spt 1 [(2, pt nx0 0), (0, pt gb0 0)] (nx0 + 1) [⟨gb0, [.slice Ab0_0 b0.f0.length cb0_0, i6 b0.f1], 124⟩, ⟨nx0, [i6 0, .string (⟨#[]⟩ : ByteArray), .slice none 0 0], 25⟩] ?_
 refine OK.sr ?_
 refine RL.s 1 [(5, pt gb0 0), (2, pt nx0 0), (0, pt gb0 0)] ?_
 rcases pb_some H with ⟨e1, hA2, H⟩ | ⟨t1, hA1, H⟩
 ·refine RL.callE (L1 := [⟨gb0, [.slice Ab0_0 b0.f0.length cb0_0, i6 b0.f1], 124⟩]) (L2 := [⟨nx0, [i6 0, .string (⟨#[]⟩ : ByteArray), .slice none 0 0], 25⟩]) (X1 := []) (X2 := []) rfl rfl 68 [pt gb0 0, i6 1, i6 4] (some 6) (pch 121 e1) (by kernel_rfl) (by kernel_rfl) (fun w hs => codec_decoder_numbers0.callsP k I0 gb0 1 4 b0 Ab0_0 cb0_0 w hs hlb0_0 hrb0_0 e1 hA2) ?_
  refine QP.then_ ?_
  obtain rfl := Option.some.inj H
  exact QP.body rfl (fun w he hi => ⟨rfl, he, fun a v h => hi a v ((Imm.le_refl _) a v h)⟩)
 refine RL.callM (L1 := [⟨gb0, [.slice Ab0_0 b0.f0.length cb0_0, i6 b0.f1], 124⟩]) (L2 := [⟨nx0, [i6 0, .string (⟨#[]⟩ : ByteArray), .slice none 0 0], 25⟩]) (X1 := []) (X2 := []) rfl rfl 68 [pt gb0 0, i6 1, i6 4] (some 6) (fun w => codec_decoder_numbers0.Post (SM [⟨gb0, [.slice Ab0_0 b0.f0.length cb0_0, i6 b0.f1], 124⟩] []) gb0 1 4 b0 Ab0_0 cb0_0 I0 w t1) (by kernel_rfl) (by kernel_rfl) (fun w hs => codec_decoder_numbers0.calls k I0 gb0 1 4 b0 Ab0_0 cb0_0 w hs hlb0_0 hrb0_0 t1 hA1) ?_
 rintro w v w' hs ⟨I1, A1, c1, rfl, hg, hl1, hr1⟩
 have hi1 : Imm.le I0 I1 := hg.le
 refine RL.resume (L' := [⟨gb0, [.slice A1 t1.2.f0.length c1, i6 t1.2.f1], 124⟩, ⟨nx0, [i6 0, .string (⟨#[]⟩ : ByteArray), .slice none 0 0], 25⟩]) (X' := []) rfl (hs.outof hg) ?_
 clear hs hg
 generalize w'.heap.size = nx1
 clear w w'
 refine RL.st 1 [(3, i6 t1.1), (2, pt nx0 0), (0, pt gb0 0)] ?_
 refine OK.sr ?_
 refine RL.s 1 [(7, pt gb0 0), (3, i6 t1.1), (2, pt nx0 0), (0, pt gb0 0)] ?_
 rcases pb_some H with ⟨e2, hA4, H⟩ | ⟨t2, hA3, H⟩
 ·refine RL.callE (L1 := [⟨gb0, [.slice A1 t1.2.f0.length c1, i6 t1.2.f1], 124⟩]) (L2 := [⟨nx0, [i6 0, .string (⟨#[]⟩ : ByteArray), .slice none 0 0], 25⟩]) (X1 := []) (X2 := []) rfl rfl 69 [pt gb0 0, i6 1, i6 40] (some 8) (pch 121 e2) (by kernel_rfl) (by kernel_rfl) (fun w hs => codec_decoder_bytess0.callsP k I1 gb0 1 40 t1.2 A1 c1 w hs hl1 hr1 e2 hA4) ?_
  refine QP.then_ ?_
  obtain rfl := Option.some.inj H
  exact QP.body rfl (fun w he hi => ⟨rfl, he, fun a v h => hi a v (hi1 a v h)⟩)
 refine RL.callM (L1 := [⟨gb0, [.slice A1 t1.2.f0.length c1, i6 t1.2.f1], 124⟩]) (L2 := [⟨nx0, [i6 0, .string (⟨#[]⟩ : ByteArray), .slice none 0 0], 25⟩]) (X1 := []) (X2 := []) rfl rfl 69 [pt gb0 0, i6 1, i6 40] (some 8) (fun w => codec_decoder_bytess0.Post (SM [⟨gb0, [.slice A1 t1.2.f0.length c1, i6 t1.2.f1], 124⟩] []) gb0 1 40 t1.2 A1 c1 I1 w t2) (by kernel_rfl) (by kernel_rfl) (fun w hs => codec_decoder_bytess0.calls k I1 gb0 1 40 t1.2 A1 c1 w hs hl1 hr1 t2 hA3) ?_
 rintro w v w' hs ⟨I2, A2, c2, cs1, A3, c3, rfl, hg, hp1, hl2, hr2⟩
 have hi2 : Imm.le I1 I2 := hg.le
 refine RL.resume (L' := [⟨gb0, [.slice A3 t2.2.f0.length c3, i6 t2.2.f1], 124⟩, ⟨nx0, [i6 0, .string (⟨#[]⟩ : ByteArray), .slice none 0 0], 25⟩]) (X' := [orow 5 1 A2 t2.1.length c2 cs1]) rfl (hs.outof hg) ?_
 clear hs hg
 generalize w'.heap.size = nx2
 clear w w'
 refine RL.freeze (e := 5) (sz := 1) (S := A2) (n := t2.1.length) (cap := c2) 0 (by kernel_rfl) hp1 rfl (fun I3 hi3 hl3 hr3 => ?_)
 skip
 refine RL.ofBytes (src := 22) (dst := 9) (e := 5) (S := A2) (l := t2.1) (cap := c2) (some 9) (by kernel_rfl) (by kernel_rfl) hr3 (by kernel_rfl) (by kernel_rfl) (by kernel_rfl) (K' := [(9, .string (strOfNums t2.1)), (8, .slice A2 t2.1.length c2), (7, pt gb0 0), (3, i6 t1.1), (2, pt nx0 0), (0, pt gb0 0)]) (by kernel_rfl) ?_
 refine RL.st 1 [(4, .string (strOfNums t2.1)), (3, i6 t1.1), (2, pt nx0 0), (0, pt gb0 0)] ?_
 refine OK.sr ?_
 refine RL.s 3 [(12, pt gb0 0), (11, .string (strOfNums t2.1)), (10, i6 t1.1), (2, pt nx0 0)] ?_
 rcases pb_some H with ⟨e3, hA6, H⟩ | ⟨t3, hA5, H⟩
 ·refine RL.callE (L1 := [⟨gb0, [.slice A3 t2.2.f0.length c3, i6 t2.2.f1], 124⟩]) (L2 := [⟨nx0, [i6 0, .string (⟨#[]⟩ : ByteArray), .slice none 0 0], 25⟩]) (X1 := []) (X2 := []) rfl rfl 69 [pt gb0 0, i6 0, i6 20000] (some 13) (pch 121 e3) (by kernel_rfl) (by kernel_rfl) (fun w hs => codec_decoder_bytess0.callsP k I3 gb0 0 20000 t2.2 A3 c3 w hs hl2 (Rd.ext hi3 hr2) e3 hA6) ?_
  refine QP.then_ ?_
  obtain rfl := Option.some.inj H
  exact QP.body rfl (fun w he hi => ⟨rfl, he, fun a v h => hi a v ((Imm.le_trans (Imm.le_trans hi1 hi2) hi3) a v h)⟩)
 refine RL.callM (L1 := [⟨gb0, [.slice A3 t2.2.f0.length c3, i6 t2.2.f1], 124⟩]) (L2 := [⟨nx0, [i6 0, .string (⟨#[]⟩ : ByteArray), .slice none 0 0], 25⟩]) (X1 := []) (X2 := []) rfl rfl 69 [pt gb0 0, i6 0, i6 20000] (some 13) (fun w => codec_decoder_bytess0.Post (SM [⟨gb0, [.slice A3 t2.2.f0.length c3, i6 t2.2.f1], 124⟩] []) gb0 0 20000 t2.2 A3 c3 I3 w t3) (by kernel_rfl) (by kernel_rfl) (fun w hs => codec_decoder_bytess0.calls k I3 gb0 0 20000 t2.2 A3 c3 w hs hl2 (Rd.ext hi3 hr2) t3 hA5) ?_
 rintro w v w' hs ⟨I4, A4, c4, cs2, A5, c5, rfl, hg, hp2, hl4, hr4⟩
 have hi4 : Imm.le I3 I4 := hg.le
 refine RL.resume (L' := [⟨gb0, [.slice A5 t3.2.f0.length c5, i6 t3.2.f1], 124⟩, ⟨nx0, [i6 0, .string (⟨#[]⟩ : ByteArray), .slice none 0 0], 25⟩]) (X' := [orow 5 1 A4 t3.1.length c4 cs2]) rfl (hs.outof hg) ?_
 clear hs hg
 generalize w'.heap.size = nx3
 clear w w'
 refine RL.simP (K' := [(2, pt nx0 0)]) (nx' := nx3) (L' := [⟨gb0, [.slice A5 t3.2.f0.length c5, i6 t3.2.f1], 124⟩, ⟨nx0, [i6 t1.1, .string (strOfNums t2.1), .slice A4 t3.1.length c4], 25⟩]) [] (RFacts.nil _ _ _) 2 [.no, .l 1] (by kernel_rfl) (by kernel_rfl) ?_
 refine RL.nt ?_
 refine OK.re ?_
 obtain rfl := Option.some.inj H
 refine QN.body rfl [] (RFacts.nil _ _ _) (.l 1) (.agg #[i6 t1.1, .string (strOfNums t2.1), .slice A4 t3.1.length c4]) (by kernel_rfl) (by kernel_rfl) (by kernel_rfl) ?_ _ (.inr rfl)
 exact fun w' hs' => ⟨_, rfl, I4, A4, c4, cs2, A5, c5, rfl, ((hs'.fin.selB [0] (by kernel_rfl)).sel [0] (by kernel_rfl)), hp2, hl4, hr4⟩
theorem codec_decoder_entrys0.calls (k : Nat) (I0 : Imm) (gb0 : Nat) (b0 : S124) (Ab0_0 : Option Addr) (cb0_0 : Nat) (w : World) (hs : Sat ⟨w, SM [⟨gb0, [.slice Ab0_0 b0.f0.length cb0_0, i6 b0.f1], 124⟩] [], I0⟩ I0 w.heap.size [⟨gb0, [.slice Ab0_0 b0.f0.length cb0_0, i6 b0.f1], 124⟩] [] w) (hlb0_0 : b0.f0.length ≤ cb0_0) (hrb0_0 : Rd (Ty.int .u8) I0 Ab0_0 b0.f0) (r : S25 × S124) (h : codec_decoder_entrys0.f k b0 = some (.inr r)) :
  Calls Tryd.prog 64 [pt gb0 0].toArray w fun e w' => ∃ v, e = .returned v ∧ codec_decoder_entrys0.Post (SM [⟨gb0, [.slice Ab0_0 b0.f0.length cb0_0, i6 b0.f1], 124⟩] []) gb0 b0 Ab0_0 cb0_0 I0 w r v w' :=
 codec_decoder_entrys0.callsX k I0 gb0 b0 Ab0_0 cb0_0 w hs hlb0_0 hrb0_0 (.inr r) h
theorem codec_decoder_entrys0.callsP (k : Nat) (I0 : Imm) (gb0 : Nat) (b0 : S124) (Ab0_0 : Option Addr) (cb0_0 : Nat) (w : World) (hs : Sat ⟨w, SM [⟨gb0, [.slice Ab0_0 b0.f0.length cb0_0, i6 b0.f1], 124⟩] [], I0⟩ I0 w.heap.size [⟨gb0, [.slice Ab0_0 b0.f0.length cb0_0, i6 b0.f1], 124⟩] [] w) (hlb0_0 : b0.f0.length ≤ cb0_0) (hrb0_0 : Rd (Ty.int .u8) I0 Ab0_0 b0.f0) (x : Int) (h : codec_decoder_entrys0.f k b0 = some (.inl x)) :
  Calls Tryd.prog 64 [pt gb0 0].toArray w fun e w' => e = .panicked (pch 121 x) ∧ Evo (SM [⟨gb0, [.slice Ab0_0 b0.f0.length cb0_0, i6 b0.f1], 124⟩] []) w w' ∧ I0.at_ w' :=
 codec_decoder_entrys0.callsX k I0 gb0 b0 Ab0_0 cb0_0 w hs hlb0_0 hrb0_0 (.inl x) h

end Go.Proofs.YtiomeaoeegikkaaDoor
namespace Go.Proofs.YtiomeaoeegikkaaDoor
open Go Go.Proofs.YtiomeaoeegikkaaDoor.RW
set_option linter.unusedVariables false
set_option maxRecDepth 100000
set_option maxHeartbeats 8000000

/-! ### codec_DecodeEntry_1s0: function 63, armillary/codec.DecodeEntry$1 -/
noncomputable def K63s0_0 : Code := cBody Tryd.f63
def codec_DecodeEntry_1s0.f (k : Nat) (b0 : S124) (b1 : S25) : Option (Int ⊕ (S124 × S25)) := (pb (codec_decoder_entrys0.f k b0) (fun e1 => (some (Sum.inl e1))) fun t1 => (some (Sum.inr (t1.2, t1.1))))
def codec_DecodeEntry_1s0.Post (S : Nat → Prop) (gb0 : Nat) (gb1 : Nat) (b0 : S124) (Ab0_0 : Option Addr) (cb0_0 : Nat) (b1 : S25) (Ab1_2 : Option Addr) (cb1_2 : Nat) (I : Imm) (w : World) (r : S124 × S25) (v : Value) (w' : World) : Prop :=
 ∃ (J : Imm) (Ar0_0 : Option Addr) (cr0_0 : Nat) (Ar1_2 : Option Addr) (cr1_2 : Nat), v = .tuple #[] ∧ Sat ⟨w, S, I⟩ J w'.heap.size [⟨gb0, [.slice Ar0_0 r.1.f0.length cr0_0, .int .i64 r.1.f1], 124⟩, ⟨gb1, [.int .i64 r.2.f0, .string r.2.f1, .slice Ar1_2 r.2.f2.length cr1_2], 25⟩] [] w' ∧ r.1.f0.length ≤ cr0_0 ∧ Rd (Ty.int .u8) J Ar0_0 r.1.f0 ∧ r.2.f2.length ≤ cr1_2 ∧ Rd (Ty.int .u8) J Ar1_2 r.2.f2
theorem codec_DecodeEntry_1s0.callsX (k : Nat) (I0 : Imm) (gb0 : Nat) (gb1 : Nat) (b0 : S124) (Ab0_0 : Option Addr) (cb0_0 : Nat) (b1 : S25) (Ab1_2 : Option Addr) (cb1_2 : Nat) (w : World) (hs : Sat ⟨w, SM [⟨gb0, [.slice Ab0_0 b0.f0.length cb0_0, i6 b0.f1], 124⟩, ⟨gb1, [i6 b1.f0, .string b1.f1, .slice Ab1_2 b1.f2.length cb1_2], 25⟩] [], I0⟩ I0 w.heap.size [⟨gb0, [.slice Ab0_0 b0.f0.length cb0_0, i6 b0.f1], 124⟩, ⟨gb1, [i6 b1.f0, .string b1.f1, .slice Ab1_2 b1.f2.length cb1_2], 25⟩] [] w) (hlb0_0 : b0.f0.length ≤ cb0_0) (hrb0_0 : Rd (Ty.int .u8) I0 Ab0_0 b0.f0) (hlb1_2 : b1.f2.length ≤ cb1_2) (hrb1_2 : Rd (Ty.int .u8) I0 Ab1_2 b1.f2) (r : Int ⊕ (S124 × S25)) (h : codec_DecodeEntry_1s0.f k b0 b1 = some r) :
  Calls Tryd.prog 63 [pt gb0 0, pt gb1 0].toArray w fun e w' => pan r (fun x => e = .panicked (pch 121 x) ∧ Evo (SM [⟨gb0, [.slice Ab0_0 b0.f0.length cb0_0, i6 b0.f1], 124⟩, ⟨gb1, [i6 b1.f0, .string b1.f1, .slice Ab1_2 b1.f2.length cb1_2], 25⟩] []) w w' ∧ I0.at_ w') (fun r => ∃ v, e = .returned v ∧ codec_DecodeEntry_1s0.Post (SM [⟨gb0, [.slice Ab0_0 b0.f0.length cb0_0, i6 b0.f1], 124⟩, ⟨gb1, [i6 b1.f0, .string b1.f1, .slice Ab1_2 b1.f2.length cb1_2], 25⟩] []) gb0 gb1 b0 Ab0_0 cb0_0 b1 Ab1_2 cb1_2 I0 w r v w') := by
 have H : (pb (codec_decoder_entrys0.f k b0) (fun e1 => (some (Sum.inl e1))) fun t1 => (some (Sum.inr (t1.2, t1.1)))) = some r := h
 clear h
 refine calls_bodyL Tryd.func63 (by kernel_rfl) 5 (by kernel_rfl) (by kernel_rfl) ⟨w, SM [⟨gb0, [.slice Ab0_0 b0.f0.length cb0_0, i6 b0.f1], 124⟩, ⟨gb1, [i6 b1.f0, .string b1.f1, .slice Ab1_2 b1.f2.length cb1_2], 25⟩] [], I0⟩ I0 [⟨gb0, [.slice Ab0_0 b0.f0.length cb0_0, i6 b0.f1], 124⟩, ⟨gb1, [i6 b1.f0, .string b1.f1, .slice Ab1_2 b1.f2.length cb1_2], 25⟩] [] [(0, pt gb0 0), (1, pt gb1 0)] (by kernel_rfl) hs ?_
 generalize w.heap.size = nx0
 show OK _ K63s0_0 _ _ _ _ _ _ _ _
 refine OK.rg ?_
 refine RL.s 1 [(3, pt gb0 0), (1, pt gb1 0)] ?_
 rcases pb_some H with ⟨e1, hA2, H⟩ | ⟨t1, hA1, H⟩
 ·refine RL.callE (L1 := [⟨gb0, [.slice Ab0_0 b0.f0.length cb0_0, i6 b0.f1], 124⟩]) (L2 := [⟨gb1, [i6 b1.f0, .string b1.f1, .slice Ab1_2 b1.f2.length cb1_2], 25⟩]) (X1 := []) (X2 := []) rfl rfl 64 [pt gb0 0] (some 4) (pch 121 e1) (by kernel_rfl) (by kernel_rfl) (fun w hs => codec_decoder_entrys0.callsP k I0 gb0 b0 Ab0_0 cb0_0 w hs hlb0_0 hrb0_0 e1 hA2) ?_
  obtain rfl := Option.some.inj H
  exact QP.body rfl (fun w he hi => ⟨rfl, he, fun a v h => hi a v ((Imm.le_refl _) a v h)⟩)
 refine RL.callM (L1 := [⟨gb0, [.slice Ab0_0 b0.f0.length cb0_0, i6 b0.f1], 124⟩]) (L2 := [⟨gb1, [i6 b1.f0, .string b1.f1, .slice Ab1_2 b1.f2.length cb1_2], 25⟩]) (X1 := []) (X2 := []) rfl rfl 64 [pt gb0 0] (some 4) (fun w => codec_decoder_entrys0.Post (SM [⟨gb0, [.slice Ab0_0 b0.f0.length cb0_0, i6 b0.f1], 124⟩] []) gb0 b0 Ab0_0 cb0_0 I0 w t1) (by kernel_rfl) (by kernel_rfl) (fun w hs => codec_decoder_entrys0.calls k I0 gb0 b0 Ab0_0 cb0_0 w hs hlb0_0 hrb0_0 t1 hA1) ?_
 rintro w v w' hs ⟨I1, A1, c1, cs1, A2, c2, rfl, hg, hp1, hl1, hr1⟩
 have hi1 : Imm.le I0 I1 := hg.le
 refine RL.resume (L' := [⟨gb0, [.slice A2 t1.2.f0.length c2, i6 t1.2.f1], 124⟩, ⟨gb1, [i6 b1.f0, .string b1.f1, .slice Ab1_2 b1.f2.length cb1_2], 25⟩]) (X' := [orow 5 1 A1 t1.1.f2.length c1 cs1]) rfl (hs.outof hg) ?_
 clear hs hg
 generalize w'.heap.size = nx1
 clear w w'
 refine RL.simP (K' := []) (nx' := nx1) (L' := [⟨gb0, [.slice A2 t1.2.f0.length c2, i6 t1.2.f1], 124⟩, ⟨gb1, [i6 t1.1.f0, .string t1.1.f1, .slice A1 t1.1.f2.length c1], 25⟩]) [] (RFacts.nil _ _ _) 1 [.l 1] (by kernel_rfl) (by kernel_rfl) ?_
 refine RL.nil (by kernel_rfl) ?_
 refine QN.freeze (e := 5) (sz := 1) (S := A1) (n := t1.1.f2.length) (cap := c1) 0 (by kernel_rfl) hp1 rfl (fun I2 hi2 hl2 hr2 => ?_)
 skip
 obtain rfl := Option.some.inj H
 refine QN.body rfl [] (RFacts.nil _ _ _) (.no) (.tuple #[]) (by kernel_rfl) (by kernel_rfl) (by kernel_rfl) ?_ _ (.inl rfl)
 exact fun w' hs' => ⟨_, rfl, I2, A2, c2, A1, c1, rfl, ((hs'.fin.selB [0, 1] (by kernel_rfl)).sel [] (by kernel_rfl)), hl1, (Rd.ext hi2 hr1), hl2, hr2⟩
theorem codec_DecodeEntry_1s0.calls (k : Nat) (I0 : Imm) (gb0 : Nat) (gb1 : Nat) (b0 : S124) (Ab0_0 : Option Addr) (cb0_0 : Nat) (b1 : S25) (Ab1_2 : Option Addr) (cb1_2 : Nat) (w : World) (hs : Sat ⟨w, SM [⟨gb0, [.slice Ab0_0 b0.f0.length cb0_0, i6 b0.f1], 124⟩, ⟨gb1, [i6 b1.f0, .string b1.f1, .slice Ab1_2 b1.f2.length cb1_2], 25⟩] [], I0⟩ I0 w.heap.size [⟨gb0, [.slice Ab0_0 b0.f0.length cb0_0, i6 b0.f1], 124⟩, ⟨gb1, [i6 b1.f0, .string b1.f1, .slice Ab1_2 b1.f2.length cb1_2], 25⟩] [] w) (hlb0_0 : b0.f0.length ≤ cb0_0) (hrb0_0 : Rd (Ty.int .u8) I0 Ab0_0 b0.f0) (hlb1_2 : b1.f2.length ≤ cb1_2) (hrb1_2 : Rd (Ty.int .u8) I0 Ab1_2 b1.f2) (r : S124 × S25) (h : codec_DecodeEntry_1s0.f k b0 b1 = some (.inr r)) :
  Calls Tryd.prog 63 [pt gb0 0, pt gb1 0].toArray w fun e w' => ∃ v, e = .returned v ∧ codec_DecodeEntry_1s0.Post (SM [⟨gb0, [.slice Ab0_0 b0.f0.length cb0_0, i6 b0.f1], 124⟩, ⟨gb1, [i6 b1.f0, .string b1.f1, .slice Ab1_2 b1.f2.length cb1_2], 25⟩] []) gb0 gb1 b0 Ab0_0 cb0_0 b1 Ab1_2 cb1_2 I0 w r v w' :=
 codec_DecodeEntry_1s0.callsX k I0 gb0 gb1 b0 Ab0_0 cb0_0 b1 Ab1_2 cb1_2 w hs hlb0_0 hrb0_0 hlb1_2 hrb1_2 (.inr r) h
theorem codec_DecodeEntry_1s0.callsP (k : Nat) (I0 : Imm) (gb0 : Nat) (gb1 : Nat) (b0 : S124) (Ab0_0 : Option Addr) (cb0_0 : Nat) (b1 : S25) (Ab1_2 : Option Addr) (cb1_2 : Nat) (w : World) (hs : Sat ⟨w, SM [⟨gb0, [.slice Ab0_0 b0.f0.length cb0_0, i6 b0.f1], 124⟩, ⟨gb1, [i6 b1.f0, .string b1.f1, .slice Ab1_2 b1.f2.length cb1_2], 25⟩] [], I0⟩ I0 w.heap.size [⟨gb0, [.slice Ab0_0 b0.f0.length cb0_0, i6 b0.f1], 124⟩, ⟨gb1, [i6 b1.f0, .string b1.f1, .slice Ab1_2 b1.f2.length cb1_2], 25⟩] [] w) (hlb0_0 : b0.f0.length ≤ cb0_0) (hrb0_0 : Rd (Ty.int .u8) I0 Ab0_0 b0.f0) (hlb1_2 : b1.f2.length ≤ cb1_2) (hrb1_2 : Rd (Ty.int .u8) I0 Ab1_2 b1.f2) (x : Int) (h : codec_DecodeEntry_1s0.f k b0 b1 = some (.inl x)) :
  Calls Tryd.prog 63 [pt gb0 0, pt gb1 0].toArray w fun e w' => e = .panicked (pch 121 x) ∧ Evo (SM [⟨gb0, [.slice Ab0_0 b0.f0.length cb0_0, i6 b0.f1], 124⟩, ⟨gb1, [i6 b1.f0, .string b1.f1, .slice Ab1_2 b1.f2.length cb1_2], 25⟩] []) w w' ∧ I0.at_ w' :=
 codec_DecodeEntry_1s0.callsX k I0 gb0 gb1 b0 Ab0_0 cb0_0 b1 Ab1_2 cb1_2 w hs hlb0_0 hrb0_0 hlb1_2 hrb1_2 (.inl x) h

end Go.Proofs.YtiomeaoeegikkaaDoor
namespace Go.Proofs.YtiomeaoeegikkaaDoor
open Go Go.RowKit Go.Proofs.YtiomeaoeegikkaaDoor.RW
set_option linter.unusedVariables false
set_option maxRecDepth 100000
set_option maxHeartbeats 8000000

section
variable {P : Program} {c : Code} {Q : Exit → Act → World → Prop} {A : Fr} {K : List (Nat × Value)} {B : Base} {I : Imm} {nx : Nat} {L : List Blk} {X : List Res} {os : List Oper} {p : Nat}
theorem RL.defer (dd : Deferred) (hl : ready os p K none = true) (hx : (simQ P [] [] (execOp (evalK K) (os.getD p default)) .no []).map (·.1) = some (.defer dd))
    (k : RL P os Q (p + 1) ⟨A.n, dd :: A.D⟩ K B I nx L X) : RL P os Q p A K B I nx L X := by
  intro a w ha hs
  unfold ready at hl
  split at hl
  · cases hl
  · rename_i o ho
    simp only [Bool.and_eq_true, beq_iff_eq, List.all_eq_true] at hl
    obtain ⟨⟨hw, hk1, hk2⟩, hd⟩ := hl
    have hg : os.getD p default = o := by rw [List.getD_eq_getElem?_getD, ho]; rfl
    rw [drop_get (by rw [ho]; rfl), hg]
    simp only [wpList]
    rw [if_pos (wantedK_spec ha hw)]
    refine .inl ?_
    unfold Oper.wp
    rw [ha.exec hk1 (fun x hx => hk2 x (by simpa using hx))]
    rw [hg] at hx
    have hr : (execOp (evalK K) o).run P w = .ok (.defer dd) w := by
      cases hsim : simQ P [] [] (execOp (evalK K) o) .no [] with
      | none => rw [hsim] at hx; cases hx
      | some x =>
        obtain ⟨x1, es1⟩ := x
        rw [hsim] at hx
        simp only [Option.map_some, Option.some.injEq] at hx
        subst hx
        exact simQ_any _ _ _ _ hsim w
    rw [hr, Oper.upon_defer, hd]
    exact k _ w ⟨ha.size, by show dd :: a.defers = _; rw [ha.defers], ha.slot⟩ hs
/-- What was not handed to a call that has panicked. -/
theorem RW.Sat.kept {L1 L2 : List Blk} {w w' : World} (h : Sat B I nx (L1 ++ L2) [] w) (hev : Evo (SM L1 []) w w') (him : I.at_ w') : Sat B I w'.heap.size L2 [] w' := by
  have h0 : Sat B I nx (L1 ++ L2) ([] ++ []) w := h
  have c : Sat ⟨w, SM L1 [], I⟩ I w'.heap.size [] [] w' := ⟨hev, rfl, (fun b hb => by cases hb), (fun b hb => by cases hb), List.Pairwise.nil, (fun r hr => by cases hr), (fun r hr => by cases hr), List.Pairwise.nil, (fun r hr => by cases hr), him, (fun a v _ b hb => by cases hb), (fun a v _ r hr => by cases hr), Imm.le_refl _, fun _ _ h => .inl h⟩
  exact h0.outof c
theorem RL.callD {L1 L2 : List Blk} (hL : L = L1 ++ L2) (hX : X = []) (f : FuncId) (xs : List Value) (d : Option Tmp) (ch : List PanicEntry) (hl : ready os p K d = true)
    (h : (simQ P [] [] (execOp (evalK K) (os.getD p default)) .no []).map (·.1) = some (.enter f xs.toArray))
    (hc : ∀ w, Sat ⟨w, SM L1 [], I⟩ I w.heap.size L1 [] w → Calls P f xs.toArray w fun e w' => e = .panicked ch ∧ Evo (SM L1 []) w w' ∧ I.at_ w')
    (k : ∀ a w', Knows A K a → Sat B I w'.heap.size L2 [] w' → Q (.panic ch) a w') : RL P os Q p A K B I nx L X := by
  intro a w ha hs
  unfold ready at hl
  split at hl
  · cases hl
  · rename_i o ho
    simp only [Bool.and_eq_true, beq_iff_eq, List.all_eq_true] at hl
    obtain ⟨⟨hw, hk1, hk2⟩, hd⟩ := hl
    have hg : os.getD p default = o := by rw [List.getD_eq_getElem?_getD, ho]; rfl
    rw [drop_get (by rw [ho]; rfl), hg]
    simp only [wpList]
    rw [if_pos (wantedK_spec ha hw)]
    refine .inl ?_
    unfold Oper.wp
    rw [ha.exec hk1 (fun x hx => hk2 x (by simpa using hx))]
    rw [hg] at h
    have hr : (execOp (evalK K) o).run P w = .ok (.enter f xs.toArray) w := by
      cases hsim : simQ P [] [] (execOp (evalK K) o) .no [] with
      | none => rw [hsim] at h; cases h
      | some x =>
        obtain ⟨x1, es1⟩ := x
        rw [hsim] at h
        simp only [Option.map_some, Option.some.injEq] at h
        subst h
        exact simQ_any _ _ _ _ hsim w
    rw [hr, Oper.upon_enter]
    subst hL; subst hX
    have hs0 : Sat B I nx (L1 ++ L2) ([] ++ []) w := hs
    refine (hc w hs0.into).mono ?_
    rintro e w'' ⟨rfl, hev, him⟩
    exact k a w'' ha (hs.kept hev him)
/-- A function's body, from its start, with what it was handed and what it defers. -/
theorem calls_bodyD {f : FuncId} {fn : Func} {args : List Value} {w : World} {R : Ending → World → Prop} (hf : P.funcs[f]? = some fn) (hb : fn.body = some (cBody fn)) (n : Nat) (hn : fn.ntmps = n) (hle : Nat.ble args.length n = true) (B : Base) (I : Imm) (L : List Blk) (X : List Res)
    (K : List (Nat × Value)) (hK : K.map (fun p => args[p.1]?) = K.map (fun p => some p.2)) (hs : Sat B I w.heap.size L X w)
    (h : OK P (cBody fn) (bodyPostD P fn R) ⟨n, []⟩ K B I w.heap.size L X) : Calls P f args.toArray w R := by
  refine calls_of_wp_defers hf hb (h _ w ⟨?_, rfl, fun p hp => ?_⟩ hs)
  · have := Nat.le_of_ble_eq_true hle
    simp only [Array.size_append, List.size_toArray, Array.size_replicate]
    omega
  · obtain ⟨i, hi, rfl⟩ := List.getElem_of_mem hp
    have h1 := congrArg (·[i]?) hK
    simp only [List.getElem?_map, List.getElem?_eq_getElem hi, Option.map_some, Option.some.injEq] at h1
    have hlt := (List.getElem?_eq_some_iff.1 h1).1
    simp only
    rw [Array.getElem?_append_left (by simpa using hlt), List.getElem?_toArray]
    exact h1
end

/-- The deferred closure at a plain end: nothing. -/
theorem catch_idle (p q : Addr) (w : World) :
    CallsD Tryd.prog 67 #[.pointer (some p), .pointer (some q)] .returning w fun e u' w' => e = .returned (.tuple #[]) ∧ u' = .returning ∧ w' = w := by
  refine callsD_of_wpS Tryd.func67 rfl fun c₀ cs hu => ?_
  apply wpS_seq
  apply wpS_region
  simp [wpOpsS, go_sem, recoverD, hu, Tryd.ntmps67, Exit.thenS]
  apply wpS_seq
  apply wpS_region
  simp [wpOpsS, go_sem, Exit.thenS]
  refine wpS_cond (t := false) (by simp [Act.eval, Array.replicate]) ?_
  simp only [Bool.false_eq_true, if_false]
  refine wpS_of_wp (wp_skip ?_)
  cases c₀
  simp_all [bodyPostS, results, Tryd.results67, go_sem]

noncomputable def K67_0 : Code := cBody Tryd.f67
noncomputable def K67_7 : Code := cL (cR (cR K67_0))
noncomputable def K67_15 : Code := cL (cR (cL (cR (cL (cR (cR K67_0))))))
noncomputable def K67_17 : Code := cR (cR (cL (cR (cL (cR (cR K67_0))))))
noncomputable def O67_18 : List Oper := cOps (cR (cR (cL (cR (cR K67_0)))))
noncomputable def K67_20 : Code := cR (cR (cR K67_0))
noncomputable def a67_18n : List Nat := [0, 1, 0, 7]
theorem a67_18 : ancs O67_18 [] = a67_18n := by kernel_rfl
theorem a67_18o : drawOk O67_18 a67_18n 3 = true := by kernel_rfl
noncomputable def u67d1t (gb0 : Nat) (b0 : Int) : List Eb := [⟨2, gb0, 3, [i6 b0], [i6 0]⟩]
noncomputable def u67d1g  : List (Nat × ((Nat → Wt) → Value)) := []
noncomputable def u67d1q (nx0 : Nat) (gb0 : Nat) (gb1 : Nat) (b0 : Int) (b1 : Int) (x : Int) (u : Nat → Wt) : Option (List Value × List (Nat × Value) × List (Nat × Nat)) := qSim Tryd.prog [] [⟨gb1, [i6 b1], 30⟩, ⟨nx0, [i6 x], 121⟩] O67_18 ⟨18, []⟩ (exVl (u67d1t gb0 b0)) u67d1g u [.no, .l 1, .no] 0 (O67_18.take 3) [(14, .bool false), (3, pt nx0 0), (2, .iface 121 (.agg #[i6 x])), (0, pt gb0 0), (1, pt gb1 0)]
noncomputable def u67d1s (nx0 : Nat) (x : Int) (u : Nat → Wt) : List Value := [pt nx0 0, i6 x, undef]
noncomputable def u67d1f (nx0 : Nat) (gb0 : Nat) (gb1 : Nat) (x : Int) (i : Nat) (u : Nat → Wt) : List (Nat × Value) := foldPut ⟨18, []⟩ [(14, .bool false), (3, pt nx0 0), (2, .iface 121 (.agg #[i6 x])), (0, pt gb0 0), (1, pt gb1 0)] (O67_18.take i) (((u67d1s nx0 x) u).take i)
theorem u67d1v (nx0 : Nat) (gb0 : Nat) (gb1 : Nat) (b0 : Int) (b1 : Int) (x : Int) (u : Nat → Wt) : (u67d1q nx0 gb0 gb1 b0 b1 x u).map (fun x => (x.1, x.2.1)) = some ((u67d1s nx0 x) u, (u67d1f nx0 gb0 gb1 x 3) u) := by kernel_rfl
theorem u67d1e (nx0 : Nat) (gb0 : Nat) (gb1 : Nat) (b0 : Int) (b1 : Int) (x : Int) (u : Nat → Wt) : (u67d1q nx0 gb0 gb1 b0 b1 x u).map (fun x => x.2.2.map (·.1)) = (u67d1q nx0 gb0 gb1 b0 b1 x u).map (fun x => x.2.2.map (·.2)) := by kernel_rfl
theorem catch_walk (x : Int) (B : Base) (I : Imm) (nx0 gb0 gb1 : Nat) (b0 b1 : Int) (Q : Exit → Act → World → Prop)
    (k : ∀ a w, a.defers = [] → Sat B I (nx0 + 1) [⟨gb1, [i6 x], 30⟩, ⟨nx0, [i6 x], 121⟩, ⟨gb0, [i6 0], 3⟩] [] w → Q .normal a w) :
    OK Tryd.prog (cR K67_0) Q ⟨18, []⟩ [(2, .iface 121 (.agg #[i6 x])), (0, pt gb0 0), (1, pt gb1 0)] B I nx0 [⟨gb0, [i6 b0], 3⟩, ⟨gb1, [i6 b1], 30⟩] [] := by
 refine OK.sr ?_
 refine RL.st 2 [(7, .bool true), (2, .iface 121 (.agg #[i6 x])), (0, pt gb0 0), (1, pt gb1 0)] ?_
 refine OK.condT (.tmp 7) K67_7 K67_20 (by kernel_rfl) (by kernel_rfl) (by kernel_rfl) ?_
 refine OK.sr ?_
 refine RL.simP (K' := [(4, .bool true), (3, pt nx0 0), (2, .iface 121 (.agg #[i6 x])), (0, pt gb0 0), (1, pt gb1 0)]) (nx' := nx0 + 1) (L' := [⟨gb0, [i6 b0], 3⟩, ⟨gb1, [i6 b1], 30⟩, ⟨nx0, [i6 x], 121⟩]) [] (RFacts.nil _ _ _) 8 [.no, .no, .no, .no, .no, .no, .l 2, .no] (by kernel_rfl) (by kernel_rfl) ?_
 refine RL.nt ?_
 refine OK.sq ?_
 refine OK.sr ?_
 refine RL.st 2 [(14, .bool false), (3, pt nx0 0), (2, .iface 121 (.agg #[i6 x])), (0, pt gb0 0), (1, pt gb1 0)] ?_
 refine OK.condF (.tmp 14) K67_15 K67_17 (by kernel_rfl) (by kernel_rfl) (by kernel_rfl) ?_
 refine OK.skt ?_
 refine OK.arrange (L' := [⟨gb1, [i6 b1], 30⟩, ⟨nx0, [i6 x], 121⟩, ⟨gb0, [i6 b0], 3⟩]) (X' := []) [1, 2, 0] [] (by kernel_rfl) (by kernel_rfl) (by kernel_rfl) (by kernel_rfl) ?_
 refine OK.unkblk (L := [⟨gb1, [i6 b1], 30⟩, ⟨nx0, [i6 x], 121⟩]) (X := []) ⟨gb0, [i6 b0], 3⟩ ?_
 refine OK.norm (L' := [⟨gb1, [i6 b1], 30⟩, ⟨nx0, [i6 x], 121⟩]) (X' := [RW.kblk gb0 3 [i6 b0]]) rfl rfl rfl rfl ?_
 refine OK.drawnE (X := []) 5 3 O67_18 a67_18n (by kernel_rfl) (by kernel_rfl) (u67d1t gb0 b0) u67d1g [] (RI.nil _) [.no, .l 1, .no] a67_18 a67_18o (by kernel_rfl) (by kernel_rfl) (u67d1s nx0 x) (u67d1f nx0 gb0 gb1 x 3) (u67d1v nx0 gb0 gb1 b0 b1 x) (u67d1e nx0 gb0 gb1 b0 b1 x) [u67d1f nx0 gb0 gb1 x 2] (framesOk.cons (fun u => rfl) framesOk.nil) (EsG.cons (fun u nx => ⟨by kernel_rfl, by kernel_rfl⟩) EsG.nil) [] framesOk.nil ?_ rfl ?_
 ·refine Givens.nil
 intro u
 refine RL.norm (K' := [(17, i6 x), (16, pt nx0 0), (14, .bool false), (3, pt nx0 0), (2, .iface 121 (.agg #[i6 x])), (0, pt gb0 0), (1, pt gb1 0)]) (X' := [RW.kblk gb0 3 [i6 0]]) (by kernel_rfl) rfl rfl rfl ?_
 clear u
 refine RL.kblk (g := gb0) (ty := 3) (cs := [i6 0]) 0 (by kernel_rfl) ?_
 show RL _ _ _ 3 _ [(17, i6 x), (16, pt nx0 0), (14, .bool false), (3, pt nx0 0), (2, .iface 121 (.agg #[i6 x])), (0, pt gb0 0), (1, pt gb1 0)] _ _ _ [⟨gb1, [i6 b1], 30⟩, ⟨nx0, [i6 x], 121⟩, ⟨gb0, [i6 0], 3⟩] []
 refine RL.simP (K' := []) (nx' := nx0 + 1) (L' := [⟨gb1, [i6 x], 30⟩, ⟨nx0, [i6 x], 121⟩, ⟨gb0, [i6 0], 3⟩]) [] (RFacts.nil _ _ _) 1 [.l 0] (by kernel_rfl) (by kernel_rfl) ?_
 refine RL.nil (by kernel_rfl) ?_
 exact fun a w ha hs => k a w ha.defers hs
theorem results67_run (tmps : Array Value) (w : World) : (results Tryd.f67 tmps).run Tryd.prog w = .ok (.tuple #[]) w := by simp [results, Tryd.results67, go_sem]
theorem catch_hit (x : Int) (B : Base) (I : Imm) (nx0 gb0 gb1 : Nat) (b0 b1 : Int) (w : World) (hs : Sat B I nx0 [⟨gb0, [i6 b0], 3⟩, ⟨gb1, [i6 b1], 30⟩] [] w) :
    CallsD Tryd.prog 67 #[pt gb0 0, pt gb1 0] (.panicking (pch 121 x)) w fun e u' w' => e = .returned (.tuple #[]) ∧ settle u' = .returning ∧ Sat B I (nx0 + 1) [⟨gb1, [i6 x], 30⟩, ⟨nx0, [i6 x], 121⟩, ⟨gb0, [i6 0], 3⟩] [] w' := by
  refine callsD_of_wpS Tryd.func67 rfl fun c₀ cs hu => ?_
  unfold pch at hu
  apply wpS_seq
  apply wpS_region
  simp [wpOpsS, go_sem, recoverD, hu, Tryd.ntmps67, Exit.thenS]
  refine wpS_of_wp (c := cR K67_0) ?_
  refine catch_walk x B I nx0 gb0 gb1 b0 b1 _ ?_ _ w ⟨by simp, rfl, ?_⟩ hs
  · intro a w' hd hs'
    exact ⟨hd, _, rfl, .tuple #[], results67_run _ _, rfl, rfl, hs'⟩
  · intro q hq
    simp only [List.mem_cons, List.not_mem_nil, or_false] at hq
    rcases hq with rfl | rfl | rfl <;> rfl

noncomputable def c62 : Code := cBody Tryd.f62
theorem results62_run {B : Base} {I : Imm} {nx : Nat} {L : List Blk} {X : List Res} {w : World} (hs : Sat B I nx L X w) (n D) (g0 g1 : Nat) (v0 v1 : Value) (a : Act) (ha : Knows ⟨n, D⟩ [(4, pt g0 0), (5, pt g1 0)] a)
    (i j : Nat) (h0 : L[i]? = some ⟨g0, [v0], 3⟩) (h1 : L[j]? = some ⟨g1, [v1], 30⟩) : (results Tryd.f62 a.tmps).run Tryd.prog w = .ok (.tuple #[v0, v1]) w := by
  rw [results_eq (K := [(4, pt g0 0), (5, pt g1 0)]) (by kernel_rfl) ha]
  have c0 : w.cell? ⟨g0, 0, none⟩ = some v0 := hs.cell h0 rfl rfl
  have c1 : w.cell? ⟨g1, 0, none⟩ = some v1 := hs.cell h1 rfl rfl
  obtain ⟨es, hsim, hes⟩ : ∃ es, simQ Tryd.prog [(⟨g0, 0, none⟩, v0), (⟨g1, 0, none⟩, v1)] [] (resultsK Tryd.f62 [(4, pt g0 0), (5, pt g1 0)]) (.r 0) [] = some (.tuple #[v0, v1], es) ∧ eqs es := ⟨[(g1, g1), (0, 0), (g0, g0), (0, 0)], by kernel_rfl, fun p hp => by simp only [List.mem_cons, List.not_mem_nil, or_false] at hp; rcases hp with rfl | rfl | rfl | rfl <;> rfl⟩
  exact simQ_at (L := []) (fun b hb => by cases hb) (fun r hr => by simp only [List.mem_cons, List.not_mem_nil, or_false] at hr; rcases hr with rfl | rfl <;> assumption) _ _ _ _ _ hsim hes
def xz : List Value := [i6 0, .string (⟨#[]⟩ : ByteArray), .slice none 0 0]
theorem decode_calls (k : Nat) (I0 : Imm) (gx : Nat) (A : Option Addr) (c : Nat) (b : List Int) (hl : b.length ≤ c) (hr : Rd (Ty.int .u8) I0 A b) (w : World) (hs : Sat ⟨w, SM [⟨gx, xz, 25⟩] [], I0⟩ I0 w.heap.size [⟨gx, xz, 25⟩] [] w)
    (r : Int ⊕ (S124 × S25)) (h : codec_DecodeEntry_1s0.f k ⟨b, 0⟩ z25 = some r) :
    Calls Tryd.prog 62 [.slice A b.length c, .func (.func 63) #[] #[pt gx 0]].toArray w fun e w' => pan r (fun x => e = .returned (.tuple #[i6 0, i6 x]) ∧ Evo (SM [⟨gx, xz, 25⟩] []) w w' ∧ I0.at_ w')
      (fun r => e = .returned (.tuple #[i6 r.1.f1, i6 0]) ∧ ∃ (J : Imm) (A1 : Option Addr) (c1 : Nat), Sat ⟨w, SM [⟨gx, xz, 25⟩] [], I0⟩ J w'.heap.size [⟨gx, [i6 r.2.f0, .string r.2.f1, .slice A1 r.2.f2.length c1], 25⟩] [] w' ∧ r.2.f2.length ≤ c1 ∧ Rd (Ty.int .u8) J A1 r.2.f2) := by
  refine calls_bodyD Tryd.func62 (by kernel_rfl) 18 (by kernel_rfl) (by kernel_rfl) ⟨w, SM [⟨gx, xz, 25⟩] [], I0⟩ I0 [⟨gx, xz, 25⟩] [] [(0, .slice A b.length c), (1, .func (.func 63) #[] #[pt gx 0])] (by kernel_rfl) hs ?_
  generalize w.heap.size = nx0
  show OK _ c62 _ _ _ _ _ _ _ _
  refine OK.sr ?_
  refine RL.simP (K' := [(4, pt nx0 0), (5, pt (nx0 + 1) 0), (0, .slice A b.length c), (1, .func (.func 63) #[] #[pt gx 0])]) (nx' := nx0 + 2) (L' := [⟨gx, xz, 25⟩, ⟨nx0, [i6 0], 3⟩, ⟨nx0 + 1, [i6 0], 30⟩]) [] (RFacts.nil _ _ _) 2 [.no, .no] (by kernel_rfl) (by kernel_rfl) ?_
  refine RL.nt ?_
  refine OK.sr ?_
  refine RL.s 1 [(7, .func (.func 67) #[] #[pt nx0 0, pt (nx0 + 1) 0]), (4, pt nx0 0), (5, pt (nx0 + 1) 0), (0, .slice A b.length c), (1, .func (.func 63) #[] #[pt gx 0])] ?_
  refine RL.defer { target := .fn (.func 67) #[pt nx0 0, pt (nx0 + 1) 0], args := #[] } (by kernel_rfl) (by kernel_rfl) ?_
  refine RL.nt ?_
  refine OK.sr ?_
  refine RL.simP (K' := [(6, pt (nx0 + 2) 0), (4, pt nx0 0), (5, pt (nx0 + 1) 0), (1, .func (.func 63) #[] #[pt gx 0])]) (nx' := nx0 + 3) (L' := [⟨gx, xz, 25⟩, ⟨nx0, [i6 0], 3⟩, ⟨nx0 + 1, [i6 0], 30⟩, ⟨nx0 + 2, [.slice A b.length c, i6 0], 124⟩]) [] (RFacts.nil _ _ _) 4 [.no, .no, .no, .no] (by kernel_rfl) (by kernel_rfl) ?_
  refine RL.nt ?_
  refine OK.sr ?_
  refine RL.s 2 [(11, .func (.func 63) #[] #[pt gx 0]), (12, pt (nx0 + 2) 0), (6, pt (nx0 + 2) 0), (4, pt nx0 0), (5, pt (nx0 + 1) 0)] ?_
  refine RL.arrange (L' := [⟨nx0 + 2, [.slice A b.length c, i6 0], 124⟩, ⟨gx, xz, 25⟩, ⟨nx0, [i6 0], 3⟩, ⟨nx0 + 1, [i6 0], 30⟩]) (X' := []) [3, 0, 1, 2] [] (by kernel_rfl) (by kernel_rfl) (by kernel_rfl) (by kernel_rfl) ?_
  rcases r with x | r
  · refine RL.callD (L1 := [⟨nx0 + 2, [.slice A b.length c, i6 0], 124⟩, ⟨gx, xz, 25⟩]) (L2 := [⟨nx0, [i6 0], 3⟩, ⟨nx0 + 1, [i6 0], 30⟩]) rfl rfl 63 [pt (nx0 + 2) 0, pt gx 0] (some 13) (pch 121 x) (by kernel_rfl) (by kernel_rfl) (fun w hs => codec_DecodeEntry_1s0.callsP k I0 (nx0 + 2) gx ⟨b, 0⟩ A c z25 none 0 w hs hl hr (Nat.le_refl _) (Rd.nil _ _ _) x h) ?_
    intro a w' ha hs'
    show Leaves Tryd.prog Tryd.f62 a.tmps _ a.defers (.panicking (pch 121 x)) w'
    rw [ha.defers]
    refine leaves_cons (f := 67) (args := #[pt nx0 0, pt (nx0 + 1) 0]) (by simp) (by simp [go_sem]) ?_
    refine (catch_hit x _ I0 _ nx0 (nx0 + 1) 0 0 w' hs').mono ?_
    rintro e u' w'' ⟨rfl, hu, hs''⟩
    show Leaves Tryd.prog Tryd.f62 a.tmps _ [] (settle u') w''
    rw [hu]
    exact ⟨_, results62_run hs'' _ _ nx0 (nx0 + 1) (i6 0) (i6 x) a (knows_sub ha (by kernel_rfl)) 2 0 rfl rfl, rfl, hs''.evo, hs''.im⟩
  · refine RL.callM (L1 := [⟨nx0 + 2, [.slice A b.length c, i6 0], 124⟩, ⟨gx, xz, 25⟩]) (L2 := [⟨nx0, [i6 0], 3⟩, ⟨nx0 + 1, [i6 0], 30⟩]) (X1 := []) (X2 := []) rfl rfl 63 [pt (nx0 + 2) 0, pt gx 0] (some 13) (fun w => codec_DecodeEntry_1s0.Post (SM [⟨nx0 + 2, [.slice A b.length c, i6 0], 124⟩, ⟨gx, xz, 25⟩] []) (nx0 + 2) gx ⟨b, 0⟩ A c z25 none 0 I0 w r) (by kernel_rfl) (by kernel_rfl) (fun w hs => codec_DecodeEntry_1s0.calls k I0 (nx0 + 2) gx ⟨b, 0⟩ A c z25 none 0 w hs hl hr (Nat.le_refl _) (Rd.nil _ _ _) r h) ?_
    rintro w v w' hs ⟨J, A0, c0, A1, c1, rfl, hg, hl0, hr0, hl1, hr1⟩
    refine RL.resume (L' := [⟨nx0 + 2, [.slice A0 r.1.f0.length c0, i6 r.1.f1], 124⟩, ⟨gx, [i6 r.2.f0, .string r.2.f1, .slice A1 r.2.f2.length c1], 25⟩, ⟨nx0, [i6 0], 3⟩, ⟨nx0 + 1, [i6 0], 30⟩]) (X' := []) rfl (hs.outof hg) ?_
    clear hs hg
    generalize w'.heap.size = nx1
    clear w w'
    refine RL.nt ?_
    refine OK.sr ?_
    refine RL.simP (K' := [(17, i6 r.1.f1), (4, pt nx0 0), (5, pt (nx0 + 1) 0)]) (nx' := nx1) (L' := [⟨nx0 + 2, [.slice A0 r.1.f0.length c0, i6 r.1.f1], 124⟩, ⟨gx, [i6 r.2.f0, .string r.2.f1, .slice A1 r.2.f2.length c1], 25⟩, ⟨nx0, [i6 0], 3⟩, ⟨nx0 + 1, [i6 0], 30⟩]) [] (RFacts.nil _ _ _) 4 [.no, .no, .no, .l 0] (by kernel_rfl) (by kernel_rfl) ?_
    refine RL.simP (K' := [(4, pt nx0 0), (5, pt (nx0 + 1) 0)]) (nx' := nx1) (L' := [⟨nx0 + 2, [.slice A0 r.1.f0.length c0, i6 r.1.f1], 124⟩, ⟨gx, [i6 r.2.f0, .string r.2.f1, .slice A1 r.2.f2.length c1], 25⟩, ⟨nx0, [i6 r.1.f1], 3⟩, ⟨nx0 + 1, [i6 0], 30⟩]) [] (RFacts.nil _ _ _) 2 [.l 2, .l 3] (by kernel_rfl) (by kernel_rfl) ?_
    refine RL.nt ?_
    refine OK.re ?_
    intro a w' ha hs'
    show Leaves Tryd.prog Tryd.f62 a.tmps _ a.defers .returning w'
    rw [ha.defers]
    refine leaves_cons (f := 67) (args := #[pt nx0 0, pt (nx0 + 1) 0]) (by simp) (by simp [go_sem]) ?_
    refine (catch_idle ⟨nx0, 0, none⟩ ⟨nx0 + 1, 0, none⟩ w').mono ?_
    rintro e u' w'' ⟨rfl, rfl, rfl⟩
    show Leaves Tryd.prog Tryd.f62 a.tmps _ [] .returning w''
    exact ⟨_, results62_run hs' _ _ nx0 (nx0 + 1) (i6 r.1.f1) (i6 0) a ha 2 3 rfl rfl, rfl, J, A1, c1, (hs'.fin.selB [1] (by kernel_rfl)), hl1, hr1⟩

def codec_DecodeEntry.f (k : Nat) (a0 : List Int) : Option (S25 × Int × Int) := (codec_DecodeEntry_1s0.f k ⟨a0, 0⟩ z25).bind fun t => match t with
  | .inl x => if x = 0 then none else some (z25, 0, x)
  | .inr r => some (r.2, r.1.f1, 0)
def codec_DecodeEntry.Post (I : Imm) (w : World) (r : S25 × Int × Int) (v : Value) (w' : World) : Prop :=
  ∃ (J : Imm) (A0_2 : Option Addr) (c0_2 : Nat), v = .tuple #[.agg #[.int .i64 r.1.f0, .string r.1.f1, .slice A0_2 r.1.f2.length c0_2], .int .i64 r.2.1, .int .i64 r.2.2] ∧ Got w w' I J [] ∧ r.1.f2.length ≤ c0_2 ∧ Rd (Ty.int .u8) J A0_2 r.1.f2
noncomputable def c56 : Code := cBody Tryd.f56
noncomputable def c56d : Code := cL (cR (cR (cR c56)))
theorem codec_DecodeEntry.calls (k : Nat) (I0 : Imm) (a0 : List Int) (Ap0 : Option Addr) (cp0 : Nat) (w : World) (hI : I0.at_ w) (hlp0 : a0.length ≤ cp0) (hrp0 : Rd (Ty.int .u8) I0 Ap0 a0) (r : S25 × Int × Int) (h : codec_DecodeEntry.f k a0 = some r) :
    Calls Tryd.prog 56 [.slice Ap0 a0.length cp0].toArray w fun e w' => ∃ v, e = .returned v ∧ codec_DecodeEntry.Post I0 w r v w' := by
  obtain ⟨t, hA, H⟩ := Option.bind_eq_some_iff.mp h
  refine calls_body Tryd.func56 (by kernel_rfl) 20 (by kernel_rfl) (by kernel_rfl) ⟨w, fun _ => False, I0⟩ I0 [] [(0, .slice Ap0 a0.length cp0)] (by kernel_rfl) (Sat.start w _ I0 hI) ?_
  generalize w.heap.size = nx0
  show OK _ c56 _ _ _ _ _ _ _ _
  refine OK.sr ?_
  refine RL.simP (K' := [(2, pt nx0 0), (0, .slice Ap0 a0.length cp0)]) (nx' := nx0 + 1) (L' := [⟨nx0, xz, 25⟩]) [] (RFacts.nil _ _ _) 3 [.no, .no, .no] (by kernel_rfl) (by kernel_rfl) ?_
  refine RL.nt ?_
  refine OK.sr ?_
  refine RL.simP (K' := [(5, pt (nx0 + 1) 0), (2, pt nx0 0), (0, .slice Ap0 a0.length cp0)]) (nx' := nx0 + 2) (L' := [⟨nx0, xz, 25⟩, ⟨nx0 + 1, xz, 25⟩]) [] (RFacts.nil _ _ _) 1 [.no] (by kernel_rfl) (by kernel_rfl) ?_
  refine RL.nt ?_
  refine OK.sr ?_
  refine RL.s 2 [(9, .slice Ap0 a0.length cp0), (10, .func (.func 63) #[] #[pt (nx0 + 1) 0]), (5, pt (nx0 + 1) 0), (2, pt nx0 0)] ?_
  refine RL.arrange (L' := [⟨nx0 + 1, xz, 25⟩, ⟨nx0, xz, 25⟩]) (X' := []) [1, 0] [] (by kernel_rfl) (by kernel_rfl) (by kernel_rfl) (by kernel_rfl) ?_
  rcases t with x | t
  · have hx : x ≠ 0 := fun e => by simp only [e, if_true] at H; cases H
    simp only [if_neg hx] at H
    obtain rfl := Option.some.inj H
    refine RL.callM (L1 := [⟨nx0 + 1, xz, 25⟩]) (L2 := [⟨nx0, xz, 25⟩]) (X1 := []) (X2 := []) rfl rfl 62 [.slice Ap0 a0.length cp0, .func (.func 63) #[] #[pt (nx0 + 1) 0]] (some 11) (fun w v w' => v = .tuple #[i6 0, i6 x] ∧ Evo (SM [⟨nx0 + 1, xz, 25⟩] []) w w' ∧ I0.at_ w') (by kernel_rfl) (by kernel_rfl)
      (fun w hs => (decode_calls k I0 (nx0 + 1) Ap0 cp0 a0 hlp0 hrp0 w hs (.inl x) hA).mono (fun e w' ⟨h1, h2, h3⟩ => ⟨_, h1, rfl, h2, h3⟩)) ?_
    rintro w v w' hs ⟨rfl, hev, him⟩
    refine RL.resume (L' := [⟨nx0, xz, 25⟩]) (X' := []) rfl (Sat.kept hs hev him) ?_
    clear hs hev him
    generalize w'.heap.size = nx1
    clear w w'
    refine RL.s 5 [(7, i6 x), (2, pt nx0 0)] ?_
    refine RL.nt ?_
    refine OK.sq ?_
    refine OK.sr ?_
    refine RL.st 2 [(15, .bool (x != 0)), (7, i6 x), (2, pt nx0 0)] ?_
    refine OK.cd (x != 0) (fun hb => ?_) (fun hb => absurd (bne_eq_false_iff_eq.1 hb) hx)
    refine OK.sr ?_
    refine RL.simP (K' := [(4, i6 x), (3, i6 0), (2, pt nx0 0)]) (nx' := nx1) (L' := [⟨nx0, xz, 25⟩]) [] (RFacts.nil _ _ _) 5 [.no, .no, .l 0, .no, .no] (by kernel_rfl) (by kernel_rfl) ?_
    refine RL.nt ?_
    refine OK.re ?_
    refine QN.thenR ?_
    refine QN.body rfl [] (RFacts.nil _ _ _) (.l 0) (.tuple #[.agg xz.toArray, i6 0, i6 x]) (by kernel_rfl) (by kernel_rfl) (by kernel_rfl) ?_ _ (.inr rfl)
    exact fun w' hs' => ⟨_, rfl, I0, none, 0, rfl, hs'.got _ (List.nil_sublist _), Nat.le_refl _, Rd.nil _ _ _⟩
  · obtain rfl := Option.some.inj H
    refine RL.callM (L1 := [⟨nx0 + 1, xz, 25⟩]) (L2 := [⟨nx0, xz, 25⟩]) (X1 := []) (X2 := []) rfl rfl 62 [.slice Ap0 a0.length cp0, .func (.func 63) #[] #[pt (nx0 + 1) 0]] (some 11) (fun w v w' => v = .tuple #[i6 t.1.f1, i6 0] ∧ ∃ (J : Imm) (A1 : Option Addr) (c1 : Nat), Sat ⟨w, SM [⟨nx0 + 1, xz, 25⟩] [], I0⟩ J w'.heap.size [⟨nx0 + 1, [i6 t.2.f0, .string t.2.f1, .slice A1 t.2.f2.length c1], 25⟩] [] w' ∧ t.2.f2.length ≤ c1 ∧ Rd (Ty.int .u8) J A1 t.2.f2) (by kernel_rfl) (by kernel_rfl)
      (fun w hs => (decode_calls k I0 (nx0 + 1) Ap0 cp0 a0 hlp0 hrp0 w hs (.inr t) hA).mono (fun e w' ⟨h1, h2⟩ => ⟨_, h1, rfl, h2⟩)) ?_
    rintro w v w' hs ⟨rfl, J, A1, c1, hg, hl1, hr1⟩
    refine RL.resume (L' := [⟨nx0 + 1, [i6 t.2.f0, .string t.2.f1, .slice A1 t.2.f2.length c1], 25⟩, ⟨nx0, xz, 25⟩]) (X' := []) rfl (hs.outof hg) ?_
    clear hs hg
    generalize w'.heap.size = nx1
    clear w w'
    refine RL.s 5 [(6, i6 t.1.f1), (7, i6 0), (5, pt (nx0 + 1) 0), (2, pt nx0 0)] ?_
    refine RL.nt ?_
    refine OK.sq ?_
    refine OK.sr ?_
    refine RL.st 2 [(15, .bool false), (6, i6 t.1.f1), (5, pt (nx0 + 1) 0), (2, pt nx0 0)] ?_
    refine OK.cd false (fun hb => by cases hb) (fun _ => ?_)
    refine OK.skt ?_
    refine OK.sr ?_
    refine RL.simP (K' := [(18, .agg #[i6 t.2.f0, .string t.2.f1, .slice A1 t.2.f2.length c1]), (6, i6 t.1.f1), (2, pt nx0 0)]) (nx' := nx1) (L' := [⟨nx0 + 1, [i6 t.2.f0, .string t.2.f1, .slice A1 t.2.f2.length c1], 25⟩, ⟨nx0, xz, 25⟩]) [] (RFacts.nil _ _ _) 1 [.l 0] (by kernel_rfl) (by kernel_rfl) ?_
    refine RL.simP (K' := [(4, i6 0), (3, i6 t.1.f1), (2, pt nx0 0)]) (nx' := nx1) (L' := [⟨nx0 + 1, [i6 t.2.f0, .string t.2.f1, .slice A1 t.2.f2.length c1], 25⟩, ⟨nx0, [i6 t.2.f0, .string t.2.f1, .slice A1 t.2.f2.length c1], 25⟩]) [] (RFacts.nil _ _ _) 4 [.no, .l 1, .no, .no] (by kernel_rfl) (by kernel_rfl) ?_
    refine RL.nt ?_
    refine OK.re ?_
    refine QN.body rfl [] (RFacts.nil _ _ _) (.l 1) (.tuple #[.agg #[i6 t.2.f0, .string t.2.f1, .slice A1 t.2.f2.length c1], i6 t.1.f1, i6 0]) (by kernel_rfl) (by kernel_rfl) (by kernel_rfl) ?_ _ (.inr rfl)
    exact fun w' hs' => ⟨_, rfl, J, A1, c1, rfl, hs'.got _ (List.nil_sublist _), hl1, hr1⟩
end Go.Proofs.YtiomeaoeegikkaaDoor
namespace Go.Proofs.YtiomeaoeegikkaaDoor.led
open Go Go.Proofs.YtiomeaoeegikkaaDoor Go.Proofs.YtiomeaoeegikkaaDoor.RW
set_option linter.unusedVariables false
set_option maxRecDepth 100000
theorem clr128 : ∀ b : Nat, b < 256 → (b &&& 127) = b % 128 := by decide
theorem bClr8 (b : Nat) (h : b < 256) : bClr .u8 (b : Int) 128 = ((b % 128 : Nat) : Int) := by
  show W .u8 (((BitVec.ofInt 8 (b : Int) &&& ~~~ 128#8).toNat : Nat) : Int) = _
  rw [BitVec.ofInt_natCast, W8, BitVec.toNat_and, BitVec.toNat_ofNat]
  show ((b % 256 &&& 127 : Nat) : Int) % 256 = _
  rw [Nat.mod_eq_of_lt h, clr128 b h]
  omega
theorem or_add (a c j : Nat) (ha : a < 2 ^ j) : a ||| c * 2 ^ j = a + c * 2 ^ j := by
  have := Nat.shiftLeft_add_eq_or_of_lt (i := j) (a := c) ha
  rw [Nat.shiftLeft_eq] at this
  rw [Nat.or_comm, ← this, Nat.add_comm]
theorem bOr64 (a b : Nat) (ha : a < 18446744073709551616) (hb : b < 18446744073709551616) (h : a ||| b < 18446744073709551616) : bOr .u64 (a : Int) (b : Int) = ((a ||| b : Nat) : Int) := by
  show W .u64 (((BitVec.ofInt 64 (a : Int) ||| BitVec.ofInt 64 (b : Int)).toNat : Nat) : Int) = _
  rw [BitVec.ofInt_natCast, BitVec.ofInt_natCast, WU64, BitVec.toNat_or, BitVec.toNat_ofNat, BitVec.toNat_ofNat, Nat.mod_eq_of_lt ha, Nat.mod_eq_of_lt hb]
  omega
theorem or_step (a b j : Nat) (hj : j ≤ 14) (ha : a < 2 ^ j) (hb : b < 256) : bOr .u64 (a : Int) (W .u64 ((W .u64 (bClr .u8 (b : Int) 128)) * 2 ^ (min ((j : Nat) : Int).toNat 64))) = ((a + b % 128 * 2 ^ j : Nat) : Int) := by
  have hp : 2 ^ j ≤ 16384 := (Nat.pow_le_pow_right (n := 2) (by decide) hj : 2 ^ j ≤ 2 ^ 14)
  have hm : b % 128 * 2 ^ j ≤ 127 * 16384 := Nat.mul_le_mul (by omega) hp
  rw [bClr8 b hb, WU64 ((b % 128 : Nat) : Int), show ((b % 128 : Nat) : Int) % 18446744073709551616 = ((b % 128 : Nat) : Int) from by omega, tn, Nat.min_eq_left (by omega)]
  rw [show ((b % 128 : Nat) : Int) * 2 ^ j = ((b % 128 * 2 ^ j : Nat) : Int) from by push_cast; rfl, WU64, show ((b % 128 * 2 ^ j : Nat) : Int) % 18446744073709551616 = ((b % 128 * 2 ^ j : Nat) : Int) from by omega]
  rw [bOr64 _ _ (by omega) (by omega) (by rw [or_add _ _ _ ha]; omega), or_add _ _ _ ha]
/-- The number that stands for u. -/
theorem zag (n : Nat) (h : n < 10000000) : bXor .i64 (W .i64 (Int.fdiv ((2 * n : Nat) : Int) 2)) (W .i64 (0 - (W .i64 (bAnd .u64 ((2 * n : Nat) : Int) 1)))) = (n : Int) := by
  have h1 : bAnd .u64 ((2 * n : Nat) : Int) 1 = ((0 : Nat) : Int) := by
    show W .u64 (((BitVec.ofInt 64 ((2 * n : Nat) : Int) &&& 1#64).toNat : Nat) : Int) = _
    rw [BitVec.ofInt_natCast, WU64, BitVec.toNat_and, BitVec.toNat_ofNat]
    show ((2 * n % 18446744073709551616 &&& 1 : Nat) : Int) % 18446744073709551616 = _
    rw [Nat.and_one_is_mod, Nat.mod_eq_of_lt (a := 2 * n) (b := 18446744073709551616) (by omega)]
    omega
  rw [h1, Int.fdiv_eq_ediv_of_nonneg _ (by decide), show ((2 * n : Nat) : Int) / 2 = (n : Int) from by omega, W64 (x := ((0 : Nat) : Int)) (by omega) (by omega), W64 (x := (n : Int)) (by omega) (by omega), W64 (x := 0 - ((0 : Nat) : Int)) (by omega) (by omega)]
  show W .i64 (((BitVec.ofInt 64 (n : Int) ^^^ BitVec.ofInt 64 (0 - ((0 : Nat) : Int))).toNat : Nat) : Int) = _
  rw [show (0 : Int) - ((0 : Nat) : Int) = ((0 : Nat) : Int) from rfl, BitVec.ofInt_natCast, BitVec.ofInt_natCast, BitVec.toNat_xor, BitVec.toNat_ofNat, BitVec.toNat_ofNat, Nat.zero_mod, Nat.xor_zero, Nat.mod_eq_of_lt (by omega), W64 (by omega) (by omega)]
theorem drop_get {l m : List Int} {p : Nat} {x : Int} (h : l.drop p = x :: m) : p < l.length ∧ l.getD p 0 = x ∧ l.drop (p + 1) = m := by
  have hp : p < l.length := by
    by_cases hp : p < l.length
    · exact hp
    · rw [List.drop_eq_nil_of_le (by omega)] at h; cases h
  rw [List.drop_eq_getElem_cons hp] at h
  injection h with h1 h2
  exact ⟨hp, by rw [List.getD_eq_getElem?_getD, List.getElem?_eq_getElem hp, ← h1]; rfl, h2⟩
theorem vd_l1 (l rest : List Int) (q : Int) (n : Nat) (hl : l.length < 1000000000) (hn : n < 1000000) : ∀ (i v j a p : Nat), i + j = 3 → v < 2 ^ (7 * i) → 1 ≤ i → a < 2 ^ (7 * j) → a + v * 2 ^ (7 * j) = 2 * n → (0 < j → v ≠ 0) → l.drop p = vg v ++ rest →
    Ev (fun k => codec_decoder_varints0.l1 ⟨l, q⟩ k (p : Int) (a : Int) ((7 * j : Nat) : Int)) (.inr ((n : Int), ⟨l, ((p + (vg v).length : Nat) : Int)⟩))
  | 0, v, j, a, p, _, _, h, _, _, _, _ => by omega
  | i + 1, v, j, a, p, hij, hv, _, ha, hsum, hnz, hd => by
    have hv2 : v < 2097152 := Nat.lt_of_lt_of_le hv ((Nat.pow_le_pow_right (n := 2) (by decide) (by omega) : 2 ^ (7 * (i + 1)) ≤ 2 ^ 21))
    by_cases h : v < 128
    · rw [vg_small h] at hd
      obtain ⟨hp, hg, hd2⟩ := drop_get (x := (v : Int)) (m := rest) hd
      have hz : ((if ((7 * j : Nat) : Int) = 63 then (if (l.getD ((p : Int)).toNat 0) ≠ 1 then (some true) else (if ((7 * j : Nat) : Int) > 0 then (some ((l.getD ((p : Int)).toNat 0) == 0)) else (some false))) else (if ((7 * j : Nat) : Int) > 0 then (some ((l.getD ((p : Int)).toNat 0) == 0)) else (some false))) : Option Bool) = some false := by
        rw [if_neg (by omega), tn, hg]
        by_cases hj : 0 < j
        · rw [if_pos (by omega)]
          have := hnz hj
          congr 1
          rw [beq_eq_false_iff_ne]
          omega
        · rw [if_neg (by omega)]
      refine Ev.succ (g := fun _ => some (.inr ((n : Int), ⟨l, ((p + (vg v).length : Nat) : Int)⟩))) (fun k => ?_) (Ev.const rfl)
      rw [codec_decoder_varints0.l1, if_neg (by show ¬ (p : Int) = (l.length : Int); omega)]
      simp only [Option.bind_some]
      rw [if_pos (by omega), if_pos (by show (p : Int) < (l.length : Int); omega)]
      rw [hz]
      simp only [Option.bind_some, Bool.false_eq_true, if_false]
      rw [if_pos (by omega), tn, hg, if_pos (by omega), or_step a v (7 * j) (by omega) ha (by omega), Nat.mod_eq_of_lt h, hsum, zag n (by omega), Wn (by omega), vg_small h]
      rfl
    · rw [vg_big h] at hd
      obtain ⟨hp, hg, hd2⟩ := drop_get (x := ((v % 128 + 128 : Nat) : Int)) (m := vg (v / 128) ++ rest) hd
      have hz : ((if ((7 * j : Nat) : Int) = 63 then (if (l.getD ((p : Int)).toNat 0) ≠ 1 then (some true) else (if ((7 * j : Nat) : Int) > 0 then (some ((l.getD ((p : Int)).toNat 0) == 0)) else (some false))) else (if ((7 * j : Nat) : Int) > 0 then (some ((l.getD ((p : Int)).toNat 0) == 0)) else (some false))) : Option Bool) = some false := by
        rw [if_neg (by omega), tn, hg]
        by_cases hj : 0 < j
        · rw [if_pos (by omega)]
          congr 1
        · rw [if_neg (by omega)]
      have hi : 1 ≤ i := by
        rcases Nat.eq_zero_or_pos i with rfl | hi
        · simp at hv; omega
        · exact hi
      have e7 : 2 ^ (7 * (j + 1)) = 128 * 2 ^ (7 * j) := by rw [Nat.mul_add, Nat.pow_add, Nat.mul_comm]
      have e8 : 2 ^ (7 * (i + 1)) = 128 * 2 ^ (7 * i) := by rw [Nat.mul_add, Nat.pow_add, Nat.mul_comm]
      have ha2 : a + v % 128 * 2 ^ (7 * j) < 2 ^ (7 * (j + 1)) := by
        have h1 : v % 128 * 2 ^ (7 * j) ≤ 127 * 2 ^ (7 * j) := Nat.mul_le_mul_right _ (by omega)
        omega
      have hs2 : (a + v % 128 * 2 ^ (7 * j)) + v / 128 * 2 ^ (7 * (j + 1)) = 2 * n := by
        rw [← hsum, e7]
        have h1 : v * 2 ^ (7 * j) = (v % 128 + 128 * (v / 128)) * 2 ^ (7 * j) := by rw [Nat.mod_add_div]
        rw [h1, Nat.add_mul, ← Nat.mul_assoc, Nat.mul_comm (v / 128) 128]
        omega
      have ih := vd_l1 l rest q n hl hn i (v / 128) (j + 1) (a + v % 128 * 2 ^ (7 * j)) (p + 1) (by omega) (by omega) hi ha2 hs2 (fun _ => by omega) hd2
      rw [vg_big h, List.length_cons, show p + ((vg (v / 128)).length + 1) = p + 1 + (vg (v / 128)).length from by omega]
      refine Ev.succ (fun k => ?_) ih
      rw [codec_decoder_varints0.l1, if_neg (by show ¬ (p : Int) = (l.length : Int); omega)]
      simp only [Option.bind_some]
      rw [if_pos (by omega), if_pos (by show (p : Int) < (l.length : Int); omega)]
      rw [hz]
      simp only [Option.bind_some, Bool.false_eq_true, if_false]
      rw [if_pos (by omega), tn, hg, if_neg (by omega), or_step a (v % 128 + 128) (7 * j) (by omega) ha (by omega), show (v % 128 + 128) % 128 = v % 128 from by omega, Wn (by omega), W64 (by omega) (by omega)]
      rfl
theorem vd_ev (l rest : List Int) (p n : Nat) (hl : l.length < 1000000000) (hn : n < 1000000) (h : l.drop p = vg (2 * n) ++ rest) : Ev (fun k => codec_decoder_varints0.f k ⟨l, (p : Int)⟩) (.inr ((n : Int), ⟨l, ((p + (vg (2 * n)).length : Nat) : Int)⟩)) :=
  vd_l1 l rest (p : Int) n hl hn 3 (2 * n) 0 0 p rfl (by show 2 * n < 2097152; omega) (by decide) (by decide) (by simp) (fun h => absurd h (by decide)) h
theorem Ev.pb {α γ : Type} {x : Nat → Option (Int ⊕ α)} {h : Nat → Int → Option γ} {g : Nat → α → Option γ} {t : α} {r : γ} (hx : Ev x (.inr t)) (hg : Ev (fun k => g k t) r) : Ev (fun k => RW.pb (x k) (h k) (g k)) r := by
  obtain ⟨N, hx⟩ := hx
  obtain ⟨M, hg⟩ := hg
  refine ⟨max N M, fun k hk => ?_⟩
  show RW.pb (x k) (h k) (g k) = _
  unfold RW.pb
  rw [hx k (by omega)]
  exact hg k (by omega)
theorem num_ev (l rest : List Int) (p n : Nat) (lo hi : Int) (hl : l.length < 1000000000) (hn : n < 1000000) (h : l.drop p = vg (2 * n) ++ rest) (h1 : lo ≤ (n : Int)) (h2 : (n : Int) ≤ hi) :
    Ev (fun k => codec_decoder_numbers0.f k lo hi ⟨l, (p : Int)⟩) (.inr ((n : Int), ⟨l, ((p + (vg (2 * n)).length : Nat) : Int)⟩)) := by
  refine Ev.pb (vd_ev l rest p n hl hn h) (Ev.const ?_)
  show ((if (n : Int) < lo then some true else some (decide ((n : Int) > hi))).bind _) = _
  rw [if_neg (by omega), decide_eq_false (by omega)]
  rfl
theorem rpart_drop {α : Type} {l m r : List α} {p : Nat} (h : l.drop p = m ++ r) : rpart l (p : Int) ((p + m.length : Nat) : Int) = m := by
  unfold rpart
  rw [tn, tn, h, show p + m.length - p = m.length from by omega, List.take_left]
theorem drop_app {α : Type} {l m r : List α} {p : Nat} (h : l.drop p = m ++ r) : l.drop (p + m.length) = r := by
  rw [← List.drop_drop, h, List.drop_left]
theorem drop_le {α : Type} {l m r : List α} {p : Nat} (h : l.drop p = m ++ r) (hm : 0 < m.length ∨ p ≤ l.length) : p + m.length ≤ l.length := by
  have := congrArg List.length h
  rw [List.length_drop, List.length_append] at this
  omega
theorem byt_ev (l m rest : List Int) (p : Nat) (lo hi : Int) (hl : l.length < 1000000000) (hm : m.length < 1000000) (h : l.drop p = vg (2 * m.length) ++ (m ++ rest)) (h1 : lo ≤ (m.length : Int)) (h2 : (m.length : Int) ≤ hi) :
    Ev (fun k => codec_decoder_bytess0.f k lo hi ⟨l, (p : Int)⟩) (.inr (m, ⟨l, ((p + (vg (2 * m.length)).length + m.length : Nat) : Int)⟩)) := by
  have hv := vg_len (u := 2 * m.length) (by omega)
  have hd := drop_app h
  have hle := drop_le h (.inl (by omega))
  have hle2 := drop_le hd (.inr hle)
  refine Ev.pb (num_ev l (m ++ rest) p m.length lo hi hl hm h h1 h2) (Ev.const ?_)
  show ((if W .i64 ((l.length : Int) - ((p + (vg (2 * m.length)).length : Nat) : Int)) < (m.length : Int) then _ else some (Sum.inl ())).bind _) = _
  rw [W64 (by omega) (by omega), if_neg (by omega)]
  show (if (0 : Int) ≤ W .i64 (W .i64 (((p + (vg (2 * m.length)).length : Nat) : Int) + (m.length : Int)) - (m.length : Int)) then _ else none) = _
  have e1 : W .i64 (((p + (vg (2 * m.length)).length : Nat) : Int) + (m.length : Int)) = ((p + (vg (2 * m.length)).length + m.length : Nat) : Int) := by rw [W64 (by omega) (by omega)]; omega
  have e2 : W .i64 (((p + (vg (2 * m.length)).length + m.length : Nat) : Int) - (m.length : Int)) = ((p + (vg (2 * m.length)).length : Nat) : Int) := by rw [W64 (by omega) (by omega)]; omega
  simp only [e1, e2]
  rw [if_pos (by omega), if_pos (by omega), if_pos (by show ((p + (vg (2 * m.length)).length + m.length : Nat) : Int) ≤ (l.length : Int); omega), rpart_drop hd]
  unfold slices_Clone_byte_byte.f
  by_cases hz : m = []
  · subst hz
    rw [if_pos rfl]
    rfl
  · rw [if_neg hz, if_pos (by simp only [List.length_nil]; omega)]
    rfl
theorem str_bytes (s : ByteArray) : strOfNums (bytesOf s) = s := by
  have h : (strOfNums (bytesOf s)).data.toList = s.data.toList := by
    rw [strOfNums_data]
    unfold bytesOf
    rw [List.map_map]
    refine (List.map_congr_left (fun b _ => ?_)).trans (List.map_id _)
    show UInt8.ofNat ((b.toNat : Int)).toNat = id b
    rw [Int.toNat_natCast]
    exact UInt8.ofNat_toNat
  have h2 : (strOfNums (bytesOf s)).data = s.data := Array.toList_inj.1 h
  cases s
  exact congrArg ByteArray.mk h2
/-- What was written is read. -/
theorem dec_ev {e : S25} (he : okE e) (l rest : List Int) (p : Nat) (hl : l.length < 1000000000) (h : l.drop p = enc e ++ rest) : Ev (fun k => codec_decoder_entrys0.f k ⟨l, (p : Int)⟩) (.inr (e, ⟨l, ((p + (enc e).length : Nat) : Int)⟩)) := by
  have hk1 := he.k1; have hk2 := he.k2; have hs1 := he.s1; have hs2 := he.s2; have hb1 := he.b1
  have hl1 : (bytesOf e.f1).length = e.f1.size := bytesOf_length _
  unfold enc at h
  rw [List.append_assoc] at h
  have d1 := drop_app h
  have e1 := num_ev l _ p e.f0.toNat 1 4 hl (by omega) h (by omega) (by omega)
  rw [Int.toNat_of_nonneg (by omega)] at e1
  rw [List.append_assoc, List.append_assoc] at d1
  rw [← hl1] at d1
  have d2 := drop_app d1
  have d3 := drop_app d2
  rw [List.append_assoc] at d3
  have e2 := byt_ev l (bytesOf e.f1) _ _ 1 40 hl (by omega) d1 (by omega) (by omega)
  have e3 := byt_ev l e.f2 rest _ 0 20000 hl (by omega) d3 (by omega) (by omega)
  refine Ev.pb e1 (Ev.pb e2 (Ev.pb e3 (Ev.const ?_)))
  show some (Sum.inr ((⟨e.f0, strOfNums (bytesOf e.f1), e.f2⟩ : S25), (⟨l, _⟩ : S124))) = some (Sum.inr (e, (⟨l, _⟩ : S124)))
  rw [str_bytes]
  congr 4
  unfold enc
  simp only [List.length_append, hl1]
  omega
theorem decE_ev {e : S25} (he : okE e) : Ev (fun k => codec_DecodeEntry.f k (enc e)) (e, ((enc e).length : Int), 0) := by
  have hl := enc_len he
  refine Ev.bind (r := .inr (⟨enc e, ((enc e).length : Int)⟩, e)) (Ev.pb (t := (e, ⟨enc e, ((enc e).length : Int)⟩)) ?_ (Ev.const rfl)) (Ev.const rfl)
  have := dec_ev he (enc e) [] 0 (by omega) (by simp)
  rwa [Nat.zero_add] at this
end Go.Proofs.YtiomeaoeegikkaaDoor.led
namespace Go.Proofs.YtiomeaoeegikkaaDoor.RW
open Go Go.RowKit

/-- Two pieces of memory as one. -/
def rand (r s : Res) : Res where
 fp := fun k => r.fp k ∨ s.fp k
 P := fun I w => r.P I w ∧ s.P I w
 stable := fun I w w' h p => ⟨r.stable I w w' (fun k hk => h k (.inl hk)) p.1, s.stable I w w' (fun k hk => h k (.inr hk)) p.2⟩
 ext := fun I J w h p => ⟨r.ext I J w h p.1, s.ext I J w h p.2⟩
/-- One object at a place. -/
def ores (g : Nat) (o : Obj) : Res where
 fp := fun k => k = g
 P := fun _ w => w.heap[g]? = some o
 stable := fun _ w w' h hp => by rw [h g rfl]; exact hp
 ext := fun _ _ _ _ h => h
/-- What a yield has to show: what the rounds hold is another, and only that has turned. -/
structure Yl (I : Imm) (r r' : Res) (W W' : World) : Prop where
 im : I.at_ W'
 res : r'.P I W'
 dis : ∀ a v, I a = some v → ¬ r'.fp a.block
 fp : ∀ k, r'.fp k → r.fp k ∨ W.heap.size ≤ k
 lt : ∀ k, r'.fp k → k < W'.heap.size
 evo : Evo r.fp W W'
/-- What is known where a yield begins. -/
structure At (N : Nat → Prop) (I0 I : Imm) (r : Res) (W : World) : Prop where
 le : I0.le I
 im : I.at_ W
 res : r.P I W
 dis : ∀ a v, I a = some v → ¬ r.fp a.block
 lt : ∀ k, r.fp k → k < W.heap.size
 inew : ∀ a v, I a = some v → I0 a = some v ∨ N a.block
theorem Yl.at_ {N : Nat → Prop} {I0 I : Imm} {r r' : Res} {W W' : World} (h : At N I0 I r W) (y : Yl I r r' W W') : At N I0 I r' W' := ⟨h.le, y.im, y.res, y.dis, y.lt, h.inew⟩
theorem At.mono {N M : Nat → Prop} {I0 I : Imm} {r : Res} {W : World} (h : At N I0 I r W) (e : ∀ k, N k → M k) : At M I0 I r W := ⟨h.le, h.im, h.res, h.dis, h.lt, fun a v ha => (h.inew a v ha).imp id (e _)⟩
/-- An iterator that hands on c, one by one; the last may be refused. -/
def IterR {α : Type} (P : Program) (gf : Nat) (lb : Array Value) (I0 : Imm) (c : List α) (E : Imm → α → Array Value → Prop) (stop : α → Bool) (l : Nat) (W : World) : Prop :=
 ∀ (Rk : List α → Res → Prop) (r0 : Res), Rk [] r0 → At (fun k => r0.fp k ∨ W.heap.size ≤ k) I0 I0 r0 W →
  (∀ I pre x xs r W1, At (fun k => r0.fp k ∨ W.heap.size ≤ k) I0 I r W1 → Rk pre r → (pre ++ [x]) <+: c → E I x xs → YieldAt (Fence.ro none) 0 P l xs W1 fun e W' => e = .returned (.bool (!stop x)) ∧ ∃ r', Rk (pre ++ [x]) r' ∧ Yl I r r' W1 W') →
  Calls P gf (#[.func (.yield l) #[] #[]] ++ lb) W fun e W' => (∃ v, e = .returned v) ∧ ∃ I r, Rk c r ∧ At (fun k => r0.fp k ∨ W.heap.size ≤ k) I0 I r W' ∧ Evo r0.fp W W' ∧ (∀ k, r.fp k → r0.fp k ∨ W.heap.size ≤ k)

variable {P : Program}
/-- The record of a loop, as it stands behind these rounds. -/
def recAt {α : Type} (rec : LoopState → Option Code → Loop) (stop : α → Bool) (pre : List α) : Loop := if pre.any stop then rec .done (some .ret) else rec .ready none
theorem range_wpR {α : Type} {g : Operand} {ps : Array Tmp} {assign body : Code} {Q : Exit → Act → World → Prop} {a : Act} {w : World} {gf : Nat} {lb : Array Value}
  (hg : a.eval g = .func (.func gf) #[] lb) (eg : ∀ args w, (callFunc gf args).run P w = .ok (.enter gf args) w)
  (E : Imm → α → Array Value → Prop) (hps : ∀ I x xs, E I x xs → xs.size = ps.size) (stop : α → Bool) (c : List α) (hc : ∀ pre x, (pre ++ [x]) <+: c → pre.any stop = false)
  (I0 : Imm) (Rk : List α → Res → Prop) (r0 : Res) (h0k : Rk [] r0) (h0 : At (fun k => r0.fp k ∨ w.heap.size ≤ k) I0 I0 r0 w)
  (hround : ∀ (l : Nat) (I : Imm) (pre : List α) (x : α) (xs : Array Value) (r : Res) (W : World), At (fun k => r0.fp k ∨ w.heap.size ≤ k) I0 I r W → Rk pre r → (pre ++ [x]) <+: c → E I x xs → w.heap.size ≤ l → l < W.heap.size → ¬ r.fp l → (∀ a v, I a = some v → a.block ≠ l) →
   assign.wpIn (Fence.ro (some l)) 0 P (Exit.then (fun a₁ W₁ => Evo (fun _ => False) W W₁ ∧ ∀ W₂, Evo (fun k => k = l) W₁ W₂ → body.wpIn (Fence.ro (some l)) 0 P (fun e _ W' => e = (if stop x then .ret else .normal) ∧ ∃ r', Rk (pre ++ [x]) r' ∧ I.at_ W' ∧ r'.P I W' ∧ (∀ a v, I a = some v → ¬ r'.fp a.block) ∧ (∀ k, r'.fp k → r.fp k ∨ W.heap.size ≤ k) ∧ (∀ k, r'.fp k → k < W'.heap.size) ∧ Evo (fun k => r.fp k ∨ W.heap.size ≤ k) W₂ W') a₁ W₂) (fun _ _ _ => False))
    {tmps := (ps.zip xs).foldl (fun t (p, v) => t.setIfInBounds p v) a.tmps, defers := [] } W)
  (hiter : ∀ (l : Nat) (W : World), Evo (fun _ => False) w W → I0.at_ W → IterR P gf lb I0 c E stop l W)
  (hdone : ∀ (D : Nat) (W : World) (I : Imm) (r : Res), w.heap.size ≤ D → Rk c r → At (fun k => r0.fp k ∨ w.heap.size ≤ k) I0 I r W → ¬ r.fp D → Evo r0.fp w W → (∀ k, r.fp k → r0.fp k ∨ w.heap.size ≤ k) → W.heap[D]? = some (.deferred (some [])) → Q (if c.any stop then .ret else .normal) { a with defers := { target := .collected D, args := #[] } :: a.defers } W) :
  (Code.rangeFunc g ps assign body).wp P Q a w := by
 refine (wpIn_wide (n := 0)).1 (wpIn_rangeFunc ?_)
 intro fn hfn
 rw [show Fence.wide.round = none from rfl]
 obtain ⟨rec, hrec⟩ : ∃ rec : LoopState → Option Code → Loop, rec = fun st pe => { state := st, pending := pe, fn, tmps := a.tmps, params := ps, assign, body, defers := w.heap.size } := ⟨_, rfl⟩
 obtain ⟨W1, hW1⟩ : ∃ W1, (w.alloc (.deferred (some []))).alloc (.loop (rec .ready none)) = W1 := ⟨_, rfl⟩
 have hL1 : W1.heap[w.heap.size + 1]? = some (.loop (rec .ready none)) := by
  rw [← hW1]; have := World.alloc_heap_new (w.alloc (.deferred (some []))) (.loop (rec .ready none)); rwa [World.size_alloc] at this
 have hE1 : Evo (fun _ => False) w W1 := by rw [← hW1]; exact (Evo.alloc w _).trans (Evo.alloc _ _)
 have hs1 : W1.heap.size = w.heap.size + 2 := by rw [← hW1]; simp
 have hK1 : W1.heap[w.heap.size]? = some (.deferred (some [])) := by
  rw [← hW1, (Evo.alloc (w.alloc (.deferred (some []))) (.loop (rec .ready none))).blk w.heap.size (by simp) (fun h => h)]
  exact World.alloc_heap_new w _
 have hat1 : I0.at_ W1 := fun b v hv => by
  rw [← h0.im b v hv]
  exact look_of_block (w := w) (hE1.blk _ (look_lt (h0.im b v hv)) (fun h => h))
 have hr1 : r0.P I0 W1 := r0.stable I0 w W1 (fun k hk => hE1.blk k (h0.lt k hk) (fun h => h)) h0.res
 -- what the rounds hold, with the loop's own
 let ag : List α → Res → Res := fun pre r => rand r (rand (ores (w.heap.size + 1) (.loop (recAt rec stop pre))) (ores w.heap.size (.deferred (some []))))
 let Rk' : List α → Res → Prop := fun pre s => ∃ r, s = ag pre r ∧ Rk pre r ∧ ¬ r.fp (w.heap.size + 1) ∧ ¬ r.fp w.heap.size
 have hrec0 : recAt rec stop ([] : List α) = rec .ready none := rfl
 have hA1 : At (fun k => (ag [] r0).fp k ∨ W1.heap.size ≤ k) I0 I0 (ag [] r0) W1 := by
  refine ⟨Imm.le_refl _, hat1, ⟨hr1, hL1, hK1⟩, ?_, ?_, fun _ _ h => .inl h⟩
  ·rintro b v hv (h | h | h)
   ·exact h0.dis b v hv h
   ·have h2 : b.block = w.heap.size + 1 := h
    have := look_lt (h0.im b v hv); omega
   ·have h2 : b.block = w.heap.size := h
    have := look_lt (h0.im b v hv); omega
  ·rintro k (h | h | h)
   ·have := h0.lt k h; omega
   ·have h2 : k = w.heap.size + 1 := h
    omega
   ·have h2 : k = w.heap.size := h
    omega
 have hN : ∀ k, ((ag [] r0).fp k ∨ W1.heap.size ≤ k) → (r0.fp k ∨ w.heap.size ≤ k) := by
  rintro k ((h | h | h) | h)
  ·exact .inl h
  ·have h2 : k = w.heap.size + 1 := h
   exact .inr (by omega)
  ·have h2 : k = w.heap.size := h
   exact .inr (by omega)
  ·exact .inr (by omega)
 refine ⟨w.heap.size + 1, [{ target := .collected w.heap.size, args := #[] }], W1, { target := .fn (.func gf) lb, args := #[.func (.yield (w.heap.size + 1)) #[] #[]] }, W1, gf,
  #[.func (.yield (w.heap.size + 1)) #[] #[]] ++ lb, W1, ?_, ?_, (fun _ _ => trivial), ?_, (fun h => by cases h), ?_⟩
 ·rw [← hW1, hrec]; exact run_enterLoop_outer _ _ _ _ _
 ·simp only [resolve, hg]
  simp [go_sem]
 ·simp [invoke, go_sem, eg]
 ·refine callsIn_wide.2 ?_
  refine Calls.mono (hiter (w.heap.size + 1) W1 hE1 hat1 Rk' (ag [] r0) ⟨r0, rfl, h0k, fun h => by have := h0.lt _ h; omega, fun h => by have := h0.lt _ h; omega⟩ hA1 ?_) ?_
  ·rintro I pre x xs s W hA ⟨r, rfl, hk, hnl, hnD⟩ hpre hE
   have hl : W.heap[w.heap.size + 1]? = some (.loop (rec .ready none)) := by
    have h2 : W.heap[w.heap.size + 1]? = some (.loop (recAt rec stop pre)) := hA.res.2.1
    rw [h2]; unfold recAt; rw [hc pre x hpre]; rfl
   have hkD : W.heap[w.heap.size]? = some (.deferred (some [])) := hA.res.2.2
   have hlt : w.heap.size + 1 < W.heap.size := (Array.getElem?_eq_some_iff.1 hl).1
   have hAr : At (fun k => r0.fp k ∨ w.heap.size ≤ k) I0 I r W := ⟨hA.le, hA.im, hA.res.1, fun b v hv h => hA.dis b v hv (.inl h), fun k h => hA.lt k (.inl h), fun b v h => (hA.inew b v h).imp id (hN _)⟩
   have hy := run_yield (P := P) (args := xs) hl (by rw [hrec]; exact hps I x xs hE)
   rw [hrec] at hy
   refine ⟨fn, _, assign, body, hy, roundIn_of_wpIn (F := Fence.ro none) trivial ?_⟩
   refine wpIn_mono (hround (w.heap.size + 1) I pre x xs r W hAr hk hpre hE (by omega) hlt hnl (fun b v hv e => hA.dis b v hv (.inr (.inl e)))) ?_
   rintro e a1 W2 hp
   cases e with
   | normal =>
    obtain ⟨hev, hbody⟩ := hp
    have hl2 : W2.heap[w.heap.size + 1]? = some (.loop (rec .ready none)) := by rw [hev.blk _ hlt (fun h => h)]; exact hl
    have hk2 : W2.heap[w.heap.size]? = some (.deferred (some [])) := by rw [hev.blk _ (by omega) (fun h => h)]; exact hkD
    have hlt2 : w.heap.size + 1 < W2.heap.size := (Array.getElem?_eq_some_iff.1 hl2).1
    refine ⟨_, run_beginRound hl2 (by rw [hrec]), ?_⟩
    have hput := Evo.put W2 (w.heap.size + 1) (.loop { rec .ready none with state := .busy })
    refine wpIn_mono (hbody _ hput) ?_
    have hsz2 := hev.size
    rintro e3 a3 W3 ⟨rfl, r', hk', him, hres, hdis, hfp, hltr, hev3⟩
    have nl : ∀ k, k < W.heap.size → ¬ r.fp k → ¬ (r.fp k ∨ W.heap.size ≤ k) := fun k h1 h2 h3 => h3.elim h2 (by omega)
    have hl3 : W3.heap[w.heap.size + 1]? = some (.loop { rec .ready none with state := .busy }) := by
     rw [hev3.blk _ (by simpa using hlt2) (nl _ hlt hnl)]
     exact World.putObj_heap_same hlt2
    have hk3 : W3.heap[w.heap.size]? = some (.deferred (some [])) := by
     rw [hev3.blk _ (by simp; omega) (nl _ (by omega) hnD), World.putObj_heap_other (by omega)]
     exact hk2
    have hlt3 : w.heap.size + 1 < W3.heap.size := (Array.getElem?_eq_some_iff.1 hl3).1
    have hnl' : ¬ r'.fp (w.heap.size + 1) := fun h => (hfp _ h).elim hnl (by omega)
    have hnD' : ¬ r'.fp w.heap.size := fun h => (hfp _ h).elim hnD (by omega)
    -- the end of the round, whichever
    have fin : ∀ jump : Option Code, jump = (if stop x then some .ret else none) →
      ∃ v W4, (Instr.endRound (w.heap.size + 1) jump).run P W3 = .ok v W4 ∧ (Ending.returned v = .returned (.bool (!stop x)) ∧ ∃ s', Rk' (pre ++ [x]) s' ∧ Yl I (ag pre r) s' W W4) := by
     intro jump hj
     have hend := run_endRound (P := P) jump hl3
     have hput3 := Evo.put W3 (w.heap.size + 1) (.loop { { rec .ready none with state := .busy } with state := if jump.isNone then .ready else .done, pending := jump })
     refine ⟨_, _, hend, by rw [hj]; cases stop x <;> rfl, ag (pre ++ [x]) r', ⟨r', rfl, hk', hnl', hnD'⟩, ?_⟩
     have hr4 : r'.P I (W3.putObj (w.heap.size + 1) (.loop { { rec .ready none with state := .busy } with state := if jump.isNone then .ready else .done, pending := jump })) :=
      r'.stable I W3 _ (fun k hk => World.putObj_heap_other (fun e => hnl' (e ▸ hk))) hres
     refine ⟨?_, ⟨hr4, ?_, ?_⟩, ?_, ?_, ?_, ?_⟩
     ·intro b v hv
      have hb := him b v hv
      rw [← hb]
      exact look_of_block (w := W3) (World.putObj_heap_other (fun e => hA.dis b v hv (.inr (.inl e))))
     ·show _ = some (Obj.loop (recAt rec stop (pre ++ [x])))
      rw [World.putObj_heap_same hlt3, hj, hrec]
      unfold recAt
      rw [List.any_append, hc pre x hpre]
      simp only [List.any_cons, List.any_nil, Bool.or_false, Bool.false_or]
      cases stop x <;> rfl
     ·show _ = some (Obj.deferred (some []))
      rw [World.putObj_heap_other (by omega)]; exact hk3
     ·rintro b v hv (h | h | h)
      ·exact hdis b v hv h
      ·exact hA.dis b v hv (.inr (.inl h))
      ·exact hA.dis b v hv (.inr (.inr h))
     ·rintro k (h | h | h)
      ·exact (hfp k h).imp .inl id
      ·exact .inl (.inr (.inl h))
      ·exact .inl (.inr (.inr h))
     ·rintro k (h | h | h)
      ·rw [World.putObj_size]; exact hltr k h
      ·have h2 : k = w.heap.size + 1 := h
       rw [World.putObj_size]; omega
      ·have h2 : k = w.heap.size := h
       rw [World.putObj_size]; omega
     ·have e1 : Evo (fun k => (ag pre r).fp k ∨ W.heap.size ≤ k) W W2 := hev.mono (fun k _ h => h.elim)
      have e2 : Evo (fun k => (ag pre r).fp k ∨ W.heap.size ≤ k) W2 _ := hput.mono (fun k _ h => .inl (.inr (.inl h)))
      have e3 : Evo (fun k => (ag pre r).fp k ∨ W.heap.size ≤ k) _ W3 := hev3.mono (fun k _ h => h.imp .inl id)
      exact (((e1.trans e2).trans e3).trans (hput3.mono (fun k _ h => .inl (.inr (.inl h))))).mono (fun k hk h => h.resolve_right (by omega))
    cases hst : stop x with
    | true => simp only [hst, if_true] at *; exact fin _ rfl
    | false => simp only [hst] at *; exact fin _ rfl
   | _ => exact hp.elim
  ·rintro e W2 ⟨⟨v, rfl⟩, I, s, ⟨r, rfl, hk, hnl, hnD⟩, hA, hev, hfp⟩
   have hl : W2.heap[w.heap.size + 1]? = some (.loop (recAt rec stop c)) := hA.res.2.1
   have hkD : W2.heap[w.heap.size]? = some (.deferred (some [])) := hA.res.2.2
   have hnb : (recAt rec stop c).state ≠ .busy := by unfold recAt; rw [hrec]; split <;> simp
   have hlt2 : w.heap.size + 1 < W2.heap.size := (Array.getElem?_eq_some_iff.1 hl).1
   have hput := Evo.put W2 (w.heap.size + 1) (.loop { recAt rec stop c with state := .exhausted })
   have hd : Q (if c.any stop then .ret else .normal) { a with defers := { target := .collected w.heap.size, args := #[] } :: a.defers } (W2.putObj (w.heap.size + 1) (.loop { recAt rec stop c with state := .exhausted })) := by
    refine hdone w.heap.size _ I r (Nat.le_refl _) hk ⟨hA.le, ?_, ?_, fun b v hv h => hA.dis b v hv (.inl h), fun k h => by rw [World.putObj_size]; exact hA.lt k (.inl h), fun b v h => (hA.inew b v h).imp id (hN _)⟩ hnD ?_ ?_ ((World.putObj_heap_other (by omega)).trans hkD)
    ·intro b v hv
     rw [← hA.im b v hv]
     exact look_of_block (w := W2) (World.putObj_heap_other (fun e => hA.dis b v hv (.inr (.inl e))))
    ·exact r.stable I W2 _ (fun k hk => World.putObj_heap_other (fun e => hnl (e ▸ hk))) hA.res.1
    ·have e1 := (hE1.mono (S' := fun k => r0.fp k ∨ w.heap.size ≤ k) (fun k _ h => h.elim)).trans ((hev.mono (S' := fun k => r0.fp k ∨ w.heap.size ≤ k) (fun k _ h => by
      rcases h with h | h | h
      ·exact .inl h
      ·have h2 : k = w.heap.size + 1 := h
       exact .inr (by omega)
      ·have h2 : k = w.heap.size := h
       exact .inr (by omega))).trans (hput.mono (fun k _ h => .inr (by omega))))
     exact e1.mono (fun k hk h => h.resolve_right (by omega))
    ·intro k h
     rcases hfp k (.inl h) with (h1 | h1 | h1) | h1
     ·exact .inl h1
     ·have h2 : k = w.heap.size + 1 := h1
      exact .inr (by omega)
     ·have h2 : k = w.heap.size := h1
      exact .inr (by omega)
     ·exact .inr (by omega)
   have key : ∀ (pd : Option Code) (W4 : World) (a4 : Act), pd = (if c.any stop then some .ret else none) → Q (if c.any stop then .ret else .normal) a4 W4 → (match pd with | none => Q .normal a4 W4 | some c => c.wpIn Fence.wide 0 P Q a4 W4) := by
    intro pd W4 a4 e h
    subst e
    cases hst : c.any stop with
    | true => rw [hst] at h; exact wpIn_ret h
    | false => rw [hst] at h; exact h
   refine ⟨(recAt rec stop c).pending, _, run_endLoop (P := P) hl hnb, key _ _ _ ?_ hd⟩
   unfold recAt
   rw [hrec]
   split <;> simp_all

/-- Behind a yield: what the rounds hold is another. -/
theorem Sat.yieldedR {B : Base} {I : Imm} {nx : Nat} {L : List Blk} {X : List Res} {r r' : Res} {w w' : World} (h : Sat B I nx L (r :: X) w) (y : Yl I r r' w w') : Sat B I w'.heap.size L (r' :: X) w' := by
 have hm : r ∈ r :: X := List.mem_cons_self
 have hsz := y.evo.size
 have hnx := h.hnx
 have h00 := h.evo.size
 have hp := List.pairwise_cons.1 h.rdis
 have own : ∀ k, r.fp k → k < nx ∧ (B.w0.heap.size ≤ k ∨ B.S k) := h.rown _ hm
 have old : ∀ k, k < nx → ¬ r.fp k → w'.heap[k]? = w.heap[k]? := fun k hk hn => y.evo.blk k (by rw [hnx]; exact hk) hn
 have new : ∀ k, k < nx → r'.fp k → r.fp k := fun k hk hf => (y.fp k hf).resolve_right (by omega)
 refine ⟨⟨y.evo.os.trans h.evo.os, y.evo.tape.trans h.evo.tape, y.evo.output.trans h.evo.output, by omega, fun k hk hn => ?_⟩, rfl, ?_, h.own, h.ne, ?_, ?_, List.pairwise_cons.2 ⟨?_, hp.2⟩, ?_, y.im, h.imL, ?_, h.le, h.inew⟩
 ·rw [old k (by omega) (fun hf => (own k hf).2.elim (by omega) hn)]
  exact h.evo.blk k hk hn
 ·intro b hb
  rw [old b.g (h.lt hb) (fun hs => h.rblk _ hm b hb hs)]
  exact h.blk b hb
 ·intro s hs
  rcases List.mem_cons.1 hs with rfl | hs
  ·exact y.res
  ·exact s.stable I w w' (fun k hk => old k (h.rown s (List.mem_cons_of_mem _ hs) k hk).1 (fun hf => hp.1 s hs k hf hk)) (h.res s (List.mem_cons_of_mem _ hs))
 ·intro s hs k hk
  rcases List.mem_cons.1 hs with rfl | hs
  ·refine ⟨y.lt k hk, ?_⟩
   rcases y.fp k hk with h1 | h1
   ·exact (own k h1).2
   ·exact .inl (by omega)
  ·have := h.rown s (List.mem_cons_of_mem _ hs) k hk
   exact ⟨by omega, this.2⟩
 ·intro s hs k hk hk2
  have h2 := (h.rown s (List.mem_cons_of_mem _ hs) k hk2).1
  exact hp.1 s hs k (new k h2 hk) hk2
 ·intro s hs b hb hf
  rcases List.mem_cons.1 hs with rfl | hs
  ·exact h.rblk _ hm b hb (new _ (h.lt hb) hf)
  ·exact h.rblk s (List.mem_cons_of_mem _ hs) b hb hf
 ·intro b v hv s hs
  rcases List.mem_cons.1 hs with rfl | hs
  ·exact y.dis b v hv
  ·exact h.imX b v hv s (List.mem_cons_of_mem _ hs)
/-- The iterator's start, with what the rounds hold. -/
theorem Sat.startR {N : Nat → Prop} {I : Imm} {r : Res} {W : World} (h : At N I I r W) : Sat ⟨W, r.fp, I⟩ I W.heap.size [] [r] W := by
 have h1 := Sat.start W r.fp I h.im
 refine ⟨h1.evo, h1.hnx, h1.blk, h1.own, h1.ne, ?_, ?_, List.pairwise_singleton _ _, ?_, h1.im, h1.imL, ?_, h1.le, h1.inew⟩
 ·intro s hs; rw [List.mem_singleton.1 hs]; exact h.res
 ·intro s hs k hk; rw [List.mem_singleton.1 hs] at hk; exact ⟨h.lt k hk, .inr hk⟩
 ·intro s hs b hb; cases hb
 ·intro b v hv s hs; rw [List.mem_singleton.1 hs]; exact h.dis b v hv
theorem Sat.atR {B : Base} {I : Imm} {nx : Nat} {L : List Blk} {X : List Res} {r : Res} {w : World} (h : Sat B I nx L (r :: X) w) : At (fun k => B.S k ∨ B.w0.heap.size ≤ k) B.I0 I r w :=
 ⟨h.le, h.im, h.res _ List.mem_cons_self, fun a v hv => h.imX a v hv _ List.mem_cons_self, fun k hk => by rw [h.hnx]; exact (h.rown _ List.mem_cons_self k hk).1, fun a v ha => (h.inew a v ha).imp id Or.symm⟩
end Go.Proofs.YtiomeaoeegikkaaDoor.RW
namespace Go.Proofs.YtiomeaoeegikkaaDoor.RW
open Go Go.RowKit

def cAs : Code → Code
 | .rangeFunc _ _ a _ => a
 | c => c
def cBd : Code → Code
 | .rangeFunc _ _ _ b => b
 | c => c
theorem knows_round {A : Fr} {K : List (Nat × Value)} {a : Act} (ha : Knows A K a) (p : Tmp) (v : Value) : Knows ⟨A.n, []⟩ (putK A K (some p) v) { tmps := ((#[p] : Array Tmp).zip #[v]).foldl (fun t (q, v) => t.setIfInBounds q v) a.tmps, defers := [] } := by
 have h := ha.put (some p) v
 have e : ((#[p] : Array Tmp).zip #[v]).foldl (fun t (q, v) => t.setIfInBounds q v) a.tmps = a.tmps.setIfInBounds p v := by simp
 rw [e]
 exact ⟨h.size, rfl, h.slot⟩
section
variable {r : Nat} {P : Program} {A : Fr} {K : List (Nat × Value)} {Q : Exit → Act → World → Prop} {c : Code} {B : Base} {I : Imm} {nx : Nat} {L : List Blk} {X : List Res} {os : List Oper} {p : Nat}
theorem OKr.drawnG (hQ : ¬ LetsOut Q) (id t : Nat) (os : List Oper) (an : List Nat) (h : c = .region id os.toArray true) (hm : P.follows .mixedOrders = true) (hd : os.all noDefer = true) (vl : List (Nat × (Wt → Value))) (gl : List (Nat × ((Nat → Wt) → Value))) (R : List (Addr × Value)) (Lq : List Blk) (locs : List Loc)
  (han : ancs os [] = an) (hok : drawOk os an t = true) (hlt : (vl.all fun p => decide (p.1 < t)) = true)
  (hq : ∀ u, (qSim P R Lq os A vl gl u locs 0 (os.take t) K).isSome = true)
  (he : ∀ u, (qSim P R Lq os A vl gl u locs 0 (os.take t) K).map (fun x => x.2.2.map (·.1)) = (qSim P R Lq os A vl gl u locs 0 (os.take t) K).map (fun x => x.2.2.map (·.2)))
  (S : (Nat → Bool) → (Nat → Wt) → World → Prop) (hS : ∀ D u w, S D u w → (∀ b ∈ Lq, w.heap[b.g]? = some (.cells b.cs.toArray b.ty (0, 0))) ∧ ∀ r ∈ R, w.cell? r.1 = some r.2)
  (h0 : ∀ u w, Sat B I nx L X w → S (fun _ => false) u w)
  (Ks : List ((Nat → Wt) → List (Nat × Value))) (hf : framesOk A K os (vsOf P R Lq os A vl gl locs t K) vl Ks) (hl : Louds P os an vl S vl Ks)
  (Kg : List ((Nat → Wt) → List (Nat × Value))) (hfg : framesOk A K os (vsOf P R Lq os A vl gl locs t K) gl Kg) (hg : Givens P os an vl S gl Kg)
  (K' : (Nat → Wt) → List (Nat × Value)) (hK : ∀ u, foldPut A K (os.take t) (vsOf P R Lq os A vl gl locs t K u) = K' u)
  (k : ∀ u a w, S (Dall vl) u w → Knows A (K' u) a → wpList P os.toArray Q (os.drop t) a w) : OKr r P c Q A K B I nx L X := by
 exact OKr.drawn id os h hm hQ hd (Sat.drawnAny t os an vl gl R Lq locs han hok hlt hq he S hS h0 Ks hf hl Kg hfg hg K' hK k)

theorem OKr.drawnE (hQ : ¬ LetsOut Q) (id t : Nat) (os : List Oper) (an : List Nat) (h : c = .region id os.toArray true) (hm : P.follows .mixedOrders = true) (hd : os.all noDefer = true) (es : List Eb) (gl : List (Nat × ((Nat → Wt) → Value))) (R : List (Addr × Value)) (hR : RI B I L X R) (locs : List Loc)
  (han : ancs os [] = an) (hok : drawOk os an t = true) (hlt : ((exVl es).all fun p => decide (p.1 < t)) = true) (hn : nodupN (es.map (·.j)) = true) (vs : (Nat → Wt) → List Value) (K' : (Nat → Wt) → List (Nat × Value))
  (hv : ∀ u, (qSim P R L os A (exVl es) gl u locs 0 (os.take t) K).map (fun x => (x.1, x.2.1)) = some (vs u, K' u))
  (he : ∀ u, (qSim P R L os A (exVl es) gl u locs 0 (os.take t) K).map (fun x => x.2.2.map (·.1)) = (qSim P R L os A (exVl es) gl u locs 0 (os.take t) K).map (fun x => x.2.2.map (·.2)))
  (Ks : List ((Nat → Wt) → List (Nat × Value))) (hf : framesOk A K os vs (exVl es) Ks) (hst : EsG P os L es Ks)
  (Kg : List ((Nat → Wt) → List (Nat × Value))) (hfg : framesOk A K os vs gl Kg) (hg : Givens P os an (exVl es) (fun D _ w => Sat B I nx L (X ++ exR es D) w) gl Kg) {X' : List Res} (hX : X' = X ++ exO es)
  (k : ∀ u : Nat → Wt, RL P os Q t A (K' u) B I nx L (X ++ exN es)) : OKr r P c Q A K B I nx L X' := by
 subst hX
 obtain ⟨e, h1, h2⟩ := vsOf_eq hv
 subst e
 refine OKr.drawnG hQ id t os an h hm hd (exVl es) gl R L locs han hok hlt h1 he (fun D _ w => Sat B I nx L (X ++ exR es D) w) ?_ ?_ Ks hf (eLouds hn es Ks (fun _ h => h) hst) Kg hfg hg K' h2 ?_
 ·intro D u w hs
  exact ⟨hs.blk, fun r hr => hR I _ _ _ (Imm.le_refl _) hs r hr⟩
 ·intro u w hs
  rw [ex_false]; exact hs
 ·intro u a w hs ha
  rw [ex_all (fun e he => exVl_some he)] at hs
  exact (k u).go ha hs
theorem OKr.arrange {L' : List Blk} {X' : List Res} (lb lx : List Nat) (hb : noN lb = true) (hx : noN lx = true) (hL : RW.selB L lb = L') (hX : RW.sel X lx = X') (k : OKr r P c Q A K B I nx L' X') : OKr r P c Q A K B I nx L X := by
 subst hL; subst hX
 exact fun a w ha hs => k a w ha ((hs.selB lb hb).sel lx hx)
theorem OKr.ret (h : c = .ret) (k : QN Q .ret A K B I nx L X) : OKr r P c Q A K B I nx L X := by
 intro a w ha hs
 rw [h]
 exact wpIn_ret (k a w ha hs)
theorem OKr.sub {K' : List (Nat × Value)} {L' : List Blk} {X' : List Res} (hv : K'.map (fun p => lookK K p.1) = K'.map (fun p => some p.2)) (hL : L'.Sublist L) (hX : X'.Sublist X)
  (k : OKr r P c Q A K' B I nx L' X') : OKr r P c Q A K B I nx L X := by
 intro a w ha hs
 refine k a w (ha.sub fun p hp => ?_) (hs.less hL hX)
 obtain ⟨i, hi, rfl⟩ := List.getElem_of_mem hp
 have h1 := congrArg (·[i]?) hv
 simp only [List.getElem?_map, List.getElem?_eq_getElem hi, Option.map_some, Option.some.injEq] at h1
 exact h1
end

/-! ### lists of memory -/
def rl (Xs : List Res) : Res where
 fp := fun k => ∃ r ∈ Xs, r.fp k
 P := fun I w => (∀ r ∈ Xs, r.P I w) ∧ Xs.Pairwise (fun (r s : Res) => ∀ k, r.fp k → ¬ s.fp k)
 stable := fun I w w' h p => ⟨fun r hr => r.stable I w w' (fun k hk => h k ⟨r, hr, hk⟩) (p.1 r hr), p.2⟩
 ext := fun I J w h p => ⟨fun r hr => r.ext I J w h (p.1 r hr), p.2⟩
def fres (F : Imm → Prop) (hF : ∀ I J, Imm.le I J → F I → F J) : Res where
 fp := fun _ => False
 P := fun I _ => F I
 stable := fun _ _ _ _ h => h
 ext := fun I J _ h p => hF I J h p
theorem Sat.atl {B : Base} {I : Imm} {nx : Nat} {X : List Res} {w : World} {N : Nat → Prop} (h : Sat B I nx [] X w) : At N I I (rl X) w :=
 ⟨Imm.le_refl _, h.im, ⟨h.res, h.rdis⟩, fun a v ha ⟨r, hr, hk⟩ => h.imX a v ha r hr hk, fun k ⟨r, hr, hk⟩ => by rw [h.hnx]; exact (h.rown r hr k hk).1, fun _ _ h => .inl h⟩
theorem At.sat {N : Nat → Prop} {I0 I : Imm} {X : List Res} {W : World} (h : At N I0 I (rl X) W) : Sat ⟨W, (rl X).fp, I⟩ I W.heap.size [] X W := by
 have h1 := Sat.start W (rl X).fp I h.im
 exact ⟨h1.evo, h1.hnx, h1.blk, h1.own, h1.ne, h.res.1, fun r hr k hk => ⟨h.lt k ⟨r, hr, hk⟩, .inr ⟨r, hr, hk⟩⟩, h.res.2, (fun r hr b hb => by cases hb), h1.im, h1.imL, fun a v ha r hr hk => h.dis a v ha ⟨r, hr, hk⟩, h1.le, h1.inew⟩
/-- The same, behind what marks the loop's record. -/
theorem Sat.rebase {W W1 W2 : World} {S : Nat → Prop} {I : Imm} {nx : Nat} {X : List Res} {l : Nat} (h : Sat ⟨W, S, I⟩ I nx [] X W1) (hev : Evo (fun k => k = l) W1 W2) (hl : ∀ r ∈ X, ¬ r.fp l) (hIl : ∀ a v, I a = some v → a.block ≠ l) :
  Sat ⟨W2, fun k => S k ∨ W.heap.size ≤ k, I⟩ I W2.heap.size [] X W2 := by
 have hsz := hev.size
 have hnx := h.hnx
 have him : I.at_ W2 := fun a v ha => by
  have hc := h.im a v ha
  rw [← hc]
  exact look_of_block (hev.blk _ (look_lt hc) (hIl a v ha))
 have h1 := Sat.start W2 (fun k => S k ∨ W.heap.size ≤ k) I him
 refine ⟨h1.evo, h1.hnx, h1.blk, h1.own, h1.ne, fun r hr => ?_, fun r hr k hk => ?_, h.rdis, (fun r hr b hb => by cases hb), h1.im, h1.imL, h.imX, h1.le, h1.inew⟩
 ·refine r.stable I W1 W2 (fun k hk => hev.blk k ?_ (fun e => hl r hr (e ▸ hk))) (h.res r hr)
  have := (h.rown r hr k hk).1
  omega
 ·have h2 := h.rown r hr k hk
  exact ⟨by omega, .inr h2.2.symm⟩
/-- What the end of a round has to show. -/
theorem Sat.rend {W W2 : World} {F : Nat → Prop} {I J : Imm} {nx : Nat} {L : List Blk} {X : List Res} {w : World} (h : Sat ⟨W2, fun k => F k ∨ W.heap.size ≤ k, I⟩ J nx L X w) (hW : W.heap.size ≤ W2.heap.size) (hP : ∀ r ∈ X, r.P I w) :
  I.at_ w ∧ (rl X).P I w ∧ (∀ a v, I a = some v → ¬ (rl X).fp a.block) ∧ (∀ k, (rl X).fp k → F k ∨ W.heap.size ≤ k) ∧ (∀ k, (rl X).fp k → k < w.heap.size) ∧ Evo (fun k => F k ∨ W.heap.size ≤ k) W2 w := by
 refine ⟨fun a v ha => h.im a v (h.le _ _ ha), ⟨hP, h.rdis⟩, fun a v ha ⟨r, hr, hk⟩ => h.imX a v (h.le _ _ ha) r hr hk, fun k ⟨r, hr, hk⟩ => ?_, fun k ⟨r, hr, hk⟩ => by rw [h.hnx]; exact (h.rown r hr k hk).1, h.evo⟩
 rcases (h.rown r hr k hk).2 with h2 | h2
 ·have h3 : W2.heap.size ≤ k := h2
  exact .inr (by omega)
 ·exact h2
/-- Behind the loop. -/
theorem Sat.turnedR {B : Base} {J I : Imm} {nx : Nat} {X X' : List Res} {w W : World} {D : Nat} (hs : Sat B J nx [] X w) (hat : At (fun k => (rl X).fp k ∨ w.heap.size ≤ k) J I (rl X') W) (hev : Evo (rl X).fp w W) (hfp : ∀ k, (rl X').fp k → (rl X).fp k ∨ w.heap.size ≤ k)
  (hD : w.heap.size ≤ D) (hnD : ¬ (rl X').fp D) (hdef : W.heap[D]? = some (.deferred (some []))) : Sat B I W.heap.size [] (X' ++ [dres D (some [])]) W := by
 have hsz := hev.size
 have h00 := hs.evo.size
 have hnx := hs.hnx
 have own : ∀ k, (rl X).fp k → B.w0.heap.size ≤ k ∨ B.S k := fun k ⟨r, hr, hk⟩ => (hs.rown r hr k hk).2
 have hDl : D < W.heap.size := (Array.getElem?_eq_some_iff.1 hdef).1
 refine ⟨⟨hev.os.trans hs.evo.os, hev.tape.trans hs.evo.tape, hev.output.trans hs.evo.output, by omega, fun k hk hn => ?_⟩, rfl, (fun b hb => by cases hb), (fun b hb => by cases hb), List.Pairwise.nil, ?_, ?_, ?_, (fun r _ b hb => by cases hb), hat.im, (fun _ _ _ b hb => by cases hb), ?_, Imm.le_trans hs.le hat.le, ?_⟩
 ·refine (hev.blk k (by omega) (fun h => ?_)).trans (hs.evo.blk k hk hn)
  rcases own k h with h1 | h1
  ·omega
  ·exact hn h1
 ·intro r hr
  rcases List.mem_append.1 hr with hr | hr
  ·exact hat.res.1 r hr
  ·rw [List.mem_singleton.1 hr]; exact hdef
 ·intro r hr k hk
  rcases List.mem_append.1 hr with hr | hr
  ·refine ⟨hat.lt k ⟨r, hr, hk⟩, ?_⟩
   rcases hfp k ⟨r, hr, hk⟩ with h | h
   ·exact own k h
   ·exact .inl (by omega)
  ·rw [List.mem_singleton.1 hr] at hk
   obtain rfl : k = D := hk
   exact ⟨hDl, .inl (by omega)⟩
 ·refine List.pairwise_append.2 ⟨hat.res.2, List.pairwise_singleton _ _, fun r hr s hs k hk hk2 => ?_⟩
  rw [List.mem_singleton.1 hs] at hk2
  obtain rfl : k = D := hk2
  exact hnD ⟨r, hr, hk⟩
 ·intro a v ha r hr hk
  rcases List.mem_append.1 hr with hr | hr
  ·exact hat.dis a v ha ⟨r, hr, hk⟩
  ·rw [List.mem_singleton.1 hr] at hk
   have hk2 : a.block = D := hk
   rcases hat.inew a v ha with h | h | h
   ·have := look_lt (hs.im a v h); omega
   ·obtain ⟨r', hr', h'⟩ := h
    have := (hs.rown r' hr' _ h').1; omega
   ·have h4 := hat.im a v ha
    unfold look at h4
    rw [hk2, hdef] at h4
    revert h4
    unfold World.cell?
    rw [hk2, hdef]
    split <;> simp
 ·intro a v ha
  rcases hat.inew a v ha with h | h | h
  ·exact hs.inew a v h
  ·rcases own _ h with h | h
   ·exact .inr (.inl h)
   ·exact .inr (.inr h)
  ·exact .inr (.inl (by omega))

/-! ### a call of yield whose answer is known, and what it turns -/
section
variable {P : Program} {Q : Exit → Act → World → Prop} {A : Fr} {K : List (Nat × Value)} {B : Base} {I : Imm} {nx : Nat} {L : List Blk} {X : List Res} {os : List Oper} {p : Nat}
theorem RLi.yieldR (N : Res → Prop) (b : Bool) (l : Nat) (xs : Array Value) (d : Option Tmp) {r : Res} (hl : ready os p K d = true) (hnd : noDefer (os.getD p default) = true) (hx : execOp (evalK K) (os.getD p default) = Instr.yield l xs)
  (hy : ∀ w, Sat B I nx L (r :: X) w → YieldAt (Fence.ro none) 0 P l xs w fun e w' => e = .returned (.bool b) ∧ ∃ r', N r' ∧ Sat B I w'.heap.size L (r' :: X) w')
  (k : ∀ nx' r', N r' → RLi P os Q (p + 1) A (putK A K d (.bool b)) B I nx' L (r' :: X)) : RLi P os Q p A K B I nx L (r :: X) := by
 intro a w ha hs
 unfold ready at hl
 split at hl
 ·cases hl
 ·rename_i o ho
  simp only [Bool.and_eq_true, beq_iff_eq, List.all_eq_true] at hl
  obtain ⟨⟨hw, hk1, hk2⟩, hd⟩ := hl
  have hgo : os.getD p default = o := by rw [List.getD_eq_getElem?_getD, ho]; rfl
  rw [hgo] at hx
  rw [hgo] at hnd
  rw [drop_get (by rw [ho]; rfl), hgo]
  simp only [wpListIn]
  rw [if_pos (wantedK_spec ha hw)]
  refine ⟨fun _ _ => trivial, ?_⟩
  rw [Oper.semAt_plain (Fence.ro none) _ _ (fun c hc => by unfold noDefer at hnd; rw [hc] at hnd; cases hnd), ha.exec hk1 (fun x hx => hk2 x (by simpa using hx)), hx]
  obtain ⟨fn, tmps, as1, bd, hr, hR⟩ := hy w hs
  rw [hr]
  refine ⟨(fun h => by cases h), RoundIn.mono hR fun e w' ⟨he, r', hN, hs'⟩ => ?_⟩
  subst he
  show wpListIn _ 0 P os.toArray Q (os.drop (p + 1)) (a.put o.dst (.bool b)) w'
  rw [hd]
  exact k _ _ hN _ w' (ha.put d _) hs'
/-- The end of such a function. -/
theorem QN.bodyMr {fn : Func} {Rr : Ending → World → Prop} {D m : Nat} (hA : A.D = [{ target := .collected D, args := #[] }]) (hm : X[m]? = some (dres D (some []))) (v : Value) (hk : resKnown K fn.results.toList = true)
  (k : ∀ w, Sat B I nx L (X.set m (dres D none)) w → (resultsK fn K).run P w = .ok v w ∧ Rr (.returned v) w) : QN (bodyPostM Fence.wide 0 P fn Rr) .ret A K B I nx L X := by
 intro a w ha hs
 have hD := hs.res (dres D (some [])) (List.mem_of_getElem? hm)
 have hDl : D < w.heap.size := (Array.getElem?_eq_some_iff.1 hD).1
 have hs3 := hs.replace hm (dres D none) (w' := w.putObj D (.deferred none)) rfl rfl rfl (by simp) (fun k _ hf => World.putObj_heap_other (fun e => hf e)) (World.putObj_heap_same hDl) (fun k hk => .inl hk) (fun k hk => by
  obtain rfl : k = D := hk
  simpa using hDl)
 have hs4 : Sat B I nx L (X.set m (dres D none)) (w.putObj D (.deferred none)) := by
  have e : (w.putObj D (.deferred none)).heap.size = nx := by simp [hs.hnx]
  rw [← e]; exact hs3
 obtain ⟨h1, h2⟩ := k _ hs4
 show LeavesInM Fence.wide 0 P fn a.tmps Rr a.defers .returning w
 rw [ha.defers, hA]
 refine ⟨(fun h => by cases h), .inl ⟨D, _, rfl, run_takeDeferred hD, ?_⟩⟩
 refine ⟨v, ?_, h2⟩
 rw [results_eq hk ha]
 exact h1
end
section
variable {r : Nat} {P : Program} {A : Fr} {K : List (Nat × Value)} {Q : Exit → Act → World → Prop} {c : Code} {B : Base} {I : Imm} {nx : Nat} {L : List Blk} {X : List Res}
theorem Sat.kblkAt (m : Nat) {g : Nat} {ty : TypeId} {cs : List Value} {w : World} (hm : X[m]? = some (RW.kblk g ty cs)) (hs : Sat B I nx L X w) : Sat B I nx (L ++ [⟨g, cs, ty⟩]) (X.eraseIdx m) w := by
 obtain ⟨hml, hme⟩ := List.getElem?_eq_some_iff.1 hm
 refine Sat.kblk (hs.perm ?_)
 rw [← hme]
 exact perm_erase X m hml
theorem OKr.kblk (m : Nat) {g : Nat} {ty : TypeId} {cs : List Value} (hm : X[m]? = some (RW.kblk g ty cs)) (k : OKr r P c Q A K B I nx (L ++ [⟨g, cs, ty⟩]) (X.eraseIdx m)) : OKr r P c Q A K B I nx L X :=
 fun a w ha hs => k a w ha (Sat.kblkAt m hm hs)
theorem OK.kblkAt (m : Nat) {g : Nat} {ty : TypeId} {cs : List Value} (hm : X[m]? = some (RW.kblk g ty cs)) (k : OK P c Q A K B I nx (L ++ [⟨g, cs, ty⟩]) (X.eraseIdx m)) : OK P c Q A K B I nx L X :=
 fun a w ha hs => k a w ha (Sat.kblkAt m hm hs)
theorem Sat.addf {F : Imm → Prop} {hF : ∀ I J, Imm.le I J → F I → F J} {w : World} (hs : Sat B I nx L X w) (h : F I) : Sat B I nx L (X ++ [fres F hF]) w := by
 refine ⟨hs.evo, hs.hnx, hs.blk, hs.own, hs.ne, fun r hr => ?_, fun r hr k hk => ?_, List.pairwise_append.2 ⟨hs.rdis, List.pairwise_singleton _ _, fun r hr s hs k hk hk2 => ?_⟩, fun r hr b hb hk => ?_, hs.im, hs.imL, fun a v ha r hr hk => ?_, hs.le, hs.inew⟩
 ·rcases List.mem_append.1 hr with hr | hr
  ·exact hs.res r hr
  ·rw [List.mem_singleton.1 hr]; exact h
 ·rcases List.mem_append.1 hr with hr | hr
  ·exact hs.rown r hr k hk
  ·rw [List.mem_singleton.1 hr] at hk; exact hk.elim
 ·rw [List.mem_singleton.1 hs] at hk2; exact hk2.elim
 ·rcases List.mem_append.1 hr with hr | hr
  ·exact hs.rblk r hr b hb hk
  ·rw [List.mem_singleton.1 hr] at hk; exact hk.elim
 ·rcases List.mem_append.1 hr with hr | hr
  ·exact hs.imX a v ha r hr hk
  ·rw [List.mem_singleton.1 hr] at hk; exact hk.elim
end
theorem At.body {N : Nat → Prop} {I0 I : Imm} {X : List Res} {W W1 W2 : World} {nx1 : Nat} {L1 : List Blk} {l : Nat} (hat : At N I0 I (rl X) W) (hs : Sat ⟨W, fun _ => False, I⟩ I nx1 L1 [] W1) (hev : Evo (fun k => k = l) W1 W2) (hlW : l < W.heap.size)
  (hl : ¬ (rl X).fp l) (hIl : ∀ a v, I a = some v → a.block ≠ l) (hge : W.heap.size ≤ W1.heap.size) : Sat ⟨W2, fun k => (rl X).fp k ∨ W.heap.size ≤ k, I⟩ I W2.heap.size L1 X W2 := by
 have hsz := hev.size
 have hown : ∀ b ∈ L1, W.heap.size ≤ b.g := fun b hb => (hs.own b hb).resolve_right (fun h => h)
 have old : ∀ k, k < W.heap.size → k ≠ l → W2.heap[k]? = W.heap[k]? := fun k hk hne => (hev.blk k (by omega) hne).trans (hs.evo.blk k hk (fun h => h))
 refine ⟨Evo.refl _ _, rfl, fun b hb => ?_, fun b hb => .inr (.inr (hown b hb)), hs.ne, fun r hr => r.stable I W W2 (fun k hk => old k (hat.lt k ⟨r, hr, hk⟩) (fun e => hl ⟨r, hr, e ▸ hk⟩)) (hat.res.1 r hr), fun r hr k hk => ⟨?_, .inr (.inl ⟨r, hr, hk⟩)⟩, hat.res.2, fun r hr b hb hk => ?_, fun a v ha => ?_, hs.imL, fun a v ha r hr hk => hat.dis a v ha ⟨r, hr, hk⟩, Imm.le_refl _, fun _ _ h => .inl h⟩
 ·rw [hev.blk b.g (by rw [hs.hnx]; exact hs.lt hb) (fun e => by have := hown b hb; have e2 : b.g = l := e; omega)]
  exact hs.blk b hb
 ·have := hat.lt k ⟨r, hr, hk⟩
  omega
 ·have h1 := hat.lt _ ⟨r, hr, hk⟩
  have h2 := hown b hb
  omega
 ·have h := hat.im a v ha
  rw [← h]
  exact look_of_block (w := W) (old _ (look_lt h) (hIl a v ha))

end Go.Proofs.YtiomeaoeegikkaaDoor.RW
namespace Go.Proofs.YtiomeaoeegikkaaDoor
open Go Go.Proofs.YtiomeaoeegikkaaDoor.RW
set_option linter.unusedVariables false
set_option maxRecDepth 100000
set_option maxHeartbeats 8000000

/-! ### ledger_getWord: function 55, armillary/ledger.getWord -/
noncomputable def K55_0 : Code := cBody Tryd.f55
noncomputable def O55_4 : List Oper := cOps (cL (cR K55_0))
def ledger_getWord.f (a0 : List Int) : Option (Int) := (if 0 < (a0.length : Int) then (if 1 < (a0.length : Int) then (if 2 < (a0.length : Int) then (if 3 < (a0.length : Int) then (some (bOr .u32 (bOr .u32 (bOr .u32 (W .u32 ((a0.getD (0 : Int).toNat 0))) (W .u32 ((W .u32 ((a0.getD (1 : Int).toNat 0))) * 256))) (W .u32 ((W .u32 ((a0.getD (2 : Int).toNat 0))) * 65536))) (W .u32 ((W .u32 ((a0.getD (3 : Int).toNat 0))) * 16777216)))) else none) else none) else none) else none)
def ledger_getWord.Post (I : Imm) (w : World) (r : Int) (v : Value) (w' : World) : Prop :=
 ∃ (J : Imm), v = .int .u32 r ∧ Got w w' I J []
noncomputable def a55_4n : List Nat := [0, 1, 3, 7, 0, 16, 48, 112, 240, 511, 0, 1024, 3072, 7168, 15360, 32767, 0, 65536, 196608, 458752, 983040, 2097151, 4194303]
theorem a55_4 : ancs O55_4 [] = a55_4n := by kernel_rfl
theorem a55_4o : drawOk O55_4 a55_4n 21 = true := by kernel_rfl
noncomputable def u55d1l  : List Ld :=
 []
noncomputable def u55d1g (g1_ : Nat) (o1_ : Nat) (g2_ : Nat) (o2_ : Nat) (g3_ : Nat) (o3_ : Nat) (g4_ : Nat) (o4_ : Nat) : List (Nat × ((Nat → Wt) → Value)) := [(1, fun u => pt g1_ (o1_ + (0 : Int).toNat * 1)), (5, fun u => pt g2_ (o2_ + (1 : Int).toNat * 1)), (11, fun u => pt g3_ (o3_ + (2 : Int).toNat * 1)), (17, fun u => pt g4_ (o4_ + (3 : Int).toNat * 1))]
noncomputable def u55d1q (a0 : List Int) (Ap0 : Option Addr) (cp0 : Nat) (g1_ : Nat) (o1_ : Nat) (g2_ : Nat) (o2_ : Nat) (g3_ : Nat) (o3_ : Nat) (g4_ : Nat) (o4_ : Nat) (u : Nat → Wt) : Option (List Value × List (Nat × Value) × List (Nat × Nat)) := qSim Tryd.prog [(⟨g1_, o1_ + (0 : Int).toNat * 1, none⟩, .int .u8 (a0.getD (0 : Int).toNat 0)), (⟨g2_, o2_ + (1 : Int).toNat * 1, none⟩, .int .u8 (a0.getD (1 : Int).toNat 0)), (⟨g3_, o3_ + (2 : Int).toNat * 1, none⟩, .int .u8 (a0.getD (2 : Int).toNat 0)), (⟨g4_, o4_ + (3 : Int).toNat * 1, none⟩, .int .u8 (a0.getD (3 : Int).toNat 0))] [] O55_4 ⟨25, []⟩ (Ld.vl u55d1l) (u55d1g g1_ o1_ g2_ o2_ g3_ o3_ g4_ o4_) u [.no, .no, .r 0, .no, .no, .no, .r 1, .no, .no, .no, .no, .no, .r 2, .no, .no, .no, .no, .no, .r 3, .no, .no] 0 (O55_4.take 21) [(0, .slice Ap0 a0.length cp0)]
noncomputable def u55d1s (a0 : List Int) (Ap0 : Option Addr) (cp0 : Nat) (g1_ : Nat) (o1_ : Nat) (g2_ : Nat) (o2_ : Nat) (g3_ : Nat) (o3_ : Nat) (g4_ : Nat) (o4_ : Nat) (u : Nat → Wt) : List Value := [.slice Ap0 a0.length cp0, pt g1_ (o1_ + (0 : Int).toNat * 1), .int .u8 (a0.getD (0 : Int).toNat 0), .int .u32 (W .u32 ((a0.getD (0 : Int).toNat 0))), .slice Ap0 a0.length cp0, pt g2_ (o2_ + (1 : Int).toNat * 1), .int .u8 (a0.getD (1 : Int).toNat 0), .int .u32 (W .u32 ((a0.getD (1 : Int).toNat 0))), .int .u32 (W .u32 ((W .u32 ((a0.getD (1 : Int).toNat 0))) * 256)), .int .u32 (bOr .u32 (W .u32 ((a0.getD (0 : Int).toNat 0))) (W .u32 ((W .u32 ((a0.getD (1 : Int).toNat 0))) * 256))), .slice Ap0 a0.length cp0, pt g3_ (o3_ + (2 : Int).toNat * 1), .int .u8 (a0.getD (2 : Int).toNat 0), .int .u32 (W .u32 ((a0.getD (2 : Int).toNat 0))), .int .u32 (W .u32 ((W .u32 ((a0.getD (2 : Int).toNat 0))) * 65536)), .int .u32 (bOr .u32 (bOr .u32 (W .u32 ((a0.getD (0 : Int).toNat 0))) (W .u32 ((W .u32 ((a0.getD (1 : Int).toNat 0))) * 256))) (W .u32 ((W .u32 ((a0.getD (2 : Int).toNat 0))) * 65536))), .slice Ap0 a0.length cp0, pt g4_ (o4_ + (3 : Int).toNat * 1), .int .u8 (a0.getD (3 : Int).toNat 0), .int .u32 (W .u32 ((a0.getD (3 : Int).toNat 0))), .int .u32 (W .u32 ((W .u32 ((a0.getD (3 : Int).toNat 0))) * 16777216))]
noncomputable def u55d1f (a0 : List Int) (Ap0 : Option Addr) (cp0 : Nat) (g1_ : Nat) (o1_ : Nat) (g2_ : Nat) (o2_ : Nat) (g3_ : Nat) (o3_ : Nat) (g4_ : Nat) (o4_ : Nat) (i : Nat) (u : Nat → Wt) : List (Nat × Value) := foldPut ⟨25, []⟩ [(0, .slice Ap0 a0.length cp0)] (O55_4.take i) (((u55d1s a0 Ap0 cp0 g1_ o1_ g2_ o2_ g3_ o3_ g4_ o4_) u).take i)
theorem u55d1v (a0 : List Int) (Ap0 : Option Addr) (cp0 : Nat) (g1_ : Nat) (o1_ : Nat) (g2_ : Nat) (o2_ : Nat) (g3_ : Nat) (o3_ : Nat) (g4_ : Nat) (o4_ : Nat) (u : Nat → Wt) : (u55d1q a0 Ap0 cp0 g1_ o1_ g2_ o2_ g3_ o3_ g4_ o4_ u).map (fun x => (x.1, x.2.1)) = some ((u55d1s a0 Ap0 cp0 g1_ o1_ g2_ o2_ g3_ o3_ g4_ o4_) u, (u55d1f a0 Ap0 cp0 g1_ o1_ g2_ o2_ g3_ o3_ g4_ o4_ 21) u) := by kernel_rfl
theorem u55d1e (a0 : List Int) (Ap0 : Option Addr) (cp0 : Nat) (g1_ : Nat) (o1_ : Nat) (g2_ : Nat) (o2_ : Nat) (g3_ : Nat) (o3_ : Nat) (g4_ : Nat) (o4_ : Nat) (u : Nat → Wt) : (u55d1q a0 Ap0 cp0 g1_ o1_ g2_ o2_ g3_ o3_ g4_ o4_ u).map (fun x => x.2.2.map (·.1)) = (u55d1q a0 Ap0 cp0 g1_ o1_ g2_ o2_ g3_ o3_ g4_ o4_ u).map (fun x => x.2.2.map (·.2)) := by kernel_rfl
theorem ledger_getWord.calls (I0 : Imm) (a0 : List Int) (Ap0 : Option Addr) (cp0 : Nat) (w : World) (hI : I0.at_ w) (hlp0 : a0.length ≤ cp0) (hrp0 : Rd (Ty.int .u8) I0 Ap0 a0) (r : Int) (h : ledger_getWord.f a0 = some r) :
  Calls Tryd.prog 55 [.slice Ap0 a0.length cp0].toArray w fun e w' => ∃ v, e = .returned v ∧ ledger_getWord.Post I0 w r v w' := by
 have H : (if 0 < (a0.length : Int) then (if 1 < (a0.length : Int) then (if 2 < (a0.length : Int) then (if 3 < (a0.length : Int) then (some (bOr .u32 (bOr .u32 (bOr .u32 (W .u32 ((a0.getD (0 : Int).toNat 0))) (W .u32 ((W .u32 ((a0.getD (1 : Int).toNat 0))) * 256))) (W .u32 ((W .u32 ((a0.getD (2 : Int).toNat 0))) * 65536))) (W .u32 ((W .u32 ((a0.getD (3 : Int).toNat 0))) * 16777216)))) else none) else none) else none) else none) = some r := h
 clear h
 refine calls_body Tryd.func55 (by kernel_rfl) 25 (by kernel_rfl) (by kernel_rfl) ⟨w, fun _ => False, I0⟩ I0 [] [(0, .slice Ap0 a0.length cp0)] (by kernel_rfl) (Sat.start w _ I0 hI) ?_
 generalize w.heap.size = nx0
 show OK _ K55_0 _ _ _ _ _ _ _ _
 refine OK.sr ?_
 refine RL.st 1 [(0, .slice Ap0 a0.length cp0)] ?_
 refine OK.sq ?_
 have hi0_1 : (0 : Int) ≤ 0 := by decide
 obtain ⟨hi1_1, H⟩ := ifs H
 obtain ⟨g1_, o1_, hA1_, hc1_⟩ := Ty.int_at hrp0 0 hi0_1 hi1_1
 have hi0_2 : (0 : Int) ≤ 1 := by decide
 obtain ⟨hi1_2, H⟩ := ifs H
 obtain ⟨g2_, o2_, hA2_, hc2_⟩ := Ty.int_at hrp0 1 hi0_2 hi1_2
 have hi0_3 : (0 : Int) ≤ 2 := by decide
 obtain ⟨hi1_3, H⟩ := ifs H
 obtain ⟨g3_, o3_, hA3_, hc3_⟩ := Ty.int_at hrp0 2 hi0_3 hi1_3
 have hi0_4 : (0 : Int) ≤ 3 := by decide
 obtain ⟨hi1_4, H⟩ := ifs H
 obtain ⟨g4_, o4_, hA4_, hc4_⟩ := Ty.int_at hrp0 3 hi0_4 hi1_4
 refine OK.drawnC 1 21 O55_4 a55_4n (by kernel_rfl) (by kernel_rfl) u55d1l (u55d1g g1_ o1_ g2_ o2_ g3_ o3_ g4_ o4_) [(⟨g1_, o1_ + (0 : Int).toNat * 1, none⟩, .int .u8 (a0.getD (0 : Int).toNat 0)), (⟨g2_, o2_ + (1 : Int).toNat * 1, none⟩, .int .u8 (a0.getD (1 : Int).toNat 0)), (⟨g3_, o3_ + (2 : Int).toNat * 1, none⟩, .int .u8 (a0.getD (2 : Int).toNat 0)), (⟨g4_, o4_ + (3 : Int).toNat * 1, none⟩, .int .u8 (a0.getD (3 : Int).toNat 0))] (RI.cons (hc1_ 0 _ rfl) (RI.cons (hc2_ 0 _ rfl) (RI.cons (hc3_ 0 _ rfl) (RI.cons (hc4_ 0 _ rfl) (RI.nil _))))) [.no, .no, .r 0, .no, .no, .no, .r 1, .no, .no, .no, .no, .no, .r 2, .no, .no, .no, .no, .no, .r 3, .no, .no] a55_4 a55_4o (by kernel_rfl) (by kernel_rfl) (u55d1s a0 Ap0 cp0 g1_ o1_ g2_ o2_ g3_ o3_ g4_ o4_) (u55d1f a0 Ap0 cp0 g1_ o1_ g2_ o2_ g3_ o3_ g4_ o4_ 21) (u55d1v a0 Ap0 cp0 g1_ o1_ g2_ o2_ g3_ o3_ g4_ o4_) (u55d1e a0 Ap0 cp0 g1_ o1_ g2_ o2_ g3_ o3_ g4_ o4_) [] framesOk.nil ?_ [u55d1f a0 Ap0 cp0 g1_ o1_ g2_ o2_ g3_ o3_ g4_ o4_ 1, u55d1f a0 Ap0 cp0 g1_ o1_ g2_ o2_ g3_ o3_ g4_ o4_ 5, u55d1f a0 Ap0 cp0 g1_ o1_ g2_ o2_ g3_ o3_ g4_ o4_ 11, u55d1f a0 Ap0 cp0 g1_ o1_ g2_ o2_ g3_ o3_ g4_ o4_ 17] (framesOk.cons (fun u => rfl) (framesOk.cons (fun u => rfl) (framesOk.cons (fun u => rfl) (framesOk.cons (fun u => rfl) framesOk.nil)))) ?_ ?_
 ·refine LoudsG.nil
 ·refine Givens.cons (fun u w =>  ?_) (fun _ _ _ => rfl) (Givens.cons (fun u w =>  ?_) (fun _ _ _ => rfl) (Givens.cons (fun u w =>  ?_) (fun _ _ _ => rfl) (Givens.cons (fun u w =>  ?_) (fun _ _ _ => rfl) (Givens.nil))))
  ·exact giv_idx (T := 22) (e := 5) 1 .i64 0 hA1_ a0.length cp0 (by kernel_rfl) (by kernel_rfl) (by kernel_rfl) hi0_1 hi1_1 w
  ·exact giv_idx (T := 22) (e := 5) 1 .i64 1 hA2_ a0.length cp0 (by kernel_rfl) (by kernel_rfl) (by kernel_rfl) hi0_2 hi1_2 w
  ·exact giv_idx (T := 22) (e := 5) 1 .i64 2 hA3_ a0.length cp0 (by kernel_rfl) (by kernel_rfl) (by kernel_rfl) hi0_3 hi1_3 w
  ·exact giv_idx (T := 22) (e := 5) 1 .i64 3 hA4_ a0.length cp0 (by kernel_rfl) (by kernel_rfl) (by kernel_rfl) hi0_4 hi1_4 w
 intro u I1 nx1 hi1 hF
 clear hF
 refine RL.norm (K' := [(23, .int .u32 (W .u32 ((W .u32 ((a0.getD (3 : Int).toNat 0))) * 16777216))), (22, .int .u32 (W .u32 ((a0.getD (3 : Int).toNat 0)))), (21, .int .u8 (a0.getD (3 : Int).toNat 0)), (20, pt g4_ (o4_ + (3 : Int).toNat * 1)), (19, .slice Ap0 a0.length cp0), (18, .int .u32 (bOr .u32 (bOr .u32 (W .u32 ((a0.getD (0 : Int).toNat 0))) (W .u32 ((W .u32 ((a0.getD (1 : Int).toNat 0))) * 256))) (W .u32 ((W .u32 ((a0.getD (2 : Int).toNat 0))) * 65536)))), (17, .int .u32 (W .u32 ((W .u32 ((a0.getD (2 : Int).toNat 0))) * 65536))), (16, .int .u32 (W .u32 ((a0.getD (2 : Int).toNat 0)))), (15, .int .u8 (a0.getD (2 : Int).toNat 0)), (14, pt g3_ (o3_ + (2 : Int).toNat * 1)), (13, .slice Ap0 a0.length cp0), (12, .int .u32 (bOr .u32 (W .u32 ((a0.getD (0 : Int).toNat 0))) (W .u32 ((W .u32 ((a0.getD (1 : Int).toNat 0))) * 256)))), (11, .int .u32 (W .u32 ((W .u32 ((a0.getD (1 : Int).toNat 0))) * 256))), (10, .int .u32 (W .u32 ((a0.getD (1 : Int).toNat 0)))), (9, .int .u8 (a0.getD (1 : Int).toNat 0)), (8, pt g2_ (o2_ + (1 : Int).toNat * 1)), (7, .slice Ap0 a0.length cp0), (6, .int .u32 (W .u32 ((a0.getD (0 : Int).toNat 0)))), (5, .int .u8 (a0.getD (0 : Int).toNat 0)), (4, pt g1_ (o1_ + (0 : Int).toNat * 1)), (3, .slice Ap0 a0.length cp0), (0, .slice Ap0 a0.length cp0)]) (X' := []) (by kernel_rfl) rfl rfl rfl ?_
 refine RL.st 2 [(2, .int .u32 (bOr .u32 (bOr .u32 (bOr .u32 (W .u32 ((a0.getD (0 : Int).toNat 0))) (W .u32 ((W .u32 ((a0.getD (1 : Int).toNat 0))) * 256))) (W .u32 ((W .u32 ((a0.getD (2 : Int).toNat 0))) * 65536))) (W .u32 ((W .u32 ((a0.getD (3 : Int).toNat 0))) * 16777216))))] ?_
 refine OK.re ?_
 obtain rfl := Option.some.inj H
 refine QN.body rfl [] (RFacts.nil _ _ _) (.no) (.int .u32 (bOr .u32 (bOr .u32 (bOr .u32 (W .u32 ((a0.getD (0 : Int).toNat 0))) (W .u32 ((W .u32 ((a0.getD (1 : Int).toNat 0))) * 256))) (W .u32 ((W .u32 ((a0.getD (2 : Int).toNat 0))) * 65536))) (W .u32 ((W .u32 ((a0.getD (3 : Int).toNat 0))) * 16777216)))) (by kernel_rfl) (by kernel_rfl) (by kernel_rfl) ?_ _ (.inr rfl)
 exact fun w' hs' => ⟨_, rfl, I1, rfl, hs'.got _ .slnil⟩

end Go.Proofs.YtiomeaoeegikkaaDoor
