/- Words of the walk, the functions' walks and plain laws, joined; no conditions beyond those that the theorems name. -/
import Derived.Test.YtiomeaoeegikkaaDoorY3
import Derived.Test.YtiomeaoeegikkaaDoorY5
import Derived.Test.YtiomeaoeegikkaaDoorY4
namespace Go.Proofs.YtiomeaoeegikkaaDoor
open Go Go.Proofs.YtiomeaoeegikkaaDoor.RW
set_option linter.unusedVariables false
set_option maxRecDepth 100000
set_option maxHeartbeats 8000000

/-! ### armillaryref28_Log: function 13, armillary/armillaryref28.Log -/
noncomputable def K13_0 : Code := cBody Tryd.f13
def armillaryref28_Log.k1  (x1 : List Int) : Option (List Int) := (some x1)
def armillaryref28_Log.l1 (a0 : List S25) : Nat → (List Int) → Int → Option (List Int)
 | 0, _, _ => none
 | k + 1, x2, x3 => (if x3 < (a0.length : Int) then (if 0 ≤ x3 then (if x3 < (a0.length : Int) then ((armillaryref28_Record.f k (a0.getD (x3).toNat z25)).bind fun t1 => (if (x2.length + t1.length) * 1 ≤ 140737488355328 then (armillaryref28_Log.l1 a0 k (x2 ++ t1) (W .i64 (x3 + 1))) else none)) else none) else none) else (some x2))
def armillaryref28_Log.f (k : Nat) (a0 : List S25) : Option (List Int) := ((armillaryref28_Log.l1 a0 k ([] : List Int) 0).bind (armillaryref28_Log.k1))
def armillaryref28_Log.Post (I : Imm) (w : World) (r : List Int) (v : Value) (w' : World) : Prop :=
 ∃ (J : Imm) (A0 : Option Addr) (c0 : Nat) (cs0 : List Value), v = .slice A0 r.length c0 ∧ Got w w' I J [orow 5 1 A0 r.length c0 cs0] ∧ Reps (Ty.int .u8) J r cs0
theorem armillaryref28_Log.calls (k : Nat) (I0 : Imm) (a0 : List S25) (Ap0 : Option Addr) (cp0 : Nat) (w : World) (hI : I0.at_ w) (hlp0 : a0.length ≤ cp0) (hrp0 : Rd t25 I0 Ap0 a0) (r : List Int) (h : armillaryref28_Log.f k a0 = some r) :
  Calls Tryd.prog 13 [.slice Ap0 a0.length cp0].toArray w fun e w' => ∃ v, e = .returned v ∧ armillaryref28_Log.Post I0 w r v w' := by
 have H : ((armillaryref28_Log.l1 a0 k ([] : List Int) 0).bind (armillaryref28_Log.k1)) = some r := h
 clear h
 refine calls_body Tryd.func13 (by kernel_rfl) 20 (by kernel_rfl) (by kernel_rfl) ⟨w, fun _ => False, I0⟩ I0 [] [(0, .slice Ap0 a0.length cp0)] (by kernel_rfl) (Sat.start w _ I0 hI) ?_
 generalize w.heap.size = nx0
 show OK _ K13_0 _ _ _ _ _ _ _ _
 refine OK.sr ?_
 refine RL.st 1 [(0, .slice Ap0 a0.length cp0)] ?_
 refine OK.sr ?_
 refine RL.spt 2 [(3, .slice (some ⟨nx0, 0, none⟩) 0 0), (0, .slice Ap0 a0.length cp0)] (nx0 + 1) [⟨nx0, [], 5⟩] ?_
 refine OK.sq ?_
 refine OK.sr ?_
 refine RL.st 1 [(4, i6 0), (3, .slice (some ⟨nx0, 0, none⟩) 0 0), (0, .slice Ap0 a0.length cp0)] ?_
 refine OK.join (fun K' I' _ L' X' => ∃ (x1 : List Int) (A1 : Option Addr) (c1 : Nat) (cs1 : List Value), K' = [(3, .slice A1 x1.length c1)] ∧ L' = [] ∧ X' = [orow 5 1 A1 x1.length c1 cs1] ∧ Imm.le I0 I' ∧ Reps (Ty.int .u8) I' x1 cs1 ∧ armillaryref28_Log.k1 x1 = some r) ?_ ?_
 ·rintro _ I1 nx1 _ _ ⟨x1, A1, c1, cs1, rfl, rfl, rfl, hi1, hp1, H⟩
  rw [armillaryref28_Log.k1] at H
  refine QN.then_ ?_
  refine OK.sr ?_
  refine RL.st 2 [(2, .slice A1 x1.length c1)] ?_
  refine OK.re ?_
  obtain rfl := Option.some.inj H
  refine QN.body rfl [] (RFacts.nil _ _ _) (.no) (.slice A1 x1.length c1) (by kernel_rfl) (by kernel_rfl) (by kernel_rfl) ?_ _ (.inr rfl)
  exact fun w' hs' => ⟨_, rfl, I1, A1, c1, cs1, rfl, hs'.got _ (.cons_cons _ .slnil), hp1⟩
 ·intro Q_1 hJ1 hQ1
  obtain ⟨y1, H, HK1⟩ := bnd H
  refine OK.bk 0 ?_
  refine OK.toRow (b := ⟨nx0, [], 5⟩) 0 0 1 (by kernel_rfl) (by kernel_rfl) (by decide) ?_
  have hp5 : Reps (Ty.int .u8) I0 ([] : List Int) [] := rfl
  refine OK.norm (L' := []) (X' := [orow 5 1 (some ⟨nx0, 0, none⟩) (([] : List Int).length) 0 []]) rfl rfl (by kernel_rfl) (by kernel_rfl) ?_
  refine OK.sub (K' := [(0, .slice Ap0 a0.length cp0), (3, .slice (some ⟨nx0, 0, none⟩) 0 0), (4, i6 0)]) (L' := []) (by kernel_rfl) .slnil (.refl _) ?_
  refine OK.lp (fun n_ K' I' _ L' X' => ∃ (x2 : List Int) (x3 : Int) (A2 : Option Addr) (c2 : Nat) (cs2 : List Value), K' = [(0, .slice Ap0 a0.length cp0), (3, .slice A2 x2.length c2), (4, i6 x3)] ∧ L' = [] ∧ X' = [orow 5 1 A2 x2.length c2 cs2] ∧ Imm.le I0 I' ∧ Reps (Ty.int .u8) I' x2 cs2 ∧ armillaryref28_Log.l1 a0 n_ x2 x3 = some y1) k ⟨([] : List Int), 0, (some ⟨nx0, 0, none⟩), 0, [], rfl, rfl, rfl, (Imm.le_refl _), hp5, H⟩ ?_ ?_
  ·rintro _ _ _ _ _ ⟨x2, x3, A2, c2, cs2, rfl, rfl, rfl, _, hp2, H⟩
   cases H
  ·rintro kq1 _ I2 nx2 _ _ ⟨x2, x3, A2, c2, cs2, rfl, rfl, rfl, hi2, hp2, H⟩ Q_l1 hJ2 hQ2
   rw [armillaryref28_Log.l1] at H
   refine OK.sq ?_
   refine OK.sr ?_
   refine RL.st 4 [(9, .bool (decide (x3 < (a0.length : Int)))), (0, .slice Ap0 a0.length cp0), (3, .slice A2 x2.length c2), (4, i6 x3)] ?_
   refine OK.cd (decide (x3 < (a0.length : Int))) (fun hb => ?_) (fun hb => ?_)
   ·skip
    have hc := (of_decide_eq_true hb)
    rw [if_pos hc] at H
    clear hb
    refine OK.skt ?_
    refine OK.sq ?_
    refine OK.bk 1 ?_
    refine OK.rg ?_
    refine RL.s 3 [(14, i6 x3), (13, .slice Ap0 a0.length cp0), (12, .slice A2 x2.length c2), (0, .slice Ap0 a0.length cp0), (3, .slice A2 x2.length c2), (4, i6 x3)] ?_
    obtain ⟨hib0, H⟩ := ifs H
    obtain ⟨hib1, H⟩ := ifs H
    obtain ⟨g1_, o1_, hA1_, A1_2_, c1_2_, hl1_2_, hr1_2_, hc1_⟩ := t25_at (Rd.ext hi2 hrp0) x3 hib0 hib1
    refine RL.idx 3 .i64 x3 hA1_ a0.length cp0 (some 15) (by kernel_rfl) (by kernel_rfl) (T := 23) (e := 25) (by kernel_rfl) (by kernel_rfl) hib0 hib1 (K' := [(15, pt g1_ (o1_ + (x3).toNat * 3)), (14, i6 x3), (13, .slice Ap0 a0.length cp0), (12, .slice A2 x2.length c2), (0, .slice Ap0 a0.length cp0), (3, .slice A2 x2.length c2), (4, i6 x3)]) (by kernel_rfl) ?_
    refine RL.simK (K' := [(16, .agg #[i6 ((a0.getD (x3).toNat z25).f0), .string ((a0.getD (x3).toNat z25).f1), .slice A1_2_ (((a0.getD (x3).toNat z25).f2).length) c1_2_]), (12, .slice A2 x2.length c2), (0, .slice Ap0 a0.length cp0), (3, .slice A2 x2.length c2), (4, i6 x3)]) [(⟨g1_, o1_ + (x3).toNat * 3, none⟩, i6 ((a0.getD (x3).toNat z25).f0)), (⟨g1_, o1_ + (x3).toNat * 3 + 1, none⟩, .string ((a0.getD (x3).toNat z25).f1)), (⟨g1_, o1_ + (x3).toNat * 3 + 2, none⟩, .slice A1_2_ (((a0.getD (x3).toNat z25).f2).length) c1_2_)] (RFacts.imm (hc1_ 0 _ rfl) (RFacts.imm (hc1_ 1 _ rfl) (RFacts.imm (hc1_ 2 _ rfl) (RFacts.nil _ _ _)))) 1 [.r 0] (by kernel_rfl) (by kernel_rfl) ?_
    obtain ⟨t1, hA1, H⟩ := bnd H
    refine RL.callP 27 [.agg #[i6 ((a0.getD (x3).toNat z25).f0), .string ((a0.getD (x3).toNat z25).f1), .slice A1_2_ (((a0.getD (x3).toNat z25).f2).length) c1_2_]] (some 17) (fun w => armillaryref28_Record.Post I2 w t1) (by kernel_rfl) (by kernel_rfl) (fun w hs => armillaryref28_Record.calls kq1 I2 (a0.getD (x3).toNat z25) A1_2_ c1_2_ w hs.im hl1_2_ hr1_2_ t1 hA1) ?_
    rintro w v w' hs ⟨I3, A3, c3, cs3, rfl, hg, hp3⟩
    have hi3 := hg.le
    refine RL.resume (X' := [orow 5 1 A2 x2.length c2 cs2, orow 5 1 A3 t1.length c3 cs3]) rfl (hs.call hg) ?_
    clear hs hg
    generalize w'.heap.size = nx3
    clear w w'
    refine RL.freeze (e := 5) (sz := 1) (S := A3) (n := t1.length) (cap := c3) 1 (by kernel_rfl) hp3 rfl (fun I4 hi4 hl1 hr1 => ?_)
    skip
    obtain ⟨hz1, H⟩ := ifs H
    refine RL.appendR (T := 22) (e := 5) (S := A2) (S2 := A3) 1 1 22 c2 c3 cs2 (Ty.int .u8) x2 t1 0 (some 18) (by kernel_rfl) (by kernel_rfl) (by kernel_rfl) (by kernel_rfl) (by kernel_rfl) (by decide) (by kernel_rfl) (Reps.ext (Imm.le_trans hi3 hi4) hp2) hr1 hz1 (by omega) (fun A4 c4 nx4 cs4 hp4 => ?_)
    refine RL.sub (K' := [(18, .slice A4 ((x2 ++ t1).length) c4), (17, .slice A3 t1.length c3), (16, .agg #[i6 ((a0.getD (x3).toNat z25).f0), .string ((a0.getD (x3).toNat z25).f1), .slice A1_2_ (((a0.getD (x3).toNat z25).f2).length) c1_2_]), (0, .slice Ap0 a0.length cp0), (4, i6 x3)]) (L' := []) (X' := [orow 5 1 A4 ((x2 ++ t1).length) c4 cs4]) (by kernel_rfl) (.refl _) (.refl _) ?_
    refine RL.s 1 [(3, .slice A4 ((x2 ++ t1).length) c4), (0, .slice Ap0 a0.length cp0), (4, i6 x3)] ?_
    refine RL.nil (by kernel_rfl) ?_
    refine QN.blkN ?_
    refine QN.then_ ?_
    refine OK.rg ?_
    refine RL.s 3 [(4, i6 (W .i64 (x3 + 1))), (3, .slice A4 ((x2 ++ t1).length) c4), (0, .slice Ap0 a0.length cp0)] ?_
    refine RL.nil (by kernel_rfl) ?_
    exact QN.sb (hJ2 _ _ _ _ _ ⟨(x2 ++ t1), W .i64 (x3 + 1), A4, c4, cs4, rfl, rfl, rfl, (Imm.le_trans (Imm.le_trans hi2 hi3) hi4), hp4, H⟩) .slnil (.refl _)
   ·skip
    have hc := (of_decide_eq_false hb)
    rw [if_neg hc] at H
    clear hb
    refine OK.ex 0 ?_
    refine QN.thenE ?_
    refine QN.outE hQ2 ?_
    refine QN.blkE ?_
    obtain rfl := Option.some.inj H
    exact QN.sb (hJ1 _ _ _ _ _ ⟨x2, A2, c2, cs2, rfl, rfl, rfl, hi2, hp2, HK1⟩) .slnil (.refl _)

end Go.Proofs.YtiomeaoeegikkaaDoor
namespace Go.Proofs.YtiomeaoeegikkaaDoor.led
open Go Go.Proofs.YtiomeaoeegikkaaDoor Go.Proofs.YtiomeaoeegikkaaDoor.RW
set_option linter.unusedVariables false
set_option maxRecDepth 100000
/-! ### one checksum -/
theorem xor_half (a b : Nat) : (a ^^^ b) / 2 = (a / 2) ^^^ (b / 2) := by
  have := Nat.shiftRight_xor_distrib (a := a) (b := b) (i := 1)
  simpa [Nat.shiftRight_eq_div_pow] using this
theorem xor_par (a b : Nat) : (a ^^^ b) % 2 = (a % 2 + b % 2) % 2 := by
  have := Nat.xor_mod_two_pow (a := a) (b := b) (n := 1)
  rw [Nat.pow_one] at this
  rw [this]
  rcases Nat.mod_two_eq_zero_or_one a with h | h <;> rcases Nat.mod_two_eq_zero_or_one b with h2 | h2 <;> rw [h, h2] <;> rfl
theorem st_xor (a b : Nat) : st (a ^^^ b) = st a ^^^ st b := by
  unfold st
  rw [xor_half, xor_par]
  rcases Nat.mod_two_eq_zero_or_one a with h | h <;> rcases Nat.mod_two_eq_zero_or_one b with h2 | h2 <;> rw [h, h2]
  · simp
  · simp [Nat.xor_assoc]
  · simp
    rw [Nat.xor_assoc, Nat.xor_assoc, Nat.xor_comm (b / 2)]
  · have : (a / 2 ^^^ 3988292384) ^^^ (b / 2 ^^^ 3988292384) = (a / 2 ^^^ b / 2) ^^^ (3988292384 ^^^ 3988292384) := by
      rw [Nat.xor_assoc, Nat.xor_assoc, ← Nat.xor_assoc 3988292384, Nat.xor_comm 3988292384 (b / 2), Nat.xor_assoc]
    simp only [Nat.reduceAdd, Nat.reduceMod, Nat.zero_ne_one, if_false, if_true, Nat.xor_zero] at *
    rw [this, Nat.xor_self, Nat.xor_zero]
theorem st8_xor (a b : Nat) : st8 (a ^^^ b) = st8 a ^^^ st8 b := by
  unfold st8
  rw [st_xor, st_xor, st_xor, st_xor, st_xor, st_xor, st_xor, st_xor]
theorem st_even (z : Nat) : st (2 * z) = z := by
  unfold st
  rw [if_neg (by omega), Nat.xor_zero]
  omega
theorem st8_high (h : Nat) : st8 (256 * h) = h := by
  unfold st8
  rw [show 256 * h = 2 * (128 * h) from by omega, st_even, show 128 * h = 2 * (64 * h) from by omega, st_even, show 64 * h = 2 * (32 * h) from by omega, st_even, show 32 * h = 2 * (16 * h) from by omega, st_even, show 16 * h = 2 * (8 * h) from by omega, st_even, show 8 * h = 2 * (4 * h) from by omega, st_even, show 4 * h = 2 * (2 * h) from by omega, st_even, st_even]
theorem split256 (c : Nat) : c = (256 * (c / 256)) ^^^ (c % 256) := by
  apply Nat.eq_of_testBit_eq
  intro i
  rw [Nat.testBit_xor, show 256 * (c / 256) = 2 ^ 8 * (c / 2 ^ 8) from rfl, show c % 256 = c % 2 ^ 8 from rfl, Nat.testBit_two_pow_mul, Nat.testBit_mod_two_pow, Nat.testBit_div_two_pow]
  by_cases h : i < 8
  · simp [h, show ¬ (8 ≤ i) from by omega]
  · simp [h, show 8 ≤ i from by omega]
theorem upd1_eq (c x : Nat) : upd1 c x = st8 (c ^^^ x) := by
  have h : c ^^^ x = (256 * (c / 256)) ^^^ ((c % 256) ^^^ x) := by
    rw [← Nat.xor_assoc, ← split256]
  rw [h, st8_xor, st8_high]
  rfl
theorem rl2_step {k y j : Nat} (hy : y < 4294967296) (hj : j < 8) : armillaryref27_Checksum.l2 (k + 1) (y : Int) (j : Int) = armillaryref27_Checksum.l2 k (st y : Int) ((j + 1 : Nat) : Int) := by
  have h1 : bAnd .u32 (y : Int) 1 = ((y % 2 : Nat) : Int) := by
    show W .u32 (((BitVec.ofInt 32 (y : Int) &&& 1#32).toNat : Nat) : Int) = _
    rw [BitVec.ofInt_natCast, W32, BitVec.toNat_and, BitVec.toNat_ofNat]
    show ((y % 4294967296 &&& 1 : Nat) : Int) % 4294967296 = _
    rw [Nat.and_one_is_mod, Nat.mod_eq_of_lt hy]
    omega
  have h2 : Int.fdiv (y : Int) 2 = ((y / 2 : Nat) : Int) := by
    rw [Int.fdiv_eq_ediv_of_nonneg _ (by decide)]; omega
  rw [armillaryref27_Checksum.l2, if_pos (by omega), h1, h2, Wn (by omega)]
  unfold st
  rcases Nat.mod_two_eq_zero_or_one y with e | e
  · rw [e, if_neg (by decide), if_neg (by decide), Nat.xor_zero]
    rfl
  · rw [e, if_pos (by decide), if_pos rfl, show (3988292384 : Int) = ((3988292384 : Nat) : Int) from rfl, bXor32 _ 3988292384 (by omega) (by decide)]
    rfl
theorem rl2_ev {y : Nat} (hy : y < 4294967296) : Ev (fun k => armillaryref27_Checksum.l2 k (y : Int) 0) (st8 y : Int) := by
  refine ⟨9, fun k hk => ?_⟩
  obtain ⟨m, rfl⟩ : ∃ m, k = m + 9 := ⟨k - 9, by omega⟩
  have s0 := rl2_step (k := m + 8) (j := 0) hy (by decide)
  have s1 := rl2_step (k := m + 7) (j := 1) (st_lt hy) (by decide)
  have s2 := rl2_step (k := m + 6) (j := 2) (st_lt (st_lt hy)) (by decide)
  have s3 := rl2_step (k := m + 5) (j := 3) (st_lt (st_lt (st_lt hy))) (by decide)
  have s4 := rl2_step (k := m + 4) (j := 4) (st_lt (st_lt (st_lt (st_lt hy)))) (by decide)
  have s5 := rl2_step (k := m + 3) (j := 5) (st_lt (st_lt (st_lt (st_lt (st_lt hy))))) (by decide)
  have s6 := rl2_step (k := m + 2) (j := 6) (st_lt (st_lt (st_lt (st_lt (st_lt (st_lt hy)))))) (by decide)
  have s7 := rl2_step (k := m + 1) (j := 7) (st_lt (st_lt (st_lt (st_lt (st_lt (st_lt (st_lt hy))))))) (by decide)
  refine s0.trans (s1.trans (s2.trans (s3.trans (s4.trans (s5.trans (s6.trans (s7.trans ?_)))))))
  rw [armillaryref27_Checksum.l2, if_neg (by decide)]
  rfl
theorem rcs_l1 (a0 : List Int) (hb : isBytes a0) (hl : a0.length < 1000000000) : ∀ (d n c : Nat), d + n = a0.length → c < 4294967296 → Ev (fun k => armillaryref27_Checksum.l1 a0 k (c : Int) (n : Int)) (crc c (a0.drop n) : Int)
  | 0, n, c, h, hc => by
    obtain rfl : n = a0.length := by omega
    rw [List.drop_length]
    exact Ev.succ (g := fun _ => some (c : Int)) (fun k => by rw [armillaryref27_Checksum.l1, if_neg (by omega)]) (Ev.const rfl)
  | d + 1, n, c, h, hc => by
    have hn : n < a0.length := by omega
    have hx := hb _ (List.getElem_mem hn)
    obtain ⟨x, hxe⟩ : ∃ x : Nat, a0[n] = (x : Int) := ⟨a0[n].toNat, by omega⟩
    have hg : a0.getD n 0 = (x : Int) := by rw [List.getD_eq_getElem?_getD, List.getElem?_eq_getElem hn, ← hxe]; rfl
    have hx' : x < 256 := by omega
    have ih := rcs_l1 a0 hb hl d (n + 1) (upd1 c x) (by omega) (upd1_lt hc hx')
    rw [List.drop_eq_getElem_cons hn]
    have e : crc c (a0[n] :: a0.drop (n + 1)) = crc (upd1 c x) (a0.drop (n + 1)) := by
      show crc (upd1 c a0[n].toNat) _ = _
      rw [hxe, tn]
    rw [e]
    have h1 : bXor .u32 (c : Int) (W .u32 (a0.getD n 0)) = ((c ^^^ x : Nat) : Int) := by
      rw [hg, W32, show (x : Int) % 4294967296 = (x : Int) from by omega]
      exact bXor32 _ _ hc (by omega)
    have h2 : c ^^^ x < 4294967296 := Nat.xor_lt_two_pow (n := 32) hc (by omega)
    have e2 := Ev.bind (rl2_ev h2) (Ev.const (x := armillaryref27_Checksum.k3 (st8 (c ^^^ x) : Int)) rfl)
    rw [← upd1_eq] at e2
    refine Ev.succ (g := fun k => ((armillaryref27_Checksum.l2 k ((c ^^^ x : Nat) : Int) 0).bind (armillaryref27_Checksum.k3)).bind (fun x4 => armillaryref27_Checksum.l1 a0 k x4 ((n + 1 : Nat) : Int))) (fun k => ?_) (Ev.bind e2 ih)
    rw [armillaryref27_Checksum.l1, if_pos (by omega), if_pos (by omega), if_pos (by omega), tn, h1, Wn (by omega)]
theorem rchecksum_ev {l : List Int} (hb : isBytes l) (hl : l.length < 1000000000) : Ev (fun k => armillaryref27_Checksum.f k l) (cs l : Int) := by
  refine Ev.bind (r := (crc 4294967295 l : Int)) (rcs_l1 l hb hl l.length 0 4294967295 rfl (by decide)) (Ev.const ?_)
  unfold armillaryref27_Checksum.k1
  rw [show (4294967295 : Int) = ((4294967295 : Nat) : Int) from rfl, bXor32 _ _ (crc_lt (by decide) hb) (by decide), Nat.xor_comm]
  rfl

/-! ### one encoding -/
theorem rvl1_ev (u : Nat) : ∀ (x : List Int), u < 2097152 → x.length + u < 140737488355000 → Ev (fun k => (armillaryref27_AppendVarint.l1 k (u : Int) x).bind armillaryref27_AppendVarint.k1) (x ++ vg u) := by
  induction u using Nat.strongRecOn with
  | _ u ih =>
    intro x hu hx
    by_cases h : u < 128
    · refine Ev.succ (g := fun _ => some (x ++ vg u)) (fun k => ?_) (Ev.const rfl)
      rw [armillaryref27_AppendVarint.l1, if_neg (by omega), Option.bind_some]
      show (if (x.length + [W .u8 (u : Int)].length) * 1 ≤ 140737488355328 then some (x ++ [W .u8 (u : Int)]) else none) = _
      rw [if_pos (by simp only [List.length_singleton]; omega), vg_small h, W8, show (u : Int) % 256 = (u : Int) from by omega]
    · have h1 := ih (u / 128) (by omega) (x ++ [((u % 128 + 128 : Nat) : Int)]) (by omega) (by
        simp only [List.length_append, List.length_singleton]
        omega)
      rw [vg_big h, show x ++ ((u % 128 + 128 : Nat) : Int) :: vg (u / 128) = (x ++ [((u % 128 + 128 : Nat) : Int)]) ++ vg (u / 128) from by simp]
      refine Ev.succ (fun k => ?_) h1
      rw [armillaryref27_AppendVarint.l1, if_pos (by omega), bOr8, if_pos (by simp only [List.length_singleton]; omega), Int.fdiv_eq_ediv_of_nonneg _ (by decide), show (u : Int) / 128 = ((u / 128 : Nat) : Int) from by omega]
theorem rav_ev (x : List Int) (n : Nat) (hn : n < 1000000) (hx : x.length < 1000000000000) : Ev (fun k => armillaryref27_AppendVarint.f k x (n : Int)) (x ++ vg (2 * n)) := by
  refine Ev.congr (g := fun k => (armillaryref27_AppendVarint.l1 k ((2 * n : Nat) : Int) x).bind armillaryref27_AppendVarint.k1) (fun k => ?_) (rvl1_ev (2 * n) x (by omega) (by omega))
  unfold armillaryref27_AppendVarint.f
  have h1 : W .u64 ((W .u64 (n : Int)) * 2) = ((2 * n : Nat) : Int) := by rw [WU64, WU64]; omega
  rw [if_neg (by omega), Option.bind_some, h1]
  unfold armillaryref27_AppendVarint.k2
  rw [if_pos (by simp only [List.length_nil]; omega), List.nil_append]
theorem renc_ev {e : S25} (h : okE e) : Ev (fun k => armillaryref27_EncodeEntry.f k e) (enc e, 0) := by
  have h1 := vg_len (u := 2 * e.f0.toNat) (by have := h.k2; omega)
  have h2 := vg_len (u := 2 * e.f1.size) (by have := h.s2; omega)
  have h3 := vg_len (u := 2 * e.f2.length) (by have := h.b1; omega)
  have hs1 := h.s1; have hs2 := h.s2; have hb := h.b1; have hk1 := h.k1; have hk2 := h.k2
  refine Ev.bind1 (r := true) (valid_ok h) ?_
  refine Ev.congr (fun k => if_pos rfl) ?_
  have e0 : Ev (fun k => armillaryref27_AppendVarint.f k [] e.f0) (vg (2 * e.f0.toNat)) := by
    have := rav_ev [] e.f0.toNat (by omega) (by simp)
    rwa [Int.toNat_of_nonneg (by omega), List.nil_append] at this
  refine Ev.bind e0 ?_
  refine Ev.bind (rav_ev (vg (2 * e.f0.toNat)) e.f1.size (by omega) (by omega)) ?_
  refine Ev.congr (fun k => (if_pos (by omega)).trans (if_pos (by simp only [List.length_append, bytesOf_length]; omega))) ?_
  refine Ev.bind (rav_ev (vg (2 * e.f0.toNat) ++ vg (2 * e.f1.size) ++ bytesOf e.f1) e.f2.length (by omega) (by simp only [List.length_append, bytesOf_length]; omega)) ?_
  refine Ev.congr (fun k => if_pos (by simp only [List.length_append, bytesOf_length]; omega)) (Ev.const ?_)
  unfold enc
  simp only [List.append_assoc]
theorem word_step (n : Nat) (h : n < 4294967296) : W .u8 ((n : Int).tmod 256) = ((n % 256 : Nat) : Int) ∧ W .u32 ((n : Int).tdiv 256) = ((n / 256 : Nat) : Int) := by
  constructor
  · rw [Int.tmod_eq_emod_of_nonneg (by omega), W8]; omega
  · rw [Int.tdiv_eq_ediv_of_nonneg (by omega), W32]; omega
theorem aw_ev (l : List Int) (n : Nat) (h : n < 4294967296) (hl : l.length < 1000000000) : Ev (fun k => armillaryref28_appendWords0.f k l (n : Int)) (l ++ w32 n) := by
  refine Ev.bind (r := l ++ w32 n) ?_ (Ev.const rfl)
  have s : ∀ (k : Nat) (x : List Int) (m j : Nat), m < 4294967296 → j < 4 → x.length < 2000000000 → armillaryref28_appendWords0.l1 (k + 1) x (m : Int) (j : Int) = armillaryref28_appendWords0.l1 k (x ++ [((m % 256 : Nat) : Int)]) ((m / 256 : Nat) : Int) ((j + 1 : Nat) : Int) := by
    intro k x m j hm hj hx
    rw [armillaryref28_appendWords0.l1, if_pos (by omega), (word_step m hm).1, (word_step m hm).2, if_pos (by simp only [List.length_singleton]; omega), Wn (by omega)]
  refine ⟨5, fun k hk => ?_⟩
  obtain ⟨m, rfl⟩ : ∃ m, k = m + 5 := ⟨k - 5, by omega⟩
  have s0 := s (m + 4) l n 0 h (by decide) (by omega)
  have s1 := s (m + 3) (l ++ [((n % 256 : Nat) : Int)]) (n / 256) 1 (by omega) (by decide) (by simp only [List.length_append, List.length_singleton]; omega)
  have s2 := s (m + 2) (l ++ [((n % 256 : Nat) : Int)] ++ [((n / 256 % 256 : Nat) : Int)]) (n / 256 / 256) 2 (by omega) (by decide) (by simp only [List.length_append, List.length_singleton]; omega)
  have s3 := s (m + 1) (l ++ [((n % 256 : Nat) : Int)] ++ [((n / 256 % 256 : Nat) : Int)] ++ [((n / 256 / 256 % 256 : Nat) : Int)]) (n / 256 / 256 / 256) 3 (by omega) (by decide) (by simp only [List.length_append, List.length_singleton]; omega)
  refine s0.trans (s1.trans (s2.trans (s3.trans ?_)))
  rw [armillaryref28_appendWords0.l1, if_neg (by decide), Nat.div_div_eq_div_mul, Nat.div_div_eq_div_mul]
  simp only [List.append_assoc, List.cons_append, List.nil_append]
  rfl
/-- The reference's record. -/
theorem rrec_ev {e : S25} (h : okE e) : Ev (fun k => armillaryref28_Record.f k e) (rec_ e) := by
  have hl := enc_len h
  refine Ev.bind (renc_ev h) ?_
  have e1 : Ev (fun k => armillaryref28_appendWords0.f k ([] : List Int) (W .u32 (((enc e, (0 : Int)).1.length : Int)))) (w32 (enc e).length) := by
    have := aw_ev [] (enc e).length (by omega) (by simp)
    rw [W32]
    show Ev (fun k => armillaryref28_appendWords0.f k ([] : List Int) (((enc e).length : Int) % 4294967296)) _
    rwa [show ((enc e).length : Int) % 4294967296 = ((enc e).length : Int) from by omega]
  refine Ev.bind e1 ?_
  refine Ev.congr (fun k => if_pos (by show (4 + (enc e).length) * 1 ≤ _; omega)) ?_
  refine Ev.bind (rchecksum_ev (l := hd e) (hd_bytes h) (by rw [hd_len]; omega)) ?_
  exact Ev.bind (aw_ev (hd e) (cs (hd e)) (cs_lt (hd_bytes h)) (by rw [hd_len]; omega)) (Ev.const rfl)
theorem rlog_ev (l : List S25) (h : okL l) (hl : l.length ≤ 1000) : Ev (fun k => armillaryref28_Log.f k l) (logOf l) := by
  have key : ∀ (d n : Nat) (x : List Int), d + n = l.length → x.length + 20200 * d < 100000000 → Ev (fun k => armillaryref28_Log.l1 l k x (n : Int)) (x ++ logOf (l.drop n)) := by
    intro d
    induction d with
    | zero =>
      intro n x hd hx
      obtain rfl : n = l.length := by omega
      rw [List.drop_length]
      refine Ev.succ (g := fun _ => some (x ++ logOf [])) (fun k => ?_) (Ev.const rfl)
      rw [armillaryref28_Log.l1, if_neg (by omega)]
      simp [logOf]
    | succ d ih =>
      intro n x hd hx
      have hn : n < l.length := by omega
      have he := h _ (List.getElem_mem hn)
      have hle := enc_len he
      have ih := ih (n + 1) (x ++ rec_ l[n]) (by omega) (by rw [List.length_append, rec_len]; omega)
      rw [List.drop_eq_getElem_cons hn, logOf_cons, ← List.append_assoc]
      refine Ev.succ (g := fun k => (armillaryref28_Record.f k (l.getD n z25)).bind fun t1 => (if (x.length + t1.length) * 1 ≤ 140737488355328 then armillaryref28_Log.l1 l k (x ++ t1) ((n + 1 : Nat) : Int) else none)) (fun k => ?_) ?_
      · rw [armillaryref28_Log.l1, if_pos (by omega), if_pos (by omega), if_pos (by omega), tn, Wn (by omega)]
      rw [getD_at hn]
      refine Ev.bind (rrec_ev he) ?_
      exact Ev.congr (fun k => if_pos (by rw [rec_len]; omega)) ih
  exact Ev.bind (r := logOf l) (key l.length 0 [] rfl (by simp; omega)) (Ev.const rfl)

/-! ### the hash of a sequence -/
def chS (l : List S25) : Nat := l.foldl (fun h e => cs (w32 h ++ enc e)) 0
theorem chS_snoc (l : List S25) (e : S25) : chS (l ++ [e]) = cs (w32 (chS l) ++ enc e) := by simp [chS, List.foldl_append]
theorem chS_lt {l : List S25} (h : okL l) : chS l < 4294967296 := by
  have key : ∀ (l : List S25) (c : Nat), c < 4294967296 → okL l → l.foldl (fun h e => cs (w32 h ++ enc e)) c < 4294967296 := by
    intro l
    induction l with
    | nil => intro c hc _; exact hc
    | cons e l ih =>
      intro c hc h
      exact ih _ (cs_lt ((w32_bytes _).app (enc_bytes (h e List.mem_cons_self)))) (fun x hx => h x (List.mem_cons_of_mem _ hx))
  exact key l 0 (by decide) h
theorem chain_ev (l : List S25) (h : okL l) (hl : l.length ≤ 1000) : Ev (fun k => ledger_ChainHash.f k l) (chS l : Int) := by
  have key : ∀ (d n : Nat) (c : Nat), d + n = l.length → c < 4294967296 → Ev (fun k => ledger_ChainHash.l1 l k (c : Int) (n : Int)) (((l.drop n).foldl (fun h e => cs (w32 h ++ enc e)) c : Nat) : Int) := by
    intro d
    induction d with
    | zero =>
      intro n c hd hc
      obtain rfl : n = l.length := by omega
      rw [List.drop_length]
      exact Ev.succ (g := fun _ => some (c : Int)) (fun k => by rw [ledger_ChainHash.l1, if_neg (by omega)]) (Ev.const rfl)
    | succ d ih =>
      intro n c hd hc
      have hn : n < l.length := by omega
      have he := h _ (List.getElem_mem hn)
      have hle := enc_len he
      have hb : isBytes (w32 c ++ enc l[n]) := (w32_bytes _).app (enc_bytes he)
      have ih := ih (n + 1) (cs (w32 c ++ enc l[n])) (by omega) (cs_lt hb)
      rw [List.drop_eq_getElem_cons hn]
      refine Ev.succ (g := fun k => (codec_EncodeEntry.f k (l.getD n z25)).bind fun t1 => ((ledger_putWords0.f (c : Int)).bind fun t2 => ((slices_Concat_byte_byte.f k [t2, t1.1]).bind fun t3 => ((codec_Checksum.f k t3).bind fun t4 => (ledger_ChainHash.l1 l k t4 ((n + 1 : Nat) : Int)))))) (fun k => ?_) ?_
      · rw [ledger_ChainHash.l1, if_pos (by omega), if_pos (by omega), if_pos (by omega), tn, Wn (by omega)]
      rw [getD_at hn]
      refine Ev.bind (enc_ev he) ?_
      refine Ev.bind1 (put0 c) ?_
      refine Ev.bind (concat_ev (w32 c) (enc l[n]) (by show 4 < 1000000000; decide) (by omega)) ?_
      refine Ev.bind (checksum_ev hb (by rw [List.length_append]; show 4 + _ < _; omega)) ?_
      exact ih
  exact Ev.bind (key l.length 0 0 rfl (by decide)) (Ev.const rfl)
theorem rchain_ev : ∀ (n : Nat) (l : List S25), l.length = n → okL l → n ≤ 1000 → Ev (fun k => armillaryref28_ChainHash.f k l) (chS l : Int)
  | 0, l, hn, h, _ => by
    obtain rfl : l = [] := List.length_eq_zero_iff.1 hn
    exact Ev.succ (g := fun _ => some 0) (fun k => rfl) (Ev.const rfl)
  | n + 1, l, hn, h, hle => by
    have hn' : n < l.length := by omega
    have hsp : l = l.take n ++ [l[n]] := by
      have h1 := List.take_append_drop n l
      rw [List.drop_eq_getElem_cons hn', List.drop_eq_nil_of_le (by omega)] at h1
      exact h1.symm
    have he := h _ (List.getElem_mem hn')
    have hel := enc_len he
    have hok : okL (l.take n) := fun x hx => h x (List.mem_of_mem_take hx)
    have ih := rchain_ev n (l.take n) (by rw [List.length_take]; omega) hok (by omega)
    have hb : isBytes (w32 (chS (l.take n)) ++ enc l[n]) := (w32_bytes _).app (enc_bytes he)
    have e1 : W .i64 ((l.length : Int) - 1) = (n : Int) := by rw [W64 (by omega) (by omega)]; omega
    have e2 : rpart l 0 (n : Int) = l.take n := by
      unfold rpart
      rw [tn]
      show (l.drop 0).take (n - 0) = _
      rw [List.drop_zero, Nat.sub_zero]
    have ec : chS l = cs (w32 (chS (l.take n)) ++ enc l[n]) := by
      conv => lhs; rw [hsp]
      rw [chS_snoc]
    rw [ec]
    refine Ev.succ (g := fun k => (armillaryref27_EncodeEntry.f k l[n]).bind fun t1 => ((armillaryref28_ChainHash.f k (l.take n)).bind fun t2 => ((armillaryref28_appendWords0.f k ([] : List Int) t2).bind fun t3 => (if (t3.length + t1.1.length) * 1 ≤ 140737488355328 then ((armillaryref27_Checksum.f k (t3 ++ t1.1)).bind fun t4 => (some t4)) else none)))) (fun k => ?_) ?_
    · show armillaryref28_ChainHash.body k (armillaryref28_ChainHash.f k) l = _
      unfold armillaryref28_ChainHash.body
      rw [if_neg (by omega), e1, if_pos (by omega), if_pos (by omega), tn, getD_at hn', e2]
      congr 1
      funext t1
      rw [if_pos (by omega), if_pos (by omega)]
    refine Ev.bind (renc_ev he) ?_
    refine Ev.bind ih ?_
    refine Ev.bind (aw_ev [] (chS (l.take n)) (chS_lt hok) (by simp)) ?_
    refine Ev.congr (fun k => if_pos (by show (4 + (enc l[n]).length) * 1 ≤ _; omega)) ?_
    exact Ev.bind (rchecksum_ev hb (by rw [List.length_append]; show 4 + (enc l[n]).length < _; omega)) (Ev.const rfl)
end Go.Proofs.YtiomeaoeegikkaaDoor.led
namespace Go.Proofs.YtiomeaoeegikkaaDoor
open Go Go.Proofs.YtiomeaoeegikkaaDoor.RW
set_option linter.unusedVariables false
set_option maxRecDepth 100000
set_option maxHeartbeats 8000000

/-! ### ledger_Repair: function 20, armillary/ledger.Repair -/
noncomputable def K20_0 : Code := cBody Tryd.f20
def ledger_Repair.f (k : Nat) (a0 : List Int) : Option (List Int) := ((ledger_Scan.f k a0).bind fun t1 => (if (0 : Int) ≤ t1.2.1 then (if t1.2.1 ≤ (a0.length : Int) then ((slices_Clone_byte_byte.f (rpart a0 0 t1.2.1)).bind fun t2 => (some t2)) else none) else none))
def ledger_Repair.Post (I : Imm) (w : World) (r : List Int) (v : Value) (w' : World) : Prop :=
 ∃ (J : Imm) (A0 : Option Addr) (c0 : Nat) (cs0 : List Value), v = .slice A0 r.length c0 ∧ Got w w' I J [orow 5 1 A0 r.length c0 cs0] ∧ Reps (Ty.int .u8) J r cs0
theorem ledger_Repair.calls (k : Nat) (I0 : Imm) (a0 : List Int) (Ap0 : Option Addr) (cp0 : Nat) (w : World) (hI : I0.at_ w) (hG : Glob I0) (hlp0 : a0.length ≤ cp0) (hrp0 : Rd (Ty.int .u8) I0 Ap0 a0) (r : List Int) (h : ledger_Repair.f k a0 = some r) :
  Calls Tryd.prog 20 [.slice Ap0 a0.length cp0].toArray w fun e w' => ∃ v, e = .returned v ∧ ledger_Repair.Post I0 w r v w' := by
 have H : ((ledger_Scan.f k a0).bind fun t1 => (if (0 : Int) ≤ t1.2.1 then (if t1.2.1 ≤ (a0.length : Int) then ((slices_Clone_byte_byte.f (rpart a0 0 t1.2.1)).bind fun t2 => (some t2)) else none) else none)) = some r := h
 clear h
 refine calls_body Tryd.func20 (by kernel_rfl) 16 (by kernel_rfl) (by kernel_rfl) ⟨w, fun _ => False, I0⟩ I0 [] [(0, .slice Ap0 a0.length cp0)] (by kernel_rfl) (Sat.start w _ I0 hI) ?_
 generalize w.heap.size = nx0
 show OK _ K20_0 _ _ _ _ _ _ _ _
 refine OK.sr ?_
 refine RL.st 1 [(0, .slice Ap0 a0.length cp0)] ?_
 refine OK.sr ?_
 refine RL.s 1 [(7, .slice Ap0 a0.length cp0), (0, .slice Ap0 a0.length cp0)] ?_
 obtain ⟨t1, hA1, H⟩ := bnd H
 refine RL.callP 16 [.slice Ap0 a0.length cp0] (some 8) (fun w => ledger_Scan.Post I0 w t1) (by kernel_rfl) (by kernel_rfl) (fun w hs => ledger_Scan.calls k I0 a0 Ap0 cp0 w hs.im hG hlp0 hrp0 t1 hA1) ?_
 rintro w v w' hs ⟨I1, A1, c1, cs1, rfl, hg, hp1⟩
 have hi1 := hg.le
 refine RL.resume (X' := [orow 25 3 A1 t1.1.length c1 cs1]) rfl (hs.call hg) ?_
 clear hs hg
 generalize w'.heap.size = nx1
 clear w w'
 refine RL.st 7 [(4, i6 t1.2.1), (0, .slice Ap0 a0.length cp0)] ?_
 refine OK.sr ?_
 refine RL.s 2 [(13, i6 t1.2.1), (12, .slice Ap0 a0.length cp0)] ?_
 obtain ⟨hs1_1, H⟩ := ifs H
 obtain ⟨hs2_1, H⟩ := ifs H
 refine RL.subH (T := 22) (e := 5) (l := a0) (S := Ap0) (cap := cp0) (hi := t1.2.1) 1 .i64 (some 14) (by kernel_rfl) (by kernel_rfl) (by kernel_rfl) (by kernel_rfl) hlp0 hs1_1 hs2_1 (K' := [(14, .slice (slA Ap0 (0 : Int).toNat cp0 1) ((rpart a0 0 t1.2.1).length) (cp0 - (0 : Int).toNat)), (13, i6 t1.2.1), (12, .slice Ap0 a0.length cp0)]) (by kernel_rfl) ?_
 obtain ⟨t2, hA2, H⟩ := bnd H
 refine RL.callP 34 [.slice (slA Ap0 (0 : Int).toNat cp0 1) ((rpart a0 0 t1.2.1).length) (cp0 - (0 : Int).toNat)] (some 15) (fun w => slices_Clone_byte_byte.Post I1 w t2) (by kernel_rfl) (by kernel_rfl) (fun w hs => slices_Clone_byte_byte.calls I1 (rpart a0 0 t1.2.1) (slA Ap0 (0 : Int).toNat cp0 1) (cp0 - (0 : Int).toNat) w hs.im (part_le hlp0 (Int.le_refl 0) hs1_1 hs2_1) (rd_sub (Rd.ext hi1 hrp0) hlp0 (Int.le_refl 0) hs1_1 hs2_1) t2 hA2) ?_
 rintro w v w' hs ⟨I2, A2, c2, cs2, rfl, hg, hp2⟩
 have hi2 := hg.le
 refine RL.resume (X' := [orow 25 3 A1 t1.1.length c1 cs1, orow 5 1 A2 t2.length c2 cs2]) rfl (hs.call hg) ?_
 clear hs hg
 generalize w'.heap.size = nx2
 clear w w'
 refine RL.st 1 [(2, .slice A2 t2.length c2)] ?_
 refine OK.re ?_
 obtain rfl := Option.some.inj H
 refine QN.body rfl [] (RFacts.nil _ _ _) (.no) (.slice A2 t2.length c2) (by kernel_rfl) (by kernel_rfl) (by kernel_rfl) ?_ _ (.inr rfl)
 exact fun w' hs' => ⟨_, rfl, I2, A2, c2, cs2, rfl, hs'.got _ (.cons _ (.cons_cons _ .slnil)), hp2⟩

end Go.Proofs.YtiomeaoeegikkaaDoor
namespace Go.Proofs.YtiomeaoeegikkaaDoor
open Go Go.Proofs.YtiomeaoeegikkaaDoor.RW
set_option linter.unusedVariables false
set_option maxRecDepth 100000
set_option maxHeartbeats 8000000

/-! ### armillarylaw28_sanity: function 11, armillary/armillarylaw28.sanity -/
noncomputable def K11_0 : Code := cBody Tryd.f11
noncomputable def O11_44 : List Oper := cOps (cL (cR (cR (cR (cR (cR (cR (cR (cR (cR (cR (cR (cR K11_0)))))))))))))
def armillarylaw28_sanity.k1 (k : Nat) (t1 : List Int × Int) (t2 : List Int × Int) (t3 : List Int × Int) (x1 : Bool) : Option (Bool) := (if x1 = true then (some false) else (if (0 : Int) ≤ (12 : Int) then (if (12 : Int) ≤ (t1.1.length : Int) then ((ledger_Scan.f k (rpart t1.1 0 (12 : Int))).bind fun t4 => ((ledger_Scan.f k t3.1).bind fun t5 => (if (([] : List Int).length + t3.1.length) * 1 ≤ 140737488355328 then (if 20 < ((([] : List Int) ++ t3.1).length : Int) then (if 20 < ((([] : List Int) ++ t3.1).length : Int) then ((ledger_Scan.f k ((([] : List Int) ++ t3.1).set (20 : Int).toNat (bXor .u8 ((([] : List Int) ++ t3.1).getD (20 : Int).toNat 0) 1))).bind fun t6 => ((ledger_Scan.f k []).bind fun t7 => (if t1.2 = 0 then (if t2.2 = 1 then (if t3.2 = 0 then (if (0 : Int) ≤ (9 : Int) then (if (9 : Int) ≤ (t1.1.length : Int) then ((armillaryref28_SameBytes.f k (rpart t1.1 0 (9 : Int)) [5, 0, 0, 0, 2, 2, 97, 2, 98]).bind fun t8 => (if t8 = true then (if (t4.1.length : Int) = 0 then (if t4.2.1 = 0 then (if t4.2.2 = 271 then (if (t5.1.length : Int) = 2 then (if t5.2.1 = 25 then (if t5.2.2 = 0 then (if 0 < (t5.1.length : Int) then ((armillaryref27_Same.f (t5.1.getD (0 : Int).toNat z25) (⟨1, (⟨#[97]⟩ : ByteArray), [98]⟩ : S25)).bind fun t9 => (if t9 = true then (if (t6.1.length : Int) = 1 then (if t6.2.1 = 13 then (if t6.2.2 = 270 then (if (t7.1.length : Int) = 0 then (if t7.2.1 = 0 then (if t7.2.2 = 0 then ((ledger_Repair.f k ((([] : List Int) ++ t3.1).set (20 : Int).toNat (bXor .u8 ((([] : List Int) ++ t3.1).getD (20 : Int).toNat 0) 1))).bind fun t10 => ((armillaryref28_SameBytes.f k t10 t1.1).bind fun t11 => (if t11 = true then ((ledger_ChainHash.f k []).bind fun t12 => (if t12 = 0 then ((ledger_ChainHash.f k t5.1).bind fun t13 => ((armillaryref28_ChainHash.f k t5.1).bind fun t14 => (if t13 = t14 then ((ledger_ChainHash.f k t5.1).bind fun t15 => (if (0 : Int) ≤ (1 : Int) then (if (1 : Int) ≤ (t5.1.length : Int) then ((ledger_ChainHash.f k (rpart t5.1 0 (1 : Int))).bind fun t16 => (some (t15 != t16))) else none) else none)) else none))) else none)) else none))) else none) else none) else none) else none) else none) else none) else none)) else none) else none) else none) else none) else none) else none) else none) else none)) else none) else none) else none) else none) else none))) else none) else none) else none))) else none) else none))
def armillarylaw28_sanity.f (k : Nat)  : Option (Bool) := ((ledger_Append.f k [] (⟨1, (⟨#[97]⟩ : ByteArray), [98]⟩ : S25)).bind fun t1 => ((ledger_Append.f k t1.1 (⟨0, (⟨#[]⟩ : ByteArray), []⟩ : S25)).bind fun t2 => ((ledger_Append.f k t1.1 (⟨4, (⟨#[122]⟩ : ByteArray), []⟩ : S25)).bind fun t3 => ((if (t1.1.length : Int) ≠ 13 then (some true) else (some ((t3.1.length : Int) != 25))).bind (armillarylaw28_sanity.k1 k t1 t2 t3)))))
def armillarylaw28_sanity.Post (I : Imm) (w : World) (r : Bool) (v : Value) (w' : World) : Prop :=
 ∃ (J : Imm), v = .bool r ∧ Got w w' I J []
noncomputable def a11_44n : List Nat := (0 :: 1 :: 3 :: 7 :: 15 :: 31 :: 63 :: 127 :: 255 :: 511 :: 1023 :: 2047 :: 4095 :: 2047 :: 16383 :: 32767 :: 65535 :: 131071 :: 262143 :: 524287 :: 1048575 :: 2097151 :: 4194303 :: 8388607 :: 16777215 :: 33554431 :: 67108863 :: 134217727 :: 268435455 :: 536870911 :: 1073741823 :: 2147483647 :: 4294967295 :: 8589934591 :: 17179869183 :: 34359738367 :: 68719476735 :: 137438953471 :: 274877906943 :: 549755813887 :: 1099511627775 :: 2199023255551 :: 4398046511103 :: 8796093022207 :: 17592186044415 :: 35184372088831 :: 8796093022207 :: 140737488355327 :: 281474976710655 :: 562949953421311 :: 1125899906842623 :: 2251799813685247 :: 4503599627370495 :: 9007199254740991 :: 18014398509481983 :: 36028797018963967 :: 72057594037927935 :: 144115188075855871 :: 288230376151711743 :: 576460752303423487 :: 1152921504606846975 :: 2305843009213693951 :: 4611686018427387903 :: 9223372036854775807 :: 18446744073709551615 :: 36893488147419103231 :: 73786976294838206463 :: 147573952589676412927 :: 295147905179352825855 :: 590295810358705651711 :: 1180591620717411303423 :: 2361183241434822606847 :: 4722366482869645213695 :: 9444732965739290427391 :: 18889465931478580854783 :: 37778931862957161709567 :: 75557863725914323419135 :: 151115727451828646838271 :: 75557863725914323419135 :: 604462909807314587353087 :: 1208925819614629174706175 :: 2417851639229258349412351 :: 4835703278458516698824703 :: 9671406556917033397649407 :: 19342813113834066795298815 :: 38685626227668133590597631 :: 77371252455336267181195263 :: 154742504910672534362390527 :: 77371252455336267181195263 :: 618970019642690137449562111 :: 1237940039285380274899124223 :: 2475880078570760549798248447 :: 4951760157141521099596496895 :: 9903520314283042199192993791 :: 19807040628566084398385987583 :: 9903520314283042199192993791 :: 49517601571415210995964968959 :: 158456325028528675187087900671 :: 316912650057057350374175801343 :: 633825300114114700748351602687 :: 1267650600228229401496703205375 :: [])
theorem a11_44 : ancs O11_44 [] = a11_44n := by kernel_rfl
theorem a11_44o : drawOk O11_44 a11_44n 97 = true := by kernel_rfl
noncomputable def u11d1l (t8 : Bool) (t9 : Bool) (t10 : List Int) (t11 : Bool) (t12 : Int) (t13 : Int) (t14 : Int) (t15 : Int) : List Ld :=
 [⟨13, fun x => .slice (some ⟨(x 0).2.1, 0, none⟩) 9 9, fun x => [], fun x J => Rd (Ty.int .u8) J (some ⟨(x 0).2.1, 0, none⟩) [5, 0, 0, 0, 2, 2, 97, 2, 98] ∧ True, fun x J J' h f => ⟨Rd.ext h f.1, trivial⟩⟩,
  ⟨14, fun x => .bool t8, fun x => [], fun x J => True, fun x J J' h f => trivial⟩,
  ⟨47, fun x => .bool t9, fun x => [], fun x J => True, fun x J J' h f => trivial⟩,
  ⟨77, fun x => .slice ((x 0).1) t10.length ((x 0).2.1), fun x => [], fun x J => t10.length ≤ (x 0).2.1 ∧ Rd (Ty.int .u8) J (x 0).1 t10 ∧ True, fun x J J' h f => ⟨f.1, Rd.ext h f.2.1, trivial⟩⟩,
  ⟨79, fun x => .bool t11, fun x => [], fun x J => True, fun x J J' h f => trivial⟩,
  ⟨82, fun x => .int .u32 t12, fun x => [], fun x J => True, fun x J J' h f => trivial⟩,
  ⟨87, fun x => .int .u32 t13, fun x => [], fun x J => True, fun x J J' h f => trivial⟩,
  ⟨89, fun x => .int .u32 t14, fun x => [], fun x J => True, fun x J J' h f => trivial⟩,
  ⟨94, fun x => .int .u32 t15, fun x => [], fun x J => True, fun x J J' h f => trivial⟩]
noncomputable def u11d1g (t1 : List Int × Int) (A1 : Option Addr) (c1 : Nat) (t5 : List S25 × Int × Int) (A5 : Option Addr) (c5 : Nat) (g3_ : Nat) (o3_ : Nat) : List (Nat × ((Nat → Wt) → Value)) := [(2, fun u => .bool true), (6, fun u => .bool true), (10, fun u => .bool true), (12, fun u => .slice (slA A1 (0 : Int).toNat c1 1) ((rpart t1.1 0 (9 : Int)).length) (c1 - (0 : Int).toNat)), (16, fun u => .bool true), (21, fun u => .bool true), (25, fun u => .bool true), (29, fun u => .bool true), (34, fun u => .bool true), (38, fun u => .bool true), (42, fun u => .bool true), (44, fun u => pt g3_ (o3_ + (0 : Int).toNat * 3)), (49, fun u => .bool true), (54, fun u => .bool true), (58, fun u => .bool true), (62, fun u => .bool true), (67, fun u => .bool true), (71, fun u => .bool true), (75, fun u => .bool true), (81, fun u => .bool true), (85, fun u => .bool true), (92, fun u => .bool true), (96, fun u => .slice (slA A5 (0 : Int).toNat c5 3) ((rpart t5.1 0 (1 : Int)).length) (c5 - (0 : Int).toNat))]
noncomputable def u11d1q (nx0 : Nat) (t1 : List Int × Int) (A1 : Option Addr) (c1 : Nat) (t2 : List Int × Int) (t3 : List Int × Int) (t4 : List S25 × Int × Int) (A4 : Option Addr) (c4 : Nat) (t5 : List S25 × Int × Int) (A5 : Option Addr) (c5 : Nat) (A6 : Option Addr) (c6 : Nat) (t6 : List S25 × Int × Int) (A7 : Option Addr) (c7 : Nat) (t7 : List S25 × Int × Int) (A8 : Option Addr) (c8 : Nat) (t8 : Bool) (A3_2_ : Option Addr) (c3_2_ : Nat) (g3_ : Nat) (o3_ : Nat) (t9 : Bool) (t10 : List Int) (t11 : Bool) (t12 : Int) (t13 : Int) (t14 : Int) (t15 : Int) (u : Nat → Wt) : Option (List Value × List (Nat × Value) × List (Nat × Nat)) := qSim Tryd.prog [(⟨g3_, o3_ + (0 : Int).toNat * 3, none⟩, i6 ((t5.1.getD (0 : Int).toNat z25).f0)), (⟨g3_, o3_ + (0 : Int).toNat * 3 + 1, none⟩, .string ((t5.1.getD (0 : Int).toNat z25).f1)), (⟨g3_, o3_ + (0 : Int).toNat * 3 + 2, none⟩, .slice A3_2_ (((t5.1.getD (0 : Int).toNat z25).f2).length) c3_2_)] [⟨nx0 + 1, [i6 1, .string (⟨#[97]⟩ : ByteArray), .slice (some ⟨nx0, 0, none⟩) 1 1], 25⟩] O11_44 ⟨182, []⟩ (Ld.vl (u11d1l t8 t9 t10 t11 t12 t13 t14 t15)) (u11d1g t1 A1 c1 t5 A5 c5 g3_ o3_) u (.no :: .no :: .no :: .no :: .no :: .no :: .no :: .no :: .no :: .no :: .no :: .no :: .no :: .no :: .no :: .no :: .no :: .no :: .no :: .no :: .no :: .no :: .no :: .no :: .no :: .no :: .no :: .no :: .no :: .no :: .no :: .no :: .no :: .no :: .no :: .no :: .no :: .no :: .no :: .no :: .no :: .no :: .no :: .no :: .no :: .r 0 :: .l 0 :: .no :: .no :: .no :: .no :: .no :: .no :: .no :: .no :: .no :: .no :: .no :: .no :: .no :: .no :: .no :: .no :: .no :: .no :: .no :: .no :: .no :: .no :: .no :: .no :: .no :: .no :: .no :: .no :: .no :: .no :: .no :: .no :: .no :: .no :: .no :: .no :: .no :: .no :: .no :: .no :: .no :: .no :: .no :: .no :: .no :: .no :: .no :: .no :: .no :: .no :: []) 0 (O11_44.take 97) [(20, i6 t7.2.2), (19, i6 t7.2.1), (18, .slice A8 t7.1.length c8), (17, i6 t6.2.2), (16, i6 t6.2.1), (15, .slice A7 t6.1.length c7), (14, .slice A6 (((([] : List Int) ++ t3.1).set (20 : Int).toNat (bXor .u8 ((([] : List Int) ++ t3.1).getD (20 : Int).toNat 0) 1)).length) c6), (13, i6 t5.2.2), (12, i6 t5.2.1), (11, .slice A5 t5.1.length c5), (10, i6 t4.2.2), (9, i6 t4.2.1), (8, .slice A4 t4.1.length c4), (1, pt (nx0 + 1) 0), (2, .slice A1 t1.1.length c1), (3, i6 t1.2), (5, i6 t2.2), (7, i6 t3.2)]
noncomputable def u11d1s (nx0 : Nat) (t1 : List Int × Int) (A1 : Option Addr) (c1 : Nat) (t2 : List Int × Int) (t3 : List Int × Int) (t4 : List S25 × Int × Int) (A4 : Option Addr) (c4 : Nat) (t5 : List S25 × Int × Int) (A5 : Option Addr) (c5 : Nat) (A6 : Option Addr) (c6 : Nat) (t6 : List S25 × Int × Int) (A7 : Option Addr) (c7 : Nat) (t7 : List S25 × Int × Int) (A8 : Option Addr) (c8 : Nat) (t8 : Bool) (A3_2_ : Option Addr) (c3_2_ : Nat) (g3_ : Nat) (o3_ : Nat) (t9 : Bool) (t10 : List Int) (t11 : Bool) (t12 : Int) (t13 : Int) (t14 : Int) (t15 : Int) (u : Nat → Wt) : List Value := (i6 t1.2 :: .bool (t1.2 == 0) :: .bool true :: i6 t2.2 :: .bool (t2.2 == 1) :: .bool (t2.2 == 1) :: .bool true :: i6 t3.2 :: .bool (t3.2 == 0) :: .bool (t3.2 == 0) :: .bool true :: .slice A1 t1.1.length c1 :: .slice (slA A1 (0 : Int).toNat c1 1) ((rpart t1.1 0 (9 : Int)).length) (c1 - (0 : Int).toNat) :: .slice (some ⟨(u 13 0).2.1, 0, none⟩) 9 9 :: .bool t8 :: .bool t8 :: .bool true :: .slice A4 t4.1.length c4 :: i6 (t4.1.length : Int) :: .bool ((t4.1.length : Int) == 0) :: .bool ((t4.1.length : Int) == 0) :: .bool true :: i6 t4.2.1 :: .bool (t4.2.1 == 0) :: .bool (t4.2.1 == 0) :: .bool true :: i6 t4.2.2 :: .bool (t4.2.2 == 271) :: .bool (t4.2.2 == 271) :: .bool true :: .slice A5 t5.1.length c5 :: i6 (t5.1.length : Int) :: .bool ((t5.1.length : Int) == 2) :: .bool ((t5.1.length : Int) == 2) :: .bool true :: i6 t5.2.1 :: .bool (t5.2.1 == 25) :: .bool (t5.2.1 == 25) :: .bool true :: i6 t5.2.2 :: .bool (t5.2.2 == 0) :: .bool (t5.2.2 == 0) :: .bool true :: .slice A5 t5.1.length c5 :: pt g3_ (o3_ + (0 : Int).toNat * 3) :: .agg #[i6 ((t5.1.getD (0 : Int).toNat z25).f0), .string ((t5.1.getD (0 : Int).toNat z25).f1), .slice A3_2_ (((t5.1.getD (0 : Int).toNat z25).f2).length) c3_2_] :: .agg #[i6 1, .string (⟨#[97]⟩ : ByteArray), .slice (some ⟨nx0, 0, none⟩) 1 1] :: .bool t9 :: .bool t9 :: .bool true :: .slice A7 t6.1.length c7 :: i6 (t6.1.length : Int) :: .bool ((t6.1.length : Int) == 1) :: .bool ((t6.1.length : Int) == 1) :: .bool true :: i6 t6.2.1 :: .bool (t6.2.1 == 13) :: .bool (t6.2.1 == 13) :: .bool true :: i6 t6.2.2 :: .bool (t6.2.2 == 270) :: .bool (t6.2.2 == 270) :: .bool true :: .slice A8 t7.1.length c8 :: i6 (t7.1.length : Int) :: .bool ((t7.1.length : Int) == 0) :: .bool ((t7.1.length : Int) == 0) :: .bool true :: i6 t7.2.1 :: .bool (t7.2.1 == 0) :: .bool (t7.2.1 == 0) :: .bool true :: i6 t7.2.2 :: .bool (t7.2.2 == 0) :: .bool (t7.2.2 == 0) :: .bool true :: .slice A6 (((([] : List Int) ++ t3.1).set (20 : Int).toNat (bXor .u8 ((([] : List Int) ++ t3.1).getD (20 : Int).toNat 0) 1)).length) c6 :: .slice ((u 77 0).1) t10.length ((u 77 0).2.1) :: .slice A1 t1.1.length c1 :: .bool t11 :: .bool t11 :: .bool true :: .int .u32 t12 :: .bool (t12 == 0) :: .bool (t12 == 0) :: .bool true :: .slice A5 t5.1.length c5 :: .int .u32 t13 :: .slice A5 t5.1.length c5 :: .int .u32 t14 :: .bool (t13 == t14) :: .bool (t13 == t14) :: .bool true :: .slice A5 t5.1.length c5 :: .int .u32 t15 :: .slice A5 t5.1.length c5 :: .slice (slA A5 (0 : Int).toNat c5 3) ((rpart t5.1 0 (1 : Int)).length) (c5 - (0 : Int).toNat) :: [])
noncomputable def u11d1f (nx0 : Nat) (t1 : List Int × Int) (A1 : Option Addr) (c1 : Nat) (t2 : List Int × Int) (t3 : List Int × Int) (t4 : List S25 × Int × Int) (A4 : Option Addr) (c4 : Nat) (t5 : List S25 × Int × Int) (A5 : Option Addr) (c5 : Nat) (A6 : Option Addr) (c6 : Nat) (t6 : List S25 × Int × Int) (A7 : Option Addr) (c7 : Nat) (t7 : List S25 × Int × Int) (A8 : Option Addr) (c8 : Nat) (t8 : Bool) (A3_2_ : Option Addr) (c3_2_ : Nat) (g3_ : Nat) (o3_ : Nat) (t9 : Bool) (t10 : List Int) (t11 : Bool) (t12 : Int) (t13 : Int) (t14 : Int) (t15 : Int) (i : Nat) (u : Nat → Wt) : List (Nat × Value) := foldPut ⟨182, []⟩ [(20, i6 t7.2.2), (19, i6 t7.2.1), (18, .slice A8 t7.1.length c8), (17, i6 t6.2.2), (16, i6 t6.2.1), (15, .slice A7 t6.1.length c7), (14, .slice A6 (((([] : List Int) ++ t3.1).set (20 : Int).toNat (bXor .u8 ((([] : List Int) ++ t3.1).getD (20 : Int).toNat 0) 1)).length) c6), (13, i6 t5.2.2), (12, i6 t5.2.1), (11, .slice A5 t5.1.length c5), (10, i6 t4.2.2), (9, i6 t4.2.1), (8, .slice A4 t4.1.length c4), (1, pt (nx0 + 1) 0), (2, .slice A1 t1.1.length c1), (3, i6 t1.2), (5, i6 t2.2), (7, i6 t3.2)] (O11_44.take i) (((u11d1s nx0 t1 A1 c1 t2 t3 t4 A4 c4 t5 A5 c5 A6 c6 t6 A7 c7 t7 A8 c8 t8 A3_2_ c3_2_ g3_ o3_ t9 t10 t11 t12 t13 t14 t15) u).take i)
theorem u11d1v (nx0 : Nat) (t1 : List Int × Int) (A1 : Option Addr) (c1 : Nat) (t2 : List Int × Int) (t3 : List Int × Int) (t4 : List S25 × Int × Int) (A4 : Option Addr) (c4 : Nat) (t5 : List S25 × Int × Int) (A5 : Option Addr) (c5 : Nat) (A6 : Option Addr) (c6 : Nat) (t6 : List S25 × Int × Int) (A7 : Option Addr) (c7 : Nat) (t7 : List S25 × Int × Int) (A8 : Option Addr) (c8 : Nat) (t8 : Bool) (A3_2_ : Option Addr) (c3_2_ : Nat) (g3_ : Nat) (o3_ : Nat) (t9 : Bool) (t10 : List Int) (t11 : Bool) (t12 : Int) (t13 : Int) (t14 : Int) (t15 : Int) (u : Nat → Wt) : (u11d1q nx0 t1 A1 c1 t2 t3 t4 A4 c4 t5 A5 c5 A6 c6 t6 A7 c7 t7 A8 c8 t8 A3_2_ c3_2_ g3_ o3_ t9 t10 t11 t12 t13 t14 t15 u).map (fun x => (x.1, x.2.1)) = some ((u11d1s nx0 t1 A1 c1 t2 t3 t4 A4 c4 t5 A5 c5 A6 c6 t6 A7 c7 t7 A8 c8 t8 A3_2_ c3_2_ g3_ o3_ t9 t10 t11 t12 t13 t14 t15) u, (u11d1f nx0 t1 A1 c1 t2 t3 t4 A4 c4 t5 A5 c5 A6 c6 t6 A7 c7 t7 A8 c8 t8 A3_2_ c3_2_ g3_ o3_ t9 t10 t11 t12 t13 t14 t15 97) u) := by kernel_rfl
theorem u11d1e (nx0 : Nat) (t1 : List Int × Int) (A1 : Option Addr) (c1 : Nat) (t2 : List Int × Int) (t3 : List Int × Int) (t4 : List S25 × Int × Int) (A4 : Option Addr) (c4 : Nat) (t5 : List S25 × Int × Int) (A5 : Option Addr) (c5 : Nat) (A6 : Option Addr) (c6 : Nat) (t6 : List S25 × Int × Int) (A7 : Option Addr) (c7 : Nat) (t7 : List S25 × Int × Int) (A8 : Option Addr) (c8 : Nat) (t8 : Bool) (A3_2_ : Option Addr) (c3_2_ : Nat) (g3_ : Nat) (o3_ : Nat) (t9 : Bool) (t10 : List Int) (t11 : Bool) (t12 : Int) (t13 : Int) (t14 : Int) (t15 : Int) (u : Nat → Wt) : (u11d1q nx0 t1 A1 c1 t2 t3 t4 A4 c4 t5 A5 c5 A6 c6 t6 A7 c7 t7 A8 c8 t8 A3_2_ c3_2_ g3_ o3_ t9 t10 t11 t12 t13 t14 t15 u).map (fun x => x.2.2.map (·.1)) = (u11d1q nx0 t1 A1 c1 t2 t3 t4 A4 c4 t5 A5 c5 A6 c6 t6 A7 c7 t7 A8 c8 t8 A3_2_ c3_2_ g3_ o3_ t9 t10 t11 t12 t13 t14 t15 u).map (fun x => x.2.2.map (·.2)) := by kernel_rfl
theorem armillarylaw28_sanity.calls (k : Nat) (I0 : Imm)  (w : World) (hI : I0.at_ w) (hG : Glob I0) (r : Bool) (h : armillarylaw28_sanity.f k  = some r) :
  Calls Tryd.prog 11 [].toArray w fun e w' => ∃ v, e = .returned v ∧ armillarylaw28_sanity.Post I0 w r v w' := by
 have H : ((ledger_Append.f k [] (⟨1, (⟨#[97]⟩ : ByteArray), [98]⟩ : S25)).bind fun t1 => ((ledger_Append.f k t1.1 (⟨0, (⟨#[]⟩ : ByteArray), []⟩ : S25)).bind fun t2 => ((ledger_Append.f k t1.1 (⟨4, (⟨#[122]⟩ : ByteArray), []⟩ : S25)).bind fun t3 => ((if (t1.1.length : Int) ≠ 13 then (some true) else (some ((t3.1.length : Int) != 25))).bind (armillarylaw28_sanity.k1 k t1 t2 t3))))) = some r := h
 clear h
 refine calls_body Tryd.func11 (by kernel_rfl) 182 (by kernel_rfl) (by kernel_rfl) ⟨w, fun _ => False, I0⟩ I0 [] [] (by kernel_rfl) (Sat.start w _ I0 hI) ?_
 generalize w.heap.size = nx0
 show OK _ K11_0 _ _ _ _ _ _ _ _
 refine OK.sr ?_
 refine RL.st 1 [] ?_
 refine OK.sr ?_
 refine RL.sp 1 [(21, .slice (some ⟨nx0, 0, none⟩) 1 1)] (nx0 + 1) [⟨nx0, [.int .u8 98], 5⟩] ?_
 refine RL.mark (T := 22) (e := 5) (dt := (Ty.int .u8)) (xs := [98]) (b := ⟨nx0, [.int .u8 98], 5⟩) 0 (by kernel_rfl) ⟨_, _, rfl, rfl, rfl⟩ (Nat.le_of_ble_eq_true rfl) 1 1 (some 22) (by kernel_rfl) (by kernel_rfl) (by kernel_rfl) (by kernel_rfl) (fun I1 hi1 hr1 => ?_)
 refine RL.sub (K' := [(22, .slice (some ⟨nx0, 0, none⟩) 1 1), (21, .slice (some ⟨nx0, 0, none⟩) 1 1)]) (L' := []) (X' := []) (by kernel_rfl) (.refl _) (.refl _) ?_
 refine RL.simP (K' := [(1, pt (nx0 + 1) 0)]) (nx' := nx0 + 2) (L' := [⟨nx0 + 1, [i6 1, .string (⟨#[97]⟩ : ByteArray), .slice (some ⟨nx0, 0, none⟩) 1 1], 25⟩]) [] (RFacts.nil _ _ _) 3 [.no, .no, .l 0] (by kernel_rfl) (by kernel_rfl) ?_
 refine RL.nt ?_
 refine OK.sr ?_
 refine RL.simK (K' := [(25, .agg #[i6 1, .string (⟨#[97]⟩ : ByteArray), .slice (some ⟨nx0, 0, none⟩) 1 1]), (1, pt (nx0 + 1) 0)]) [] (RFacts.nil _ _ _) 1 [.l 0] (by kernel_rfl) (by kernel_rfl) ?_
 obtain ⟨t1, hA1, H⟩ := bnd H
 refine RL.callP 14 [.slice none 0 0, .agg #[i6 1, .string (⟨#[97]⟩ : ByteArray), .slice (some ⟨nx0, 0, none⟩) 1 1]] (some 26) (fun w => ledger_Append.Post I1 w t1) (by kernel_rfl) (by kernel_rfl) (fun w hs => ledger_Append.calls k I1 [] none 0 (⟨1, (⟨#[97]⟩ : ByteArray), [98]⟩ : S25) (some ⟨nx0, 0, none⟩) 1 w hs.im (Nat.le_refl _) (Rd.nil _ _ _) (Nat.le_of_ble_eq_true rfl) hr1 t1 hA1) ?_
 rintro w v w' hs ⟨I2, A1, c1, cs1, rfl, hg, hp1⟩
 have hi2 := hg.le
 refine RL.resume (X' := [orow 5 1 A1 t1.1.length c1 cs1]) rfl (hs.call hg) ?_
 clear hs hg
 generalize w'.heap.size = nx1
 clear w w'
 refine RL.st 5 [(3, i6 t1.2), (2, .slice A1 t1.1.length c1), (1, pt (nx0 + 1) 0)] ?_
 refine OK.sr ?_
 refine RL.s 2 [(31, .agg #[i6 0, .string (⟨#[]⟩ : ByteArray), .slice none 0 0]), (30, .slice A1 t1.1.length c1), (3, i6 t1.2), (2, .slice A1 t1.1.length c1), (1, pt (nx0 + 1) 0)] ?_
 refine RL.freeze (e := 5) (sz := 1) (S := A1) (n := t1.1.length) (cap := c1) 0 (by kernel_rfl) hp1 rfl (fun I3 hi3 hl1 hr2 => ?_)
 skip
 obtain ⟨t2, hA2, H⟩ := bnd H
 refine RL.callP 14 [.slice A1 t1.1.length c1, .agg #[i6 0, .string (⟨#[]⟩ : ByteArray), .slice none 0 0]] (some 32) (fun w => ledger_Append.Post I3 w t2) (by kernel_rfl) (by kernel_rfl) (fun w hs => ledger_Append.calls k I3 t1.1 A1 c1 (⟨0, (⟨#[]⟩ : ByteArray), []⟩ : S25) none 0 w hs.im hl1 hr2 (Nat.le_refl _) (Rd.nil _ _ _) t2 hA2) ?_
 rintro w v w' hs ⟨I4, A2, c2, cs2, rfl, hg, hp2⟩
 have hi4 := hg.le
 refine RL.resume (X' := [orow 5 1 A2 t2.1.length c2 cs2]) rfl (hs.call hg) ?_
 clear hs hg
 generalize w'.heap.size = nx2
 clear w w'
 refine RL.st 5 [(5, i6 t2.2), (3, i6 t1.2), (2, .slice A1 t1.1.length c1), (1, pt (nx0 + 1) 0)] ?_
 refine OK.sr ?_
 refine RL.s 2 [(37, .agg #[i6 4, .string (⟨#[122]⟩ : ByteArray), .slice none 0 0]), (36, .slice A1 t1.1.length c1), (5, i6 t2.2), (3, i6 t1.2), (2, .slice A1 t1.1.length c1), (1, pt (nx0 + 1) 0)] ?_
 obtain ⟨t3, hA3, H⟩ := bnd H
 refine RL.callP 14 [.slice A1 t1.1.length c1, .agg #[i6 4, .string (⟨#[122]⟩ : ByteArray), .slice none 0 0]] (some 38) (fun w => ledger_Append.Post I4 w t3) (by kernel_rfl) (by kernel_rfl) (fun w hs => ledger_Append.calls k I4 t1.1 A1 c1 (⟨4, (⟨#[122]⟩ : ByteArray), []⟩ : S25) none 0 w hs.im hl1 (Rd.ext hi4 hr2) (Nat.le_refl _) (Rd.nil _ _ _) t3 hA3) ?_
 rintro w v w' hs ⟨I5, A3, c3, cs3, rfl, hg, hp3⟩
 have hi5 := hg.le
 refine RL.resume (X' := [orow 5 1 A2 t2.1.length c2 cs2, orow 5 1 A3 t3.1.length c3 cs3]) rfl (hs.call hg) ?_
 clear hs hg
 generalize w'.heap.size = nx3
 clear w w'
 refine RL.st 5 [(7, i6 t3.2), (6, .slice A3 t3.1.length c3), (5, i6 t2.2), (3, i6 t1.2), (2, .slice A1 t1.1.length c1), (1, pt (nx0 + 1) 0)] ?_
 refine OK.sq ?_
 refine OK.sq ?_
 refine OK.join (fun K' I' _ L' X' => ∃ (x1 : Bool), K' = [(1, pt (nx0 + 1) 0), (2, .slice A1 t1.1.length c1), (3, i6 t1.2), (5, i6 t2.2), (6, .slice A3 t3.1.length c3), (7, i6 t3.2), (48, .bool x1)] ∧ L' = [⟨nx0 + 1, [i6 1, .string (⟨#[97]⟩ : ByteArray), .slice (some ⟨nx0, 0, none⟩) 1 1], 25⟩] ∧ X' = [orow 5 1 A3 t3.1.length c3 cs3] ∧ Imm.le I5 I' ∧ armillarylaw28_sanity.k1 k t1 t2 t3 x1 = some r) ?_ ?_
 ·rintro _ I6 nx4 _ _ ⟨x1, rfl, rfl, rfl, hi6, H⟩
  rw [armillarylaw28_sanity.k1] at H
  refine QN.then_ ?_
  refine OK.cd x1 (fun hb => ?_) (fun hb => ?_)
  ·skip
   have hc := hb
   rw [if_pos hc] at H
   clear hb
   refine OK.sr ?_
   refine RL.st 1 [(0, .bool false)] ?_
   refine OK.re ?_
   refine QN.thenR ?_
   obtain rfl := Option.some.inj H
   refine QN.body rfl [] (RFacts.nil _ _ _) (.no) (.bool false) (by kernel_rfl) (by kernel_rfl) (by kernel_rfl) ?_ _ (.inr rfl)
   exact fun w' hs' => ⟨_, rfl, I6, rfl, hs'.got _ (.cons _ .slnil)⟩
  ·skip
   have hc := (Bool.eq_false_iff.1 hb)
   rw [if_neg hc] at H
   clear hb
   refine OK.skt ?_
   refine OK.sr ?_
   refine RL.s 1 [(50, .slice A1 t1.1.length c1), (1, pt (nx0 + 1) 0), (2, .slice A1 t1.1.length c1), (3, i6 t1.2), (5, i6 t2.2), (6, .slice A3 t3.1.length c3), (7, i6 t3.2)] ?_
   obtain ⟨hs1_1, H⟩ := ifs H
   obtain ⟨hs2_1, H⟩ := ifs H
   refine RL.subH (T := 22) (e := 5) (l := t1.1) (S := A1) (cap := c1) (hi := 12) 1 .i64 (some 51) (by kernel_rfl) (by kernel_rfl) (by kernel_rfl) (by kernel_rfl) hl1 hs1_1 hs2_1 (K' := [(51, .slice (slA A1 (0 : Int).toNat c1 1) ((rpart t1.1 0 (12 : Int)).length) (c1 - (0 : Int).toNat)), (50, .slice A1 t1.1.length c1), (1, pt (nx0 + 1) 0), (2, .slice A1 t1.1.length c1), (3, i6 t1.2), (5, i6 t2.2), (6, .slice A3 t3.1.length c3), (7, i6 t3.2)]) (by kernel_rfl) ?_
   obtain ⟨t4, hA4, H⟩ := bnd H
   refine RL.callP 16 [.slice (slA A1 (0 : Int).toNat c1 1) ((rpart t1.1 0 (12 : Int)).length) (c1 - (0 : Int).toNat)] (some 52) (fun w => ledger_Scan.Post I6 w t4) (by kernel_rfl) (by kernel_rfl) (fun w hs => ledger_Scan.calls k I6 (rpart t1.1 0 (12 : Int)) (slA A1 (0 : Int).toNat c1 1) (c1 - (0 : Int).toNat) w hs.im (Glob.ext (Imm.le_trans (Imm.le_trans (Imm.le_trans (Imm.le_trans (Imm.le_trans hi1 hi2) hi3) hi4) hi5) hi6) hG) (part_le hl1 (Int.le_refl 0) hs1_1 hs2_1) (rd_sub (Rd.ext (Imm.le_trans (Imm.le_trans hi4 hi5) hi6) hr2) hl1 (Int.le_refl 0) hs1_1 hs2_1) t4 hA4) ?_
   rintro w v w' hs ⟨I7, A4, c4, cs4, rfl, hg, hp4⟩
   have hi7 := hg.le
   refine RL.resume (X' := [orow 5 1 A3 t3.1.length c3 cs3, orow 25 3 A4 t4.1.length c4 cs4]) rfl (hs.call hg) ?_
   clear hs hg
   generalize w'.heap.size = nx5
   clear w w'
   refine RL.st 7 [(10, i6 t4.2.2), (9, i6 t4.2.1), (8, .slice A4 t4.1.length c4), (1, pt (nx0 + 1) 0), (2, .slice A1 t1.1.length c1), (3, i6 t1.2), (5, i6 t2.2), (6, .slice A3 t3.1.length c3), (7, i6 t3.2)] ?_
   refine OK.sr ?_
   refine RL.s 1 [(57, .slice A3 t3.1.length c3), (10, i6 t4.2.2), (9, i6 t4.2.1), (8, .slice A4 t4.1.length c4), (1, pt (nx0 + 1) 0), (2, .slice A1 t1.1.length c1), (3, i6 t1.2), (5, i6 t2.2), (6, .slice A3 t3.1.length c3), (7, i6 t3.2)] ?_
   refine RL.freeze (e := 5) (sz := 1) (S := A3) (n := t3.1.length) (cap := c3) 0 (by kernel_rfl) (Reps.ext (Imm.le_trans hi6 hi7) hp3) rfl (fun I8 hi8 hl2 hr3 => ?_)
   skip
   obtain ⟨t5, hA5, H⟩ := bnd H
   refine RL.callP 16 [.slice A3 t3.1.length c3] (some 58) (fun w => ledger_Scan.Post I8 w t5) (by kernel_rfl) (by kernel_rfl) (fun w hs => ledger_Scan.calls k I8 t3.1 A3 c3 w hs.im (Glob.ext (Imm.le_trans (Imm.le_trans (Imm.le_trans (Imm.le_trans (Imm.le_trans (Imm.le_trans (Imm.le_trans hi1 hi2) hi3) hi4) hi5) hi6) hi7) hi8) hG) hl2 hr3 t5 hA5) ?_
   rintro w v w' hs ⟨I9, A5, c5, cs5, rfl, hg, hp5⟩
   have hi9 := hg.le
   refine RL.resume (X' := [orow 25 3 A4 t4.1.length c4 cs4, orow 25 3 A5 t5.1.length c5 cs5]) rfl (hs.call hg) ?_
   clear hs hg
   generalize w'.heap.size = nx6
   clear w w'
   refine RL.st 7 [(13, i6 t5.2.2), (12, i6 t5.2.1), (11, .slice A5 t5.1.length c5), (10, i6 t4.2.2), (9, i6 t4.2.1), (8, .slice A4 t4.1.length c4), (1, pt (nx0 + 1) 0), (2, .slice A1 t1.1.length c1), (3, i6 t1.2), (5, i6 t2.2), (6, .slice A3 t3.1.length c3), (7, i6 t3.2)] ?_
   refine OK.sr ?_
   refine RL.sp 2 [(63, .slice A3 t3.1.length c3), (62, .slice (some ⟨nx6, 0, none⟩) 0 0), (13, i6 t5.2.2), (12, i6 t5.2.1), (11, .slice A5 t5.1.length c5), (10, i6 t4.2.2), (9, i6 t4.2.1), (8, .slice A4 t4.1.length c4), (1, pt (nx0 + 1) 0), (2, .slice A1 t1.1.length c1), (3, i6 t1.2), (5, i6 t2.2), (7, i6 t3.2)] (nx6 + 1) [⟨nx0 + 1, [i6 1, .string (⟨#[97]⟩ : ByteArray), .slice (some ⟨nx0, 0, none⟩) 1 1], 25⟩, ⟨nx6, [], 5⟩] ?_
   refine RL.toRow (b := ⟨nx6, [], 5⟩) 1 0 1 (by kernel_rfl) (by kernel_rfl) (by decide) ?_
   have hp6 : Reps (Ty.int .u8) I9 ([] : List Int) [] := rfl
   refine RL.norm (L' := [⟨nx0 + 1, [i6 1, .string (⟨#[97]⟩ : ByteArray), .slice (some ⟨nx0, 0, none⟩) 1 1], 25⟩]) (X' := [orow 25 3 A4 t4.1.length c4 cs4, orow 25 3 A5 t5.1.length c5 cs5, orow 5 1 (some ⟨nx6, 0, none⟩) (([] : List Int).length) 0 []]) rfl rfl (by kernel_rfl) (by kernel_rfl) ?_
   obtain ⟨hz1, H⟩ := ifs H
   refine RL.appendR (T := 22) (e := 5) (S := (some ⟨nx6, 0, none⟩)) (S2 := A3) 1 1 22 0 c3 [] (Ty.int .u8) ([] : List Int) t3.1 2 (some 64) (by kernel_rfl) (by kernel_rfl) (by kernel_rfl) (by kernel_rfl) (by kernel_rfl) (by decide) (by kernel_rfl) hp6 (Rd.ext hi9 hr3) hz1 (by omega) (fun A6 c6 nx7 cs6 hp7 => ?_)
   refine RL.sub (K' := [(64, .slice A6 ((([] : List Int) ++ t3.1).length) c6), (63, .slice A3 t3.1.length c3), (62, .slice (some ⟨nx6, 0, none⟩) 0 0), (13, i6 t5.2.2), (12, i6 t5.2.1), (11, .slice A5 t5.1.length c5), (10, i6 t4.2.2), (9, i6 t4.2.1), (8, .slice A4 t4.1.length c4), (1, pt (nx0 + 1) 0), (2, .slice A1 t1.1.length c1), (3, i6 t1.2), (5, i6 t2.2), (7, i6 t3.2)]) (L' := [⟨nx0 + 1, [i6 1, .string (⟨#[97]⟩ : ByteArray), .slice (some ⟨nx0, 0, none⟩) 1 1], 25⟩]) (X' := [orow 25 3 A4 t4.1.length c4 cs4, orow 25 3 A5 t5.1.length c5 cs5, orow 5 1 A6 ((([] : List Int) ++ t3.1).length) c6 cs6]) (by kernel_rfl) (.refl _) (.refl _) ?_
   refine RL.st 1 [(14, .slice A6 ((([] : List Int) ++ t3.1).length) c6), (13, i6 t5.2.2), (12, i6 t5.2.1), (11, .slice A5 t5.1.length c5), (10, i6 t4.2.2), (9, i6 t4.2.1), (8, .slice A4 t4.1.length c4), (1, pt (nx0 + 1) 0), (2, .slice A1 t1.1.length c1), (3, i6 t1.2), (5, i6 t2.2), (7, i6 t3.2)] ?_
   refine OK.sr ?_
   refine RL.s 2 [(66, .slice A6 ((([] : List Int) ++ t3.1).length) c6), (65, .slice A6 ((([] : List Int) ++ t3.1).length) c6), (14, .slice A6 ((([] : List Int) ++ t3.1).length) c6), (13, i6 t5.2.2), (12, i6 t5.2.1), (11, .slice A5 t5.1.length c5), (10, i6 t4.2.2), (9, i6 t4.2.1), (8, .slice A4 t4.1.length c4), (1, pt (nx0 + 1) 0), (2, .slice A1 t1.1.length c1), (3, i6 t1.2), (5, i6 t2.2), (7, i6 t3.2)] ?_
   have hib0 : (0 : Int) ≤ 20 := by decide
   obtain ⟨hib1, H⟩ := ifs H
   have hx01_ := hib0; have hx11_ := hib1
   refine RL.ownAddr (e := 5) (sz := 1) (S := A6) (n := (([] : List Int) ++ t3.1).length) (cap := c6) (cs := cs6) 2 (by kernel_rfl) (by omega) (fun g1_ hA1_ => ?_)
   have hc1_ := Ty.int_own hp7 20 hib0 hib1
   refine RL.idx 1 .i64 20 hA1_ ((([] : List Int) ++ t3.1).length) c6 (some 67) (by kernel_rfl) (by kernel_rfl) (T := 22) (e := 5) (by kernel_rfl) (by kernel_rfl) hib0 hib1 (K' := [(67, pt g1_ (0 + (20 : Int).toNat * 1)), (66, .slice A6 ((([] : List Int) ++ t3.1).length) c6), (65, .slice A6 ((([] : List Int) ++ t3.1).length) c6), (14, .slice A6 ((([] : List Int) ++ t3.1).length) c6), (13, i6 t5.2.2), (12, i6 t5.2.1), (11, .slice A5 t5.1.length c5), (10, i6 t4.2.2), (9, i6 t4.2.1), (8, .slice A4 t4.1.length c4), (1, pt (nx0 + 1) 0), (2, .slice A1 t1.1.length c1), (3, i6 t1.2), (5, i6 t2.2), (7, i6 t3.2)]) (by kernel_rfl) ?_
   refine RL.simK (K' := [(69, .int .u8 (bXor .u8 ((([] : List Int) ++ t3.1).getD (20 : Int).toNat 0) 1)), (65, .slice A6 ((([] : List Int) ++ t3.1).length) c6), (14, .slice A6 ((([] : List Int) ++ t3.1).length) c6), (13, i6 t5.2.2), (12, i6 t5.2.1), (11, .slice A5 t5.1.length c5), (10, i6 t4.2.2), (9, i6 t4.2.1), (8, .slice A4 t4.1.length c4), (1, pt (nx0 + 1) 0), (2, .slice A1 t1.1.length c1), (3, i6 t1.2), (5, i6 t2.2), (7, i6 t3.2)]) [(⟨g1_, 0 + (20 : Int).toNat * 1, none⟩, .int .u8 ((([] : List Int) ++ t3.1).getD (20 : Int).toNat 0))] (RFacts.ownQ (e := 5) (sz := 1) (S := A6) (n := (([] : List Int) ++ t3.1).length) (cap := c6) (cs := cs6) 2 (by kernel_rfl) hA1_ (0 + (20 : Int).toNat * 1) ((20 : Int).toNat * 1 + 0) (by omega) (hc1_ 0 _ rfl) (RFacts.nil _ _ _)) 2 [.r 0, .no] (by kernel_rfl) (by kernel_rfl) ?_
   have hib0 : (0 : Int) ≤ 20 := by decide
   obtain ⟨hib1, H⟩ := ifs H
   have hx02_ := hib0; have hx12_ := hib1
   refine RL.ownAddr (e := 5) (sz := 1) (S := A6) (n := (([] : List Int) ++ t3.1).length) (cap := c6) (cs := cs6) 2 (by kernel_rfl) (by omega) (fun g2_ hA2_ => ?_)
   have hc2_ := Ty.int_own hp7 20 hib0 hib1
   refine RL.idx 1 .i64 20 hA2_ ((([] : List Int) ++ t3.1).length) c6 (some 70) (by kernel_rfl) (by kernel_rfl) (T := 22) (e := 5) (by kernel_rfl) (by kernel_rfl) hib0 hib1 (K' := [(70, pt g2_ (0 + (20 : Int).toNat * 1)), (69, .int .u8 (bXor .u8 ((([] : List Int) ++ t3.1).getD (20 : Int).toNat 0) 1)), (65, .slice A6 ((([] : List Int) ++ t3.1).length) c6), (14, .slice A6 ((([] : List Int) ++ t3.1).length) c6), (13, i6 t5.2.2), (12, i6 t5.2.1), (11, .slice A5 t5.1.length c5), (10, i6 t4.2.2), (9, i6 t4.2.1), (8, .slice A4 t4.1.length c4), (1, pt (nx0 + 1) 0), (2, .slice A1 t1.1.length c1), (3, i6 t1.2), (5, i6 t2.2), (7, i6 t3.2)]) (by kernel_rfl) ?_
   refine RL.storeL (T := 5) (e := 5) 1 2 hA2_ c6 20 cs6 [.int .u8 (bXor .u8 ((([] : List Int) ++ t3.1).getD (20 : Int).toNat 0) 1)] (.int .u8 (bXor .u8 ((([] : List Int) ++ t3.1).getD (20 : Int).toNat 0) 1)) (Ty.int .u8) (([] : List Int) ++ t3.1) (bXor .u8 ((([] : List Int) ++ t3.1).getD (20 : Int).toNat 0) 1) (by kernel_rfl) (by kernel_rfl) (by kernel_rfl) (by kernel_rfl) (by kernel_rfl) rfl (by kernel_rfl) hp7 hx02_ hx12_ (fun cs7 hp8 => ?_)
   refine RL.sub (K' := [(69, .int .u8 (bXor .u8 ((([] : List Int) ++ t3.1).getD (20 : Int).toNat 0) 1)), (65, .slice A6 ((([] : List Int) ++ t3.1).length) c6), (14, .slice A6 ((([] : List Int) ++ t3.1).length) c6), (13, i6 t5.2.2), (12, i6 t5.2.1), (11, .slice A5 t5.1.length c5), (10, i6 t4.2.2), (9, i6 t4.2.1), (8, .slice A4 t4.1.length c4), (1, pt (nx0 + 1) 0), (2, .slice A1 t1.1.length c1), (3, i6 t1.2), (5, i6 t2.2), (7, i6 t3.2)]) (L' := [⟨nx0 + 1, [i6 1, .string (⟨#[97]⟩ : ByteArray), .slice (some ⟨nx0, 0, none⟩) 1 1], 25⟩]) (X' := [orow 25 3 A4 t4.1.length c4 cs4, orow 25 3 A5 t5.1.length c5 cs5, orow 5 1 A6 (((([] : List Int) ++ t3.1).set (20 : Int).toNat (bXor .u8 ((([] : List Int) ++ t3.1).getD (20 : Int).toNat 0) 1)).length) c6 cs7]) (by kernel_rfl) (.refl _) (.refl _) ?_
   refine RL.norm (K' := [(69, .int .u8 (bXor .u8 ((([] : List Int) ++ t3.1).getD (20 : Int).toNat 0) 1)), (65, .slice A6 (((([] : List Int) ++ t3.1).set (20 : Int).toNat (bXor .u8 ((([] : List Int) ++ t3.1).getD (20 : Int).toNat 0) 1)).length) c6), (14, .slice A6 (((([] : List Int) ++ t3.1).set (20 : Int).toNat (bXor .u8 ((([] : List Int) ++ t3.1).getD (20 : Int).toNat 0) 1)).length) c6), (13, i6 t5.2.2), (12, i6 t5.2.1), (11, .slice A5 t5.1.length c5), (10, i6 t4.2.2), (9, i6 t4.2.1), (8, .slice A4 t4.1.length c4), (1, pt (nx0 + 1) 0), (2, .slice A1 t1.1.length c1), (3, i6 t1.2), (5, i6 t2.2), (7, i6 t3.2)]) (L' := [⟨nx0 + 1, [i6 1, .string (⟨#[97]⟩ : ByteArray), .slice (some ⟨nx0, 0, none⟩) 1 1], 25⟩]) (by simp only [List.length_set]) rfl (by first | rfl | simp only [List.length_set]) rfl ?_
   refine RL.nil (by kernel_rfl) ?_
   refine QN.sub (K' := [(14, .slice A6 (((([] : List Int) ++ t3.1).set (20 : Int).toNat (bXor .u8 ((([] : List Int) ++ t3.1).getD (20 : Int).toNat 0) 1)).length) c6), (13, i6 t5.2.2), (12, i6 t5.2.1), (11, .slice A5 t5.1.length c5), (10, i6 t4.2.2), (9, i6 t4.2.1), (8, .slice A4 t4.1.length c4), (1, pt (nx0 + 1) 0), (2, .slice A1 t1.1.length c1), (3, i6 t1.2), (5, i6 t2.2), (7, i6 t3.2)]) (L' := [⟨nx0 + 1, [i6 1, .string (⟨#[97]⟩ : ByteArray), .slice (some ⟨nx0, 0, none⟩) 1 1], 25⟩]) (by kernel_rfl) (.cons_cons _ .slnil) (.refl _) ?_
   refine QN.then_ ?_
   refine OK.sr ?_
   refine RL.s 1 [(72, .slice A6 (((([] : List Int) ++ t3.1).set (20 : Int).toNat (bXor .u8 ((([] : List Int) ++ t3.1).getD (20 : Int).toNat 0) 1)).length) c6), (14, .slice A6 (((([] : List Int) ++ t3.1).set (20 : Int).toNat (bXor .u8 ((([] : List Int) ++ t3.1).getD (20 : Int).toNat 0) 1)).length) c6), (13, i6 t5.2.2), (12, i6 t5.2.1), (11, .slice A5 t5.1.length c5), (10, i6 t4.2.2), (9, i6 t4.2.1), (8, .slice A4 t4.1.length c4), (1, pt (nx0 + 1) 0), (2, .slice A1 t1.1.length c1), (3, i6 t1.2), (5, i6 t2.2), (7, i6 t3.2)] ?_
   refine RL.freeze (e := 5) (sz := 1) (S := A6) (n := ((([] : List Int) ++ t3.1).set (20 : Int).toNat (bXor .u8 ((([] : List Int) ++ t3.1).getD (20 : Int).toNat 0) 1)).length) (cap := c6) 2 (by kernel_rfl) hp8 rfl (fun I10 hi10 hl3 hr4 => ?_)
   skip
   obtain ⟨t6, hA6, H⟩ := bnd H
   refine RL.callP 16 [.slice A6 (((([] : List Int) ++ t3.1).set (20 : Int).toNat (bXor .u8 ((([] : List Int) ++ t3.1).getD (20 : Int).toNat 0) 1)).length) c6] (some 73) (fun w => ledger_Scan.Post I10 w t6) (by kernel_rfl) (by kernel_rfl) (fun w hs => ledger_Scan.calls k I10 ((([] : List Int) ++ t3.1).set (20 : Int).toNat (bXor .u8 ((([] : List Int) ++ t3.1).getD (20 : Int).toNat 0) 1)) A6 c6 w hs.im (Glob.ext (Imm.le_trans (Imm.le_trans (Imm.le_trans (Imm.le_trans (Imm.le_trans (Imm.le_trans (Imm.le_trans (Imm.le_trans (Imm.le_trans hi1 hi2) hi3) hi4) hi5) hi6) hi7) hi8) hi9) hi10) hG) hl3 hr4 t6 hA6) ?_
   rintro w v w' hs ⟨I11, A7, c7, cs8, rfl, hg, hp9⟩
   have hi11 := hg.le
   refine RL.resume (X' := [orow 25 3 A4 t4.1.length c4 cs4, orow 25 3 A5 t5.1.length c5 cs5, orow 25 3 A7 t6.1.length c7 cs8]) rfl (hs.call hg) ?_
   clear hs hg
   generalize w'.heap.size = nx8
   clear w w'
   refine RL.st 7 [(17, i6 t6.2.2), (16, i6 t6.2.1), (15, .slice A7 t6.1.length c7), (14, .slice A6 (((([] : List Int) ++ t3.1).set (20 : Int).toNat (bXor .u8 ((([] : List Int) ++ t3.1).getD (20 : Int).toNat 0) 1)).length) c6), (13, i6 t5.2.2), (12, i6 t5.2.1), (11, .slice A5 t5.1.length c5), (10, i6 t4.2.2), (9, i6 t4.2.1), (8, .slice A4 t4.1.length c4), (1, pt (nx0 + 1) 0), (2, .slice A1 t1.1.length c1), (3, i6 t1.2), (5, i6 t2.2), (7, i6 t3.2)] ?_
   refine OK.sr ?_
   obtain ⟨t7, hA7, H⟩ := bnd H
   refine RL.callP 16 [.slice none 0 0] (some 78) (fun w => ledger_Scan.Post I11 w t7) (by kernel_rfl) (by kernel_rfl) (fun w hs => ledger_Scan.calls k I11 [] none 0 w hs.im (Glob.ext (Imm.le_trans (Imm.le_trans (Imm.le_trans (Imm.le_trans (Imm.le_trans (Imm.le_trans (Imm.le_trans (Imm.le_trans (Imm.le_trans (Imm.le_trans hi1 hi2) hi3) hi4) hi5) hi6) hi7) hi8) hi9) hi10) hi11) hG) (Nat.le_refl _) (Rd.nil _ _ _) t7 hA7) ?_
   rintro w v w' hs ⟨I12, A8, c8, cs9, rfl, hg, hp10⟩
   have hi12 := hg.le
   refine RL.resume (X' := [orow 25 3 A4 t4.1.length c4 cs4, orow 25 3 A5 t5.1.length c5 cs5, orow 25 3 A7 t6.1.length c7 cs8, orow 25 3 A8 t7.1.length c8 cs9]) rfl (hs.call hg) ?_
   clear hs hg
   generalize w'.heap.size = nx9
   clear w w'
   refine RL.st 7 [(20, i6 t7.2.2), (19, i6 t7.2.1), (18, .slice A8 t7.1.length c8), (17, i6 t6.2.2), (16, i6 t6.2.1), (15, .slice A7 t6.1.length c7), (14, .slice A6 (((([] : List Int) ++ t3.1).set (20 : Int).toNat (bXor .u8 ((([] : List Int) ++ t3.1).getD (20 : Int).toNat 0) 1)).length) c6), (13, i6 t5.2.2), (12, i6 t5.2.1), (11, .slice A5 t5.1.length c5), (10, i6 t4.2.2), (9, i6 t4.2.1), (8, .slice A4 t4.1.length c4), (1, pt (nx0 + 1) 0), (2, .slice A1 t1.1.length c1), (3, i6 t1.2), (5, i6 t2.2), (7, i6 t3.2)] ?_
   refine OK.sq ?_
   refine OK.cases (t1.2 == 0) (fun hb1 => ?_) (fun hb1 => ?_)
   ·have hc1 := (beq_iff_eq.1 hb1)
    rw [if_pos hc1] at H
    refine OK.cases (t2.2 == 1) (fun hb2 => ?_) (fun hb2 => ?_)
    ·have hc2 := (beq_iff_eq.1 hb2)
     rw [if_pos hc2] at H
     refine OK.cases (t3.2 == 0) (fun hb3 => ?_) (fun hb3 => ?_)
     ·have hc3 := (beq_iff_eq.1 hb3)
      rw [if_pos hc3] at H
      obtain ⟨hs1_2, H⟩ := ifs H
      obtain ⟨hs2_2, H⟩ := ifs H
      obtain ⟨t8, hA8, H⟩ := bnd H
      refine OK.cases t8 (fun hb4 => ?_) (fun hb4 => ?_)
      ·have hc4 := hb4
       rw [if_pos hc4] at H
       refine OK.cases ((t4.1.length : Int) == 0) (fun hb5 => ?_) (fun hb5 => ?_)
       ·have hc5 := (beq_iff_eq.1 hb5)
        rw [if_pos hc5] at H
        refine OK.cases (t4.2.1 == 0) (fun hb6 => ?_) (fun hb6 => ?_)
        ·have hc6 := (beq_iff_eq.1 hb6)
         rw [if_pos hc6] at H
         refine OK.cases (t4.2.2 == 271) (fun hb7 => ?_) (fun hb7 => ?_)
         ·have hc7 := (beq_iff_eq.1 hb7)
          rw [if_pos hc7] at H
          refine OK.cases ((t5.1.length : Int) == 2) (fun hb8 => ?_) (fun hb8 => ?_)
          ·have hc8 := (beq_iff_eq.1 hb8)
           rw [if_pos hc8] at H
           refine OK.cases (t5.2.1 == 25) (fun hb9 => ?_) (fun hb9 => ?_)
           ·have hc9 := (beq_iff_eq.1 hb9)
            rw [if_pos hc9] at H
            refine OK.cases (t5.2.2 == 0) (fun hb10 => ?_) (fun hb10 => ?_)
            ·have hc10 := (beq_iff_eq.1 hb10)
             rw [if_pos hc10] at H
             refine OK.freeze (e := 25) (sz := 3) (S := A5) (n := t5.1.length) (cap := c5) 1 (by kernel_rfl) (Reps.ext (Imm.le_trans (Imm.le_trans hi10 hi11) hi12) hp5) rfl (fun I13 hi13 hl4 hr5 => ?_)
             skip
             have hi0_1 : (0 : Int) ≤ 0 := by decide
             obtain ⟨hi1_1, H⟩ := ifs H
             obtain ⟨g3_, o3_, hA3_, A3_2_, c3_2_, hl3_2_, hr3_2_, hc3_⟩ := t25_at hr5 0 hi0_1 hi1_1
             obtain ⟨t9, hA9, H⟩ := bnd H
             refine OK.cases t9 (fun hb11 => ?_) (fun hb11 => ?_)
             ·have hc11 := hb11
              rw [if_pos hc11] at H
              refine OK.cases ((t6.1.length : Int) == 1) (fun hb12 => ?_) (fun hb12 => ?_)
              ·have hc12 := (beq_iff_eq.1 hb12)
               rw [if_pos hc12] at H
               refine OK.cases (t6.2.1 == 13) (fun hb13 => ?_) (fun hb13 => ?_)
               ·have hc13 := (beq_iff_eq.1 hb13)
                rw [if_pos hc13] at H
                refine OK.cases (t6.2.2 == 270) (fun hb14 => ?_) (fun hb14 => ?_)
                ·have hc14 := (beq_iff_eq.1 hb14)
                 rw [if_pos hc14] at H
                 refine OK.cases ((t7.1.length : Int) == 0) (fun hb15 => ?_) (fun hb15 => ?_)
                 ·have hc15 := (beq_iff_eq.1 hb15)
                  rw [if_pos hc15] at H
                  refine OK.cases (t7.2.1 == 0) (fun hb16 => ?_) (fun hb16 => ?_)
                  ·have hc16 := (beq_iff_eq.1 hb16)
                   rw [if_pos hc16] at H
                   refine OK.cases (t7.2.2 == 0) (fun hb17 => ?_) (fun hb17 => ?_)
                   ·have hc17 := (beq_iff_eq.1 hb17)
                    rw [if_pos hc17] at H
                    obtain ⟨t10, hA10, H⟩ := bnd H
                    obtain ⟨t11, hA11, H⟩ := bnd H
                    refine OK.cases t11 (fun hb18 => ?_) (fun hb18 => ?_)
                    ·have hc18 := hb18
                     rw [if_pos hc18] at H
                     obtain ⟨t12, hA12, H⟩ := bnd H
                     refine OK.cases (t12 == 0) (fun hb19 => ?_) (fun hb19 => ?_)
                     ·have hc19 := (beq_iff_eq.1 hb19)
                      rw [if_pos hc19] at H
                      obtain ⟨t13, hA13, H⟩ := bnd H
                      obtain ⟨t14, hA14, H⟩ := bnd H
                      refine OK.cases (t13 == t14) (fun hb20 => ?_) (fun hb20 => ?_)
                      ·have hc20 := (beq_iff_eq.1 hb20)
                       rw [if_pos hc20] at H
                       obtain ⟨t15, hA15, H⟩ := bnd H
                       obtain ⟨hs1_3, H⟩ := ifs H
                       obtain ⟨hs2_3, H⟩ := ifs H
                       refine OK.drawnC 13 97 O11_44 a11_44n (by kernel_rfl) (by kernel_rfl) (u11d1l t8 t9 t10 t11 t12 t13 t14 t15) (u11d1g t1 A1 c1 t5 A5 c5 g3_ o3_) [(⟨g3_, o3_ + (0 : Int).toNat * 3, none⟩, i6 ((t5.1.getD (0 : Int).toNat z25).f0)), (⟨g3_, o3_ + (0 : Int).toNat * 3 + 1, none⟩, .string ((t5.1.getD (0 : Int).toNat z25).f1)), (⟨g3_, o3_ + (0 : Int).toNat * 3 + 2, none⟩, .slice A3_2_ (((t5.1.getD (0 : Int).toNat z25).f2).length) c3_2_)] (RI.cons (hc3_ 0 _ rfl) (RI.cons (hc3_ 1 _ rfl) (RI.cons (hc3_ 2 _ rfl) (RI.nil _)))) (.no :: .no :: .no :: .no :: .no :: .no :: .no :: .no :: .no :: .no :: .no :: .no :: .no :: .no :: .no :: .no :: .no :: .no :: .no :: .no :: .no :: .no :: .no :: .no :: .no :: .no :: .no :: .no :: .no :: .no :: .no :: .no :: .no :: .no :: .no :: .no :: .no :: .no :: .no :: .no :: .no :: .no :: .no :: .no :: .no :: .r 0 :: .l 0 :: .no :: .no :: .no :: .no :: .no :: .no :: .no :: .no :: .no :: .no :: .no :: .no :: .no :: .no :: .no :: .no :: .no :: .no :: .no :: .no :: .no :: .no :: .no :: .no :: .no :: .no :: .no :: .no :: .no :: .no :: .no :: .no :: .no :: .no :: .no :: .no :: .no :: .no :: .no :: .no :: .no :: .no :: .no :: .no :: .no :: .no :: .no :: .no :: .no :: .no :: []) a11_44 a11_44o (by kernel_rfl) (by kernel_rfl) (u11d1s nx0 t1 A1 c1 t2 t3 t4 A4 c4 t5 A5 c5 A6 c6 t6 A7 c7 t7 A8 c8 t8 A3_2_ c3_2_ g3_ o3_ t9 t10 t11 t12 t13 t14 t15) (u11d1f nx0 t1 A1 c1 t2 t3 t4 A4 c4 t5 A5 c5 A6 c6 t6 A7 c7 t7 A8 c8 t8 A3_2_ c3_2_ g3_ o3_ t9 t10 t11 t12 t13 t14 t15 97) (u11d1v nx0 t1 A1 c1 t2 t3 t4 A4 c4 t5 A5 c5 A6 c6 t6 A7 c7 t7 A8 c8 t8 A3_2_ c3_2_ g3_ o3_ t9 t10 t11 t12 t13 t14 t15) (u11d1e nx0 t1 A1 c1 t2 t3 t4 A4 c4 t5 A5 c5 A6 c6 t6 A7 c7 t7 A8 c8 t8 A3_2_ c3_2_ g3_ o3_ t9 t10 t11 t12 t13 t14 t15) [u11d1f nx0 t1 A1 c1 t2 t3 t4 A4 c4 t5 A5 c5 A6 c6 t6 A7 c7 t7 A8 c8 t8 A3_2_ c3_2_ g3_ o3_ t9 t10 t11 t12 t13 t14 t15 13, u11d1f nx0 t1 A1 c1 t2 t3 t4 A4 c4 t5 A5 c5 A6 c6 t6 A7 c7 t7 A8 c8 t8 A3_2_ c3_2_ g3_ o3_ t9 t10 t11 t12 t13 t14 t15 14, u11d1f nx0 t1 A1 c1 t2 t3 t4 A4 c4 t5 A5 c5 A6 c6 t6 A7 c7 t7 A8 c8 t8 A3_2_ c3_2_ g3_ o3_ t9 t10 t11 t12 t13 t14 t15 47, u11d1f nx0 t1 A1 c1 t2 t3 t4 A4 c4 t5 A5 c5 A6 c6 t6 A7 c7 t7 A8 c8 t8 A3_2_ c3_2_ g3_ o3_ t9 t10 t11 t12 t13 t14 t15 77, u11d1f nx0 t1 A1 c1 t2 t3 t4 A4 c4 t5 A5 c5 A6 c6 t6 A7 c7 t7 A8 c8 t8 A3_2_ c3_2_ g3_ o3_ t9 t10 t11 t12 t13 t14 t15 79, u11d1f nx0 t1 A1 c1 t2 t3 t4 A4 c4 t5 A5 c5 A6 c6 t6 A7 c7 t7 A8 c8 t8 A3_2_ c3_2_ g3_ o3_ t9 t10 t11 t12 t13 t14 t15 82, u11d1f nx0 t1 A1 c1 t2 t3 t4 A4 c4 t5 A5 c5 A6 c6 t6 A7 c7 t7 A8 c8 t8 A3_2_ c3_2_ g3_ o3_ t9 t10 t11 t12 t13 t14 t15 87, u11d1f nx0 t1 A1 c1 t2 t3 t4 A4 c4 t5 A5 c5 A6 c6 t6 A7 c7 t7 A8 c8 t8 A3_2_ c3_2_ g3_ o3_ t9 t10 t11 t12 t13 t14 t15 89, u11d1f nx0 t1 A1 c1 t2 t3 t4 A4 c4 t5 A5 c5 A6 c6 t6 A7 c7 t7 A8 c8 t8 A3_2_ c3_2_ g3_ o3_ t9 t10 t11 t12 t13 t14 t15 94] (framesOk.cons (fun u => rfl) (framesOk.cons (fun u => rfl) (framesOk.cons (fun u => rfl) (framesOk.cons (fun u => rfl) (framesOk.cons (fun u => rfl) (framesOk.cons (fun u => rfl) (framesOk.cons (fun u => rfl) (framesOk.cons (fun u => rfl) (framesOk.cons (fun u => rfl) framesOk.nil))))))))) ?_ [u11d1f nx0 t1 A1 c1 t2 t3 t4 A4 c4 t5 A5 c5 A6 c6 t6 A7 c7 t7 A8 c8 t8 A3_2_ c3_2_ g3_ o3_ t9 t10 t11 t12 t13 t14 t15 2, u11d1f nx0 t1 A1 c1 t2 t3 t4 A4 c4 t5 A5 c5 A6 c6 t6 A7 c7 t7 A8 c8 t8 A3_2_ c3_2_ g3_ o3_ t9 t10 t11 t12 t13 t14 t15 6, u11d1f nx0 t1 A1 c1 t2 t3 t4 A4 c4 t5 A5 c5 A6 c6 t6 A7 c7 t7 A8 c8 t8 A3_2_ c3_2_ g3_ o3_ t9 t10 t11 t12 t13 t14 t15 10, u11d1f nx0 t1 A1 c1 t2 t3 t4 A4 c4 t5 A5 c5 A6 c6 t6 A7 c7 t7 A8 c8 t8 A3_2_ c3_2_ g3_ o3_ t9 t10 t11 t12 t13 t14 t15 12, u11d1f nx0 t1 A1 c1 t2 t3 t4 A4 c4 t5 A5 c5 A6 c6 t6 A7 c7 t7 A8 c8 t8 A3_2_ c3_2_ g3_ o3_ t9 t10 t11 t12 t13 t14 t15 16, u11d1f nx0 t1 A1 c1 t2 t3 t4 A4 c4 t5 A5 c5 A6 c6 t6 A7 c7 t7 A8 c8 t8 A3_2_ c3_2_ g3_ o3_ t9 t10 t11 t12 t13 t14 t15 21, u11d1f nx0 t1 A1 c1 t2 t3 t4 A4 c4 t5 A5 c5 A6 c6 t6 A7 c7 t7 A8 c8 t8 A3_2_ c3_2_ g3_ o3_ t9 t10 t11 t12 t13 t14 t15 25, u11d1f nx0 t1 A1 c1 t2 t3 t4 A4 c4 t5 A5 c5 A6 c6 t6 A7 c7 t7 A8 c8 t8 A3_2_ c3_2_ g3_ o3_ t9 t10 t11 t12 t13 t14 t15 29, u11d1f nx0 t1 A1 c1 t2 t3 t4 A4 c4 t5 A5 c5 A6 c6 t6 A7 c7 t7 A8 c8 t8 A3_2_ c3_2_ g3_ o3_ t9 t10 t11 t12 t13 t14 t15 34, u11d1f nx0 t1 A1 c1 t2 t3 t4 A4 c4 t5 A5 c5 A6 c6 t6 A7 c7 t7 A8 c8 t8 A3_2_ c3_2_ g3_ o3_ t9 t10 t11 t12 t13 t14 t15 38, u11d1f nx0 t1 A1 c1 t2 t3 t4 A4 c4 t5 A5 c5 A6 c6 t6 A7 c7 t7 A8 c8 t8 A3_2_ c3_2_ g3_ o3_ t9 t10 t11 t12 t13 t14 t15 42, u11d1f nx0 t1 A1 c1 t2 t3 t4 A4 c4 t5 A5 c5 A6 c6 t6 A7 c7 t7 A8 c8 t8 A3_2_ c3_2_ g3_ o3_ t9 t10 t11 t12 t13 t14 t15 44, u11d1f nx0 t1 A1 c1 t2 t3 t4 A4 c4 t5 A5 c5 A6 c6 t6 A7 c7 t7 A8 c8 t8 A3_2_ c3_2_ g3_ o3_ t9 t10 t11 t12 t13 t14 t15 49, u11d1f nx0 t1 A1 c1 t2 t3 t4 A4 c4 t5 A5 c5 A6 c6 t6 A7 c7 t7 A8 c8 t8 A3_2_ c3_2_ g3_ o3_ t9 t10 t11 t12 t13 t14 t15 54, u11d1f nx0 t1 A1 c1 t2 t3 t4 A4 c4 t5 A5 c5 A6 c6 t6 A7 c7 t7 A8 c8 t8 A3_2_ c3_2_ g3_ o3_ t9 t10 t11 t12 t13 t14 t15 58, u11d1f nx0 t1 A1 c1 t2 t3 t4 A4 c4 t5 A5 c5 A6 c6 t6 A7 c7 t7 A8 c8 t8 A3_2_ c3_2_ g3_ o3_ t9 t10 t11 t12 t13 t14 t15 62, u11d1f nx0 t1 A1 c1 t2 t3 t4 A4 c4 t5 A5 c5 A6 c6 t6 A7 c7 t7 A8 c8 t8 A3_2_ c3_2_ g3_ o3_ t9 t10 t11 t12 t13 t14 t15 67, u11d1f nx0 t1 A1 c1 t2 t3 t4 A4 c4 t5 A5 c5 A6 c6 t6 A7 c7 t7 A8 c8 t8 A3_2_ c3_2_ g3_ o3_ t9 t10 t11 t12 t13 t14 t15 71, u11d1f nx0 t1 A1 c1 t2 t3 t4 A4 c4 t5 A5 c5 A6 c6 t6 A7 c7 t7 A8 c8 t8 A3_2_ c3_2_ g3_ o3_ t9 t10 t11 t12 t13 t14 t15 75, u11d1f nx0 t1 A1 c1 t2 t3 t4 A4 c4 t5 A5 c5 A6 c6 t6 A7 c7 t7 A8 c8 t8 A3_2_ c3_2_ g3_ o3_ t9 t10 t11 t12 t13 t14 t15 81, u11d1f nx0 t1 A1 c1 t2 t3 t4 A4 c4 t5 A5 c5 A6 c6 t6 A7 c7 t7 A8 c8 t8 A3_2_ c3_2_ g3_ o3_ t9 t10 t11 t12 t13 t14 t15 85, u11d1f nx0 t1 A1 c1 t2 t3 t4 A4 c4 t5 A5 c5 A6 c6 t6 A7 c7 t7 A8 c8 t8 A3_2_ c3_2_ g3_ o3_ t9 t10 t11 t12 t13 t14 t15 92, u11d1f nx0 t1 A1 c1 t2 t3 t4 A4 c4 t5 A5 c5 A6 c6 t6 A7 c7 t7 A8 c8 t8 A3_2_ c3_2_ g3_ o3_ t9 t10 t11 t12 t13 t14 t15 96] (framesOk.cons (fun u => rfl) (framesOk.cons (fun u => rfl) (framesOk.cons (fun u => rfl) (framesOk.cons (fun u => rfl) (framesOk.cons (fun u => rfl) (framesOk.cons (fun u => rfl) (framesOk.cons (fun u => rfl) (framesOk.cons (fun u => rfl) (framesOk.cons (fun u => rfl) (framesOk.cons (fun u => rfl) (framesOk.cons (fun u => rfl) (framesOk.cons (fun u => rfl) (framesOk.cons (fun u => rfl) (framesOk.cons (fun u => rfl) (framesOk.cons (fun u => rfl) (framesOk.cons (fun u => rfl) (framesOk.cons (fun u => rfl) (framesOk.cons (fun u => rfl) (framesOk.cons (fun u => rfl) (framesOk.cons (fun u => rfl) (framesOk.cons (fun u => rfl) (framesOk.cons (fun u => rfl) (framesOk.cons (fun u => rfl) framesOk.nil))))))))))))))))))))))) ?_ ?_
                       ·refine LoudsG.cons ?_ (LoudsG.cons ?_ (LoudsG.cons ?_ (LoudsG.cons ?_ (LoudsG.cons ?_ (LoudsG.cons ?_ (LoudsG.cons ?_ (LoudsG.cons ?_ (LoudsG.cons ?_ (LoudsG.nil)))))))))
                        ·intro D u J w hp hJ hs hF
                         refine (Does.make hs.im (fun n_ => .slice (some ⟨n_, 0, none⟩) 9 9) (cs := [.int .u8 5, .int .u8 0, .int .u8 0, .int .u8 0, .int .u8 2, .int .u8 2, .int .u8 97, .int .u8 2, .int .u8 98]) (ty := 5) (fun n_ => by kernel_rfl)).mono ?_
                         rintro v w' ⟨rfl, hg⟩
                         obtain ⟨J2, hJ2, hg2, hr2⟩ := hg.freezeK (d := (Ty.int .u8)) (l := [5, 0, 0, 0, 2, 2, 97, 2, 98]) ⟨_, _, rfl, rfl, ⟨_, _, rfl, rfl, ⟨_, _, rfl, rfl, ⟨_, _, rfl, rfl, ⟨_, _, rfl, rfl, ⟨_, _, rfl, rfl, ⟨_, _, rfl, rfl, ⟨_, _, rfl, rfl, ⟨_, _, rfl, rfl, rfl⟩⟩⟩⟩⟩⟩⟩⟩⟩ (Nat.le_of_ble_eq_true rfl)
                         exact ⟨fun _ => (none, w.heap.size, []), J2, rfl, hg2, hr2, trivial⟩
                        ·intro D u J w hp hJ hs hF
                         refine Does.call 18 [.slice (slA A1 (0 : Int).toNat c1 1) ((rpart t1.1 0 (9 : Int)).length) (c1 - (0 : Int).toNat), .slice (some ⟨(u 13 0).2.1, 0, none⟩) 9 9] (by kernel_rfl) ((armillaryref28_SameBytes.calls k J (rpart t1.1 0 (9 : Int)) (slA A1 (0 : Int).toNat c1 1) (c1 - (0 : Int).toNat) [5, 0, 0, 0, 2, 2, 97, 2, 98] (some ⟨(u 13 0).2.1, 0, none⟩) 9 w hs.im (part_le hl1 (Int.le_refl 0) hs1_2 hs2_2) (Rd.ext (Imm.le_trans hi13 hJ) (rd_sub (Rd.ext (Imm.le_trans (Imm.le_trans (Imm.le_trans (Imm.le_trans (Imm.le_trans (Imm.le_trans (Imm.le_trans (Imm.le_trans hi4 hi5) hi6) hi7) hi8) hi9) hi10) hi11) hi12) hr2) hl1 (Int.le_refl 0) hs1_2 hs2_2)) (Nat.le_of_ble_eq_true rfl) ((hF.1 (hp 13 (by kernel_rfl) (by kernel_rfl))).1) t8 hA8).mono ?_)
                         rintro e w' ⟨v, rfl, J2, rfl, hg⟩
                         exact ⟨_, rfl, fun _ => (none, 0, []), J2, rfl, hg, trivial⟩
                        ·intro D u J w hp hJ hs hF
                         refine Does.call 26 [.agg #[i6 ((t5.1.getD (0 : Int).toNat z25).f0), .string ((t5.1.getD (0 : Int).toNat z25).f1), .slice A3_2_ (((t5.1.getD (0 : Int).toNat z25).f2).length) c3_2_], .agg #[i6 1, .string (⟨#[97]⟩ : ByteArray), .slice (some ⟨nx0, 0, none⟩) 1 1]] (by kernel_rfl) ((armillaryref27_Same.calls J (t5.1.getD (0 : Int).toNat z25) A3_2_ c3_2_ (⟨1, (⟨#[97]⟩ : ByteArray), [98]⟩ : S25) (some ⟨nx0, 0, none⟩) 1 w hs.im hl3_2_ (Rd.ext hJ hr3_2_) (Nat.le_of_ble_eq_true rfl) (Rd.ext (Imm.le_trans (Imm.le_trans (Imm.le_trans (Imm.le_trans (Imm.le_trans (Imm.le_trans (Imm.le_trans (Imm.le_trans (Imm.le_trans (Imm.le_trans (Imm.le_trans (Imm.le_trans hi2 hi3) hi4) hi5) hi6) hi7) hi8) hi9) hi10) hi11) hi12) hi13) hJ) hr1) t9 hA9).mono ?_)
                         rintro e w' ⟨v, rfl, J2, rfl, hg⟩
                         exact ⟨_, rfl, fun _ => (none, 0, []), J2, rfl, hg, trivial⟩
                        ·intro D u J w hp hJ hs hF
                         refine Does.call 20 [.slice A6 (((([] : List Int) ++ t3.1).set (20 : Int).toNat (bXor .u8 ((([] : List Int) ++ t3.1).getD (20 : Int).toNat 0) 1)).length) c6] (by kernel_rfl) ((ledger_Repair.calls k J ((([] : List Int) ++ t3.1).set (20 : Int).toNat (bXor .u8 ((([] : List Int) ++ t3.1).getD (20 : Int).toNat 0) 1)) A6 c6 w hs.im (Glob.ext (Imm.le_trans (Imm.le_trans (Imm.le_trans (Imm.le_trans (Imm.le_trans (Imm.le_trans (Imm.le_trans (Imm.le_trans (Imm.le_trans (Imm.le_trans (Imm.le_trans (Imm.le_trans (Imm.le_trans hi1 hi2) hi3) hi4) hi5) hi6) hi7) hi8) hi9) hi10) hi11) hi12) hi13) hJ) hG) hl3 (Rd.ext (Imm.le_trans (Imm.le_trans (Imm.le_trans hi11 hi12) hi13) hJ) hr4) t10 hA10).mono ?_)
                         rintro e w' ⟨v, rfl, J2, A0_, c0_, cs0_, rfl, hg, hp0_⟩
                         obtain ⟨J2', hj0_, hg', hl0_, hr0_⟩ := hg.freeze 0 rfl hp0_ rfl
                         exact ⟨_, rfl, fun _ => (A0_, c0_, cs0_), J2', rfl, hg', hl0_, hr0_, trivial⟩
                        ·intro D u J w hp hJ hs hF
                         refine Does.call 18 [.slice ((u 77 0).1) t10.length ((u 77 0).2.1), .slice A1 t1.1.length c1] (by kernel_rfl) ((armillaryref28_SameBytes.calls k J t10 ((u 77 0).1) ((u 77 0).2.1) t1.1 A1 c1 w hs.im ((hF.2.2.2.1 (hp 77 (by kernel_rfl) (by kernel_rfl))).1) ((hF.2.2.2.1 (hp 77 (by kernel_rfl) (by kernel_rfl))).2.1) hl1 (Rd.ext (Imm.le_trans (Imm.le_trans (Imm.le_trans (Imm.le_trans (Imm.le_trans (Imm.le_trans (Imm.le_trans (Imm.le_trans (Imm.le_trans (Imm.le_trans hi4 hi5) hi6) hi7) hi8) hi9) hi10) hi11) hi12) hi13) hJ) hr2) t11 hA11).mono ?_)
                         rintro e w' ⟨v, rfl, J2, rfl, hg⟩
                         exact ⟨_, rfl, fun _ => (none, 0, []), J2, rfl, hg, trivial⟩
                        ·intro D u J w hp hJ hs hF
                         refine Does.call 22 [.slice none 0 0] (by kernel_rfl) ((ledger_ChainHash.calls k J [] none 0 w hs.im (Nat.le_refl _) (Rd.nil _ _ _) t12 hA12).mono ?_)
                         rintro e w' ⟨v, rfl, J2, rfl, hg⟩
                         exact ⟨_, rfl, fun _ => (none, 0, []), J2, rfl, hg, trivial⟩
                        ·intro D u J w hp hJ hs hF
                         refine Does.call 22 [.slice A5 t5.1.length c5] (by kernel_rfl) ((ledger_ChainHash.calls k J t5.1 A5 c5 w hs.im hl4 (Rd.ext hJ hr5) t13 hA13).mono ?_)
                         rintro e w' ⟨v, rfl, J2, rfl, hg⟩
                         exact ⟨_, rfl, fun _ => (none, 0, []), J2, rfl, hg, trivial⟩
                        ·intro D u J w hp hJ hs hF
                         refine Does.call 23 [.slice A5 t5.1.length c5] (by kernel_rfl) ((armillaryref28_ChainHash.calls k J t5.1 A5 c5 w hs.im hl4 (Rd.ext hJ hr5) t14 hA14).mono ?_)
                         rintro e w' ⟨v, rfl, J2, rfl, hg⟩
                         exact ⟨_, rfl, fun _ => (none, 0, []), J2, rfl, hg, trivial⟩
                        ·intro D u J w hp hJ hs hF
                         refine Does.call 22 [.slice A5 t5.1.length c5] (by kernel_rfl) ((ledger_ChainHash.calls k J t5.1 A5 c5 w hs.im hl4 (Rd.ext hJ hr5) t15 hA15).mono ?_)
                         rintro e w' ⟨v, rfl, J2, rfl, hg⟩
                         exact ⟨_, rfl, fun _ => (none, 0, []), J2, rfl, hg, trivial⟩
                       ·refine Givens.cons (fun u w =>  ?_) (fun _ _ _ => rfl) (Givens.cons (fun u w =>  ?_) (fun _ _ _ => rfl) (Givens.cons (fun u w =>  ?_) (fun _ _ _ => rfl) (Givens.cons (fun u w =>  ?_) (fun _ _ _ => rfl) (Givens.cons (fun u w =>  ?_) (fun _ _ _ => rfl) (Givens.cons (fun u w =>  ?_) (fun _ _ _ => rfl) (Givens.cons (fun u w =>  ?_) (fun _ _ _ => rfl) (Givens.cons (fun u w =>  ?_) (fun _ _ _ => rfl) (Givens.cons (fun u w =>  ?_) (fun _ _ _ => rfl) (Givens.cons (fun u w =>  ?_) (fun _ _ _ => rfl) (Givens.cons (fun u w =>  ?_) (fun _ _ _ => rfl) (Givens.cons (fun u w =>  ?_) (fun _ _ _ => rfl) (Givens.cons (fun u w =>  ?_) (fun _ _ _ => rfl) (Givens.cons (fun u w =>  ?_) (fun _ _ _ => rfl) (Givens.cons (fun u w =>  ?_) (fun _ _ _ => rfl) (Givens.cons (fun u w =>  ?_) (fun _ _ _ => rfl) (Givens.cons (fun u w =>  ?_) (fun _ _ _ => rfl) (Givens.cons (fun u w =>  ?_) (fun _ _ _ => rfl) (Givens.cons (fun u w =>  ?_) (fun _ _ _ => rfl) (Givens.cons (fun u w =>  ?_) (fun _ _ _ => rfl) (Givens.cons (fun u w =>  ?_) (fun _ _ _ => rfl) (Givens.cons (fun u w =>  ?_) (fun _ _ _ => rfl) (Givens.cons (fun u w =>  ?_) (fun _ _ _ => rfl) (Givens.nil)))))))))))))))))))))))
                        ·exact giv_run (v := .bool (t1.2 == 0)) (by kernel_rfl) (by rw [hb1]; try rfl) w
                        ·exact giv_run (v := .bool (t2.2 == 1)) (by kernel_rfl) (by rw [hb2]; try rfl) w
                        ·exact giv_run (v := .bool (t3.2 == 0)) (by kernel_rfl) (by rw [hb3]; try rfl) w
                        ·exact giv_subH (T := 22) (e := 5) (l := t1.1) (S := A1) (cap := c1) (hi := 9) 1 .i64 (by kernel_rfl) (by kernel_rfl) (by kernel_rfl) hl1 hs1_2 hs2_2 w
                        ·exact giv_run (v := .bool t8) (by kernel_rfl) (by rw [hb4]; try rfl) w
                        ·exact giv_run (v := .bool ((t4.1.length : Int) == 0)) (by kernel_rfl) (by rw [hb5]; try rfl) w
                        ·exact giv_run (v := .bool (t4.2.1 == 0)) (by kernel_rfl) (by rw [hb6]; try rfl) w
                        ·exact giv_run (v := .bool (t4.2.2 == 271)) (by kernel_rfl) (by rw [hb7]; try rfl) w
                        ·exact giv_run (v := .bool ((t5.1.length : Int) == 2)) (by kernel_rfl) (by rw [hb8]; try rfl) w
                        ·exact giv_run (v := .bool (t5.2.1 == 25)) (by kernel_rfl) (by rw [hb9]; try rfl) w
                        ·exact giv_run (v := .bool (t5.2.2 == 0)) (by kernel_rfl) (by rw [hb10]; try rfl) w
                        ·exact giv_idx (T := 23) (e := 25) 3 .i64 0 hA3_ t5.1.length c5 (by kernel_rfl) (by kernel_rfl) (by kernel_rfl) hi0_1 hi1_1 w
                        ·exact giv_run (v := .bool t9) (by kernel_rfl) (by rw [hb11]; try rfl) w
                        ·exact giv_run (v := .bool ((t6.1.length : Int) == 1)) (by kernel_rfl) (by rw [hb12]; try rfl) w
                        ·exact giv_run (v := .bool (t6.2.1 == 13)) (by kernel_rfl) (by rw [hb13]; try rfl) w
                        ·exact giv_run (v := .bool (t6.2.2 == 270)) (by kernel_rfl) (by rw [hb14]; try rfl) w
                        ·exact giv_run (v := .bool ((t7.1.length : Int) == 0)) (by kernel_rfl) (by rw [hb15]; try rfl) w
                        ·exact giv_run (v := .bool (t7.2.1 == 0)) (by kernel_rfl) (by rw [hb16]; try rfl) w
                        ·exact giv_run (v := .bool (t7.2.2 == 0)) (by kernel_rfl) (by rw [hb17]; try rfl) w
                        ·exact giv_run (v := .bool t11) (by kernel_rfl) (by rw [hb18]; try rfl) w
                        ·exact giv_run (v := .bool (t12 == 0)) (by kernel_rfl) (by rw [hb19]; try rfl) w
                        ·exact giv_run (v := .bool (t13 == t14)) (by kernel_rfl) (by rw [hb20]; try rfl) w
                        ·exact giv_subH (T := 23) (e := 25) (l := t5.1) (S := A5) (cap := c5) (hi := 1) 3 .i64 (by kernel_rfl) (by kernel_rfl) (by kernel_rfl) hl4 hs1_3 hs2_3 w
                       intro u I14 nx10 hi14 hF
                       have hf1 := ((hF.1 rfl).1)
                       have hf2 := ((hF.2.2.2.1 rfl).1)
                       have hf3 := ((hF.2.2.2.1 rfl).2.1)
                       clear hF
                       refine RL.norm (K' := ((178, .slice (slA A5 (0 : Int).toNat c5 3) ((rpart t5.1 0 (1 : Int)).length) (c5 - (0 : Int).toNat)) :: (177, .slice A5 t5.1.length c5) :: (176, .int .u32 t15) :: (175, .slice A5 t5.1.length c5) :: (174, .bool true) :: (173, .bool (t13 == t14)) :: (172, .bool (t13 == t14)) :: (171, .int .u32 t14) :: (170, .slice A5 t5.1.length c5) :: (169, .int .u32 t13) :: (168, .slice A5 t5.1.length c5) :: (167, .bool true) :: (166, .bool (t12 == 0)) :: (165, .bool (t12 == 0)) :: (164, .int .u32 t12) :: (163, .bool true) :: (162, .bool t11) :: (161, .bool t11) :: (160, .slice A1 t1.1.length c1) :: (159, .slice ((u 77 0).1) t10.length ((u 77 0).2.1)) :: (158, .slice A6 (((([] : List Int) ++ t3.1).set (20 : Int).toNat (bXor .u8 ((([] : List Int) ++ t3.1).getD (20 : Int).toNat 0) 1)).length) c6) :: (157, .bool true) :: (156, .bool (t7.2.2 == 0)) :: (155, .bool (t7.2.2 == 0)) :: (154, i6 t7.2.2) :: (153, .bool true) :: (152, .bool (t7.2.1 == 0)) :: (151, .bool (t7.2.1 == 0)) :: (150, i6 t7.2.1) :: (149, .bool true) :: (148, .bool ((t7.1.length : Int) == 0)) :: (147, .bool ((t7.1.length : Int) == 0)) :: (146, i6 (t7.1.length : Int)) :: (145, .slice A8 t7.1.length c8) :: (144, .bool true) :: (143, .bool (t6.2.2 == 270)) :: (142, .bool (t6.2.2 == 270)) :: (141, i6 t6.2.2) :: (140, .bool true) :: (139, .bool (t6.2.1 == 13)) :: (138, .bool (t6.2.1 == 13)) :: (137, i6 t6.2.1) :: (136, .bool true) :: (135, .bool ((t6.1.length : Int) == 1)) :: (134, .bool ((t6.1.length : Int) == 1)) :: (133, i6 (t6.1.length : Int)) :: (132, .slice A7 t6.1.length c7) :: (131, .bool true) :: (130, .bool t9) :: (129, .bool t9) :: (128, .agg #[i6 1, .string (⟨#[97]⟩ : ByteArray), .slice (some ⟨nx0, 0, none⟩) 1 1]) :: (127, .agg #[i6 ((t5.1.getD (0 : Int).toNat z25).f0), .string ((t5.1.getD (0 : Int).toNat z25).f1), .slice A3_2_ (((t5.1.getD (0 : Int).toNat z25).f2).length) c3_2_]) :: (126, pt g3_ (o3_ + (0 : Int).toNat * 3)) :: (125, .slice A5 t5.1.length c5) :: (124, .bool true) :: (123, .bool (t5.2.2 == 0)) :: (122, .bool (t5.2.2 == 0)) :: (121, i6 t5.2.2) :: (120, .bool true) :: (119, .bool (t5.2.1 == 25)) :: (118, .bool (t5.2.1 == 25)) :: (117, i6 t5.2.1) :: (116, .bool true) :: (115, .bool ((t5.1.length : Int) == 2)) :: (114, .bool ((t5.1.length : Int) == 2)) :: (113, i6 (t5.1.length : Int)) :: (112, .slice A5 t5.1.length c5) :: (111, .bool true) :: (110, .bool (t4.2.2 == 271)) :: (109, .bool (t4.2.2 == 271)) :: (108, i6 t4.2.2) :: (107, .bool true) :: (106, .bool (t4.2.1 == 0)) :: (105, .bool (t4.2.1 == 0)) :: (104, i6 t4.2.1) :: (103, .bool true) :: (102, .bool ((t4.1.length : Int) == 0)) :: (101, .bool ((t4.1.length : Int) == 0)) :: (100, i6 (t4.1.length : Int)) :: (99, .slice A4 t4.1.length c4) :: (98, .bool true) :: (97, .bool t8) :: (96, .bool t8) :: (95, .slice (some ⟨(u 13 0).2.1, 0, none⟩) 9 9) :: (94, .slice (slA A1 (0 : Int).toNat c1 1) ((rpart t1.1 0 (9 : Int)).length) (c1 - (0 : Int).toNat)) :: (93, .slice A1 t1.1.length c1) :: (92, .bool true) :: (91, .bool (t3.2 == 0)) :: (90, .bool (t3.2 == 0)) :: (89, i6 t3.2) :: (88, .bool true) :: (87, .bool (t2.2 == 1)) :: (86, .bool (t2.2 == 1)) :: (85, i6 t2.2) :: (84, .bool true) :: (83, .bool (t1.2 == 0)) :: (82, i6 t1.2) :: (20, i6 t7.2.2) :: (19, i6 t7.2.1) :: (18, .slice A8 t7.1.length c8) :: (17, i6 t6.2.2) :: (16, i6 t6.2.1) :: (15, .slice A7 t6.1.length c7) :: (14, .slice A6 (((([] : List Int) ++ t3.1).set (20 : Int).toNat (bXor .u8 ((([] : List Int) ++ t3.1).getD (20 : Int).toNat 0) 1)).length) c6) :: (13, i6 t5.2.2) :: (12, i6 t5.2.1) :: (11, .slice A5 t5.1.length c5) :: (10, i6 t4.2.2) :: (9, i6 t4.2.1) :: (8, .slice A4 t4.1.length c4) :: (1, pt (nx0 + 1) 0) :: (2, .slice A1 t1.1.length c1) :: (3, i6 t1.2) :: (5, i6 t2.2) :: (7, i6 t3.2) :: [])) (X' := [orow 25 3 A4 t4.1.length c4 cs4, orow 25 3 A7 t6.1.length c7 cs8, orow 25 3 A8 t7.1.length c8 cs9]) (by kernel_rfl) rfl rfl rfl ?_
                       revert hf1 hf2 hf3
                       generalize (u 13 0).1 = A9
                       generalize (u 13 0).2.1 = c9
                       generalize (u 13 0).2.2 = cs10
                       generalize (u 77 0).1 = A10
                       generalize (u 77 0).2.1 = c10
                       generalize (u 77 0).2.2 = cs11
                       intro hf1 hf2 hf3
                       clear u
                       obtain ⟨t16, hA16, H⟩ := bnd H
                       refine RL.callP 22 [.slice (slA A5 (0 : Int).toNat c5 3) ((rpart t5.1 0 (1 : Int)).length) (c5 - (0 : Int).toNat)] (some 179) (fun w => ledger_ChainHash.Post I14 w t16) (by kernel_rfl) (by kernel_rfl) (fun w hs => ledger_ChainHash.calls k I14 (rpart t5.1 0 (1 : Int)) (slA A5 (0 : Int).toNat c5 3) (c5 - (0 : Int).toNat) w hs.im (part_le hl4 (Int.le_refl 0) hs1_3 hs2_3) (Rd.ext hi14 (rd_sub hr5 hl4 (Int.le_refl 0) hs1_3 hs2_3)) t16 hA16) ?_
                       rintro w v w' hs ⟨I15, rfl, hg⟩
                       have hi15 := hg.le
                       refine RL.resume (X' := [orow 25 3 A4 t4.1.length c4 cs4, orow 25 3 A7 t6.1.length c7 cs8, orow 25 3 A8 t7.1.length c8 cs9]) rfl (hs.call hg) ?_
                       clear hs hg
                       generalize w'.heap.size = nx11
                       clear w w'
                       refine RL.st 3 [(0, .bool (t15 != t16))] ?_
                       refine OK.re ?_
                       obtain rfl := Option.some.inj H
                       refine QN.body rfl [] (RFacts.nil _ _ _) (.no) (.bool (t15 != t16)) (by kernel_rfl) (by kernel_rfl) (by kernel_rfl) ?_ _ (.inr rfl)
                       exact fun w' hs' => ⟨_, rfl, I15, rfl, hs'.got _ (.cons _ (.cons _ (.cons _ .slnil)))⟩
                      ·have hc20 := (beq_eq_false_iff_ne.1 hb20)
                       rw [if_neg hc20] at H
                       cases H
                     ·have hc19 := (beq_eq_false_iff_ne.1 hb19)
                      rw [if_neg hc19] at H
                      cases H
                    ·have hc18 := (Bool.eq_false_iff.1 hb18)
                     rw [if_neg hc18] at H
                     cases H
                   ·have hc17 := (beq_eq_false_iff_ne.1 hb17)
                    rw [if_neg hc17] at H
                    cases H
                  ·have hc16 := (beq_eq_false_iff_ne.1 hb16)
                   rw [if_neg hc16] at H
                   cases H
                 ·have hc15 := (beq_eq_false_iff_ne.1 hb15)
                  rw [if_neg hc15] at H
                  cases H
                ·have hc14 := (beq_eq_false_iff_ne.1 hb14)
                 rw [if_neg hc14] at H
                 cases H
               ·have hc13 := (beq_eq_false_iff_ne.1 hb13)
                rw [if_neg hc13] at H
                cases H
              ·have hc12 := (beq_eq_false_iff_ne.1 hb12)
               rw [if_neg hc12] at H
               cases H
             ·have hc11 := (Bool.eq_false_iff.1 hb11)
              rw [if_neg hc11] at H
              cases H
            ·have hc10 := (beq_eq_false_iff_ne.1 hb10)
             rw [if_neg hc10] at H
             cases H
           ·have hc9 := (beq_eq_false_iff_ne.1 hb9)
            rw [if_neg hc9] at H
            cases H
          ·have hc8 := (beq_eq_false_iff_ne.1 hb8)
           rw [if_neg hc8] at H
           cases H
         ·have hc7 := (beq_eq_false_iff_ne.1 hb7)
          rw [if_neg hc7] at H
          cases H
        ·have hc6 := (beq_eq_false_iff_ne.1 hb6)
         rw [if_neg hc6] at H
         cases H
       ·have hc5 := (beq_eq_false_iff_ne.1 hb5)
        rw [if_neg hc5] at H
        cases H
      ·have hc4 := (Bool.eq_false_iff.1 hb4)
       rw [if_neg hc4] at H
       cases H
     ·have hc3 := (beq_eq_false_iff_ne.1 hb3)
      rw [if_neg hc3] at H
      cases H
    ·have hc2 := (beq_eq_false_iff_ne.1 hb2)
     rw [if_neg hc2] at H
     cases H
   ·have hc1 := (beq_eq_false_iff_ne.1 hb1)
    rw [if_neg hc1] at H
    cases H
 ·intro Q_1 hJ1 hQ1
  obtain ⟨y1, H, HK1⟩ := bnd H
  refine OK.rg ?_
  refine RL.s 4 [(44, .bool ((t1.1.length : Int) != 13)), (7, i6 t3.2), (6, .slice A3 t3.1.length c3), (5, i6 t2.2), (3, i6 t1.2), (2, .slice A1 t1.1.length c1), (1, pt (nx0 + 1) 0)] ?_
  refine RL.cases ((t1.1.length : Int) != 13) (fun hb => ?_) (fun hb => ?_)
  ·have hc := (bne_iff_ne.1 hb)
   rw [hb]
   rw [if_pos hc] at H; clear hb
   refine RL.s 4 [(48, .bool true), (7, i6 t3.2), (6, .slice A3 t3.1.length c3), (5, i6 t2.2), (3, i6 t1.2), (2, .slice A1 t1.1.length c1), (1, pt (nx0 + 1) 0)] ?_
   refine RL.nil (by kernel_rfl) ?_
   obtain rfl := Option.some.inj H
   refine QN.sel (K' := [(1, pt (nx0 + 1) 0), (2, .slice A1 t1.1.length c1), (3, i6 t1.2), (5, i6 t2.2), (6, .slice A3 t3.1.length c3), (7, i6 t3.2), (48, .bool true)]) (L' := [⟨nx0 + 1, [i6 1, .string (⟨#[97]⟩ : ByteArray), .slice (some ⟨nx0, 0, none⟩) 1 1], 25⟩]) [1] (by kernel_rfl) (by kernel_rfl) (.cons_cons _ .slnil) ?_
   refine QN.norm (X' := [orow 5 1 A3 t3.1.length c3 cs3]) rfl rfl rfl (by kernel_rfl) ?_
   exact hJ1 _ _ _ _ _ ⟨true, rfl, rfl, rfl, (Imm.le_refl _), HK1⟩
  ·have hc := (not_not_intro (bne_eq_false_iff_eq.1 hb))
   rw [hb]
   rw [if_neg hc] at H; clear hb
   refine RL.s 4 [(48, .bool ((t3.1.length : Int) != 25)), (7, i6 t3.2), (6, .slice A3 t3.1.length c3), (5, i6 t2.2), (3, i6 t1.2), (2, .slice A1 t1.1.length c1), (1, pt (nx0 + 1) 0)] ?_
   refine RL.nil (by kernel_rfl) ?_
   obtain rfl := Option.some.inj H
   refine QN.sel (K' := [(1, pt (nx0 + 1) 0), (2, .slice A1 t1.1.length c1), (3, i6 t1.2), (5, i6 t2.2), (6, .slice A3 t3.1.length c3), (7, i6 t3.2), (48, .bool ((t3.1.length : Int) != 25))]) (L' := [⟨nx0 + 1, [i6 1, .string (⟨#[97]⟩ : ByteArray), .slice (some ⟨nx0, 0, none⟩) 1 1], 25⟩]) [1] (by kernel_rfl) (by kernel_rfl) (.cons_cons _ .slnil) ?_
   refine QN.norm (X' := [orow 5 1 A3 t3.1.length c3 cs3]) rfl rfl rfl (by kernel_rfl) ?_
   exact hJ1 _ _ _ _ _ ⟨((t3.1.length : Int) != 25), rfl, rfl, rfl, (Imm.le_refl _), HK1⟩

end Go.Proofs.YtiomeaoeegikkaaDoor
namespace Go.Proofs.YtiomeaoeegikkaaDoor.led
open Go Go.Proofs.YtiomeaoeegikkaaDoor Go.Proofs.YtiomeaoeegikkaaDoor.RW
set_option linter.unusedVariables false
set_option maxRecDepth 100000
def ea : S25 := ⟨1, ⟨#[97]⟩, [98]⟩
def ez : S25 := ⟨4, ⟨#[122]⟩, []⟩
def lA : List Int := [5, 0, 0, 0, 2, 2, 97, 2, 98, 235, 9, 200, 164]
def lZ : List Int := [4, 0, 0, 0, 8, 2, 122, 0, 110, 188, 136, 242]
def lF : List Int := [5, 0, 0, 0, 2, 2, 97, 2, 98, 235, 9, 200, 164, 4, 0, 0, 0, 8, 2, 122, 1, 110, 188, 136, 242]
theorem ok_ea : okE ea := ⟨by decide, by decide, by decide, by decide, by decide, by unfold ea; intro x hx; rw [List.mem_singleton.1 hx]; decide⟩
theorem ok_ez : okE ez := ⟨by decide, by decide, by decide, by decide, by decide, by unfold ez; intro x hx; cases hx⟩
theorem enc_ea : enc ea = [2, 2, 97, 2, 98] := by
  show vg 2 ++ ((vg 2 ++ [97]) ++ (vg 2 ++ [98])) = _
  rw [vg_small (by decide)]; rfl
theorem enc_ez : enc ez = [8, 2, 122, 0] := by
  show vg 8 ++ ((vg 2 ++ [122]) ++ (vg 0 ++ [])) = _
  rw [vg_small (u := 8) (by decide), vg_small (u := 2) (by decide), vg_small (u := 0) (by decide)]; rfl
theorem rec_ea : rec_ ea = lA := by
  unfold rec_ hd
  rw [enc_ea]
  decide +kernel
theorem rec_ez : rec_ ez = lZ := by
  unfold rec_ hd
  rw [enc_ez]
  decide +kernel
theorem bytes_dec (l : List Int) (h : (l.all fun x => decide (0 ≤ x ∧ x < 256)) = true) : isBytes l := fun x hx => of_decide_eq_true (List.all_eq_true.1 h x hx)
theorem append_bad (l : List Int) (k : Nat) : ledger_Append.f k l (⟨0, (⟨#[]⟩ : ByteArray), []⟩ : S25) = some ([], 1) := rfl
theorem san_cut : Ev (fun k => ledger_Scan.f k (rpart lA 0 (12 : Int))) ([], 0, 271) := by
  have hb : isBytes (rpart lA 0 (12 : Int)) := bytes_dec _ (by decide)
  exact scan_bad (es := []) (fun x hx => by cases hx) (by decide) hb (by decide) (by decide) (Ev.congr (first_cutN (n := 5) (by decide) (by decide) (by decide) (by decide) (by decide)) (Ev.const rfl))
theorem san_two : Ev (fun k => ledger_Scan.f k (lA ++ lZ)) ([ea, ez], 25, 0) := by
  have h := scan_log (es := [ea, ez]) (fun x hx => by
    simp only [List.mem_cons, List.not_mem_nil, or_false] at hx
    rcases hx with rfl | rfl
    · exact ok_ea
    · exact ok_ez) (by decide)
  have e : logOf [ea, ez] = lA ++ lZ := by
    show rec_ ea ++ (rec_ ez ++ []) = _
    rw [rec_ea, rec_ez]; rfl
  rw [e] at h
  exact h
theorem san_flip : Ev (fun k => ledger_Scan.f k lF) ([ea], 13, 270) := by
  have hb : isBytes (lF.drop 13) := bytes_dec _ (by decide)
  have h := scan_bad (es := [ea]) (r := lF.drop 13) (x := 270) (fun x hx => by rw [List.mem_singleton.1 hx]; exact ok_ea) (by decide) hb (by decide) (by decide)
    (first_sum hb (by decide) (by decide) (by decide) (by decide +kernel))
  have e : logOf [ea] = lA := by
    show rec_ ea ++ [] = _
    rw [rec_ea]; rfl
  rw [e] at h
  exact h
theorem san_none : Ev (fun k => ledger_Scan.f k []) ([], 0, 0) := scan_log (es := []) (fun x hx => by cases hx) (by decide)
theorem san_rep : Ev (fun k => ledger_Repair.f k lF) lA := by
  refine Ev.bind san_flip ?_
  refine Ev.congr (fun k => if_pos (by decide)) ?_
  refine Ev.congr (fun k => if_pos (by decide)) ?_
  exact Ev.bind1 (r := lA) (by decide) (Ev.const rfl)
theorem ok_two : okL [ea, ez] := fun x hx => by
  simp only [List.mem_cons, List.not_mem_nil, or_false] at hx
  rcases hx with rfl | rfl
  · exact ok_ea
  · exact ok_ez
theorem chain_ne : chS [ea, ez] ≠ chS [ea] := by
  show cs (w32 (cs (w32 0 ++ enc ea)) ++ enc ez) ≠ cs (w32 0 ++ enc ea)
  rw [enc_ea, enc_ez]
  decide +kernel
theorem sanity_ev : Ev (fun k => armillarylaw28_sanity.f k) true := by
  have e1 : Ev (fun k => ledger_Append.f k [] ea) (lA, 0) := by
    have := append_ev ok_ea [] (by decide)
    rwa [List.nil_append, rec_ea] at this
  have e3 : Ev (fun k => ledger_Append.f k lA ez) (lA ++ lZ, 0) := by
    have := append_ev ok_ez lA (by decide)
    rwa [rec_ez] at this
  refine Ev.bind e1 (Ev.bind1 (append_bad lA 0) (Ev.bind e3 ?_))
  refine Ev.bind1 (r := false) (by decide) ?_
  unfold armillarylaw28_sanity.k1
  refine Ev.congr (fun k => if_neg (by decide)) ?_
  refine Ev.congr (fun k => if_pos (by decide)) ?_
  refine Ev.congr (fun k => if_pos (by decide)) ?_
  refine Ev.bind san_cut (Ev.bind san_two ?_)
  refine Ev.congr (fun k => if_pos (by decide)) ?_
  refine Ev.congr (fun k => if_pos (by decide)) ?_
  refine Ev.congr (fun k => if_pos (by decide)) ?_
  have ef : ((([] : List Int) ++ (lA ++ lZ)).set (20 : Int).toNat (bXor .u8 ((([] : List Int) ++ (lA ++ lZ)).getD (20 : Int).toNat 0) 1)) = lF := by decide +kernel
  simp only [ef]
  refine Ev.bind san_flip (Ev.bind san_none ?_)
  refine Ev.congr (fun k => if_pos (by decide)) ?_
  refine Ev.congr (fun k => if_pos (by decide)) ?_
  refine Ev.congr (fun k => if_pos (by decide)) ?_
  refine Ev.congr (fun k => if_pos (by decide)) ?_
  refine Ev.congr (fun k => if_pos (by decide)) ?_
  have s8 : Ev (fun k => armillaryref28_SameBytes.f k (rpart lA 0 (9 : Int)) [5, 0, 0, 0, 2, 2, 97, 2, 98]) true := same_bytes (a := [5, 0, 0, 0, 2, 2, 97, 2, 98]) (by decide)
  refine Ev.bind s8 ?_
  refine Ev.congr (fun k => if_pos rfl) ?_
  refine Ev.congr (fun k => if_pos (by decide)) ?_
  refine Ev.congr (fun k => if_pos (by decide)) ?_
  refine Ev.congr (fun k => if_pos (by decide)) ?_
  refine Ev.congr (fun k => if_pos (by decide)) ?_
  refine Ev.congr (fun k => if_pos (by decide)) ?_
  refine Ev.congr (fun k => if_pos (by decide)) ?_
  refine Ev.congr (fun k => if_pos (by decide)) ?_
  refine Ev.bind1 (same_entry ea) ?_
  refine Ev.congr (fun k => if_pos rfl) ?_
  refine Ev.congr (fun k => if_pos (by decide)) ?_
  refine Ev.congr (fun k => if_pos (by decide)) ?_
  refine Ev.congr (fun k => if_pos (by decide)) ?_
  refine Ev.congr (fun k => if_pos (by decide)) ?_
  refine Ev.congr (fun k => if_pos (by decide)) ?_
  refine Ev.congr (fun k => if_pos (by decide)) ?_
  refine Ev.bind san_rep ?_
  refine Ev.bind (same_bytes (a := lA) (by decide)) ?_
  refine Ev.congr (fun k => if_pos rfl) ?_
  refine Ev.bind (chain_ev [] (fun x hx => by cases hx) (by decide)) ?_
  refine Ev.congr (fun k => if_pos rfl) ?_
  refine Ev.bind (chain_ev [ea, ez] ok_two (by decide)) (Ev.bind (rchain_ev 2 [ea, ez] rfl ok_two (by decide)) ?_)
  refine Ev.congr (fun k => if_pos rfl) ?_
  refine Ev.bind (chain_ev [ea, ez] ok_two (by decide)) ?_
  refine Ev.congr (fun k => if_pos (by decide)) ?_
  refine Ev.congr (fun k => if_pos (by decide)) ?_
  refine Ev.bind (chain_ev [ea] (fun x hx => by rw [List.mem_singleton.1 hx]; exact ok_ea) (by decide)) (Ev.const ?_)
  congr 1
  rw [bne_iff_ne]
  intro h
  exact chain_ne (Int.ofNat.inj h)
end Go.Proofs.YtiomeaoeegikkaaDoor.led
namespace Go.Proofs.YtiomeaoeegikkaaDoor.led
open Go Go.Proofs.YtiomeaoeegikkaaDoor Go.Proofs.YtiomeaoeegikkaaDoor.RW
set_option linter.unusedVariables false
set_option maxRecDepth 100000
def Le (es : List S25) (c : Nat) : Nat := (logOf (es.take c)).length
theorem okL.take {es : List S25} (h : okL es) (c : Nat) : okL (es.take c) := fun x hx => h x (List.mem_of_mem_take hx)
theorem rpart_take {α : Type} (l : List α) (c : Nat) : rpart l 0 (c : Int) = l.take c := by
  unfold rpart
  rw [tn]
  show (l.drop 0).take (c - 0) = _
  rw [List.drop_zero, Nat.sub_zero]
theorem take_succ_get {es : List S25} {c : Nat} (h : c < es.length) : es.take (c + 1) = es.take c ++ [es[c]] := by
  rw [List.take_add_one, List.getElem?_eq_getElem h]; rfl
theorem Le_succ {es : List S25} {c : Nat} (h : c < es.length) : Le es (c + 1) = Le es c + (rec_ es[c]).length := by
  unfold Le
  rw [take_succ_get h, logOf_app, List.length_append]
  congr 1
  show (rec_ es[c] ++ []).length = _
  rw [List.append_nil]
theorem Le_all (es : List S25) : Le es es.length = (logOf es).length := by
  unfold Le
  rw [List.take_length]
/-- What the loop over the records finds. -/
structure CutAt (es : List S25) (p n c : Nat) : Prop where
  le : c ≤ n
  fit : Le es c ≤ p
  max : ∀ m, m ≤ n → Le es m ≤ p → m ≤ c
theorem CutAt.zero (es : List S25) (p : Nat) : CutAt es p 0 0 := ⟨Nat.le_refl _, Nat.zero_le _, fun m h _ => h⟩
theorem CutAt.up {es : List S25} {p n c : Nat} (h : CutAt es p n c) (hn : Le es (n + 1) ≤ p) : CutAt es p (n + 1) (n + 1) := ⟨Nat.le_refl _, hn, fun m h _ => h⟩
theorem CutAt.stay {es : List S25} {p n c : Nat} (h : CutAt es p n c) (hn : ¬ Le es (n + 1) ≤ p) : CutAt es p (n + 1) c := ⟨by have := h.le; omega, h.fit, fun m hm hl => by
  by_cases e : m = n + 1
  · subst e; exact absurd hl hn
  · exact h.max m (by omega) hl⟩
/-- Where the cut falls. -/
theorem log_split {es : List S25} {c : Nat} (h : c < es.length) : logOf es = logOf (es.take c) ++ (rec_ es[c] ++ logOf (es.drop (c + 1))) := by
  conv => lhs; rw [← List.take_append_drop c es]
  rw [logOf_app, List.drop_eq_getElem_cons h, logOf_cons]
theorem first_prefix {e : S25} (he : okE e) (r s : List Int) (h : rec_ e = r ++ s) (hs : s ≠ []) (k : Nat) : ledger_first.f k r = some (bad 271) := by
  have hle := enc_len he
  have hlen := congrArg List.length h
  rw [rec_len, List.length_append] at hlen
  have hs' : 0 < s.length := List.length_pos_iff.2 hs
  have hb : isBytes r := (bytes_app (by rw [← h]; exact rec_bytes he)).1
  by_cases h4 : r.length < 4
  · exact first_short h4 k
  · have hw : word r = (enc e).length := by
      have h1 : word (r ++ s) = (enc e).length := by
        rw [← h]
        unfold rec_ hd
        rw [List.append_assoc]
        exact word_w32 _ _ (by omega)
      rw [← h1]
      unfold word
      simp only [List.getD_eq_getElem?_getD]
      rw [List.getElem?_append_left (by omega), List.getElem?_append_left (by omega), List.getElem?_append_left (by omega), List.getElem?_append_left (by omega)]
    exact first_cut hb (by omega) (by omega) (by omega) k
theorem scan_cut {es : List S25} (hok : okL es) (hn : es.length ≤ 1000) {p c : Nat} (hf : CutAt es p es.length c) (hp : p ≤ (logOf es).length) :
    (p = Le es c ∧ Ev (fun k => ledger_Scan.f k ((logOf es).take p)) (es.take c, (Le es c : Int), 0)) ∨ (Le es c < p ∧ Ev (fun k => ledger_Scan.f k ((logOf es).take p)) (es.take c, (Le es c : Int), 271)) := by
  have hcl := hf.le
  have hfit := hf.fit
  have hok' := hok.take c
  have hlen' : (es.take c).length ≤ 1000 := by rw [List.length_take]; omega
  by_cases hc : c < es.length
  · have hsp := log_split hc
    have hmax : ¬ Le es (c + 1) ≤ p := fun h => by have := hf.max (c + 1) (by omega) h; omega
    rw [Le_succ hc] at hmax
    have he := hok _ (List.getElem_mem hc)
    have ht : (logOf es).take p = logOf (es.take c) ++ (rec_ es[c]).take (p - Le es c) := by
      rw [hsp, List.take_append, List.take_of_length_le (by unfold Le at hfit; exact hfit), List.take_append_of_le_length (by unfold Le at hmax; unfold Le at hfit; omega)]
      rfl
    by_cases hpe : p = Le es c
    · refine .inl ⟨hpe, ?_⟩
      rw [ht, hpe, Nat.sub_self, List.take_zero, List.append_nil]
      exact scan_log hok' hlen'
    · refine .inr ⟨by omega, ?_⟩
      have hsplit : rec_ es[c] = (rec_ es[c]).take (p - Le es c) ++ (rec_ es[c]).drop (p - Le es c) := (List.take_append_drop _ _).symm
      have hne : (rec_ es[c]).drop (p - Le es c) ≠ [] := fun h => by
        have := congrArg List.length h
        rw [List.length_drop, List.length_nil] at this
        omega
      rw [ht]
      have hle := enc_len he
      have hrl := rec_len es[c]
      exact scan_bad hok' hlen' ((rec_bytes he).take _) (by rw [List.length_take]; omega) (by rw [List.length_take]; omega) (Ev.congr (first_prefix he _ _ hsplit hne) (Ev.const rfl))
  · obtain rfl : c = es.length := by omega
    rw [Le_all] at *
    have hpe : p = (logOf es).length := by omega
    refine .inl ⟨hpe, ?_⟩
    rw [hpe, List.take_length, List.take_length]
    exact scan_log hok hn
end Go.Proofs.YtiomeaoeegikkaaDoor.led
namespace Go.Proofs.YtiomeaoeegikkaaDoor.led
open Go Go.Proofs.YtiomeaoeegikkaaDoor Go.Proofs.YtiomeaoeegikkaaDoor.RW
set_option linter.unusedVariables false
set_option maxRecDepth 100000
theorem st_zero {z : Nat} (h : z < 4294967296) (e : st z = 0) : z = 0 := by
  unfold st at e
  split at e
  · have h1 : z / 2 = 3988292384 := by
      have h2 : (z / 2 ^^^ 3988292384) ^^^ 3988292384 = 0 ^^^ 3988292384 := by rw [e]
      rwa [Nat.xor_assoc, Nat.xor_self, Nat.xor_zero, Nat.zero_xor] at h2
    omega
  · rw [Nat.xor_zero] at e
    omega
theorem xor_eq_zero' {a b : Nat} (h : a ^^^ b = 0) : a = b := by
  have h2 : (a ^^^ b) ^^^ b = 0 ^^^ b := by rw [h]
  rwa [Nat.xor_assoc, Nat.xor_self, Nat.xor_zero, Nat.zero_xor] at h2
theorem st_inj {a b : Nat} (ha : a < 4294967296) (hb : b < 4294967296) (h : st a = st b) : a = b := by
  refine xor_eq_zero' (st_zero (Nat.xor_lt_two_pow (n := 32) ha hb) ?_)
  rw [st_xor, h, Nat.xor_self]
theorem st8_inj {a b : Nat} (ha : a < 4294967296) (hb : b < 4294967296) (h : st8 a = st8 b) : a = b := by
  unfold st8 at h
  have h1 := st_inj (st_lt (st_lt (st_lt (st_lt (st_lt (st_lt (st_lt ha))))))) (st_lt (st_lt (st_lt (st_lt (st_lt (st_lt (st_lt hb))))))) h
  have h2 := st_inj (st_lt (st_lt (st_lt (st_lt (st_lt (st_lt ha)))))) (st_lt (st_lt (st_lt (st_lt (st_lt (st_lt hb)))))) h1
  have h3 := st_inj (st_lt (st_lt (st_lt (st_lt (st_lt ha))))) (st_lt (st_lt (st_lt (st_lt (st_lt hb))))) h2
  have h4 := st_inj (st_lt (st_lt (st_lt (st_lt ha)))) (st_lt (st_lt (st_lt (st_lt hb)))) h3
  have h5 := st_inj (st_lt (st_lt (st_lt ha))) (st_lt (st_lt (st_lt hb))) h4
  have h6 := st_inj (st_lt (st_lt ha)) (st_lt (st_lt hb)) h5
  have h7 := st_inj (st_lt ha) (st_lt hb) h6
  exact st_inj ha hb h7
theorem xor_left {a b c : Nat} (h : a ^^^ b = a ^^^ c) : b = c := by
  have h2 : a ^^^ (a ^^^ b) = a ^^^ (a ^^^ c) := by rw [h]
  rwa [← Nat.xor_assoc, ← Nat.xor_assoc, Nat.xor_self, Nat.zero_xor, Nat.zero_xor] at h2
theorem xor_right {a b c : Nat} (h : b ^^^ a = c ^^^ a) : b = c := xor_left (a := a) (by rw [Nat.xor_comm, h, Nat.xor_comm])
theorem upd1_byte {c x y : Nat} (hc : c < 4294967296) (hx : x < 256) (hy : y < 256) (h : upd1 c x = upd1 c y) : x = y := by
  rw [upd1_eq, upd1_eq] at h
  exact xor_left (st8_inj (Nat.xor_lt_two_pow (n := 32) hc (by omega)) (Nat.xor_lt_two_pow (n := 32) hc (by omega)) h)
theorem upd1_state {c d x : Nat} (hc : c < 4294967296) (hd : d < 4294967296) (hx : x < 256) (h : upd1 c x = upd1 d x) : c = d := by
  rw [upd1_eq, upd1_eq] at h
  exact xor_right (st8_inj (Nat.xor_lt_two_pow (n := 32) hc (by omega)) (Nat.xor_lt_two_pow (n := 32) hd (by omega)) h)
theorem crc_state : ∀ (l : List Int) {c d : Nat}, c < 4294967296 → d < 4294967296 → isBytes l → crc c l = crc d l → c = d
  | [], c, d, _, _, _, h => h
  | x :: l, c, d, hc, hd, hb, h => by
    have hx := hb x List.mem_cons_self
    exact upd1_state hc hd (by omega) (crc_state l (upd1_lt hc (by omega)) (upd1_lt hd (by omega)) (fun y hy => hb y (List.mem_cons_of_mem _ hy)) h)
theorem crc_app (c : Nat) (l m : List Int) : crc c (l ++ m) = crc (crc c l) m := by simp [crc, List.foldl_append]
/-- Two byte slices that differ at one place alone have different checksums. -/
theorem cs_differ {a m : List Int} {x y : Int} (ha : isBytes a) (hm : isBytes m) (hx : 0 ≤ x ∧ x < 256) (hy : 0 ≤ y ∧ y < 256) (hne : x ≠ y) : cs (a ++ x :: m) ≠ cs (a ++ y :: m) := by
  intro h
  have h1 : crc 4294967295 (a ++ x :: m) = crc 4294967295 (a ++ y :: m) := xor_left h
  rw [crc_app, crc_app] at h1
  have hc := crc_lt (c := 4294967295) (by decide) ha
  have h2 := crc_state m (c := upd1 (crc 4294967295 a) x.toNat) (d := upd1 (crc 4294967295 a) y.toNat) (upd1_lt hc (by omega)) (upd1_lt hc (by omega)) hm h1
  have h3 := upd1_byte hc (by omega) (by omega) h2
  omega
theorem set_split {l : List Int} {j : Nat} (h : j < l.length) (y : Int) : l = l.take j ++ l[j] :: l.drop (j + 1) ∧ l.set j y = l.take j ++ y :: l.drop (j + 1) := by
  constructor
  · conv => lhs; rw [← List.take_append_drop j l, List.drop_eq_getElem_cons h]
  · rw [List.set_eq_take_append_cons_drop, if_pos h]
theorem cs_set {l : List Int} (hb : isBytes l) {j : Nat} (h : j < l.length) {y : Int} (hy : 0 ≤ y ∧ y < 256) (hne : l[j] ≠ y) : cs (l.set j y) ≠ cs l := by
  obtain ⟨h1, h2⟩ := set_split h y
  rw [h2]
  conv => rhs; rw [h1]
  exact cs_differ (hb.take _) (hb.drop _) hy (hb _ (List.getElem_mem h)) (fun e => hne e.symm)
theorem set_bytes {l : List Int} (hb : isBytes l) {j : Nat} {y : Int} (hy : 0 ≤ y ∧ y < 256) : isBytes (l.set j y) := fun x hx => by
  rcases List.mem_or_eq_of_mem_set hx with h | h
  · exact hb x h
  · rw [h]; exact hy
/-- A word in which a byte has turned is another. -/
theorem word_set {l r : List Int} (hb : isBytes l) (h4 : l.length = 4) {j : Nat} (h : j < 4) {y : Int} (hy : 0 ≤ y ∧ y < 256) (hne : l[j] ≠ y) : word (l.set j y ++ r) ≠ word (l ++ r) := by
  match l, h4 with
  | [a, b, c, d], _ =>
    have ha := hb a (by simp)
    have hb' := hb b (by simp)
    have hc := hb c (by simp)
    have hd := hb d (by simp)
    match j, h with
    | 0, _ =>
      have hne : a ≠ y := hne
      show word4 y.toNat b.toNat c.toNat d.toNat ≠ word4 a.toNat b.toNat c.toNat d.toNat
      unfold word4; omega
    | 1, _ =>
      have hne : b ≠ y := hne
      show word4 a.toNat y.toNat c.toNat d.toNat ≠ word4 a.toNat b.toNat c.toNat d.toNat
      unfold word4; omega
    | 2, _ =>
      have hne : c ≠ y := hne
      show word4 a.toNat b.toNat y.toNat d.toNat ≠ word4 a.toNat b.toNat c.toNat d.toNat
      unfold word4; omega
    | 3, _ =>
      have hne : d ≠ y := hne
      show word4 a.toNat b.toNat c.toNat y.toNat ≠ word4 a.toNat b.toNat c.toNat d.toNat
      unfold word4; omega
/-- A record in which a byte behind the length has turned. -/
theorem first_turned {e : S25} (he : okE e) (r : List Int) (hb : isBytes r) (hl : (rec_ e ++ r).length < 1000000000) {j : Nat} (h4 : 4 ≤ j) (hj : j < (rec_ e).length) {y : Int} (hy : 0 ≤ y ∧ y < 256) (hne : (rec_ e)[j] ≠ y) :
    Ev (fun k => ledger_first.f k ((rec_ e).set j y ++ r)) (bad 270) := by
  have hle := enc_len he
  have hrl := rec_len e
  have hbr := rec_bytes he
  have hb2 : isBytes ((rec_ e).set j y ++ r) := (set_bytes hbr hy).app hb
  have hlen : ((rec_ e).set j y ++ r).length = (rec_ e ++ r).length := by simp
  have hl2 : (rec_ e ++ r).length = 8 + (enc e).length + r.length := by rw [List.length_append, hrl]
  have hw : word ((rec_ e).set j y ++ r) = (enc e).length := by
    have h1 : word (rec_ e ++ r) = (enc e).length := by
      unfold rec_ hd
      rw [List.append_assoc, List.append_assoc]
      exact word_w32 _ _ (by omega)
    rw [← h1]
    unfold word
    simp only [List.getD_eq_getElem?_getD]
    have g : ∀ i, i < 4 → ((rec_ e).set j y ++ r)[i]? = (rec_ e ++ r)[i]? := fun i hi => by
      rw [List.getElem?_append_left (by rw [List.length_set]; omega), List.getElem?_append_left (by omega), List.getElem?_set_ne (by omega)]
    rw [g 0 (by decide), g 1 (by decide), g 2 (by decide), g 3 (by decide)]
  refine first_sum hb2 (by omega) (by omega) (by omega) ?_
  rw [hw]
  have hr0 : rec_ e = hd e ++ w32 (cs (hd e)) := rfl
  have hhl := hd_len e
  by_cases hc : j < 4 + (enc e).length
  · have t1 : ((rec_ e).set j y ++ r).take (4 + (enc e).length) = (hd e).set j y := by
      rw [hr0, List.set_append_left _ _ (by omega), List.append_assoc, List.take_left' (by rw [List.length_set, hhl])]
    have t2 : ((rec_ e).set j y ++ r).drop (4 + (enc e).length) = w32 (cs (hd e)) ++ r := by
      rw [hr0, List.set_append_left _ _ (by omega), List.append_assoc, List.drop_left' (by rw [List.length_set, hhl])]
    rw [t1, t2, word_w32 _ _ (cs_lt (hd_bytes he))]
    refine cs_set (hd_bytes he) (by omega) hy ?_
    have : (rec_ e)[j] = (hd e)[j]'(by omega) := by
      simp only [hr0]
      rw [List.getElem_append_left (by omega)]
    rwa [← this]
  · have t1 : ((rec_ e).set j y ++ r).take (4 + (enc e).length) = hd e := by
      rw [hr0, List.set_append_right _ _ (by omega), List.append_assoc, List.take_left' hhl]
    have t2 : ((rec_ e).set j y ++ r).drop (4 + (enc e).length) = (w32 (cs (hd e))).set (j - (hd e).length) y ++ r := by
      rw [hr0, List.set_append_right _ _ (by omega), List.append_assoc, List.drop_left' hhl]
    rw [t1, t2]
    have hj4 : j - (hd e).length < 4 := by omega
    have hne2 : (w32 (cs (hd e)))[j - (hd e).length]'hj4 ≠ y := by
      have : (rec_ e)[j] = (w32 (cs (hd e)))[j - (hd e).length]'hj4 := by
        simp only [hr0]
        rw [List.getElem_append_right (by omega)]
        rfl
      rwa [← this]
    have h1 := word_set (r := r) (w32_bytes (cs (hd e))) rfl hj4 hy hne2
    rw [word_w32 _ _ (cs_lt (hd_bytes he))] at h1
    exact fun h => h1 h.symm
theorem xor8_ne {a b : Int} (ha : 0 ≤ a ∧ a < 256) (hb : 0 ≤ b ∧ b < 256) (h : b ≠ 0) : (0 ≤ bXor .u8 a b ∧ bXor .u8 a b < 256) ∧ a ≠ bXor .u8 a b := by
  obtain ⟨x, rfl⟩ : ∃ x : Nat, a = (x : Int) := ⟨a.toNat, by omega⟩
  obtain ⟨y, rfl⟩ : ∃ y : Nat, b = (y : Int) := ⟨b.toNat, by omega⟩
  have hx : x < 256 := by omega
  have hy : y < 256 := by omega
  rw [bXor8 x y hx hy]
  have h1 : x ^^^ y < 2 ^ 8 := Nat.xor_lt_two_pow (by omega) (by omega)
  refine ⟨by omega, fun e => ?_⟩
  have e2 : x ^^^ 0 = x ^^^ y := by rw [Nat.xor_zero]; omega
  have := xor_left e2
  omega
end Go.Proofs.YtiomeaoeegikkaaDoor.led
namespace Go.Proofs.YtiomeaoeegikkaaDoor.led
open Go Go.Proofs.YtiomeaoeegikkaaDoor Go.Proofs.YtiomeaoeegikkaaDoor.RW
set_option linter.unusedVariables false
set_option maxRecDepth 100000
def zz (u : Nat) : Int := bXor .i64 (W .i64 (Int.fdiv (u : Int) 2)) (W .i64 (0 - (W .i64 (bAnd .u64 (u : Int) 1))))
theorem zz_odd {u : Nat} (hu : u < 18446744073709551616) (h : u % 2 = 1) : zz u < 0 := by
  unfold zz
  have h1 : bAnd .u64 (u : Int) 1 = 1 := by
    show W .u64 (((BitVec.ofInt 64 (u : Int) &&& 1#64).toNat : Nat) : Int) = _
    rw [BitVec.ofInt_natCast, WU64, BitVec.toNat_and, BitVec.toNat_ofNat]
    show ((u % 18446744073709551616 &&& 1 : Nat) : Int) % 18446744073709551616 = _
    rw [Nat.and_one_is_mod, Nat.mod_eq_of_lt hu, h]
    rfl
  rw [h1, Int.fdiv_eq_ediv_of_nonneg _ (by decide), show (u : Int) / 2 = ((u / 2 : Nat) : Int) from by omega, W64 (x := ((u / 2 : Nat) : Int)) (by omega) (by omega)]
  show W .i64 (((BitVec.ofInt 64 ((u / 2 : Nat) : Int) ^^^ BitVec.allOnes 64).toNat : Nat) : Int) < 0
  rw [BitVec.ofInt_natCast, BitVec.xor_allOnes, BitVec.toNat_not, BitVec.toNat_ofNat, Nat.mod_eq_of_lt (a := u / 2) (by omega)]
  show IntKind.i64.wrap ((2 ^ 64 - 1 - u / 2 : Nat) : Int) < 0
  rw [IntKind.wrap_i64]
  have : (2 : Nat) ^ 64 = 18446744073709551616 := by decide
  omega
theorem zz_even {u : Nat} (hu : u < 18446744073709551616) (h : u % 2 = 0) : zz u = ((u / 2 : Nat) : Int) := by
  unfold zz
  have h1 : bAnd .u64 (u : Int) 1 = 0 := by
    show W .u64 (((BitVec.ofInt 64 (u : Int) &&& 1#64).toNat : Nat) : Int) = _
    rw [BitVec.ofInt_natCast, WU64, BitVec.toNat_and, BitVec.toNat_ofNat]
    show ((u % 18446744073709551616 &&& 1 : Nat) : Int) % 18446744073709551616 = _
    rw [Nat.and_one_is_mod, Nat.mod_eq_of_lt hu, h]
    rfl
  rw [h1, Int.fdiv_eq_ediv_of_nonneg _ (by decide), show (u : Int) / 2 = ((u / 2 : Nat) : Int) from by omega, W64 (x := ((u / 2 : Nat) : Int)) (by omega) (by omega)]
  show W .i64 (((BitVec.ofInt 64 ((u / 2 : Nat) : Int) ^^^ 0#64).toNat : Nat) : Int) = _
  rw [BitVec.ofInt_natCast, BitVec.xor_zero, BitVec.toNat_ofNat, Nat.mod_eq_of_lt (a := u / 2) (by omega), W64 (by omega) (by omega)]
theorem zz_nat {u : Nat} (hu : u < 18446744073709551616) {n : Nat} (h : zz u = (n : Int)) : u = 2 * n := by
  rcases Nat.mod_two_eq_zero_or_one u with e | e
  · rw [zz_even hu e] at h; omega
  · have := zz_odd hu e; omega
theorem or_step2 (a b j : Nat) (hj : 7 * j ≤ 63) (ha : a < 2 ^ (7 * j)) (hb : b < 256) (h9 : j = 9 → b = 1) : a + b % 128 * 2 ^ (7 * j) < 18446744073709551616 ∧ bOr .u64 (a : Int) (W .u64 ((W .u64 (bClr .u8 (b : Int) 128)) * 2 ^ (min ((7 * j : Nat) : Int).toNat 64))) = ((a + b % 128 * 2 ^ (7 * j) : Nat) : Int) := by
  have hlt : b % 128 * 2 ^ (7 * j) + 2 ^ (7 * j) ≤ 18446744073709551616 := by
    by_cases h : j = 9
    · rw [h9 h, h]; decide
    · have h1 : 2 ^ (7 * j) ≤ 2 ^ 56 := Nat.pow_le_pow_right (by decide) (by omega)
      have h2 : b % 128 * 2 ^ (7 * j) ≤ 127 * 2 ^ (7 * j) := Nat.mul_le_mul_right _ (by omega)
      have h3 : (2 : Nat) ^ 56 = 72057594037927936 := by decide
      omega
  refine ⟨by omega, ?_⟩
  rw [bClr8 b hb, WU64 ((b % 128 : Nat) : Int), show ((b % 128 : Nat) : Int) % 18446744073709551616 = ((b % 128 : Nat) : Int) from by omega, tn, Nat.min_eq_left (by omega)]
  rw [show ((b % 128 : Nat) : Int) * 2 ^ (7 * j) = ((b % 128 * 2 ^ (7 * j) : Nat) : Int) from by push_cast; rfl, WU64, show ((b % 128 * 2 ^ (7 * j) : Nat) : Int) % 18446744073709551616 = ((b % 128 * 2 ^ (7 * j) : Nat) : Int) from by omega]
  rw [bOr64 _ _ (by omega) (by omega) (by rw [or_add _ _ _ ha]; omega), or_add _ _ _ ha]
theorem vany (l : List Int) (hb : isBytes l) (q : Int) (hl : l.length < 1000000000) : ∀ (i j p a : Nat), i + j = 9 → a < 2 ^ (7 * j) → p ≤ l.length →
    ∃ res, Ev (fun k => codec_decoder_varints0.l1 ⟨l, q⟩ k (p : Int) (a : Int) ((7 * j : Nat) : Int)) res ∧ ((∃ x, (x = 271 ∨ x = 272) ∧ res = .inl x) ∨ ∃ w p', res = .inr (zz (a + w * 2 ^ (7 * j)), ⟨l, ((p' : Nat) : Int)⟩) ∧ a + w * 2 ^ (7 * j) < 18446744073709551616 ∧ p' ≤ l.length ∧ l.drop p = vg w ++ l.drop p' ∧ (0 < j → w ≠ 0)) := by
  intro i
  induction i with
  | zero =>
    intro j p a hij ha hp
    obtain rfl : j = 9 := by omega
    by_cases hpl : p = l.length
    · refine ⟨.inl 271, Ev.succ (g := fun _ => some (.inl 271)) (fun k => ?_) (Ev.const rfl), .inl ⟨271, .inl rfl, rfl⟩⟩
      rw [codec_decoder_varints0.l1, if_pos (by show (p : Int) = (l.length : Int); omega)]
      rfl
    · have hp' : p < l.length := by omega
      obtain ⟨hg0, hg1⟩ := nth_byte hb hp'
      generalize hbv : (l.getD p 0).toNat = b at hg0 hg1
      by_cases h1 : b = 1
      · have hz : ((if ((7 * 9 : Nat) : Int) = 63 then (if (l.getD ((p : Int)).toNat 0) ≠ 1 then (some true) else (if ((7 * 9 : Nat) : Int) > 0 then (some ((l.getD ((p : Int)).toNat 0) == 0)) else (some false))) else (if ((7 * 9 : Nat) : Int) > 0 then (some ((l.getD ((p : Int)).toNat 0) == 0)) else (some false))) : Option Bool) = some false := by
          rw [tn, ← hg0, h1]; decide
        obtain ⟨hlt, hor⟩ := or_step2 a b 9 (by decide) ha hg1 (fun _ => h1)
        have hd : l.drop p = vg 1 ++ l.drop (p + 1) := by
          rw [vg_small (by decide), List.drop_eq_getElem_cons hp']
          have : l[p] = 1 := by
            have h3 : l.getD p 0 = l[p] := by rw [List.getD_eq_getElem?_getD, List.getElem?_eq_getElem hp']; rfl
            rw [← h3, ← hg0, h1]; rfl
          rw [this]; rfl
        refine ⟨.inr (zz (a + 1 * 2 ^ (7 * 9)), ⟨l, ((p + 1 : Nat) : Int)⟩), Ev.succ (g := fun _ => some (.inr (zz (a + 1 * 2 ^ (7 * 9)), ⟨l, ((p + 1 : Nat) : Int)⟩))) (fun k => ?_) (Ev.const rfl), .inr ⟨1, p + 1, rfl, by rw [h1] at hlt; exact hlt, by omega, hd, fun _ => by decide⟩⟩
        rw [codec_decoder_varints0.l1, if_neg (by show ¬ (p : Int) = (l.length : Int); omega)]
        simp only [Option.bind_some]
        rw [if_pos (by omega), if_pos (by show (p : Int) < (l.length : Int); omega)]
        rw [hz]
        simp only [Option.bind_some, Bool.false_eq_true, if_false]
        rw [if_pos (by omega), tn, ← hg0, if_pos (by omega), hor, h1, Wn (by omega)]
        rfl
      · have hz : ((if ((7 * 9 : Nat) : Int) = 63 then (if (l.getD ((p : Int)).toNat 0) ≠ 1 then (some true) else (if ((7 * 9 : Nat) : Int) > 0 then (some ((l.getD ((p : Int)).toNat 0) == 0)) else (some false))) else (if ((7 * 9 : Nat) : Int) > 0 then (some ((l.getD ((p : Int)).toNat 0) == 0)) else (some false))) : Option Bool) = some true := by
          rw [if_pos (by decide), tn, ← hg0, if_pos (by omega)]
        refine ⟨.inl 272, Ev.succ (g := fun _ => some (.inl 272)) (fun k => ?_) (Ev.const rfl), .inl ⟨272, .inr rfl, rfl⟩⟩
        rw [codec_decoder_varints0.l1, if_neg (by show ¬ (p : Int) = (l.length : Int); omega)]
        simp only [Option.bind_some]
        rw [if_pos (by omega), if_pos (by show (p : Int) < (l.length : Int); omega)]
        rw [hz]
        rfl
  | succ i ih =>
    intro j p a hij ha hp
    by_cases hpl : p = l.length
    · refine ⟨.inl 271, Ev.succ (g := fun _ => some (.inl 271)) (fun k => ?_) (Ev.const rfl), .inl ⟨271, .inl rfl, rfl⟩⟩
      rw [codec_decoder_varints0.l1, if_pos (by show (p : Int) = (l.length : Int); omega)]
      rfl
    · have hp' : p < l.length := by omega
      obtain ⟨hg0, hg1⟩ := nth_byte hb hp'
      have h3 : l.getD p 0 = l[p] := by rw [List.getD_eq_getElem?_getD, List.getElem?_eq_getElem hp']; rfl
      generalize hbv : (l.getD p 0).toNat = b at hg0 hg1
      obtain ⟨hlt, hor⟩ := or_step2 a b j (by omega) ha hg1 (fun h => by omega)
      have hz : ((if ((7 * j : Nat) : Int) = 63 then (if (l.getD ((p : Int)).toNat 0) ≠ 1 then (some true) else (if ((7 * j : Nat) : Int) > 0 then (some ((l.getD ((p : Int)).toNat 0) == 0)) else (some false))) else (if ((7 * j : Nat) : Int) > 0 then (some ((l.getD ((p : Int)).toNat 0) == 0)) else (some false))) : Option Bool) = some (decide (0 < j ∧ b = 0)) := by
        rw [if_neg (by omega), tn, ← hg0]
        by_cases hj : 0 < j
        · rw [if_pos (by omega)]
          congr 1
          by_cases hb0 : b = 0
          · rw [hb0, decide_eq_true ⟨hj, rfl⟩]; rfl
          · rw [decide_eq_false (fun h => hb0 h.2)]
            exact beq_eq_false_iff_ne.2 (by omega)
        · rw [if_neg (by omega), decide_eq_false (fun h => hj h.1)]
      have hd : l.drop p = (b : Int) :: l.drop (p + 1) := by
        rw [List.drop_eq_getElem_cons hp', ← h3, ← hg0]
      by_cases hbad : 0 < j ∧ b = 0
      · refine ⟨.inl 272, Ev.succ (g := fun _ => some (.inl 272)) (fun k => ?_) (Ev.const rfl), .inl ⟨272, .inr rfl, rfl⟩⟩
        rw [codec_decoder_varints0.l1, if_neg (by show ¬ (p : Int) = (l.length : Int); omega)]
        simp only [Option.bind_some]
        rw [if_pos (by omega), if_pos (by show (p : Int) < (l.length : Int); omega)]
        rw [hz, decide_eq_true hbad]
        rfl
      rw [decide_eq_false hbad] at hz
      by_cases h128 : b < 128
      · refine ⟨.inr (zz (a + b * 2 ^ (7 * j)), ⟨l, ((p + 1 : Nat) : Int)⟩), Ev.succ (g := fun _ => some (.inr (zz (a + b * 2 ^ (7 * j)), ⟨l, ((p + 1 : Nat) : Int)⟩))) (fun k => ?_) (Ev.const rfl), .inr ⟨b, p + 1, rfl, by rw [Nat.mod_eq_of_lt h128] at hlt; exact hlt, by omega, by rw [hd, vg_small h128]; rfl, fun hj h => hbad ⟨hj, h⟩⟩⟩
        rw [codec_decoder_varints0.l1, if_neg (by show ¬ (p : Int) = (l.length : Int); omega)]
        simp only [Option.bind_some]
        rw [if_pos (by omega), if_pos (by show (p : Int) < (l.length : Int); omega)]
        rw [hz]
        simp only [Option.bind_some, Bool.false_eq_true, if_false]
        rw [if_pos (by omega), tn, ← hg0, if_pos (by omega), hor, Nat.mod_eq_of_lt h128, Wn (by omega)]
        rfl
      · have e7 : 2 ^ (7 * (j + 1)) = 128 * 2 ^ (7 * j) := by rw [Nat.mul_add, Nat.pow_add, Nat.mul_comm]
        have ha2 : a + b % 128 * 2 ^ (7 * j) < 2 ^ (7 * (j + 1)) := by
          have h1 : b % 128 * 2 ^ (7 * j) ≤ 127 * 2 ^ (7 * j) := Nat.mul_le_mul_right _ (by omega)
          omega
        obtain ⟨res, hres, hcase⟩ := ih (j + 1) (p + 1) (a + b % 128 * 2 ^ (7 * j)) (by omega) ha2 (by omega)
        refine ⟨res, Ev.succ (fun k => ?_) hres, ?_⟩
        · rw [codec_decoder_varints0.l1, if_neg (by show ¬ (p : Int) = (l.length : Int); omega)]
          simp only [Option.bind_some]
          rw [if_pos (by omega), if_pos (by show (p : Int) < (l.length : Int); omega)]
          rw [hz]
          simp only [Option.bind_some, Bool.false_eq_true, if_false]
          rw [if_pos (by omega), tn, ← hg0, if_neg (by omega), hor, Wn (by omega), W64 (by omega) (by omega)]
          rfl
        · rcases hcase with h | ⟨w, p', h1, h2, h4, h5, h6⟩
          · exact .inl h
          · have hw : w ≠ 0 := h6 (by omega)
            have es : a + b % 128 * 2 ^ (7 * j) + w * 2 ^ (7 * (j + 1)) = a + (b % 128 + 128 * w) * 2 ^ (7 * j) := by
              rw [e7, Nat.add_mul, ← Nat.mul_assoc, Nat.mul_comm w 128]
              omega
            rw [es] at h1 h2
            refine .inr ⟨b % 128 + 128 * w, p', h1, h2, h4, ?_, fun _ => by omega⟩
            rw [hd, h5, vg_big (u := b % 128 + 128 * w) (by omega), show (b % 128 + 128 * w) % 128 + 128 = b from by omega, show (b % 128 + 128 * w) / 128 = w from by omega]
            rfl
end Go.Proofs.YtiomeaoeegikkaaDoor.led
namespace Go.Proofs.YtiomeaoeegikkaaDoor.led
open Go Go.Proofs.YtiomeaoeegikkaaDoor Go.Proofs.YtiomeaoeegikkaaDoor.RW
set_option linter.unusedVariables false
set_option maxRecDepth 100000
def badX (x : Int) : Prop := x = 271 ∨ x = 272
theorem Ev.pbl {α γ : Type} {x : Nat → Option (Int ⊕ α)} {h : Nat → Int → Option γ} {g : Nat → α → Option γ} {e : Int} {r : γ} (hx : Ev x (.inl e)) (hg : Ev (fun k => h k e) r) : Ev (fun k => RW.pb (x k) (h k) (g k)) r := by
  obtain ⟨N, hx⟩ := hx
  obtain ⟨M, hg⟩ := hg
  refine ⟨max N M, fun k hk => ?_⟩
  show RW.pb (x k) (h k) (g k) = _
  unfold RW.pb
  rw [hx k (by omega)]
  exact hg k (by omega)
/-- A number between limits. -/
theorem num_any (l : List Int) (hb : isBytes l) (hl : l.length < 1000000000) (p : Nat) (hp : p ≤ l.length) (lo hi : Int) (h0 : 0 ≤ lo) (h1 : hi < 1000000) :
    ∃ res, Ev (fun k => codec_decoder_numbers0.f k lo hi ⟨l, (p : Int)⟩) res ∧ ((∃ x, badX x ∧ res = .inl x) ∨ ∃ (n p' : Nat), res = .inr ((n : Int), ⟨l, (p' : Int)⟩) ∧ lo ≤ (n : Int) ∧ (n : Int) ≤ hi ∧ p' ≤ l.length ∧ l.drop p = vg (2 * n) ++ l.drop p') := by
  obtain ⟨res, hres, hcase⟩ := vany l hb (p : Int) hl 9 0 p 0 rfl (by decide) hp
  rcases hcase with ⟨x, hx, rfl⟩ | ⟨w, p', rfl, h2, h3, h4, _⟩
  · exact ⟨.inl x, Ev.pbl hres (Ev.const rfl), .inl ⟨x, hx, rfl⟩⟩
  · simp only [Nat.mul_zero, Nat.pow_zero, Nat.mul_one, Nat.zero_add] at hres h2
    by_cases hlo : zz w < lo
    · refine ⟨.inl 272, Ev.pb hres (Ev.const ?_), .inl ⟨272, .inr rfl, rfl⟩⟩
      show ((if zz w < lo then some true else some (decide (zz w > hi))).bind _) = _
      rw [if_pos hlo]
      rfl
    by_cases hhi : zz w > hi
    · refine ⟨.inl 272, Ev.pb hres (Ev.const ?_), .inl ⟨272, .inr rfl, rfl⟩⟩
      show ((if zz w < lo then some true else some (decide (zz w > hi))).bind _) = _
      rw [if_neg hlo, decide_eq_true hhi]
      rfl
    obtain ⟨n, hn⟩ : ∃ n : Nat, zz w = (n : Int) := ⟨(zz w).toNat, by omega⟩
    have hw := zz_nat h2 hn
    rw [hn] at hres hlo hhi
    refine ⟨_, Ev.pb hres (Ev.const ?_), .inr ⟨n, p', rfl, by omega, by omega, h3, by rw [← hw]; exact h4⟩⟩
    show ((if (n : Int) < lo then some true else some (decide ((n : Int) > hi))).bind _) = _
    rw [if_neg hlo, decide_eq_false hhi]
    rfl
theorem byt_any (l : List Int) (hb : isBytes l) (hl : l.length < 1000000000) (p : Nat) (hp : p ≤ l.length) (lo hi : Int) (h0 : 0 ≤ lo) (h1 : hi < 1000000) :
    ∃ res, Ev (fun k => codec_decoder_bytess0.f k lo hi ⟨l, (p : Int)⟩) res ∧ ((∃ x, badX x ∧ res = .inl x) ∨ ∃ (m : List Int) (p' : Nat), res = .inr (m, ⟨l, (p' : Int)⟩) ∧ lo ≤ (m.length : Int) ∧ (m.length : Int) ≤ hi ∧ p' ≤ l.length ∧ l.drop p = (vg (2 * m.length) ++ m) ++ l.drop p') := by
  obtain ⟨res, hres, hcase⟩ := num_any l hb hl p hp lo hi h0 h1
  rcases hcase with ⟨x, hx, rfl⟩ | ⟨n, p', rfl, h2, h3, h4, h5⟩
  · exact ⟨.inl x, Ev.pbl hres (Ev.const rfl), .inl ⟨x, hx, rfl⟩⟩
  · by_cases hcut : l.length - p' < n
    · refine ⟨.inl 271, Ev.pb hres (Ev.const ?_), .inl ⟨271, .inl rfl, rfl⟩⟩
      show ((if W .i64 ((l.length : Int) - (p' : Int)) < (n : Int) then _ else some (Sum.inl ())).bind _) = _
      rw [W64 (by omega) (by omega), if_pos (by omega)]
      rfl
    · have hml : ((l.drop p').take n).length = n := by rw [List.length_take, List.length_drop]; omega
      refine ⟨.inr ((l.drop p').take n, ⟨l, ((p' + n : Nat) : Int)⟩), Ev.pb hres (Ev.const ?_), .inr ⟨(l.drop p').take n, p' + n, rfl, by omega, by omega, by omega, ?_⟩⟩
      · show ((if W .i64 ((l.length : Int) - (p' : Int)) < (n : Int) then _ else some (Sum.inl ())).bind _) = _
        rw [W64 (by omega) (by omega), if_neg (by omega)]
        show (if (0 : Int) ≤ W .i64 (W .i64 ((p' : Int) + (n : Int)) - (n : Int)) then _ else none) = _
        have e1 : W .i64 ((p' : Int) + (n : Int)) = ((p' + n : Nat) : Int) := by rw [W64 (by omega) (by omega)]; omega
        have e2 : W .i64 (((p' + n : Nat) : Int) - (n : Int)) = (p' : Int) := by rw [W64 (by omega) (by omega)]; omega
        simp only [e1, e2]
        rw [if_pos (by omega), if_pos (by omega), if_pos (by show ((p' + n : Nat) : Int) ≤ (l.length : Int); omega)]
        have hr : rpart l (p' : Int) ((p' + n : Nat) : Int) = (l.drop p').take n := by
          unfold rpart
          rw [tn, tn, show p' + n - p' = n from by omega]
        rw [hr]
        unfold slices_Clone_byte_byte.f
        by_cases hz : (l.drop p').take n = []
        · rw [if_pos hz, hz]
          rfl
        · rw [if_neg hz, if_pos (by rw [hml]; simp only [List.length_nil]; omega)]
          rfl
      · rw [hml, h5, List.append_assoc, ← List.drop_drop, List.take_append_drop]
theorem bytes_str {m : List Int} (h : isBytes m) : bytesOf (strOfNums m) = m := by
  unfold bytesOf
  rw [strOfNums_data, List.map_map]
  refine (List.map_congr_left (fun x hx => ?_)).trans (List.map_id _)
  have hx2 := h x hx
  show ((UInt8.ofNat x.toNat).toNat : Int) = id x
  rw [UInt8.toNat_ofNat']
  show ((x.toNat % 256 : Nat) : Int) = x
  omega
theorem entry_any (l : List Int) (hb : isBytes l) (hl : l.length < 1000000000) (p : Nat) (hp : p ≤ l.length) :
    ∃ res, Ev (fun k => codec_decoder_entrys0.f k ⟨l, (p : Int)⟩) res ∧ ((∃ x, badX x ∧ res = .inl x) ∨ ∃ (e : S25) (p' : Nat), res = .inr (e, ⟨l, (p' : Int)⟩) ∧ okE e ∧ p' ≤ l.length ∧ l.drop p = enc e ++ l.drop p') := by
  obtain ⟨r1, e1, c1⟩ := num_any l hb hl p hp 1 4 (by decide) (by decide)
  rcases c1 with ⟨x, hx, rfl⟩ | ⟨n, p1, rfl, a1, a2, a3, a4⟩
  · exact ⟨.inl x, Ev.pbl e1 (Ev.const rfl), .inl ⟨x, hx, rfl⟩⟩
  obtain ⟨r2, e2, c2⟩ := byt_any l hb hl p1 a3 1 40 (by decide) (by decide)
  rcases c2 with ⟨x, hx, rfl⟩ | ⟨m, p2, rfl, b1, b2, b3, b4⟩
  · exact ⟨.inl x, Ev.pb e1 (Ev.pbl e2 (Ev.const rfl)), .inl ⟨x, hx, rfl⟩⟩
  obtain ⟨r3, e3, c3⟩ := byt_any l hb hl p2 b3 0 20000 (by decide) (by decide)
  rcases c3 with ⟨x, hx, rfl⟩ | ⟨s, p3, rfl, d1, d2, d3, d4⟩
  · exact ⟨.inl x, Ev.pb e1 (Ev.pb e2 (Ev.pbl e3 (Ev.const rfl))), .inl ⟨x, hx, rfl⟩⟩
  have hb1 : isBytes (l.drop p1) := hb.drop _
  rw [b4] at hb1
  have hm : isBytes m := (bytes_app (bytes_app hb1).1).2
  have hb2 : isBytes (l.drop p2) := hb.drop _
  rw [d4] at hb2
  have hs : isBytes s := (bytes_app (bytes_app hb2).1).2
  refine ⟨_, Ev.pb e1 (Ev.pb e2 (Ev.pb e3 (Ev.const rfl))), .inr ⟨⟨(n : Int), strOfNums m, s⟩, p3, rfl, ⟨a1, a2, ?_, ?_, ?_, hs⟩, d3, ?_⟩⟩
  · show 1 ≤ (strOfNums m).size; rw [strOfNums_size]; omega
  · show (strOfNums m).size ≤ 40; rw [strOfNums_size]; omega
  · show s.length ≤ 20000; omega
  · show l.drop p = (vg (2 * (n : Int).toNat) ++ ((vg (2 * (strOfNums m).size) ++ bytesOf (strOfNums m)) ++ (vg (2 * s.length) ++ s))) ++ l.drop p3
    rw [tn, strOfNums_size, bytes_str hm, a4, b4, d4]
    simp only [List.append_assoc]
theorem dec_any (l : List Int) (hb : isBytes l) (hl : l.length < 1000000000) :
    ∃ res, Ev (fun k => codec_DecodeEntry.f k l) res ∧ ((∃ x, badX x ∧ res = (z25, 0, x)) ∨ ∃ (e : S25) (p' : Nat), res = (e, (p' : Int), 0) ∧ okE e ∧ p' ≤ l.length ∧ l = enc e ++ l.drop p') := by
  obtain ⟨r, e1, c1⟩ := entry_any l hb hl 0 (Nat.zero_le _)
  rcases c1 with ⟨x, hx, rfl⟩ | ⟨e, p', rfl, h1, h2, h3⟩
  · refine ⟨(z25, 0, x), Ev.bind (r := .inl x) (Ev.pbl e1 (Ev.const rfl)) (Ev.const ?_), .inl ⟨x, hx, rfl⟩⟩
    show (if x = 0 then none else some (z25, 0, x)) = _
    rw [if_neg (by rcases hx with rfl | rfl <;> decide)]
  · exact ⟨(e, (p' : Int), 0), Ev.bind (r := .inr (⟨l, (p' : Int)⟩, e)) (Ev.pb e1 (Ev.const rfl)) (Ev.const rfl), .inr ⟨e, p', rfl, h1, h2, h3⟩⟩
theorem take_word {l : List Int} (hb : isBytes l) (h4 : 4 ≤ l.length) : l.take 4 = w32 (word l) := by
  match l, h4, hb with
  | a :: b :: c :: d :: r, _, hb =>
    have ha := hb a (by simp)
    have hb' := hb b (by simp)
    have hc' := hb c (by simp)
    have hd' := hb d (by simp)
    obtain ⟨x, rfl⟩ : ∃ x : Nat, a = (x : Int) := ⟨a.toNat, by omega⟩
    obtain ⟨y, rfl⟩ : ∃ y : Nat, b = (y : Int) := ⟨b.toNat, by omega⟩
    obtain ⟨z, rfl⟩ : ∃ z : Nat, c = (z : Int) := ⟨c.toNat, by omega⟩
    obtain ⟨t, rfl⟩ : ∃ t : Nat, d = (t : Int) := ⟨d.toNat, by omega⟩
    show [(x : Int), (y : Int), (z : Int), (t : Int)] = w32 (word4 x y z t)
    obtain ⟨n, hn⟩ : ∃ n, word4 x y z t = n := ⟨_, rfl⟩
    rw [hn]
    unfold word4 at hn
    have e1 : n % 256 = x := by omega
    have e2 : n / 256 % 256 = y := by omega
    have e3 : n / 65536 % 256 = z := by omega
    have e4 : n / 16777216 % 256 = t := by omega
    unfold w32
    rw [e1, e2, e3, e4]
/-- What is a first record was written so. -/
def bad3 (x : Int) : Prop := x = 270 ∨ x = 271 ∨ x = 272
theorem first_any (l : List Int) (hb : isBytes l) (hl : l.length < 1000000000) :
    (∃ x, bad3 x ∧ Ev (fun k => ledger_first.f k l) (bad x)) ∨ ∃ e r, okE e ∧ l = rec_ e ++ r := by
  by_cases h4 : l.length < 4
  · exact .inl ⟨271, .inr (.inl rfl), Ev.congr (first_short h4) (Ev.const rfl)⟩
  have h4' : 4 ≤ l.length := by omega
  have g1 := getWord_eq hb h4'
  have hw := word_lt hb h4'
  obtain ⟨n, hn⟩ : ∃ n, word l = n := ⟨_, rfl⟩
  rw [hn] at g1 hw
  by_cases hcut : l.length < 8 + n
  · exact .inl ⟨271, .inr (.inl rfl), Ev.congr (first_cutN g1 hw h4' hl hcut) (Ev.const rfl)⟩
  have h8 : 8 + n ≤ l.length := by omega
  have hd4 : 4 ≤ (l.drop (4 + n)).length := by rw [List.length_drop]; omega
  have g2 := getWord_eq (l := l.drop (4 + n)) (hb.drop _) hd4
  obtain ⟨m, hm⟩ : ∃ m, word (l.drop (4 + n)) = m := ⟨_, rfl⟩
  rw [hm] at g2
  by_cases hc : cs (l.take (4 + n)) = m
  · obtain ⟨res, hres, hcase⟩ := dec_any ((l.drop 4).take n) ((hb.drop _).take _) (by rw [List.length_take, List.length_drop]; omega)
    have hdl : ((l.drop 4).take n).length = n := by rw [List.length_take, List.length_drop]; omega
    rcases hcase with ⟨x, hx, rfl⟩ | ⟨e, p', rfl, h1, h2, h3⟩
    · refine .inl ⟨272, .inr (.inr rfl), first_goN g1 g2 hw hb h4' hl h8 ?_⟩
      refine Ev.congr (fun k => if_neg (by omega)) (Ev.bind hres (Ev.const ?_))
      show ((if x ≠ 0 then some true else _).bind _) = _
      rw [if_pos (by rcases hx with rfl | rfl <;> decide)]
      rfl
    · by_cases hp : p' = n
      · right
        have hen : (l.drop 4).take n = enc e := by
          rw [h3, List.drop_eq_nil_of_le (by omega), List.append_nil]
        have hel : (enc e).length = n := by rw [← hen, hdl]
        have hww : l.take 4 = w32 n := by rw [take_word hb h4', hn]
        have hmm : (l.drop (4 + n)).take 4 = w32 m := by rw [take_word (hb.drop _) hd4, hm]
        have htk : l.take (4 + n) = hd e := by
          unfold hd
          rw [hel, ← hww, ← hen, ← List.take_add]
        refine ⟨e, l.drop (8 + n), h1, ?_⟩
        unfold rec_
        have hdd : l.drop (8 + n) = (l.drop (4 + n)).drop 4 := by rw [List.drop_drop, show 4 + n + 4 = 8 + n from by omega]
        rw [← htk, hc, ← hmm, hdd, List.append_assoc, List.take_append_drop, List.take_append_drop]
      · refine .inl ⟨272, .inr (.inr rfl), first_goN g1 g2 hw hb h4' hl h8 ?_⟩
        refine Ev.congr (fun k => if_neg (by omega)) (Ev.bind hres (Ev.const ?_))
        have : (((p' : Nat) : Int) != (n : Int)) = true := by rw [bne_iff_ne]; omega
        show ((if (0 : Int) ≠ 0 then some true else some (((p' : Nat) : Int) != (n : Int))).bind _) = _
        rw [if_neg (fun h => h rfl), this]
        rfl
  · exact .inl ⟨270, .inl rfl, first_goN g1 g2 hw hb h4' hl h8 (Ev.congr (fun k => if_pos (by omega)) (Ev.const rfl))⟩
end Go.Proofs.YtiomeaoeegikkaaDoor.led
namespace Go.Proofs.YtiomeaoeegikkaaDoor.led
open Go Go.Proofs.YtiomeaoeegikkaaDoor Go.Proofs.YtiomeaoeegikkaaDoor.RW
set_option linter.unusedVariables false
set_option maxRecDepth 100000
theorem logOf_ge {l : List S25} (h : okL l) : 9 * l.length ≤ (logOf l).length := by
  induction l with
  | nil => exact Nat.le_refl _
  | cons e l ih =>
    have h1 := ih (fun x hx => h x (List.mem_cons_of_mem _ hx))
    have h2 := enc_len (h e List.mem_cons_self)
    rw [logOf_cons, List.length_append, rec_len, List.length_cons]
    omega
theorem logOf_small {l : List S25} (h : okL l) (h60 : ∀ e ∈ l, e.f2.length ≤ 60) : (logOf l).length ≤ 120 * l.length := by
  induction l with
  | nil => exact Nat.le_refl _
  | cons e l ih =>
    have h1 := ih (fun x hx => h x (List.mem_cons_of_mem _ hx)) (fun x hx => h60 x (List.mem_cons_of_mem _ hx))
    have he := h e List.mem_cons_self
    have h6 := h60 e List.mem_cons_self
    have v1 := vg_len (u := 2 * e.f0.toNat) (by have := he.k2; omega)
    have v2 := vg_len (u := 2 * e.f1.size) (by have := he.s2; omega)
    have v3 := vg_len (u := 2 * e.f2.length) (by omega)
    have hs := he.s2
    have hel : (enc e).length ≤ 110 := by
      unfold enc
      simp only [List.length_append, bytesOf_length]
      omega
    rw [logOf_cons, List.length_append, rec_len, List.length_cons]
    omega
theorem okL.app {l m : List S25} (h : okL l) (h2 : okL m) : okL (l ++ m) := fun x hx => by
  rcases List.mem_append.1 hx with hx | hx
  · exact h x hx
  · exact h2 x hx
/-- Bytes are records, and something that is none. -/
theorem split_any : ∀ (n : Nat) (raw : List Int), raw.length ≤ n → isBytes raw → raw.length < 1000000 → ∃ (es : List S25) (r : List Int), okL es ∧ raw = logOf es ++ r ∧ (r = [] ∨ (1 ≤ r.length ∧ ∃ x, bad3 x ∧ Ev (fun k => ledger_first.f k r) (bad x)))
  | 0, raw, hn, _, _ => ⟨[], [], fun x hx => (by cases hx), by rw [List.length_eq_zero_iff.1 (Nat.le_zero.1 hn)]; rfl, .inl rfl⟩
  | n + 1, raw, hn, hb, hl => by
    by_cases hz : raw = []
    · exact ⟨[], [], fun x hx => (by cases hx), by rw [hz]; rfl, .inl rfl⟩
    rcases first_any raw hb (by omega) with ⟨x, hx, hf⟩ | ⟨e, r, he, hr⟩
    · exact ⟨[], raw, fun x hx => (by cases hx), rfl, .inr ⟨List.length_pos_iff.2 hz, x, hx, hf⟩⟩
    · have hlen := congrArg List.length hr
      rw [List.length_append, rec_len] at hlen
      have hle := enc_len he
      obtain ⟨es, s, h1, h2, h3⟩ := split_any n r (by omega) (bytes_app (by rw [← hr]; exact hb)).2 (by omega)
      refine ⟨e :: es, s, fun x hx => ?_, by rw [hr, h2, logOf_cons, List.append_assoc], h3⟩
      rcases List.mem_cons.1 hx with rfl | hx
      · exact he
      · exact h1 x hx
theorem scan_any {es : List S25} {r : List Int} (hok : okL es) (hb : isBytes (logOf es ++ r)) (hl : (logOf es ++ r).length ≤ 9000) (hr : r = [] ∨ (1 ≤ r.length ∧ ∃ x, bad3 x ∧ Ev (fun k => ledger_first.f k r) (bad x))) :
    ∃ x, Ev (fun k => ledger_Scan.f k (logOf es ++ r)) (es, ((logOf es).length : Int), x) := by
  have hge := logOf_ge hok
  rw [List.length_append] at hl
  rcases hr with rfl | ⟨h1, x, hx, hf⟩
  · rw [List.append_nil]
    exact ⟨0, scan_log hok (by omega)⟩
  · exact ⟨x, scan_bad hok (by omega) (bytes_app hb).2 h1 (by omega) hf⟩
theorem clone_eq (l : List Int) (h : l.length < 1000000000) : slices_Clone_byte_byte.f l = some l := by
  unfold slices_Clone_byte_byte.f
  by_cases hz : l = []
  · rw [if_pos hz, hz]
  · rw [if_neg hz, if_pos (by simp only [List.length_nil]; omega), List.nil_append]
theorem repair_ev {es : List S25} {r : List Int} {x : Int} (h : Ev (fun k => ledger_Scan.f k (logOf es ++ r)) (es, ((logOf es).length : Int), x)) (hl : (logOf es).length < 1000000) : Ev (fun k => ledger_Repair.f k (logOf es ++ r)) (logOf es) := by
  refine Ev.bind h ?_
  refine Ev.congr (fun k => if_pos (by show (0 : Int) ≤ ((logOf es).length : Int); omega)) ?_
  refine Ev.congr (fun k => if_pos (by rw [List.length_append]; show ((logOf es).length : Int) ≤ _; omega)) ?_
  rw [rpart_take, List.take_left]
  exact Ev.bind1 (clone_eq _ (by omega)) (Ev.const rfl)
end Go.Proofs.YtiomeaoeegikkaaDoor.led
