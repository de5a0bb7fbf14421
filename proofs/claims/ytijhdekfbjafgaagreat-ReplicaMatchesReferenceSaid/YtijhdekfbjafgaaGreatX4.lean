/- Words of the walk, the functions' walks and plain laws, joined; no conditions beyond those that the theorems name. -/
import Derived.Test.YtijhdekfbjafgaaGreatX3
import Derived.Test.YtijhdekfbjafgaaGreatProg
import Derived.Shelf.SortM.Plain
import Derived.Shelf.SortM.SortNone
import Derived.Shelf.Slices.CompactI
import Derived.Ground.SlgmProg
import Derived.Ground.Names2Prog
import Derived.Sort.OwnSortedInts
import Derived.Laws.StructEq
namespace Go.Proofs.YtijhdekfbjafgaaGreat
open Go Go.RowKit Go.Proofs.YtijhdekfbjafgaaGreat.RW
set_option linter.unusedVariables false
set_option maxRecDepth 100000
set_option maxHeartbeats 8000000

def crcStep (c : Int) : Int := bXor .u32 (Int.fdiv c 2) (W .u32 (3988292384 * bAnd .u32 c 1))
def crc8 : Nat → Int → Int
  | 0, c => c
  | n + 1, c => crc8 n (crcStep c)
def crcTab : List Int := (List.range 256).map fun (i : Nat) => crc8 8 (W .u32 (i : Int))
def ckStep (c x : Int) : Int := bXor .u32 (Int.fdiv c 256) (crcTab.getD (bXor .u8 (W .u8 c) x).toNat 0)
def codec_Checksum.f (b : List Int) : Option Int := some (bXor .u32 4294967295 (b.foldl ckStep 4294967295))

theorem own_newC {w0 : World} {I0 I : Imm} {nx : Nat} {L : List Blk} {X : List Res} {w : World} (hs : Sat ⟨w0, fun _ => False, I0⟩ I nx L X w) {i : Nat} {b : Blk} (hi : L[i]? = some b) : w0.heap.size ≤ b.g :=
  (hs.own b (List.mem_of_getElem? hi)).resolve_right (fun h => h)
theorem W64C {n : Int} (h0 : 0 ≤ n) (h1 : n < 9223372036854775808) : W .i64 n = n := by
  have h2 : (2 : Int) ^ 64 = 18446744073709551616 := by decide
  have h3 : (2 : Int) ^ 63 = 9223372036854775808 := by decide
  unfold W IntKind.wrap
  simp only [IntKind.bits, IntKind.signed, h2, h3, Nat.add_one_sub_one, Bool.true_and, decide_eq_true_eq]
  have h4 : n % 18446744073709551616 = n := Int.emod_eq_of_lt h0 (by omega)
  rw [h4, if_neg (by omega)]
theorem u8_range (x y : Int) : 0 ≤ bXor .u8 x y ∧ bXor .u8 x y < 256 := by
  have h2 : (2 : Int) ^ 8 = 256 := by decide
  unfold bXor IntKind.wrap
  simp only [IntKind.bits, IntKind.signed, h2, Bool.false_and, Bool.false_eq_true, if_false]
  exact ⟨Int.emod_nonneg _ (by omega), Int.emod_lt_of_pos _ (by omega)⟩
def tabV (tab : List Int) : List Value := (List.range 256).map fun j => .int .u32 (tab.getD j 0)
theorem RFacts.cells {B : Base} {I : Imm} {X : List Res} (xi : Nat) {g : Nat} {e : TypeId} {tab : List Int} {cs : List Value} (hl : tab.length = 256) (hX : X[xi]? = some (orow e 1 (some ⟨g, 0, none⟩) tab.length 256 cs)) (hr : Reps (Ty.int .u32) I tab cs) :
    RFacts B I X ((List.range 256).map fun j => (⟨g, j, none⟩, .int .u32 (tab.getD j 0))) := by
  intro nx L w hs r hrm
  obtain ⟨j, hj, rfl⟩ := List.mem_map.1 hrm
  have hj' : j < 256 := List.mem_range.1 hj
  have h1 := Ty.int_own hr (j : Int) (by omega) (by omega) 0 _ rfl
  simp only [Int.toNat_natCast, Nat.mul_one, Nat.add_zero] at h1
  have ho := hs.own_P hX
  show w.cell? ⟨g, j, none⟩ = _
  rw [ho.cellAt j (by rw [hl]; omega)]
  exact h1

noncomputable def c64 : Code := cBody Tryz.f66
noncomputable def c64r0 : Code := cL c64
noncomputable def c64a : Code := cR c64
noncomputable def c64r1 : Code := cL c64a
noncomputable def c64b : Code := cR c64a
noncomputable def c64c : Code := cL c64b
noncomputable def c64e : Code := cR c64b
noncomputable def c64r2 : Code := cL c64c
noncomputable def c64k0 : Code := cR c64c
noncomputable def c64lp : Code := cL c64k0
noncomputable def c64in : Code := cL c64lp
noncomputable def c64r3 : Code := cL c64in
noncomputable def c64d : Code := cR c64in
noncomputable def c64cd : Code := cL c64d
noncomputable def c64g : Code := cR c64d
noncomputable def c64k1 : Code := cL c64g
noncomputable def c64r11 : Code := cR c64g
noncomputable def c64bd : Code := cL c64k1
noncomputable def c64r4 : Code := cL c64bd
noncomputable def c64h : Code := cR c64bd
noncomputable def c64r5 : Code := cL c64h
noncomputable def c64i : Code := cR c64h
noncomputable def c64j : Code := cL c64i
noncomputable def c64r10 : Code := cR c64i
noncomputable def c64r6 : Code := cL c64j
noncomputable def c64k2 : Code := cR c64j
noncomputable def c64lq : Code := cL c64k2
noncomputable def c64jn : Code := cL c64lq
noncomputable def c64r7 : Code := cL c64jn
noncomputable def c64l : Code := cR c64jn
noncomputable def c64ce : Code := cL c64l
noncomputable def c64m : Code := cR c64l
noncomputable def c64k3 : Code := cL c64m
noncomputable def c64r9 : Code := cR c64m
noncomputable def c64r8 : Code := cL c64k3
noncomputable def c64r12 : Code := cL c64e
noncomputable def c64t : Code := cR c64e
noncomputable def o64 : Nat → List Oper
  | 0 => cOps c64r0
  | 1 => cOps c64r1
  | 2 => cOps c64r2
  | 3 => cOps c64r3
  | 4 => cOps c64r4
  | 5 => cOps c64r5
  | 6 => cOps c64r6
  | 7 => cOps c64r7
  | 8 => cOps c64r8
  | 9 => cOps c64r9
  | 10 => cOps c64r10
  | 11 => cOps c64r11
  | _ => cOps c64r12
def lT (i : Nat) : List Int := crcTab.take i ++ List.replicate (256 - i) 0
theorem crcTab_length : crcTab.length = 256 := by simp [crcTab]
theorem lT_length {i : Nat} (h : i ≤ 256) : (lT i).length = 256 := by
  simp only [lT, List.length_append, List.length_take, List.length_replicate, crcTab_length]
  omega
theorem lT_next {i : Nat} (h : i < 256) : (lT i).set i (crc8 8 (W .u32 (i : Int))) = lT (i + 1) := by
  have hl := crcTab_length
  have hc : crcTab.take (i + 1) = crcTab.take i ++ [crc8 8 (W .u32 (i : Int))] := by
    rw [List.take_succ_eq_append_getElem (by omega)]
    congr 2
    simp [crcTab]
  unfold lT
  rw [hc, List.set_append_right _ _ (by rw [List.length_take]; omega), List.length_take, Nat.min_eq_left (by omega), Nat.sub_self, show 256 - i = (256 - (i + 1)) + 1 from by omega, List.replicate_succ, List.set_cons_zero, List.append_assoc]
  rfl
theorem lT_end : lT 256 = crcTab := by
  unfold lT
  rw [List.take_of_length_le (by rw [crcTab_length]; omega)]
  simp
def codec_crcTable.Post (I : Imm) (w : World) (v : Value) (w' : World) : Prop := ∃ (J : Imm), v = .agg (tabV crcTab).toArray ∧ Got w w' I J []
def inv64 (g0 g1 : Nat) (I0 : Imm) (kq : Nat) : St := fun K I _ L X => ∃ (i : Nat) (cs : List Value), K = [(4, .int .i64 (i : Int)), (0, .pointer (some ⟨g0, 0, none⟩)), (1, .pointer (some ⟨g1, 0, none⟩))] ∧ L = [⟨g0, List.replicate 256 (.int .u32 0), 94⟩] ∧
  X = [orow 94 1 (some ⟨g1, 0, none⟩) (lT i).length 256 cs] ∧ I = I0 ∧ i + kq = 257 ∧ i ≤ 256 ∧ Reps (Ty.int .u32) I0 (lT i) cs
def jnv64 (g0 g1 i : Nat) (cs : List Value) (I0 : Imm) (c0 : Int) (kq : Nat) : St := fun K I _ L X => ∃ (j : Nat) (c : Int), K = [(9, .int .i64 (j : Int)), (3, .int .u32 c), (2, .int .i64 (i : Int)), (4, .int .i64 (i : Int)), (0, .pointer (some ⟨g0, 0, none⟩)), (1, .pointer (some ⟨g1, 0, none⟩))] ∧ L = [⟨g0, List.replicate 256 (.int .u32 0), 94⟩] ∧
  X = [orow 94 1 (some ⟨g1, 0, none⟩) (lT i).length 256 cs] ∧ I = I0 ∧ j + kq = 9 ∧ j ≤ 8 ∧ crc8 (8 - j) c = c0
theorem codec_crcTable.calls (I0 : Imm) (w : World) (hI : I0.at_ w) : Calls Tryz.prog 66 [].toArray w fun e w' => ∃ v, e = .returned v ∧ codec_crcTable.Post I0 w v w' := by
  refine calls_body Tryz.func66 (by kernel_rfl) 23 (by kernel_rfl) (by kernel_rfl) ⟨w, fun _ => False, I0⟩ I0 [] [] (by kernel_rfl) (Sat.start w _ I0 hI) ?_
  generalize w.heap.size = nx0
  show OK _ c64 _ _ _ _ _ _ _ _
  refine OK.seq c64r0 c64a (by kernel_rfl) ?_
  refine OK.region 0 (o64 0) (by kernel_rfl) ?_
  refine RL.simP (K' := [(0, .pointer (some ⟨nx0, 0, none⟩))]) (nx' := nx0 + 1) (L' := [⟨nx0, List.replicate 256 (.int .u32 0), 94⟩]) [] (RFacts.nil _ _ _) 1 [.no] (by kernel_rfl) (by kernel_rfl) ?_
  refine RL.nil (by kernel_rfl) ?_
  refine QN.then_ ?_
  refine OK.seq c64r1 c64b (by kernel_rfl) ?_
  refine OK.region 1 (o64 1) (by kernel_rfl) ?_
  refine RL.simP (K' := [(0, .pointer (some ⟨nx0, 0, none⟩)), (1, .pointer (some ⟨nx0 + 1, 0, none⟩))]) (nx' := nx0 + 2) (L' := [⟨nx0, List.replicate 256 (.int .u32 0), 94⟩, ⟨nx0 + 1, List.replicate 256 (.int .u32 0), 94⟩]) [] (RFacts.nil _ _ _) 1 [.no] (by kernel_rfl) (by kernel_rfl) ?_
  refine RL.toRow (b := ⟨nx0 + 1, List.replicate 256 (.int .u32 0), 94⟩) 1 256 1 rfl (by simp) (by decide) ?_
  refine RL.norm (L' := [⟨nx0, List.replicate 256 (.int .u32 0), 94⟩]) (X' := [orow 94 1 (some ⟨nx0 + 1, 0, none⟩) (lT 0).length 256 (List.replicate 256 (.int .u32 0))]) rfl rfl rfl (by rw [lT_length (by omega)]; rfl) ?_
  generalize nx0 + 1 = g1
  refine RL.nil (by kernel_rfl) ?_
  refine QN.then_ ?_
  refine OK.seq c64c c64e (by kernel_rfl) ?_
  refine OK.seq c64r2 c64k0 (by kernel_rfl) ?_
  refine OK.region 2 (o64 2) (by kernel_rfl) ?_
  refine RL.simP (K' := [(4, .int .i64 ((0 : Nat) : Int)), (0, .pointer (some ⟨nx0, 0, none⟩)), (1, .pointer (some ⟨g1, 0, none⟩))]) (nx' := nx0 + 2) (L' := [⟨nx0, List.replicate 256 (.int .u32 0), 94⟩]) [] (RFacts.nil _ _ _) 1 [.no] (by kernel_rfl) (by kernel_rfl) ?_
  refine RL.nil (by kernel_rfl) ?_
  refine QN.then_ ?_
  refine OK.block 0 c64lp (by kernel_rfl) ?_
  have hz : Reps (Ty.int .u32) I0 (lT 0) (List.replicate 256 (.int .u32 0)) := by
    have : lT 0 = List.replicate 256 0 := by simp [lT]
    rw [this]
    exact Reps.zeros rfl 256
  refine OK.loopInv c64in (by kernel_rfl) (inv64 nx0 g1 I0) 257 ⟨0, _, rfl, rfl, rfl, rfl, rfl, by omega, hz⟩ (fun K I nx L X h => ?_) ?_
  · obtain ⟨i, cs, _, _, _, _, h5, h6, _⟩ := h
    omega
  rintro kq _ _ nx _ _ ⟨i, cs, rfl, rfl, rfl, rfl, hi1, hi2, hcs⟩ Q' hJn hQ
  refine OK.seq c64r3 c64d (by kernel_rfl) ?_
  refine OK.region 3 (o64 3) (by kernel_rfl) ?_
  refine RL.simP (K' := [(5, .bool (decide ((i : Int) < 256))), (4, .int .i64 (i : Int)), (0, .pointer (some ⟨nx0, 0, none⟩)), (1, .pointer (some ⟨g1, 0, none⟩))]) (nx' := nx) (L' := [⟨nx0, List.replicate 256 (.int .u32 0), 94⟩]) [] (RFacts.nil _ _ _) 1 [.no] (by kernel_rfl) (by kernel_rfl) ?_
  refine RL.nil (by kernel_rfl) ?_
  refine QN.then_ ?_
  refine OK.seq c64cd c64g (by kernel_rfl) ?_
  refine OK.cond (.tmp 5) (cL c64cd) (cR c64cd) (decide ((i : Int) < 256)) (by kernel_rfl) (by kernel_rfl) (by kernel_rfl) (fun hb => ?_) (fun hb => ?_)
  rotate_left
  · have hlt : ¬ ((i : Int) < 256) := of_decide_eq_false hb
    obtain rfl : i = 256 := by omega
    refine OK.exit 0 (by kernel_rfl) ?_
    refine QN.thenE ?_
    refine QN.outE hQ ?_
    refine QN.blkE ?_
    refine QN.then_ ?_
    refine OK.seq c64r12 c64t (by kernel_rfl) ?_
    refine OK.region 12 (o64 12) (by kernel_rfl) ?_
    rw [lT_end] at hcs ⊢
    have hcl := crcTab_length
    generalize htab : crcTab = tab at hcs hcl
    refine RL.simP (K' := [(0, .pointer (some ⟨nx0, 0, none⟩))]) (nx' := nx) (L' := [⟨nx0, tabV tab, 94⟩]) ((List.range 256).map fun j => (⟨g1, j, none⟩, .int .u32 (tab.getD j 0))) (RFacts.cells 0 hcl rfl hcs) 2 [.r 0, .l 0] (by kernel_rfl) (by kernel_rfl) ?_
    refine RL.nil (by kernel_rfl) ?_
    refine QN.then_ ?_
    refine OK.ret (by kernel_rfl) ?_
    refine QN.body rfl [] (RFacts.nil _ _ _) (.l 0) (.agg (tabV tab).toArray) (by kernel_rfl) (by kernel_rfl) (by kernel_rfl) ?_ _ (.inr rfl)
    exact fun w' hs' => ⟨_, rfl, _, by rw [htab], hs'.got _ (List.nil_sublist _)⟩
  have hlt : (i : Int) < 256 := of_decide_eq_true hb
  refine OK.skip (by kernel_rfl) ?_
  refine QN.then_ ?_
  refine OK.seq c64k1 c64r11 (by kernel_rfl) ?_
  refine OK.block 1 c64bd (by kernel_rfl) ?_
  refine OK.seq c64r4 c64h (by kernel_rfl) ?_
  refine OK.region 4 (o64 4) (by kernel_rfl) ?_
  refine RL.simP (K' := [(2, .int .i64 (i : Int)), (4, .int .i64 (i : Int)), (0, .pointer (some ⟨nx0, 0, none⟩)), (1, .pointer (some ⟨g1, 0, none⟩))]) (nx' := nx) (L' := [⟨nx0, List.replicate 256 (.int .u32 0), 94⟩]) [] (RFacts.nil _ _ _) 2 [.no, .no] (by kernel_rfl) (by kernel_rfl) ?_
  refine RL.nil (by kernel_rfl) ?_
  refine QN.then_ ?_
  refine OK.seq c64r5 c64i (by kernel_rfl) ?_
  refine OK.region 5 (o64 5) (by kernel_rfl) ?_
  refine RL.simP (K' := [(3, .int .u32 (W .u32 (i : Int))), (2, .int .i64 (i : Int)), (4, .int .i64 (i : Int)), (0, .pointer (some ⟨nx0, 0, none⟩)), (1, .pointer (some ⟨g1, 0, none⟩))]) (nx' := nx) (L' := [⟨nx0, List.replicate 256 (.int .u32 0), 94⟩]) [] (RFacts.nil _ _ _) 3 [.no, .no, .no] (by kernel_rfl) (by kernel_rfl) ?_
  refine RL.nil (by kernel_rfl) ?_
  refine QN.then_ ?_
  refine OK.seq c64j c64r10 (by kernel_rfl) ?_
  refine OK.seq c64r6 c64k2 (by kernel_rfl) ?_
  refine OK.region 6 (o64 6) (by kernel_rfl) ?_
  refine RL.simP (K' := [(9, .int .i64 ((0 : Nat) : Int)), (3, .int .u32 (W .u32 (i : Int))), (2, .int .i64 (i : Int)), (4, .int .i64 (i : Int)), (0, .pointer (some ⟨nx0, 0, none⟩)), (1, .pointer (some ⟨g1, 0, none⟩))]) (nx' := nx) (L' := [⟨nx0, List.replicate 256 (.int .u32 0), 94⟩]) [] (RFacts.nil _ _ _) 1 [.no] (by kernel_rfl) (by kernel_rfl) ?_
  refine RL.nil (by kernel_rfl) ?_
  refine QN.then_ ?_
  refine OK.block 2 c64lq (by kernel_rfl) ?_
  refine OK.loopInv c64jn (by kernel_rfl) (jnv64 nx0 g1 i cs _ (crc8 8 (W .u32 (i : Int)))) 9 ⟨0, _, rfl, rfl, rfl, rfl, rfl, by omega, rfl⟩ (fun K I nx L X h => ?_) ?_
  · obtain ⟨j, c, _, _, _, _, h5, h6, _⟩ := h
    omega
  rintro kr _ _ nx3 _ _ ⟨j, c, rfl, rfl, rfl, rfl, hj1, hj2, hc⟩ Q2 hJn2 hQ2
  refine OK.seq c64r7 c64l (by kernel_rfl) ?_
  refine OK.region 7 (o64 7) (by kernel_rfl) ?_
  refine RL.simP (K' := [(10, .bool (decide ((j : Int) < 8))), (9, .int .i64 (j : Int)), (3, .int .u32 c), (2, .int .i64 (i : Int)), (4, .int .i64 (i : Int)), (0, .pointer (some ⟨nx0, 0, none⟩)), (1, .pointer (some ⟨g1, 0, none⟩))]) (nx' := nx3) (L' := [⟨nx0, List.replicate 256 (.int .u32 0), 94⟩]) [] (RFacts.nil _ _ _) 1 [.no] (by kernel_rfl) (by kernel_rfl) ?_
  refine RL.nil (by kernel_rfl) ?_
  refine QN.then_ ?_
  refine OK.seq c64ce c64m (by kernel_rfl) ?_
  refine OK.cond (.tmp 10) (cL c64ce) (cR c64ce) (decide ((j : Int) < 8)) (by kernel_rfl) (by kernel_rfl) (by kernel_rfl) (fun hb => ?_) (fun hb => ?_)
  rotate_left
  · have hlt2 : ¬ ((j : Int) < 8) := of_decide_eq_false hb
    obtain rfl : j = 8 := by omega
    obtain rfl : c = crc8 8 (W .u32 (i : Int)) := hc
    refine OK.exit 2 (by kernel_rfl) ?_
    refine QN.thenE ?_
    refine QN.outE hQ2 ?_
    refine QN.blkE ?_
    refine QN.then_ ?_
    refine OK.region 10 (o64 10) (by kernel_rfl) ?_
    refine RL.simP (K' := [(18, .int .i64 (i : Int)), (19, .int .u32 (crc8 8 (W .u32 (i : Int)))), (4, .int .i64 (i : Int)), (0, .pointer (some ⟨nx0, 0, none⟩)), (1, .pointer (some ⟨g1, 0, none⟩))]) (nx' := nx3) (L' := [⟨nx0, List.replicate 256 (.int .u32 0), 94⟩]) [] (RFacts.nil _ _ _) 2 [.no, .no] (by kernel_rfl) (by kernel_rfl) ?_
    refine RL.idxArr 1 .i64 (i : Int) g1 0 256 (some 20) (by kernel_rfl) (by kernel_rfl) (T := 94) (e := 23) (by kernel_rfl) (by kernel_rfl) (by omega) hlt (K' := [(20, .pointer (some ⟨g1, 0 + (i : Int).toNat * 1, none⟩)), (18, .int .i64 (i : Int)), (19, .int .u32 (crc8 8 (W .u32 (i : Int)))), (4, .int .i64 (i : Int)), (0, .pointer (some ⟨nx0, 0, none⟩)), (1, .pointer (some ⟨g1, 0, none⟩))]) (by kernel_rfl) ?_
    have hli : (lT i).length = 256 := lT_length (by omega)
    refine RL.storeL (T := 23) (e := 94) 1 0 rfl 256 (i : Int) cs [.int .u32 (crc8 8 (W .u32 (i : Int)))] (.int .u32 (crc8 8 (W .u32 (i : Int)))) (Ty.int .u32) (lT i) (crc8 8 (W .u32 (i : Int))) (by kernel_rfl) (by kernel_rfl) (by kernel_rfl) rfl rfl rfl rfl hcs (by omega) (by rw [hli]; exact hlt) (fun cs2 h2 => ?_)
    rw [Int.toNat_natCast, lT_next (by omega)] at h2 ⊢
    refine RL.nil (by kernel_rfl) ?_
    refine QN.blkN ?_
    refine QN.then_ ?_
    refine OK.region 11 (o64 11) (by kernel_rfl) ?_
    refine RL.simP (K' := [(4, .int .i64 (W .i64 ((i : Int) + 1))), (0, .pointer (some ⟨nx0, 0, none⟩)), (1, .pointer (some ⟨g1, 0, none⟩))]) (nx' := nx3) (L' := [⟨nx0, List.replicate 256 (.int .u32 0), 94⟩]) [] (RFacts.nil _ _ _) 2 [.no, .no] (by kernel_rfl) (by kernel_rfl) ?_
    refine RL.nil (by kernel_rfl) ?_
    rw [W64C (by omega) (by omega), show ((i : Int) + 1) = ((i + 1 : Nat) : Int) from by omega]
    exact hJn _ _ _ _ _ ⟨i + 1, cs2, rfl, rfl, rfl, rfl, by omega, by omega, h2⟩
  have hlt2 : (j : Int) < 8 := of_decide_eq_true hb
  refine OK.skip (by kernel_rfl) ?_
  refine QN.then_ ?_
  refine OK.seq c64k3 c64r9 (by kernel_rfl) ?_
  refine OK.block 3 c64r8 (by kernel_rfl) ?_
  refine OK.region 8 (o64 8) (by kernel_rfl) ?_
  refine RL.simP (K' := [(3, .int .u32 (crcStep c)), (9, .int .i64 (j : Int)), (2, .int .i64 (i : Int)), (4, .int .i64 (i : Int)), (0, .pointer (some ⟨nx0, 0, none⟩)), (1, .pointer (some ⟨g1, 0, none⟩))]) (nx' := nx3) (L' := [⟨nx0, List.replicate 256 (.int .u32 0), 94⟩]) [] (RFacts.nil _ _ _) 7 [] (by kernel_rfl) (by kernel_rfl) ?_
  refine RL.nil (by kernel_rfl) ?_
  refine QN.blkN ?_
  refine QN.then_ ?_
  refine OK.region 9 (o64 9) (by kernel_rfl) ?_
  refine RL.simP (K' := [(9, .int .i64 (W .i64 ((j : Int) + 1))), (3, .int .u32 (crcStep c)), (2, .int .i64 (i : Int)), (4, .int .i64 (i : Int)), (0, .pointer (some ⟨nx0, 0, none⟩)), (1, .pointer (some ⟨g1, 0, none⟩))]) (nx' := nx3) (L' := [⟨nx0, List.replicate 256 (.int .u32 0), 94⟩]) [] (RFacts.nil _ _ _) 2 [.no, .no] (by kernel_rfl) (by kernel_rfl) ?_
  refine RL.nil (by kernel_rfl) ?_
  rw [W64C (by omega) (by omega), show ((j : Int) + 1) = ((j + 1 : Nat) : Int) from by omega]
  refine hJn2 _ _ _ _ _ ⟨j + 1, crcStep c, rfl, rfl, rfl, rfl, by omega, by omega, ?_⟩
  rw [show 8 - j = (8 - (j + 1)) + 1 from by omega] at hc
  exact hc

noncomputable def c48 : Code := cBody Tryz.f36
noncomputable def c48r0 : Code := cL c48
noncomputable def c48a : Code := cR c48
noncomputable def c48r1 : Code := cL c48a
noncomputable def c48b : Code := cR c48a
noncomputable def c48c : Code := cL c48b
noncomputable def c48e : Code := cR c48b
noncomputable def c48r2 : Code := cL c48c
noncomputable def c48k0 : Code := cR c48c
noncomputable def c48lp : Code := cL c48k0
noncomputable def c48in : Code := cL c48lp
noncomputable def c48r3 : Code := cL c48in
noncomputable def c48d : Code := cR c48in
noncomputable def c48cd : Code := cL c48d
noncomputable def c48g : Code := cR c48d
noncomputable def c48k1 : Code := cL c48g
noncomputable def c48r6 : Code := cR c48g
noncomputable def c48bd : Code := cL c48k1
noncomputable def c48r4 : Code := cL c48bd
noncomputable def c48r5 : Code := cR c48bd
noncomputable def c48r7 : Code := cL c48e
noncomputable def c48t : Code := cR c48e
noncomputable def o48 : Nat → List Oper
  | 0 => cOps c48r0
  | 1 => cOps c48r1
  | 2 => cOps c48r2
  | 3 => cOps c48r3
  | 4 => cOps c48r4
  | 5 => cOps c48r5
  | 6 => cOps c48r6
  | _ => cOps c48r7
def codec_Checksum.Post (I : Imm) (w : World) (r : Int) (v : Value) (w' : World) : Prop := ∃ (J : Imm), v = .int .u32 r ∧ Got w w' I J []
theorem tabV_at (tab : List Int) {j : Nat} (h : j < 256) : (tabV tab)[j]? = some (.int .u32 (tab.getD j 0)) := by
  unfold tabV
  rw [List.getElem?_map, List.getElem?_range h]
  rfl
def inv48 (a0 : List Int) (Ap0 : Option Addr) (cp0 g3 : Nat) (I0 : Imm) (c0 : Int) (kq : Nat) : St := fun K I _ L X => ∃ (i : Nat) (c : Int), K = [(8, .slice Ap0 a0.length cp0), (9, .int .i64 (a0.length : Int)), (10, .int .i64 (i : Int)), (4, .int .u32 c), (3, .pointer (some ⟨g3, 0, none⟩))] ∧ L = [] ∧ X = [] ∧ I = I0 ∧ i + kq = a0.length + 1 ∧ i ≤ a0.length ∧ (a0.drop i).foldl ckStep c = c0
theorem codec_Checksum.calls (I0 : Imm) (a0 : List Int) (Ap0 : Option Addr) (cp0 : Nat) (w : World) (hI : I0.at_ w) (hlp0 : a0.length ≤ cp0) (hrp0 : Rd (Ty.int .u8) I0 Ap0 a0) (r : Int) (h : codec_Checksum.f a0 = some r) :
    Calls Tryz.prog 36 [.slice Ap0 a0.length cp0].toArray w fun e w' => ∃ v, e = .returned v ∧ codec_Checksum.Post I0 w r v w' := by
  obtain rfl := Option.some.inj h
  clear h
  refine calls_body Tryz.func36 (by kernel_rfl) 26 (by kernel_rfl) (by kernel_rfl) ⟨w, fun _ => False, I0⟩ I0 [] [(0, .slice Ap0 a0.length cp0)] (by kernel_rfl) (Sat.start w _ I0 hI) ?_
  generalize w.heap.size = nx0
  show OK _ c48 _ _ _ _ _ _ _ _
  refine OK.seq c48r0 c48a (by kernel_rfl) ?_
  refine OK.region 0 (o48 0) (by kernel_rfl) ?_
  refine RL.simP (K' := [(0, .slice Ap0 a0.length cp0)]) (nx' := nx0) (L' := []) [] (RFacts.nil _ _ _) 1 [.no] (by kernel_rfl) (by kernel_rfl) ?_
  refine RL.nil (by kernel_rfl) ?_
  refine QN.then_ ?_
  refine OK.seq c48r1 c48b (by kernel_rfl) ?_
  refine OK.region 1 (o48 1) (by kernel_rfl) ?_
  refine RL.callP 66 [] (some 7) (fun w => codec_crcTable.Post I0 w) (by kernel_rfl) (by kernel_rfl) (fun w hs => codec_crcTable.calls I0 w hs.im) ?_
  rintro w v w' hs ⟨J, rfl, hg⟩
  have hJ := hg.le
  refine RL.resume (K' := [(7, .agg (tabV crcTab).toArray), (0, .slice Ap0 a0.length cp0)]) (X' := []) rfl (hs.call hg) ?_
  clear hs hg
  generalize w'.heap.size = nx1
  clear w w'
  obtain ⟨tab, htab⟩ : ∃ tab, crcTab = tab := ⟨_, rfl⟩
  rw [htab]
  refine RL.simP (K' := [(4, .int .u32 4294967295), (3, .pointer (some ⟨nx1, 0, none⟩)), (0, .slice Ap0 a0.length cp0)]) (nx' := nx1 + 1) (L' := [⟨nx1, tabV tab, 94⟩]) [] (RFacts.nil _ _ _) 3 [.no, .l 0, .no] (by kernel_rfl) (by kernel_rfl) ?_
  refine RL.immL 0 rfl (fun w hs => own_newC hs (i := 0) rfl) (fun J1 hJ1 ht => ?_)
  generalize nx1 = g3 at ht ⊢
  refine RL.nil (by kernel_rfl) ?_
  refine QN.then_ ?_
  refine OK.seq c48c c48e (by kernel_rfl) ?_
  refine OK.seq c48r2 c48k0 (by kernel_rfl) ?_
  refine OK.region 2 (o48 2) (by kernel_rfl) ?_
  refine RL.simP (K' := [(8, .slice Ap0 a0.length cp0), (9, .int .i64 (a0.length : Int)), (10, .int .i64 ((0 : Nat) : Int)), (4, .int .u32 4294967295), (3, .pointer (some ⟨g3, 0, none⟩))]) (nx' := g3 + 1) (L' := []) [] (RFacts.nil _ _ _) 3 [.no, .no, .no] (by kernel_rfl) (by kernel_rfl) ?_
  refine RL.nil (by kernel_rfl) ?_
  refine QN.then_ ?_
  refine OK.block 0 c48lp (by kernel_rfl) ?_
  refine OK.loopInv c48in (by kernel_rfl) (inv48 a0 Ap0 cp0 g3 J1 (a0.foldl ckStep 4294967295)) (a0.length + 1) ⟨0, _, rfl, rfl, rfl, rfl, by omega, by omega, rfl⟩ (fun K I nx L X h => ?_) ?_
  · obtain ⟨i, c, _, _, _, _, h5, h6, _⟩ := h
    omega
  rintro kq _ J1 nx _ _ ⟨i, c, rfl, rfl, rfl, rfl, hi1, hi2, hc⟩ Q' hJn hQ
  refine OK.seq c48r3 c48d (by kernel_rfl) ?_
  refine OK.region 3 (o48 3) (by kernel_rfl) ?_
  refine RL.simP (K' := [(11, .bool (decide ((i : Int) < (a0.length : Int)))), (8, .slice Ap0 a0.length cp0), (9, .int .i64 (a0.length : Int)), (10, .int .i64 (i : Int)), (4, .int .u32 c), (3, .pointer (some ⟨g3, 0, none⟩))]) (nx' := nx) (L' := []) [] (RFacts.nil _ _ _) 1 [.no] (by kernel_rfl) (by kernel_rfl) ?_
  refine RL.nil (by kernel_rfl) ?_
  refine QN.then_ ?_
  refine OK.seq c48cd c48g (by kernel_rfl) ?_
  refine OK.cond (.tmp 11) (cL c48cd) (cR c48cd) (decide ((i : Int) < (a0.length : Int))) (by kernel_rfl) (by kernel_rfl) (by kernel_rfl) (fun hb => ?_) (fun hb => ?_)
  rotate_left
  · have hlt : ¬ ((i : Int) < (a0.length : Int)) := of_decide_eq_false hb
    obtain rfl : i = a0.length := by omega
    rw [List.drop_length] at hc
    obtain rfl : c = _ := hc
    refine OK.exit 0 (by kernel_rfl) ?_
    refine QN.thenE ?_
    refine QN.outE hQ ?_
    refine QN.blkE ?_
    refine QN.then_ ?_
    refine OK.seq c48r7 c48t (by kernel_rfl) ?_
    refine OK.region 7 (o48 7) (by kernel_rfl) ?_
    generalize a0.foldl ckStep 4294967295 = c
    refine RL.simP (K' := [(2, .int .u32 (bXor .u32 4294967295 c))]) (nx' := nx) (L' := []) [] (RFacts.nil _ _ _) 3 [.no, .no, .no] (by kernel_rfl) (by kernel_rfl) ?_
    refine RL.nil (by kernel_rfl) ?_
    refine QN.then_ ?_
    refine OK.ret (by kernel_rfl) ?_
    refine QN.body rfl [] (RFacts.nil _ _ _) .no (.int .u32 (bXor .u32 4294967295 c)) (by kernel_rfl) (by kernel_rfl) (by kernel_rfl) ?_ _ (.inr rfl)
    exact fun w' hs' => ⟨_, rfl, _, rfl, hs'.got _ (List.nil_sublist _)⟩
  have hlt : (i : Int) < (a0.length : Int) := of_decide_eq_true hb
  refine OK.skip (by kernel_rfl) ?_
  refine QN.then_ ?_
  obtain ⟨g1, o1, hA1, hc1⟩ := Ty.int_at (Rd.ext (Imm.le_trans hJ hJ1) hrp0) (i : Int) (by omega) hlt
  obtain ⟨x, hx⟩ : ∃ x, a0.getD (i : Int).toNat 0 = x := ⟨_, rfl⟩
  rw [hx] at hc1
  have hil : i < a0.length := by omega
  have hdrop : a0.drop i = x :: a0.drop (i + 1) := by
    rw [List.drop_eq_getElem_cons hil, ← hx, Int.toNat_natCast, List.getD_eq_getElem?_getD, List.getElem?_eq_getElem hil]
    rfl
  rw [hdrop, List.foldl_cons] at hc
  refine OK.seq c48k1 c48r6 (by kernel_rfl) ?_
  refine OK.block 1 c48bd (by kernel_rfl) ?_
  refine OK.seq c48r4 c48r5 (by kernel_rfl) ?_
  refine OK.region 4 (o48 4) (by kernel_rfl) ?_
  refine RL.idx 1 .i64 (i : Int) hA1 a0.length cp0 (some 12) (by kernel_rfl) (by kernel_rfl) (T := 24) (e := 5) (by kernel_rfl) (by kernel_rfl) (by omega) hlt (K' := [(12, .pointer (some ⟨g1, o1 + (i : Int).toNat * 1, none⟩)), (11, .bool (decide ((i : Int) < (a0.length : Int)))), (8, .slice Ap0 a0.length cp0), (9, .int .i64 (a0.length : Int)), (10, .int .i64 (i : Int)), (4, .int .u32 c), (3, .pointer (some ⟨g3, 0, none⟩))]) (by kernel_rfl) ?_
  refine RL.simP (K' := [(6, .int .u8 x), (8, .slice Ap0 a0.length cp0), (9, .int .i64 (a0.length : Int)), (10, .int .i64 (i : Int)), (4, .int .u32 c), (3, .pointer (some ⟨g3, 0, none⟩))]) (nx' := nx) (L' := []) [(⟨g1, o1 + (i : Int).toNat * 1, none⟩, .int .u8 x)] (RFacts.imm (hc1 0 _ rfl) (RFacts.nil _ _ _)) 2 [.r 0, .no] (by kernel_rfl) (by kernel_rfl) ?_
  refine RL.nil (by kernel_rfl) ?_
  refine QN.then_ ?_
  refine OK.region 5 (o48 5) (by kernel_rfl) ?_
  refine RL.simP (K' := [(19, .int .u8 (bXor .u8 (W .u8 c) x)), (15, .int .u32 (Int.fdiv c 256)), (8, .slice Ap0 a0.length cp0), (9, .int .i64 (a0.length : Int)), (10, .int .i64 (i : Int)), (4, .int .u32 c), (3, .pointer (some ⟨g3, 0, none⟩))]) (nx' := nx) (L' := []) [] (RFacts.nil _ _ _) 6 [] (by kernel_rfl) (by kernel_rfl) ?_
  obtain ⟨h0, h1⟩ := u8_range (W .u8 c) x
  obtain ⟨y, hy⟩ : ∃ y, bXor .u8 (W .u8 c) x = y := ⟨_, rfl⟩
  rw [hy] at h0 h1 ⊢
  refine RL.idxArr 1 .u8 y g3 0 256 (some 20) (by kernel_rfl) (by kernel_rfl) (T := 94) (e := 23) (by kernel_rfl) (by kernel_rfl) h0 h1 (K' := [(20, .pointer (some ⟨g3, 0 + y.toNat * 1, none⟩)), (19, .int .u8 y), (15, .int .u32 (Int.fdiv c 256)), (8, .slice Ap0 a0.length cp0), (9, .int .i64 (a0.length : Int)), (10, .int .i64 (i : Int)), (4, .int .u32 c), (3, .pointer (some ⟨g3, 0, none⟩))]) (by kernel_rfl) ?_
  have ht2 : J1 ⟨g3, 0 + y.toNat * 1, none⟩ = some (.int .u32 (tab.getD y.toNat 0)) := by
    rw [Nat.zero_add, Nat.mul_one]
    exact ht _ _ (tabV_at tab (by omega))
  refine RL.simP (K' := [(8, .slice Ap0 a0.length cp0), (9, .int .i64 (a0.length : Int)), (10, .int .i64 (i : Int)), (4, .int .u32 (bXor .u32 (Int.fdiv c 256) (tab.getD y.toNat 0))), (3, .pointer (some ⟨g3, 0, none⟩))]) (nx' := nx) (L' := []) [(⟨g3, 0 + y.toNat * 1, none⟩, .int .u32 (tab.getD y.toNat 0))] (RFacts.imm ht2 (RFacts.nil _ _ _)) 3 [.r 0, .no, .no] (by kernel_rfl) (by kernel_rfl) ?_
  have hck : ckStep c x = bXor .u32 (Int.fdiv c 256) (tab.getD y.toNat 0) := by
    unfold ckStep
    rw [hy, htab]
  rw [← hck]
  generalize ckStep c x = c2 at hc ⊢
  refine RL.nil (by kernel_rfl) ?_
  refine QN.blkN ?_
  refine QN.then_ ?_
  refine OK.region 6 (o48 6) (by kernel_rfl) ?_
  refine RL.simP (K' := [(8, .slice Ap0 a0.length cp0), (9, .int .i64 (a0.length : Int)), (10, .int .i64 (W .i64 ((i : Int) + 1))), (4, .int .u32 c2), (3, .pointer (some ⟨g3, 0, none⟩))]) (nx' := nx) (L' := []) [] (RFacts.nil _ _ _) 2 [.no, .no] (by kernel_rfl) (by kernel_rfl) ?_
  refine RL.nil (by kernel_rfl) ?_
  have hml := hrp0.1
  rw [W64C (by omega) (by omega), show ((i : Int) + 1) = ((i + 1 : Nat) : Int) from by omega]
  exact hJn _ _ _ _ _ ⟨i + 1, c2, rfl, rfl, rfl, rfl, by omega, by omega, hc⟩
end Go.Proofs.YtijhdekfbjafgaaGreat
namespace Go.Proofs.YtijhdekfbjafgaaGreat
open Go Go.RowKit Go.Proofs.YtijhdekfbjafgaaGreat.RW Go.Proofs.YtijhdekfbjafgaaGreat.AM
noncomputable def codec_Checksum (b : List Int) : Option Int := codec_Checksum.f b
noncomputable def codec_Checksum.d : FragD := ⟨⟨[(0, ph (.row (.int .u8)))], []⟩, [⟨1, ⟨[(0, ph (.int .u32))], []⟩, Int, fun x => x.1.1, fun r => ((r, ()), ()), fun _ => rfl⟩], fun x => codec_Checksum x.1.1⟩
theorem codec_Checksum.ok : FunOK Tryz.prog 36 codec_Checksum.d := by
  intro x y q z hg ho I π w vs hlen hls hvs hm
  obtain ⟨v, h0, A, cp, rfl, hle, _, hrd⟩ := hvs 0 _ rfl
  match vs, hls, h0 with
  | [v], _, h0 =>
    obtain rfl := Option.some.inj h0
    cases ho
    refine (codec_Checksum.calls I x.1.1 A cp w hm.im hle hrd y hg).mono ?_
    rintro e w' ⟨v, rfl, J, rfl, hgot⟩
    exact ⟨_, rfl, π, J, Pi.le_refl _, hgot.le, hm.got hgot, fun av hav => by cases hav; exact ⟨rfl, rfl⟩⟩
end Go.Proofs.YtijhdekfbjafgaaGreat
namespace Go.Proofs.YtijhdekfbjafgaaGreat.AM
open Go Go.RowKit Go.Proofs.YtijhdekfbjafgaaGreat.RW

section
variable {B : Base} {I : Imm} {π : Pi} {M : Nat → Option AObj} {w : World}
/-- A row of the call's own whose elements turned; it lies where it lay. -/
theorem SA.turn (h : SA B I π M w) {o : Nat} {e : TypeId} {c c0 : TC} {l : List c.I} {l0 : List c0.I} (hoM : M o = some (.row e c0 l0)) {p : Pl} (hp : π o = some p) (hn : p.n = l.length) {w' : World} {cs : List Value} (ho : w'.ownsRow 0 e c.sz (.slice p.A p.n p.c) l.length cs) (hr : Reps c.ty I l cs)
  (hg : w.grownBy w' (Value.slice p.A p.n p.c).ownBlock) : SA B I π (updM M o (some (.row e c l))) w' := by
 have hold : ∀ k, (Value.slice p.A p.n p.c).ownBlock = some k → fpO π o (M o) k := fun k hk => by
  rw [hoM]
  cases hA : p.A with
  | none => rw [hA] at hk; cases hk
  | some a =>
   rw [hA] at hk
   injection hk with hk
   exact ⟨p, a, hp, hA, hk⟩
 have hfp : ∀ k, fpO π o (some (.row e c l)) k → (Value.slice p.A p.n p.c).ownBlock = some k := by
  rintro k ⟨p', a, h1, h2, rfl⟩
  rw [hp] at h1
  injection h1 with h1
  subst h1
  rw [h2]
  rfl
 refine h.step (fun x => x = o) (Pi.le_refl _) (Imm.le_refl _) hg.os hg.tape hg.output hg.size (fun k hk hk' => hg.block k hk (fun e1 => hk' o rfl (hold k e1.symm))) (fun x hx => updM_ne _ _ hx) (fun x hx hn => h.dom x hn) ?_ ?_ ?_ ?_ ?_ (fun a v ha => .inl ha) ?_
 ·intro x hx hn
  rw [hx, updM_self] at hn
  cases hn
 ·intro x hx
  rw [hx, updM_self]
  exact ⟨p, cs, hp, hn, ho, hr⟩
 ·intro x hx k hk
  rw [hx, updM_self] at hk
  exact ⟨(ho.lt k (hfp k hk)).2, .inl ⟨o, rfl, hold k (hfp k hk)⟩⟩
 ·intro x y hx hy hne
  exact absurd (hx.trans hy.symm) hne
 ·intro a u ha
  have hc := h.im a u ha
  rw [← hc]
  exact look_of_block (w := w) (hg.block _ (look_lt hc) (fun e1 => h.imX a u ha o (hold _ e1.symm)))
 ·intro a u ha x hx hk
  rw [hx, updM_self] at hk
  exact h.imX a u ha o (hold _ (hfp _ hk))
end
/-- A function without pieces, in the words of the old walks: its arguments told by slots, its end by `Got`. -/
theorem FunOK.calls {P : Program} {f : FuncId} {fn : Func} (hf : P.funcs[f]? = some fn) {sl : List (Nat × PV)} {d : OutD} {g : SlI sl × Unit → Option d.R} (hF : FunOK P f ⟨⟨sl, []⟩, [d], g⟩) (hd : d.p.ob = []) (x : SlI sl) {y : d.R} (hg : g (x, ()) = some y) {I : Imm} {W : World} (hI : I.at_ W) {vs : List Value} (hlen : vs.length ≤ fn.ntmps) (hls : vs.length = sl.length)
  (hA : ∀ t av, lk (instSl id sl x) t = some av → ∃ v, vs[t]? = some v ∧ relV (fun _ => none) I av v) :
  Calls P f vs.toArray W fun e W' => ∃ v, e = .returned v ∧ ∃ J π', Got W W' I J [] ∧ ∀ av, lk (instSl id d.p.sl (d.of y).1) 0 = some av → relV π' J av v := by
 have hs : SA ⟨W, fpS (fun _ => none) (lk ([] : AMem)), I⟩ I (fun _ => none) (lk ([] : AMem)) W :=
  ⟨Evo.refl _ _, fun _ _ => rfl, fun _ => trivial, fun _ _ h => h.elim, fun _ _ _ _ h => h.elim, hI, fun _ _ _ _ h => h.elim, Imm.le_refl _, fun _ _ h => .inl h⟩
 refine (hF (x, ()) y d y hg rfl I (fun _ => none) W vs (fun fn' h' => by rw [hf] at h'; injection h' with h'; rw [← h']; exact hlen) hls hA hs).mono ?_
 rintro e W' ⟨v, rfl, π', J, _, h2, h3, h4⟩
 have hno : ∀ k, ¬ fpS (fun _ => none) (lk ([] : AMem)) k := fun k ⟨i, hi⟩ => hi
 exact ⟨v, rfl, J, π', ⟨⟨h3.evo.os, h3.evo.tape, h3.evo.output, h3.evo.size, fun k hk _ => h3.evo.blk k hk (hno k)⟩, h2, h3.im, fun a u ha => (h3.inew a u ha).imp id (fun h => h.resolve_right (hno _)), (fun r hr => by cases hr), (fun r hr => by cases hr), List.Pairwise.nil, (fun _ _ _ r hr => by cases hr)⟩, h4⟩
/-- The cells of a row of ints. -/
theorem reps_ints {k : IntKind} {I : Imm} : ∀ {l : List Int} {cs : List Value}, Reps (TC.ty (.int k)) I l cs → cs = l.map (Value.int k)
 | [], [], _ => rfl
 | x :: l, cs, h => by
  obtain ⟨c0, c1, rfl, h1, h2⟩ := h
  have h1 : c0 = [.int k x] := h1
  subst h1
  rw [reps_ints h2]
  rfl
 | [], _ :: _, h => by cases h
theorem ints_reps {k : IntKind} {I : Imm} : ∀ (l : List Int), Reps (TC.ty (.int k)) I l (l.map (Value.int k))
 | [] => rfl
 | x :: l => ⟨[.int k x], l.map (Value.int k), rfl, rfl, ints_reps l⟩
end Go.Proofs.YtijhdekfbjafgaaGreat.AM
namespace Go.Proofs
open Go.Shelf
def Tryz.compactA_ren : Go.Shelf.Ren := ⟨fun | 20 => 84 | n => n, fun | 22 => 101 | 3 => 3 | 4 => 4 | 0 => 0 | n => n, fun | n => n⟩
theorem Tryz.compactA : Go.Proofs.Lays2.n20 Tryz.prog Tryz.compactA_ren := {
  mixed := by kernel_rfl
  f20 := Tryz.func84.trans (congrArg some (by kernel_rfl))
  t0 := Tryz.underlying0
  a0 := Tryz.isAgg0
  z0 := Tryz.sizeOf0
  v0 := Tryz.zeroValue0
  t3 := Tryz.underlying3
  a3 := Tryz.isAgg3
  z3 := Tryz.sizeOf3
  v3 := Tryz.zeroValue3
  t4 := Tryz.underlying4
  a4 := Tryz.isAgg4
  z4 := Tryz.sizeOf4
  v4 := Tryz.zeroValue4
  t22 := Tryz.underlying101
  a22 := Tryz.isAgg101
  z22 := Tryz.sizeOf101
  v22 := Tryz.zeroValue101
  i3 := by kernel_rfl }
def Tryz.sortA_ren : Go.Shelf.Ren := ⟨fun | 5 => 83 | 8 => 97 | 7 => 96 | 19 => 110 | 20 => 111 | 10 => 101 | 11 => 102 | 12 => 103 | 13 => 104 | 14 => 105 | 15 => 106 | 16 => 107 | 17 => 108 | 18 => 109 | 30 => 112 | 31 => 113 | 32 => 114 | 33 => 115 | 34 => 116 | 35 => 117 | 40 => 118 | n => n, fun | 23 => 101 | 25 => 3 | 3 => 3 | 32 => 96 | 22 => 101 | 0 => 0 | 44 => 23 | 46 => 104 | 4 => 4 | 36 => 125 | 35 => 124 | 41 => 130 | 5 => 5 | 9 => 9 | 53 => 134 | 57 => 138 | 63 => 140 | 64 => 141 | n => n, fun | n => n⟩
theorem Tryz.sortA : Go.Proofs.SlLaysM.n5 Tryz.prog Tryz.sortA_ren := {
  mixed := by kernel_rfl
  f5 := ⟨Tryz.f83.name, by decide, Tryz.func83.trans (congrArg some (by kernel_rfl))⟩
  f7 := ⟨Tryz.f96.name, by decide, Tryz.func96.trans (congrArg some (by kernel_rfl))⟩
  f8 := Tryz.func97.trans (congrArg some (by kernel_rfl))
  f10 := ⟨Tryz.f101.name, by decide, Tryz.func101.trans (congrArg some (by kernel_rfl))⟩
  f11 := ⟨Tryz.f102.name, by decide, Tryz.func102.trans (congrArg some (by kernel_rfl))⟩
  f12 := ⟨Tryz.f103.name, by decide, Tryz.func103.trans (congrArg some (by kernel_rfl))⟩
  f13 := ⟨Tryz.f104.name, by decide, Tryz.func104.trans (congrArg some (by kernel_rfl))⟩
  f14 := ⟨Tryz.f105.name, by decide, Tryz.func105.trans (congrArg some (by kernel_rfl))⟩
  f15 := ⟨Tryz.f106.name, by decide, Tryz.func106.trans (congrArg some (by kernel_rfl))⟩
  f16 := ⟨Tryz.f107.name, by decide, Tryz.func107.trans (congrArg some (by kernel_rfl))⟩
  f17 := ⟨Tryz.f108.name, by decide, Tryz.func108.trans (congrArg some (by kernel_rfl))⟩
  f18 := ⟨Tryz.f109.name, by decide, Tryz.func109.trans (congrArg some (by kernel_rfl))⟩
  f19 := Tryz.func110.trans (congrArg some (by kernel_rfl))
  f20 := Tryz.func111.trans (congrArg some (by kernel_rfl))
  f30 := ⟨Tryz.f112.name, by decide, Tryz.func112.trans (congrArg some (by kernel_rfl))⟩
  f31 := Tryz.func113.trans (congrArg some (by kernel_rfl))
  f32 := Tryz.func114.trans (congrArg some (by kernel_rfl))
  f33 := ⟨Tryz.f115.name, by decide, Tryz.func115.trans (congrArg some (by kernel_rfl))⟩
  f34 := ⟨Tryz.f116.name, by decide, Tryz.func116.trans (congrArg some (by kernel_rfl))⟩
  f35 := ⟨Tryz.f117.name, by decide, Tryz.func117.trans (congrArg some (by kernel_rfl))⟩
  f40 := ⟨Tryz.f118.name, by decide, Tryz.func118.trans (congrArg some (by kernel_rfl))⟩
  t0 := Tryz.underlying0
  a0 := Tryz.isAgg0
  z0 := Tryz.sizeOf0
  v0 := Tryz.zeroValue0
  t3 := Tryz.underlying3
  a3 := Tryz.isAgg3
  z3 := Tryz.sizeOf3
  v3 := Tryz.zeroValue3
  t4 := Tryz.underlying4
  a4 := Tryz.isAgg4
  z4 := Tryz.sizeOf4
  v4 := Tryz.zeroValue4
  t5 := Tryz.underlying5
  a5 := Tryz.isAgg5
  z5 := Tryz.sizeOf5
  v5 := Tryz.zeroValue5
  t9 := Tryz.underlying9
  a9 := Tryz.isAgg9
  z9 := Tryz.sizeOf9
  v9 := Tryz.zeroValue9
  t22 := Tryz.underlying101
  a22 := Tryz.isAgg101
  z22 := Tryz.sizeOf101
  v22 := Tryz.zeroValue101
  t23 := Tryz.underlying101
  a23 := Tryz.isAgg101
  z23 := Tryz.sizeOf101
  v23 := Tryz.zeroValue101
  t25 := Tryz.underlying3
  a25 := Tryz.isAgg3
  z25 := Tryz.sizeOf3
  v25 := Tryz.zeroValue3
  t32 := Tryz.underlying96
  a32 := Tryz.isAgg96
  z32 := Tryz.sizeOf96
  v32 := Tryz.zeroValue96
  t35 := Tryz.underlying124
  a35 := Tryz.isAgg124
  z35 := Tryz.sizeOf124
  v35 := Tryz.zeroValue124
  t36 := Tryz.underlying125
  a36 := Tryz.isAgg125
  z36 := Tryz.sizeOf125
  v36 := Tryz.zeroValue125
  t41 := Tryz.underlying130
  a41 := Tryz.isAgg130
  z41 := Tryz.sizeOf130
  v41 := Tryz.zeroValue130
  t44 := Tryz.underlying23
  a44 := Tryz.isAgg23
  z44 := Tryz.sizeOf23
  v44 := Tryz.zeroValue23
  t46 := Tryz.underlying104
  a46 := Tryz.isAgg104
  z46 := Tryz.sizeOf104
  v46 := Tryz.zeroValue104
  t53 := Tryz.underlying134
  a53 := Tryz.isAgg134
  z53 := Tryz.sizeOf134
  v53 := Tryz.zeroValue134
  t57 := Tryz.underlying138
  a57 := Tryz.isAgg138
  z57 := Tryz.sizeOf138
  v57 := Tryz.zeroValue138
  t63 := Tryz.underlying140
  a63 := Tryz.isAgg140
  z63 := Tryz.sizeOf140
  v63 := Tryz.zeroValue140
  t64 := Tryz.underlying141
  a64 := Tryz.isAgg141
  z64 := Tryz.sizeOf141
  v64 := Tryz.zeroValue141 }
end Go.Proofs
namespace Go.Proofs.YtijhdekfbjafgaaGreat
open Go Go.RowKit Go.Proofs.YtijhdekfbjafgaaGreat.RW Go.Proofs.YtijhdekfbjafgaaGreat.AM
/-- Compact never makes a list longer. -/
theorem compact_le (l : List Int) : (Lib.compact l).length ≤ l.length := by
  unfold Lib.compact Lib.compactUpTo
  rw [List.length_map]
  exact Nat.le_trans (List.length_filter_le _ _) (by simp)
noncomputable def slices_Compact_int_int (l : List Int) : Option (List Int) := some (Lib.compact l)
noncomputable def slices_Compact_int_int.d : FragD := ⟨⟨[(0, po 0)], [.row 3 (.int .i64)]⟩, [⟨1, ⟨[(0, po 1)], [.gone, .row 3 (.int .i64)]⟩, List Int, fun x => x.2.2.1, fun r => (((), ()), ((), r, ())), fun _ => rfl⟩], fun x => slices_Compact_int_int x.2.1⟩
theorem slices_Compact_int_int.ok : FunOK Tryz.prog 84 slices_Compact_int_int.d := by
  intro x y q z hg ho I π w vs hlen hls hvs hm
  obtain ⟨v, h0, p, hp, rfl⟩ := hvs 0 _ rfl
  match vs, hls, h0 with
  | [v], _, h0 =>
    obtain rfl := Option.some.inj h0
    cases ho
    obtain rfl := Option.some.inj hg
    have hat : atO π I w 0 (some (.row 3 (.int .i64) x.2.1)) := hm.res 0
    obtain ⟨p', cs, hp', hn, hown, hr⟩ := hat
    have hp : π 0 = some p := hp
    rw [hp] at hp'
    obtain rfl := Option.some.inj hp'
    have hcs := reps_ints hr
    subst hcs
    have fin : ∀ (w' : World) (v : Value), w'.ownsRow 0 3 1 v (Lib.compact x.2.1).length ((Lib.compact x.2.1).map (Value.int .i64)) → w.grownBy w' (Value.slice p.A p.n p.c).ownBlock → v.ownBlock = (Value.slice p.A p.n p.c).ownBlock →
        ∃ v0, Ending.returned v = .returned v0 ∧ ∃ π' J, π.le π' ∧ I.le J ∧ SA ⟨w, fpS π (AM.lk (instOb id [.row 3 (.int .i64)] 0 x.2)), I⟩ J π' (AM.lk (instOb id [.gone, .row 3 (.int .i64)] 0 ((), Lib.compact x.2.1, ()) ++ instOb id [.row 3 (.int .i64)] 0 x.2)) w' ∧ ∀ av, AM.lk (instSl id [(0, po 1)] ((), ())) 0 = some av → relV π' J av v0 := by
      intro w' v k1 k2 k3
      obtain ⟨p2, rfl, hp2, hs⟩ := hm.grow (o := 0) (nb := 1) (e := 3) (c := .int .i64) (c0 := .int .i64) (l := Lib.compact x.2.1) (l0 := x.2.1) rfl rfl hp k1 (ints_reps _) k2 (.inl k3)
      refine ⟨_, rfl, _, I, updP_le (hm.dom 1 rfl) p2, Imm.le_refl _, hs.congr (fun o => ?_), fun av hav => ?_⟩
      · match o with
        | 0 => rfl
        | 1 => rfl
        | o + 2 => rfl
      · cases hav
        exact ⟨p2, updP_self _ _ _, rfl⟩
    have hown : w.ownsRow 0 3 1 (Value.slice p.A p.n p.c) x.2.1.length (x.2.1.map (Value.int .i64)) := hown
    rcases hown.2 with ⟨hA, hl0⟩ | ⟨g, cap, cur, e1, _, hb, hcap, hmax, hsz, ht⟩
    · have hl : x.2.1 = [] := List.length_eq_zero_iff.1 hl0
      obtain ⟨hA1, hA2⟩ : p.A = none ∧ p.c = 0 := by
        injection hA with a1 a2 a3
        exact ⟨a1, a3⟩
      have := Any.slices_Compact_int_empty Tryz.compactA p.A p.c w
      rw [show ([Value.slice p.A p.n p.c] : List Value).toArray = #[.slice p.A 0 p.c] by rw [hn, hl]; rfl]
      refine this.mono ?_
      rintro e w' ⟨rfl, rfl⟩
      have hc0 : Lib.compact x.2.1 = [] := List.length_eq_zero_iff.1 (by have := compact_le x.2.1; rw [hl] at this ⊢; simpa using this)
      refine fin w' (.slice p.A 0 p.c) ?_ ⟨rfl, rfl, rfl, Nat.le_refl _, fun _ _ _ => rfl⟩ (by rw [hA1]; rfl)
      rw [hc0, hA1, hA2]
      exact ⟨rfl, .inl ⟨rfl, rfl⟩⟩
    · injection e1 with a1 a2 a3
      have hH : Sort.Holds (Value.int .i64) w g 0 x.2.1.toArray := holds_of_blockI hb (by rw [Nat.mul_one] at ht; exact ht)
      have := Any.slices_Compact_int Tryz.compactA g 0 cap x.2.1 w hH (by have : (maxLen : Nat) = 9223372036854775807 := rfl; omega) hcap
      rw [show ([Value.slice p.A p.n p.c] : List Value).toArray = #[.slice (some ⟨g, 0, none⟩) x.2.1.length cap] by rw [a1, hn, a3]]
      refine this.mono ?_
      rintro e w' ⟨rfl, q, rfl⟩
      have hle := compact_le x.2.1
      have hh := heap_sortedI (n := q) (os := #[]) (Lib.compact x.2.1 ++ List.replicate (x.2.1.length - (Lib.compact x.2.1).length) 0).toArray hb
      have hgb := grownBy_sortedI (w := w) (g := g) (n := q) (os := #[]) (Lib.compact x.2.1 ++ List.replicate (x.2.1.length - (Lib.compact x.2.1).length) 0).toArray
      rw [Sort.grow_empty] at hh hgb
      refine fin _ _ ?_ (by rw [a1]; exact hgb) (by rw [a1]; rfl)
      refine ⟨by simp, .inr ⟨g, cap, _, rfl, Nat.zero_le _, hh, by omega, hmax, by simp [Sort.putCells, hsz], ?_⟩⟩
      have ht2 := take_putCellsI cur (Lib.compact x.2.1 ++ List.replicate (x.2.1.length - (Lib.compact x.2.1).length) 0) (by simp only [List.length_append, List.length_replicate]; omega)
      have ht3 := congrArg (List.take (Lib.compact x.2.1).length) ht2
      rw [List.take_take, List.map_append, List.take_left' (by simp)] at ht3
      rw [Nat.mul_one, ← ht3]
      congr 1
      simp only [List.length_append, List.length_replicate]
      omega
end Go.Proofs.YtijhdekfbjafgaaGreat
namespace Go.Proofs.YtijhdekfbjafgaaGreat
open Go Go.RowKit Go.Proofs.YtijhdekfbjafgaaGreat.RW Go.Proofs.YtijhdekfbjafgaaGreat.AM
def ins (x : Int) : List Int → List Int
  | [] => [x]
  | y :: l => bif decide (x ≤ y) then x :: y :: l else y :: ins x l
def sortI : List Int → List Int
  | [] => []
  | x :: l => ins x (sortI l)
theorem ins_perm (x : Int) : ∀ l, (ins x l).Perm (x :: l)
  | [] => List.Perm.refl _
  | y :: l => by
    unfold ins
    cases decide (x ≤ y) with
    | true => exact List.Perm.refl _
    | false => exact ((ins_perm x l).cons y).trans (List.Perm.swap x y l)
theorem sortI_perm : ∀ l, (sortI l).Perm l
  | [] => List.Perm.refl _
  | x :: l => (ins_perm x _).trans ((sortI_perm l).cons x)
theorem ins_sorted (x : Int) : ∀ l : List Int, l.Pairwise (· ≤ ·) → (ins x l).Pairwise (· ≤ ·)
  | [], _ => by simp [ins]
  | y :: l, h => by
    unfold ins
    cases hd : decide (x ≤ y) with
    | true =>
      have hd := of_decide_eq_true hd
      refine List.pairwise_cons.2 ⟨fun z hz => ?_, h⟩
      rcases List.mem_cons.1 hz with rfl | hz
      · exact hd
      · exact Int.le_trans hd ((List.pairwise_cons.1 h).1 z hz)
    | false =>
      have hd : ¬ x ≤ y := of_decide_eq_false hd
      obtain ⟨h1, h2⟩ := List.pairwise_cons.1 h
      refine List.pairwise_cons.2 ⟨fun z hz => ?_, ins_sorted x l h2⟩
      rcases List.mem_cons.1 ((ins_perm x l).mem_iff.1 hz) with rfl | hz
      · omega
      · exact h1 z hz
theorem sortI_sorted : ∀ l, (sortI l).Pairwise (· ≤ ·)
  | [] => List.Pairwise.nil
  | x :: l => ins_sorted x _ (sortI_sorted l)
theorem sortI_eq (l : List Int) : l.mergeSort (fun x y => decide (x ≤ y)) = sortI l := by
  refine List.Perm.eq_of_pairwise (le := (· ≤ ·)) (fun a b _ _ h1 h2 => Int.le_antisymm h1 h2) ?_ (sortI_sorted l) ((List.mergeSort_perm l _).trans (sortI_perm l).symm)
  have := List.pairwise_mergeSort (le := fun x y : Int => decide (x ≤ y)) (fun a b c h1 h2 => by simp at *; omega) (fun a b => by simp; omega) l
  exact this.imp (fun h => of_decide_eq_true h)
theorem sortI_len (l : List Int) : (sortI l).length = l.length := (sortI_perm l).length_eq
noncomputable def slices_Sort_int_int (l : List Int) : Option (List Int) := bif decide (l.length < 4611686018427387904) then some (sortI l) else none
noncomputable def slices_Sort_int_int.d : FragD := ⟨⟨[(0, po 0)], [.row 3 (.int .i64)]⟩, [⟨1, ⟨[(0, .tup [])], [.row 3 (.int .i64)]⟩, List Int, fun x => x.2.1, fun r => (((), ()), (r, ())), fun _ => rfl⟩], fun x => slices_Sort_int_int x.2.1⟩
theorem slices_Sort_int_int.ok : FunOK Tryz.prog 83 slices_Sort_int_int.d := by
  intro x y q z hg ho I π w vs hlen hls hvs hm
  obtain ⟨v, h0, p, hp, rfl⟩ := hvs 0 _ rfl
  match vs, hls, h0 with
  | [v], _, h0 =>
    obtain rfl := Option.some.inj h0
    cases ho
    have hg : (bif decide (x.2.1.length < 4611686018427387904) then some (sortI x.2.1) else none) = some y := hg
    cases hd : decide (x.2.1.length < 4611686018427387904) with
    | false => rw [hd] at hg; cases hg
    | true =>
    rw [hd] at hg
    obtain rfl := Option.some.inj hg
    have hsz := of_decide_eq_true hd
    have hat : atO π I w 0 (some (.row 3 (.int .i64) x.2.1)) := hm.res 0
    obtain ⟨p', cs, hp', hn, hown, hr⟩ := hat
    have hp : π 0 = some p := hp
    rw [hp] at hp'
    obtain rfl := Option.some.inj hp'
    have hcs := reps_ints hr
    subst hcs
    have fin : ∀ (w' : World), w'.ownsRow 0 3 1 (.slice p.A p.n p.c) (sortI x.2.1).length ((sortI x.2.1).map (Value.int .i64)) → w.grownBy w' (Value.slice p.A p.n p.c).ownBlock →
        ∃ v0, Ending.returned (.tuple #[]) = .returned v0 ∧ ∃ π' J, π.le π' ∧ I.le J ∧ SA ⟨w, fpS π (AM.lk (instOb id [.row 3 (.int .i64)] 0 x.2)), I⟩ J π' (AM.lk (instOb id [.row 3 (.int .i64)] 0 (sortI x.2.1, ()) ++ instOb id [.row 3 (.int .i64)] 0 x.2)) w' ∧ ∀ av, AM.lk (instSl id [(0, .tup [])] ((), ())) 0 = some av → relV π' J av v0 := by
      intro w' k1 k2
      have hs := hm.turn (o := 0) (e := 3) (c := .int .i64) (c0 := .int .i64) (l := sortI x.2.1) (l0 := x.2.1) rfl hp (by rw [sortI_len]; exact hn) k1 (ints_reps _) k2
      refine ⟨_, rfl, π, I, Pi.le_refl _, Imm.le_refl _, hs.congr (fun o => ?_), fun av hav => ?_⟩
      · match o with
        | 0 => rfl
        | o + 1 => rfl
      · cases hav
        exact ⟨[], rfl, trivial⟩
    have hown : w.ownsRow 0 3 1 (Value.slice p.A p.n p.c) x.2.1.length (x.2.1.map (Value.int .i64)) := hown
    rcases hown.2 with ⟨hA, hl0⟩ | ⟨g, cap, cur, e1, _, hb, hcap, hmax, hsz2, ht⟩
    · have hl : x.2.1 = [] := List.length_eq_zero_iff.1 hl0
      have := AnyM.slices_Sort_int_none Tryz.sortA p.A p.c w
      rw [show ([Value.slice p.A p.n p.c] : List Value).toArray = #[.slice p.A 0 p.c] by rw [hn, hl]; rfl]
      refine this.mono ?_
      rintro e w' ⟨rfl, rfl⟩
      have hc0 : sortI x.2.1 = x.2.1 := by rw [hl]; simp [sortI]
      exact fin w' (by rw [hc0]; exact hown) ⟨rfl, rfl, rfl, Nat.le_refl _, fun _ _ _ => rfl⟩
    · injection e1 with a1 a2 a3
      have hH : Sort.Holds (Value.int .i64) w g 0 x.2.1.toArray := holds_of_blockI hb (by rw [Nat.mul_one] at ht; exact ht)
      have := AnyM.slices_Sort_int Tryz.sortA g 0 cap x.2.1 w hH (Array.getElem?_eq_some_iff.1 hb).1 hsz
      rw [sortI_eq] at this
      rw [show ([Value.slice p.A p.n p.c] : List Value).toArray = #[.slice (some ⟨g, 0, none⟩) x.2.1.length cap] by rw [a1, hn, a3]]
      refine this.mono ?_
      rintro e w' ⟨rfl, n, os, rfl⟩
      refine fin _ ?_ (by rw [a1]; exact grownBy_sortedI _)
      have := ownsRow_sortedI (w := w) (base := 0) (g := g) (cap := cap) (n := n) (e := 3) (os := os) (ss := x.2.1) (ts := sortI x.2.1) (sortI_len _) (Nat.zero_le _) hb hcap hmax hsz2
      rw [a1, a3, hn, sortI_len]
      exact this
end Go.Proofs.YtijhdekfbjafgaaGreat
set_option linter.unusedVariables false
namespace Go.Proofs.YtijhdekfbjafgaaGreat
open Go Go.RowKit Go.Proofs.YtijhdekfbjafgaaGreat.RW Go.Proofs.YtijhdekfbjafgaaGreat.AM
namespace replica_New
noncomputable abbrev K := cBody Tryz.f17
noncomputable abbrev F : List (Nat × FragD) := []
theorem Fok : AllF Tryz.prog (F) := trivial
end replica_New
open replica_New in
noncomputable def replica_New (t0 : Int) (t1 : Int) : Option S33 :=
some (t0, t1, 0, ([] : List S28), ([] : List S28), ([] : List S26))
noncomputable def replica_New.d : FragD := ⟨⟨[(0, pi), (1, pi)], []⟩, [⟨1, ⟨[(0, pst c33)], []⟩, S33, fun x => x.1.1, fun r => ((r, ()), ()), fun _ => rfl⟩], fun x => replica_New x.1.1 x.1.2.1⟩
open replica_New in
theorem replica_New.ok : FunOK Tryz.prog 17 (replica_New.d) := funR ⟨Tryz.prog, 8, F, [], [], []⟩ Tryz.f17 (by kernel_rfl) (by kernel_rfl) (by kernel_rfl) (Fok) trivial noL (by kernel_rfl) (fun x => by kernel_rfl)

namespace codec_validEntry
noncomputable abbrev K := cBody Tryz.f60
noncomputable abbrev F : List (Nat × FragD) := []
theorem Fok : AllF Tryz.prog (F) := trivial
end codec_validEntry
open codec_validEntry in
noncomputable def codec_validEntry (t0 : S26) : Option Bool :=
bif decide (t0.1 ≥ 1) then
bif decide (t0.1 ≤ 4) then
bif (decide ((t0.2.1.size : Int) ≥ 1)) then
bif (decide ((t0.2.1.size : Int) ≤ 40)) then
some (decide ((t0.2.2.length : Int) ≤ 20000))
else
some false
else
some false
else
some false
else
some false
noncomputable def codec_validEntry.d : FragD := ⟨⟨[(0, pst c26)], []⟩, [⟨1, ⟨[(0, pb)], []⟩, Bool, fun x => x.1.1, fun r => ((r, ()), ()), fun _ => rfl⟩], fun x => codec_validEntry x.1.1⟩
open codec_validEntry in
theorem codec_validEntry.ok : FunOK Tryz.prog 60 (codec_validEntry.d) := funR ⟨Tryz.prog, 29, F, [], [], []⟩ Tryz.f60 (by kernel_rfl) (by kernel_rfl) (by kernel_rfl) (Fok) trivial noL (by kernel_rfl) (fun x => by kernel_rfl)

namespace slices_Clip_byte_byte
noncomputable abbrev K := cBody Tryz.f79
noncomputable abbrev F : List (Nat × FragD) := []
theorem Fok : AllF Tryz.prog (F) := trivial
end slices_Clip_byte_byte
open slices_Clip_byte_byte in
noncomputable def slices_Clip_byte_byte (t0 : List Int) : Option (List Int) :=
ck (decide ((t0.length : Int) = (t0.length : Int))) <|
ck (inb (t0.length : Int) (t0.length + 1)) <|
some (t0.take (t0.length : Int).toNat)
noncomputable def slices_Clip_byte_byte.d : FragD := ⟨⟨[(0, ph (.row (.int .u8)))], []⟩, [⟨1, ⟨[(0, .w (.c (.full (.int .u8))))], []⟩, List Int, fun x => x.1.1, fun r => ((r, ()), ()), fun _ => rfl⟩], fun x => slices_Clip_byte_byte x.1.1⟩
open slices_Clip_byte_byte in
theorem slices_Clip_byte_byte.ok : FunOK Tryz.prog 79 (slices_Clip_byte_byte.d) := funR ⟨Tryz.prog, 9, F, [], [], []⟩ Tryz.f79 (by kernel_rfl) (by kernel_rfl) (by kernel_rfl) (Fok) trivial noL (by kernel_rfl) (fun x => by kernel_rfl)

namespace codec_AppendVarint
noncomputable abbrev K := cBody Tryz.f62
noncomputable abbrev F (n : Nat) : List (Nat × FragD) := [(79, slices_Clip_byte_byte.d)]
theorem Fok (n : Nat) : AllF Tryz.prog (F n) := ⟨slices_Clip_byte_byte.ok, trivial⟩
noncomputable def s0 (n : Nat) (t5 : Int) (o0 : List Int) : Option ((Int × List Int) ⊕ (Int × List Int)) :=
bif decide (t5 ≥ 128) then
ck (room (o0.length + 1) 1) <|
some (.inl (Int.fdiv t5 128, (o0 ++ [bOr .u8 (W .u8 t5) 128])))
else
some (.inr (t5, o0))
noncomputable def l0 (n : Nat) : Nat → Int → List Int → Option (Int × List Int)
| 0, _, _ => none
| k + 1, t5, o0 => (s0 n t5 o0).bind fun z => sm z (fun z => l0 n k z.1 z.2) some
noncomputable def L0 (n : Nat) : LoopD := ⟨[(0, po 0), (5, ph (.int .u64))], [], [.row 5 (.int .u8)], Int × List Int, fun x => (x.1.2.1, x.2.1), fun r => (((), r.1, ()), (r.2, ())), fun _ => rfl, ⟨2, ⟨[(0, po 1), (5, ph (.int .u64))], [.gone, .row 5 (.int .u8)]⟩, Int × List Int, fun x => (x.1.2.1, x.2.2.1), fun r => (((), r.1, ()), ((), r.2, ())), fun _ => rfl⟩, [], fun x => s0 n x.1.2.1 x.2.1, []⟩
theorem T0 (n : Nat) : FragOKL n Tryz.prog 30 (atN K 400 120) ((L0 n).loopD fun x => l0 n n x.1.2.1 x.2.1) := loopL (L0 n) 60 (by kernel_rfl) (fragK ⟨Tryz.prog, 30, F n, [], [], []⟩ (Fok n) trivial noL 120 (by kernel_rfl) (fun x => by kernel_rfl)) (fun k x => l0 n k x.1.2.1 x.2.1) (fun x => by kernel_rfl) (fun k x => by kernel_rfl) n
noncomputable abbrev q0 (n : Nat) : List (Nat × FragD) := (60, ((L0 n).loopD fun x => l0 n n x.1.2.1 x.2.1)) :: []
theorem Q0 (n : Nat) : AllL n Tryz.prog 30 K (q0 n) := ⟨T0 n, trivial⟩
end codec_AppendVarint
open codec_AppendVarint in
noncomputable def codec_AppendVarint (n : Nat) (t0 : List Int) (t1 : Int) : Option (List Int) :=
let v2 := bXor .u64 (W .u64 (W .i64 (t1 * 2))) (W .u64 (Int.fdiv t1 9223372036854775808));
(slices_Clip_byte_byte t0).bind fun z3 =>
bif decide (v2 ≥ 128) then
ck (room (z3.length + 1) 1) <|
(l0 n n (Int.fdiv v2 128) (z3 ++ [bOr .u8 (W .u8 v2) 128])).bind fun z6 =>
ck (room (z6.2.length + 1) 1) <|
some (z6.2 ++ [W .u8 z6.1])
else
ck (room (z3.length + 1) 1) <|
some (z3 ++ [W .u8 v2])
noncomputable def codec_AppendVarint.d (n : Nat) : FragD := ⟨⟨[(0, ph (.row (.int .u8))), (1, pi)], []⟩, [⟨1, ⟨[(0, po 0)], [.row 5 (.int .u8)]⟩, List Int, fun x => x.2.1, fun r => (((), ()), (r, ())), fun _ => rfl⟩], fun x => codec_AppendVarint n x.1.1 x.1.2.1⟩
open codec_AppendVarint in
theorem codec_AppendVarint.ok (n : Nat) : FunOK Tryz.prog 62 (codec_AppendVarint.d n) := funR ⟨Tryz.prog, 30, F n, [], (q0 n), []⟩ Tryz.f62 (by kernel_rfl) (by kernel_rfl) (by kernel_rfl) (Fok n) trivial (Q0 n) (by kernel_rfl) (fun x => by kernel_rfl)

namespace codec_appendBytes
noncomputable abbrev K := cBody Tryz.f61
noncomputable abbrev F (n : Nat) : List (Nat × FragD) := [(62, codec_AppendVarint.d n)]
theorem Fok (n : Nat) : AllF Tryz.prog (F n) := ⟨codec_AppendVarint.ok n, trivial⟩
end codec_appendBytes
open codec_appendBytes in
noncomputable def codec_appendBytes (n : Nat) (t0 : List Int) (t1 : List Int) : Option (List Int) :=
(codec_AppendVarint n t0 (t1.length : Int)).bind fun z1 =>
ck (room (z1.length + t1.length) 1) <|
some (z1 ++ t1)
noncomputable def codec_appendBytes.d (n : Nat) : FragD := ⟨⟨[(0, ph (.row (.int .u8))), (1, ph (.row (.int .u8)))], []⟩, [⟨1, ⟨[(0, po 0)], [.row 5 (.int .u8)]⟩, List Int, fun x => x.2.1, fun r => (((), ()), (r, ())), fun _ => rfl⟩], fun x => codec_appendBytes n x.1.1 x.1.2.1⟩
open codec_appendBytes in
theorem codec_appendBytes.ok (n : Nat) : FunOK Tryz.prog 61 (codec_appendBytes.d n) := funR ⟨Tryz.prog, 11, F n, [], [], []⟩ Tryz.f61 (by kernel_rfl) (by kernel_rfl) (by kernel_rfl) (Fok n) trivial noL (by kernel_rfl) (fun x => by kernel_rfl)

namespace codec_EncodeEntry
noncomputable abbrev K := cBody Tryz.f29
noncomputable abbrev F (n : Nat) : List (Nat × FragD) := [(60, codec_validEntry.d), (62, codec_AppendVarint.d n), (61, codec_appendBytes.d n)]
theorem Fok (n : Nat) : AllF Tryz.prog (F n) := ⟨codec_validEntry.ok, codec_AppendVarint.ok n, codec_appendBytes.ok n, trivial⟩
end codec_EncodeEntry
open codec_EncodeEntry in
noncomputable def codec_EncodeEntry (n : Nat) (t0 : S26) : Option (Int × List Int) :=
(codec_validEntry t0).bind fun z1 =>
bif !z1 then
some (1, ([] : List Int))
else
(codec_AppendVarint n ([] : List Int) t0.1).bind fun z2 =>
ck (decide (t0.2.1.size ≤ 9223372036854775807)) <|
(codec_appendBytes n z2 (bytesOf t0.2.1)).bind fun z3 =>
(codec_appendBytes n z3 t0.2.2).bind fun z4 =>
some (0, z4)
noncomputable def codec_EncodeEntry.d (n : Nat) : FragD := ⟨⟨[(0, pst c26)], []⟩, [⟨1, ⟨[(0, .tup [.c (.sl 0), .c (.h (.int .i64))])], [.row 5 (.int .u8)]⟩, Int × List Int, fun x => (x.1.1.2.1, x.2.1), fun r => ((((), r.1, ()), ()), (r.2, ())), fun _ => rfl⟩], fun x => codec_EncodeEntry n x.1.1⟩
open codec_EncodeEntry in
theorem codec_EncodeEntry.ok (n : Nat) : FunOK Tryz.prog 29 (codec_EncodeEntry.d n) := funR ⟨Tryz.prog, 19, F n, [], [], []⟩ Tryz.f29 (by kernel_rfl) (by kernel_rfl) (by kernel_rfl) (Fok n) trivial noL (by kernel_rfl) (fun x => by kernel_rfl)

namespace quorum_group_possible
noncomputable abbrev K := cBody Tryz.f63
noncomputable abbrev F : List (Nat × FragD) := []
theorem Fok : AllF Tryz.prog (F) := trivial
end quorum_group_possible
open quorum_group_possible in
noncomputable def quorum_group_possible (t0 : Int) : Option Bool :=
bif decide (t0 ≥ 1) then
some (decide (t0 ≤ 13))
else
some false
noncomputable def quorum_group_possible.d : FragD := ⟨⟨[(0, pi)], []⟩, [⟨1, ⟨[(0, pb)], []⟩, Bool, fun x => x.1.1, fun r => ((r, ()), ()), fun _ => rfl⟩], fun x => quorum_group_possible x.1.1⟩
open quorum_group_possible in
theorem quorum_group_possible.ok : FunOK Tryz.prog 63 (quorum_group_possible.d) := funR ⟨Tryz.prog, 9, F, [], [], []⟩ Tryz.f63 (by kernel_rfl) (by kernel_rfl) (by kernel_rfl) (Fok) trivial noL (by kernel_rfl) (fun x => by kernel_rfl)

namespace quorum_Leader
noncomputable abbrev K := cBody Tryz.f30
noncomputable abbrev F : List (Nat × FragD) := [(63, quorum_group_possible.d)]
theorem Fok : AllF Tryz.prog (F) := ⟨quorum_group_possible.ok, trivial⟩
end quorum_Leader
open quorum_Leader in
noncomputable def quorum_Leader (t0 : Int) (t1 : Int) : Option Int :=
(quorum_group_possible t0).bind fun z1 =>
bif !z1 then
some (-1)
else
bif decide (t1 < 0) then
some (-1)
else
ck (!decide (t0 = 0)) <|
some (t1.tmod t0)
noncomputable def quorum_Leader.d : FragD := ⟨⟨[(0, pi), (1, pi)], []⟩, [⟨1, ⟨[(0, pi)], []⟩, Int, fun x => x.1.1, fun r => ((r, ()), ()), fun _ => rfl⟩], fun x => quorum_Leader x.1.1 x.1.2.1⟩
open quorum_Leader in
theorem quorum_Leader.ok : FunOK Tryz.prog 30 (quorum_Leader.d) := funR ⟨Tryz.prog, 15, F, [], [], []⟩ Tryz.f30 (by kernel_rfl) (by kernel_rfl) (by kernel_rfl) (Fok) trivial noL (by kernel_rfl) (fun x => by kernel_rfl)

namespace replica_machine_position
noncomputable abbrev K := cBody Tryz.f31
noncomputable abbrev F : List (Nat × FragD) := []
theorem Fok : AllF Tryz.prog (F) := trivial
end replica_machine_position
open replica_machine_position in
noncomputable def replica_machine_position (o0 : S33) : Option Int :=
some (o0.2.2.2.2.2.length : Int)
noncomputable def replica_machine_position.d : FragD := ⟨⟨[(0, pp 0)], [.stb 55 c33]⟩, [⟨1, ⟨[(0, pi)], [.same]⟩, Int, fun x => x.1.1, fun r => ((r, ()), ((), ())), fun _ => rfl⟩], fun x => replica_machine_position x.2.1⟩
open replica_machine_position in
theorem replica_machine_position.ok : FunOK Tryz.prog 31 (replica_machine_position.d) := funR ⟨Tryz.prog, 9, F, [], [], []⟩ Tryz.f31 (by kernel_rfl) (by kernel_rfl) (by kernel_rfl) (Fok) trivial noL (by kernel_rfl) (fun x => by kernel_rfl)

namespace replica_machine_sent_1
noncomputable abbrev K := cBody Tryz.f64
noncomputable abbrev F : List (Nat × FragD) := [(31, replica_machine_position.d)]
theorem Fok : AllF Tryz.prog (F) := ⟨replica_machine_position.ok, trivial⟩
end replica_machine_sent_1
open replica_machine_sent_1 in
noncomputable def replica_machine_sent_1 (t0 : S28) (o0 : Int) (o2 : S33) : Option Bool :=
bif t0.1 == o0 then
bif t0.2.2.1 == o2.2.2.1 then
(replica_machine_position o2).bind fun z1 =>
some (t0.2.2.2.1 == z1)
else
some false
else
some false
noncomputable def replica_machine_sent_1.d : FragD := ⟨⟨[(0, pst c28), (1, pp 0), (2, pp 1)], [.stb 3 (.int .i64), .blk 53 [.ptr 2 0], .stb 55 c33]⟩, [⟨1, ⟨[(0, pb)], [.same, .same, .same]⟩, Bool, fun x => x.1.1, fun r => ((r, ()), ((), (), (), ())), fun _ => rfl⟩], fun x => replica_machine_sent_1 x.1.1 x.2.1 x.2.2.2.1⟩
open replica_machine_sent_1 in
theorem replica_machine_sent_1.ok : FunOK Tryz.prog 64 (replica_machine_sent_1.d) := funR ⟨Tryz.prog, 26, F, [], [], []⟩ Tryz.f64 (by kernel_rfl) (by kernel_rfl) (by kernel_rfl) (Fok) trivial noL (by kernel_rfl) (fun x => by kernel_rfl)

namespace api_Message_49
noncomputable abbrev K := cBody Tryz.f49
noncomputable abbrev F (n : Nat) : List (Nat × FragD) := [(64, replica_machine_sent_1.d)]
theorem Fok (n : Nat) : AllF Tryz.prog (F n) := ⟨replica_machine_sent_1.ok, trivial⟩
noncomputable def s0 (n : Nat) (t8 : Int) (t0 : List S28) (t7 : Int) (o0 : Int) (o2 : S33) : Option ((Int × Int × S33) ⊕ ((Int × Int × S33) ⊕ (Int × S33))) :=
bif decide (t8 < t7) then
ck (inb t8 t0.length) <|
(replica_machine_sent_1 ((t0.getD t8.toNat z28).1, ((t0.getD t8.toNat z28).2).1, (((t0.getD t8.toNat z28).2).2).1, ((((t0.getD t8.toNat z28).2).2).2).1, (((((t0.getD t8.toNat z28).2).2).2).2).1, ((((((t0.getD t8.toNat z28).2).2).2).2).2).1, (((((((t0.getD t8.toNat z28).2).2).2).2).2).2)) o0 o2).bind fun z1 =>
bif z1 then
some (.inr (.inl (t8, o0, o2)))
else
some (.inl (W .i64 (t8 + 1), o0, o2))
else
some (.inr (.inr (o0, o2)))
noncomputable def l0 (n : Nat) : Nat → Int → List S28 → Int → Int → S33 → Option ((Int × Int × S33) ⊕ (Int × S33))
| 0, _, _, _, _, _ => none
| k + 1, t8, t0, t7, o0, o2 => (s0 n t8 t0 t7 o0 o2).bind fun z => sm z (fun z => l0 n k z.1 t0 t7 z.2.1 z.2.2) some
noncomputable def L0 (n : Nat) : LoopD := ⟨[(1, .w (.c (.fn 64 [] [(0, 0), (1, 0)]))), (8, pi)], [(0, ph (.row c28)), (7, pi)], [.stb 3 (.int .i64), .blk 53 [.ptr 2 0], .stb 55 c33], Int × Int × S33, fun x => (x.1.2.1, x.2.1, x.2.2.2.1), fun r => (((), r.1, ()), (r.2.1, ((), ()), r.2.2, ())), fun _ => rfl, ⟨1, ⟨[(4, pi)], [.stb 3 (.int .i64), .blk 53 [.ptr 2 0], .stb 55 c33]⟩, Int × Int × S33, fun x => (x.1.1, x.2.1, x.2.2.2.1), fun r => ((r.1, ()), (r.2.1, ((), ()), r.2.2, ())), fun _ => rfl⟩, [⟨2, ⟨[], [.stb 3 (.int .i64), .blk 53 [.ptr 2 0], .stb 55 c33]⟩, Int × S33, fun x => (x.2.1, x.2.2.2.1), fun r => ((), (r.1, ((), ()), r.2, ())), fun _ => rfl⟩], fun x => s0 n x.1.2.1 x.1.2.2.1 x.1.2.2.2.1 x.2.1 x.2.2.2.1, [0, 1, 2]⟩
theorem T0 (n : Nat) : FragOK Tryz.prog 19 (atN K 400 26) ((L0 n).loopD fun x => l0 n n x.1.2.1 x.1.2.2.1 x.1.2.2.2.1 x.2.1 x.2.2.2.1) := loopR (L0 n) 26 (by kernel_rfl) (by kernel_rfl) (fragK ⟨Tryz.prog, 19, F n, [], [], []⟩ (Fok n) trivial noL 52 (by kernel_rfl) (fun x => by kernel_rfl)) (fun k x => l0 n k x.1.2.1 x.1.2.2.1 x.1.2.2.2.1 x.2.1 x.2.2.2.1) (fun x => by kernel_rfl) (fun k x => by kernel_rfl) n
noncomputable abbrev r0 (n : Nat) : List (Nat × FragD) := (26, ((L0 n).loopD fun x => l0 n n x.1.2.1 x.1.2.2.1 x.1.2.2.2.1 x.2.1 x.2.2.2.1)) :: []
theorem R0 (n : Nat) : AllFr Tryz.prog 19 K (r0 n) := ⟨T0 n, trivial⟩
end api_Message_49
open api_Message_49 in
noncomputable def api_Message_49 (n : Nat) (t0 : List S28) (o0 : Int) (o2 : S33) : Option (Int × Int × S33) :=
(l0 n n 0 t0 (t0.length : Int) o0 o2).bind fun z2 =>
sm z2 (fun z3 =>
some (z3.1, z3.2.1, z3.2.2)) fun z4 =>
some ((-1), z4.1, z4.2)
noncomputable def api_Message_49.d (n : Nat) : FragD := ⟨⟨[(0, ph (.row c28)), (1, .w (.c (.fn 64 [] [(0, 0), (1, 0)])))], [.stb 3 (.int .i64), .blk 53 [.ptr 2 0], .stb 55 c33]⟩, [⟨1, ⟨[(0, pi)], [.stb 3 (.int .i64), .blk 53 [.ptr 2 0], .stb 55 c33]⟩, Int × Int × S33, fun x => (x.1.1, x.2.1, x.2.2.2.1), fun r => ((r.1, ()), (r.2.1, ((), ()), r.2.2, ())), fun _ => rfl⟩], fun x => api_Message_49 n x.1.1 x.2.1 x.2.2.2.1⟩
open api_Message_49 in
theorem api_Message_49.ok (n : Nat) : FunOK Tryz.prog 49 (api_Message_49.d n) := funR ⟨Tryz.prog, 19, F n, (r0 n), [], []⟩ Tryz.f49 (by kernel_rfl) (by kernel_rfl) (by kernel_rfl) (Fok n) (R0 n) noL (by kernel_rfl) (fun x => by kernel_rfl)

namespace api_Message_24
noncomputable abbrev K := cBody Tryz.f24
noncomputable abbrev F (n : Nat) : List (Nat × FragD) := [(49, api_Message_49.d n)]
theorem Fok (n : Nat) : AllF Tryz.prog (F n) := ⟨api_Message_49.ok n, trivial⟩
end api_Message_24
open api_Message_24 in
noncomputable def api_Message_24 (n : Nat) (t0 : List S28) (o0 : Int) (o2 : S33) : Option (Bool × Int × S33) :=
(api_Message_49 n t0 o0 o2).bind fun z1 =>
some (decide (z1.1 ≥ 0), z1.2.1, z1.2.2)
noncomputable def api_Message_24.d (n : Nat) : FragD := ⟨⟨[(0, ph (.row c28)), (1, .w (.c (.fn 64 [] [(0, 0), (1, 0)])))], [.stb 3 (.int .i64), .blk 53 [.ptr 2 0], .stb 55 c33]⟩, [⟨1, ⟨[(0, pb)], [.stb 3 (.int .i64), .blk 53 [.ptr 2 0], .stb 55 c33]⟩, Bool × Int × S33, fun x => (x.1.1, x.2.1, x.2.2.2.1), fun r => ((r.1, ()), (r.2.1, ((), ()), r.2.2, ())), fun _ => rfl⟩], fun x => api_Message_24 n x.1.1 x.2.1 x.2.2.2.1⟩
open api_Message_24 in
theorem api_Message_24.ok (n : Nat) : FunOK Tryz.prog 24 (api_Message_24.d n) := funR ⟨Tryz.prog, 9, F n, [], [], []⟩ Tryz.f24 (by kernel_rfl) (by kernel_rfl) (by kernel_rfl) (Fok n) trivial noL (by kernel_rfl) (fun x => by kernel_rfl)

namespace replica_machine_sent
noncomputable abbrev K := cBody Tryz.f32
noncomputable abbrev F (n : Nat) : List (Nat × FragD) := [(24, api_Message_24.d n)]
theorem Fok (n : Nat) : AllF Tryz.prog (F n) := ⟨api_Message_24.ok n, trivial⟩
end replica_machine_sent
open replica_machine_sent in
noncomputable def replica_machine_sent (n : Nat) (t1 : Int) (o0 : S33) : Option (Bool × S33) :=
(api_Message_24 n o0.2.2.2.2.1 t1 o0).bind fun z1 =>
some (z1.1, z1.2.2)
noncomputable def replica_machine_sent.d (n : Nat) : FragD := ⟨⟨[(0, pp 0), (1, pi)], [.stb 55 c33]⟩, [⟨1, ⟨[(0, pb)], [.stb 55 c33]⟩, Bool × S33, fun x => (x.1.1, x.2.1), fun r => ((r.1, ()), (r.2, ())), fun _ => rfl⟩], fun x => replica_machine_sent n x.1.2.1 x.2.1⟩
open replica_machine_sent in
theorem replica_machine_sent.ok (n : Nat) : FunOK Tryz.prog 32 (replica_machine_sent.d n) := funR ⟨Tryz.prog, 12, F n, [], [], []⟩ Tryz.f32 (by kernel_rfl) (by kernel_rfl) (by kernel_rfl) (Fok n) trivial noL (by kernel_rfl) (fun x => by kernel_rfl)

namespace replica_machine_slot
noncomputable abbrev K := cBody Tryz.f34
noncomputable abbrev F : List (Nat × FragD) := [(31, replica_machine_position.d)]
theorem Fok : AllF Tryz.prog (F) := ⟨replica_machine_position.ok, trivial⟩
end replica_machine_slot
open replica_machine_slot in
noncomputable def replica_machine_slot (t1 : Int) (o0 : S33) : Option S65 :=
(replica_machine_position o0).bind fun z1 =>
some (t1, z1)
noncomputable def replica_machine_slot.d : FragD := ⟨⟨[(0, pp 0), (1, pi)], [.stb 55 c33]⟩, [⟨1, ⟨[(0, pst c65)], [.same]⟩, S65, fun x => x.1.1, fun r => ((r, ()), ((), ())), fun _ => rfl⟩], fun x => replica_machine_slot x.1.2.1 x.2.1⟩
open replica_machine_slot in
theorem replica_machine_slot.ok : FunOK Tryz.prog 34 (replica_machine_slot.d) := funR ⟨Tryz.prog, 9, F, [], [], []⟩ Tryz.f34 (by kernel_rfl) (by kernel_rfl) (by kernel_rfl) (Fok) trivial noL (by kernel_rfl) (fun x => by kernel_rfl)


namespace quorum_bare
noncomputable abbrev K := cBody Tryz.f69
noncomputable abbrev F : List (Nat × FragD) := []
theorem Fok : AllF Tryz.prog (F) := trivial
end quorum_bare
open quorum_bare in
noncomputable def quorum_bare (t0 : S28) : Option Bool :=
bif t0.2.2.2.2.2.1 == 0 then
bif (t0.2.2.2.2.2.2.1.toList == (⟨#[]⟩ : ByteArray).toList) then
some ((t0.2.2.2.2.2.2.2.length : Int) == 0)
else
some false
else
some false
noncomputable def quorum_bare.d : FragD := ⟨⟨[(0, pst c28)], []⟩, [⟨1, ⟨[(0, pb)], []⟩, Bool, fun x => x.1.1, fun r => ((r, ()), ()), fun _ => rfl⟩], fun x => quorum_bare x.1.1⟩
open quorum_bare in
theorem quorum_bare.ok : FunOK Tryz.prog 69 (quorum_bare.d) := funR ⟨Tryz.prog, 20, F, [], [], []⟩ Tryz.f69 (by kernel_rfl) (by kernel_rfl) (by kernel_rfl) (Fok) trivial noL (by kernel_rfl) (fun x => by kernel_rfl)

namespace quorum_group_valid
noncomputable abbrev K := cBody Tryz.f48
noncomputable abbrev F (n : Nat) : List (Nat × FragD) := [(63, quorum_group_possible.d), (29, codec_EncodeEntry.d n), (30, quorum_Leader.d), (36, codec_Checksum.d), (69, quorum_bare.d)]
theorem Fok (n : Nat) : AllF Tryz.prog (F n) := ⟨quorum_group_possible.ok, codec_EncodeEntry.ok n, quorum_Leader.ok, codec_Checksum.ok, quorum_bare.ok, trivial⟩
noncomputable def j0 (n : Nat) (t0 : Int) (o0 : S28) : Option (Unit ⊕ Bool) :=
(quorum_group_possible t0).bind fun z1 =>
bif !z1 then
some (.inr false)
else
bif decide (o0.2.1 < 0) then
some (.inr false)
else
bif decide (o0.2.1 ≥ t0) then
some (.inr false)
else
bif decide (o0.2.2.1 < 0) then
some (.inr false)
else
bif (decide (o0.2.2.1 > 1048576)) then
some (.inr false)
else
bif decide (o0.2.2.2.1 < 0) then
some (.inr false)
else
bif (decide (o0.2.2.2.1 ≥ 1000)) then
some (.inr false)
else
some (.inl ())
noncomputable def D0 (n : Nat) : FragD := ⟨⟨[(0, pi), (3, pp 0)], [.stb 28 c28]⟩, [⟨0, ⟨[], [.same]⟩, Unit, fun _ => (), fun _ => ((), ((), ())), fun _ => rfl⟩, ⟨1, ⟨[(4, pb)], [.same]⟩, Bool, fun x => x.1.1, fun r => ((r, ()), ((), ())), fun _ => rfl⟩], fun x => j0 n x.1.1 x.2.1⟩
theorem T0 (n : Nat) : FragOK Tryz.prog 88 (atN K 400 6) (D0 n) := fragR ⟨Tryz.prog, 88, F n, [], [], []⟩ (Fok n) trivial noL 6 (by kernel_rfl) (fun x => by kernel_rfl)
noncomputable abbrev r0 (n : Nat) : List (Nat × FragD) := (6, D0 n) :: []
theorem R0 (n : Nat) : AllFr Tryz.prog 88 K (r0 n) := ⟨T0 n, trivial⟩
noncomputable def j1 (n : Nat) (t42 : Int) : Option Bool :=
bif t42 == 2 then
some (t42 == 2)
else
some (t42 == 3)
noncomputable def D1 (n : Nat) : FragD := ⟨⟨[(42, pi)], []⟩, [⟨0, ⟨[(69, pb)], []⟩, Bool, fun x => x.1.1, fun r => ((r, ()), ()), fun _ => rfl⟩], fun x => j1 n x.1.1⟩
theorem T1 (n : Nat) : FragOK Tryz.prog 88 (atN K 400 470) (D1 n) := fragR ⟨Tryz.prog, 88, F n, (r0 n), [], []⟩ (Fok n) (R0 n) noL 470 (by kernel_rfl) (fun x => by kernel_rfl)
noncomputable abbrev r1 (n : Nat) : List (Nat × FragD) := (470, D1 n) :: (r0 n)
theorem R1 (n : Nat) : AllFr Tryz.prog 88 K (r1 n) := ⟨T1 n, R0 n⟩
end quorum_group_valid
open quorum_group_valid in
noncomputable def quorum_group_valid (n : Nat) (t0 : Int) (t1 : S28) : Option Bool :=
(j0 n t0 t1).bind fun z4 =>
sm z4 (fun z5 =>
bif t1.1 == 1 then
(codec_EncodeEntry n t1.2.2.2.2.2).bind fun z7 =>
bif z7.1 == 0 then
(quorum_Leader t0 t1.2.2.1).bind fun z8 =>
bif t1.2.1 == z8 then
(codec_Checksum z7.2).bind fun z9 =>
some (z9 == t1.2.2.2.2.1)
else
some false
else
some false
else
(j1 n t1.1).bind fun z10 =>
bif z10 then
(quorum_bare t1).bind fun z11 =>
some z11
else
bif t1.1 == 4 then
(quorum_bare t1).bind fun z12 =>
bif z12 then
bif t1.2.2.2.1 == 0 then
some (t1.2.2.2.2.1 == 0)
else
some false
else
some false
else
some false) fun z6 =>
some z6
noncomputable def quorum_group_valid.d (n : Nat) : FragD := ⟨⟨[(0, pi), (1, pst c28)], []⟩, [⟨1, ⟨[(0, pb)], []⟩, Bool, fun x => x.1.1, fun r => ((r, ()), ()), fun _ => rfl⟩], fun x => quorum_group_valid n x.1.1 x.1.2.1⟩
open quorum_group_valid in
theorem quorum_group_valid.ok (n : Nat) : FunOK Tryz.prog 48 (quorum_group_valid.d n) := funR ⟨Tryz.prog, 88, F n, (r1 n), [], []⟩ Tryz.f48 (by kernel_rfl) (by kernel_rfl) (by kernel_rfl) (Fok n) (R1 n) noL (by kernel_rfl) (fun x => by kernel_rfl)

namespace quorum_MaxFaulty
noncomputable abbrev K := cBody Tryz.f89
noncomputable abbrev F : List (Nat × FragD) := [(63, quorum_group_possible.d)]
theorem Fok : AllF Tryz.prog (F) := ⟨quorum_group_possible.ok, trivial⟩
end quorum_MaxFaulty
open quorum_MaxFaulty in
noncomputable def quorum_MaxFaulty (t0 : Int) : Option Int :=
(quorum_group_possible t0).bind fun z1 =>
bif !z1 then
some 0
else
some (W .i64 ((W .i64 (t0 - 1)).tdiv 3))
noncomputable def quorum_MaxFaulty.d : FragD := ⟨⟨[(0, pi)], []⟩, [⟨1, ⟨[(0, pi)], []⟩, Int, fun x => x.1.1, fun r => ((r, ()), ()), fun _ => rfl⟩], fun x => quorum_MaxFaulty x.1.1⟩
open quorum_MaxFaulty in
theorem quorum_MaxFaulty.ok : FunOK Tryz.prog 89 (quorum_MaxFaulty.d) := funR ⟨Tryz.prog, 9, F, [], [], []⟩ Tryz.f89 (by kernel_rfl) (by kernel_rfl) (by kernel_rfl) (Fok) trivial noL (by kernel_rfl) (fun x => by kernel_rfl)

namespace quorum_Size
noncomputable abbrev K := cBody Tryz.f81
noncomputable abbrev F : List (Nat × FragD) := [(63, quorum_group_possible.d), (89, quorum_MaxFaulty.d)]
theorem Fok : AllF Tryz.prog (F) := ⟨quorum_group_possible.ok, quorum_MaxFaulty.ok, trivial⟩
end quorum_Size
open quorum_Size in
noncomputable def quorum_Size (t0 : Int) : Option Int :=
(quorum_group_possible t0).bind fun z1 =>
bif !z1 then
some 0
else
(quorum_MaxFaulty t0).bind fun z2 =>
some (W .i64 (t0 - z2))
noncomputable def quorum_Size.d : FragD := ⟨⟨[(0, pi)], []⟩, [⟨1, ⟨[(0, pi)], []⟩, Int, fun x => x.1.1, fun r => ((r, ()), ()), fun _ => rfl⟩], fun x => quorum_Size x.1.1⟩
open quorum_Size in
theorem quorum_Size.ok : FunOK Tryz.prog 81 (quorum_Size.d) := funR ⟨Tryz.prog, 10, F, [], [], []⟩ Tryz.f81 (by kernel_rfl) (by kernel_rfl) (by kernel_rfl) (Fok) trivial noL (by kernel_rfl) (fun x => by kernel_rfl)

namespace quorum_Valid
noncomputable abbrev K := cBody Tryz.f23
noncomputable abbrev F (n : Nat) : List (Nat × FragD) := [(48, quorum_group_valid.d n)]
theorem Fok (n : Nat) : AllF Tryz.prog (F n) := ⟨quorum_group_valid.ok n, trivial⟩
end quorum_Valid
open quorum_Valid in
noncomputable def quorum_Valid (n : Nat) (t0 : S28) (t1 : Int) : Option Bool :=
(quorum_group_valid n t1 t0).bind fun z1 =>
some z1
noncomputable def quorum_Valid.d (n : Nat) : FragD := ⟨⟨[(0, pst c28), (1, pi)], []⟩, [⟨1, ⟨[(0, pb)], []⟩, Bool, fun x => x.1.1, fun r => ((r, ()), ()), fun _ => rfl⟩], fun x => quorum_Valid n x.1.1 x.1.2.1⟩
open quorum_Valid in
theorem quorum_Valid.ok (n : Nat) : FunOK Tryz.prog 23 (quorum_Valid.d n) := funR ⟨Tryz.prog, 8, F n, [], [], []⟩ Tryz.f23 (by kernel_rfl) (by kernel_rfl) (by kernel_rfl) (Fok n) trivial noL (by kernel_rfl) (fun x => by kernel_rfl)
end Go.Proofs.YtijhdekfbjafgaaGreat
namespace Go.Proofs.YtijhdekfbjafgaaGreat
open Go Go.RowKit Go.Proofs.YtijhdekfbjafgaaGreat.RW
open Go.Proofs.YtijhdekfbjafgaaGreat.AM hiding lk
set_option linter.unusedVariables false
set_option maxRecDepth 100000

structure Q30 where
  f0 : Int
  f1 : ByteArray
  f2 : List Int
def qz30 : Q30 := ⟨0, (⟨#[]⟩ : ByteArray), []⟩
def qt30 : Ty Q30 := Ty.iso (Ty.pair (Ty.int .i64) (Ty.pair Ty.string (Ty.slice (Ty.int .u8)))) (fun x => (x.f0, x.f1, x.f2))
structure Q32 where
  f0 : Int
  f1 : Int
  f2 : Int
  f3 : Int
  f4 : Int
  f5 : Q30
def qz32 : Q32 := ⟨0, 0, 0, 0, 0, qz30⟩
def qt32 : Ty Q32 := Ty.iso (Ty.pair (Ty.int .i64) (Ty.pair (Ty.int .i64) (Ty.pair (Ty.int .i64) (Ty.pair (Ty.int .i64) (Ty.pair (Ty.int .u32) qt30))))) (fun x => (x.f0, x.f1, x.f2, x.f3, x.f4, x.f5))
theorem qt32_open {I : Imm} {x : Q32} {cs : List Value} (h : qt32.K I x cs) : ∃ (A_5_2 : Option Addr) (c_5_2 : Nat), cs = [.int .i64 x.f0, .int .i64 x.f1, .int .i64 x.f2, .int .i64 x.f3, .int .u32 x.f4, .int .i64 x.f5.f0, .string x.f5.f1, .slice A_5_2 x.f5.f2.length c_5_2] ∧ x.f5.f2.length ≤ c_5_2 ∧ Rd (Ty.int .u8) I A_5_2 x.f5.f2 := by
  obtain ⟨_, _, rfl, rfl, ⟨_, _, rfl, rfl, ⟨_, _, rfl, rfl, ⟨_, _, rfl, rfl, ⟨_, _, rfl, rfl, ⟨_, _, rfl, rfl, ⟨_, _, rfl, rfl, ⟨A_5_2, c_5_2, rfl, l_5_2, r_5_2⟩⟩⟩⟩⟩⟩⟩⟩ := h
  exact ⟨A_5_2, c_5_2, rfl, l_5_2, r_5_2⟩
theorem qt32_at {I : Imm} {A : Option Addr} {xs : List Q32} (h : Rd qt32 I A xs) (i : Int) (h0 : 0 ≤ i) (h1 : i < (xs.length : Int)) : ∃ g o, A = some ⟨g, o, none⟩ ∧ ∃ (A_5_2 : Option Addr) (c_5_2 : Nat), ((xs.getD i.toNat qz32).f5.f2).length ≤ c_5_2 ∧ Rd (Ty.int .u8) I A_5_2 ((xs.getD i.toNat qz32).f5.f2) ∧  (∀ j u, [.int .i64 (xs.getD i.toNat qz32).f0, .int .i64 (xs.getD i.toNat qz32).f1, .int .i64 (xs.getD i.toNat qz32).f2, .int .i64 (xs.getD i.toNat qz32).f3, .int .u32 (xs.getD i.toNat qz32).f4, .int .i64 (xs.getD i.toNat qz32).f5.f0, .string (xs.getD i.toNat qz32).f5.f1, .slice A_5_2 (xs.getD i.toNat qz32).f5.f2.length c_5_2][j]? = some u → I ⟨g, o + i.toNat * 8 + j, none⟩ = some u) := by
  obtain ⟨g, o, c, e, hk, hc⟩ := h.get qz32 i h0 h1
  obtain ⟨A_5_2, c_5_2, rfl, l_5_2, r_5_2⟩ := qt32_open hk
  exact ⟨g, o, e, A_5_2, c_5_2, l_5_2, r_5_2, hc⟩
structure Q24 where
  f0 : Int
  f1 : Int
def qz24 : Q24 := ⟨0, 0⟩
def qt24 : Ty Q24 := Ty.iso (Ty.pair (Ty.int .i64) (Ty.int .i64)) (fun x => (x.f0, x.f1))
/-- The two ways to tell a message. -/
def Q30.p (x : Q30) : S26 := (x.f0, x.f1, x.f2)
def Q32.p (x : Q32) : S28 := (x.f0, x.f1, x.f2, x.f3, x.f4, x.f5.p)
noncomputable def quorum_Size.f (n : Int) : Option Int := quorum_Size n
def quorum_Size.Post (I : Imm) (w : World) (r : Int) (v : Value) (w' : World) : Prop := ∃ (J : Imm), v = .int .i64 r ∧ Got w w' I J []
theorem quorum_Size.calls (I0 : Imm) (a0 : Int) (w : World) (hI : I0.at_ w) (r : Int) (h : quorum_Size.f a0 = some r) :
    Calls Tryz.prog 81 [.int .i64 a0].toArray w fun e w' => ∃ v, e = .returned v ∧ quorum_Size.Post I0 w r v w' := by
  refine (FunOK.calls (fn := Tryz.f81) (by kernel_rfl) quorum_Size.ok rfl (a0, ()) h hI (vs := [.int .i64 a0]) (Nat.le_of_ble_eq_true (by kernel_rfl)) rfl (fun t av ht => ?_)).mono ?_
  · match t, ht with
    | 0, ht => cases ht; exact ⟨_, rfl, rfl, rfl⟩
  · rintro e w' ⟨v, rfl, J, π', hg, hv⟩
    obtain ⟨hv, _⟩ := hv _ rfl
    exact ⟨v, rfl, J, hv, hg⟩
noncomputable def quorum_group_valid.f (k : Nat) (n : Int) (m : Q32) : Option Bool := quorum_group_valid k n m.p
def quorum_group_valid.Post (I : Imm) (w : World) (r : Bool) (v : Value) (w' : World) : Prop := ∃ (J : Imm), v = .bool r ∧ Got w w' I J []
theorem quorum_group_valid.calls (k : Nat) (I0 : Imm) (a0 : Int) (a1 : Q32) (Ap1_5_2 : Option Addr) (cp1_5_2 : Nat) (w : World) (hI : I0.at_ w) (hlp1_5_2 : a1.f5.f2.length ≤ cp1_5_2) (hrp1_5_2 : Rd (Ty.int .u8) I0 Ap1_5_2 a1.f5.f2) (r : Bool) (h : quorum_group_valid.f k a0 a1 = some r) :
    Calls Tryz.prog 48 [.int .i64 a0, .agg #[.int .i64 a1.f0, .int .i64 a1.f1, .int .i64 a1.f2, .int .i64 a1.f3, .int .u32 a1.f4, .int .i64 a1.f5.f0, .string a1.f5.f1, .slice Ap1_5_2 a1.f5.f2.length cp1_5_2]].toArray w fun e w' => ∃ v, e = .returned v ∧ quorum_group_valid.Post I0 w r v w' := by
  refine (FunOK.calls (fn := Tryz.f48) (by kernel_rfl) (quorum_group_valid.ok k) rfl (a0, (a1.p, ())) h hI (vs := [.int .i64 a0, .agg #[.int .i64 a1.f0, .int .i64 a1.f1, .int .i64 a1.f2, .int .i64 a1.f3, .int .u32 a1.f4, .int .i64 a1.f5.f0, .string a1.f5.f1, .slice Ap1_5_2 a1.f5.f2.length cp1_5_2]]) (Nat.le_of_ble_eq_true (by kernel_rfl)) rfl (fun t av ht => ?_)).mono ?_
  · match t, ht with
    | 0, ht => cases ht; exact ⟨_, rfl, rfl, rfl⟩
    | 1, ht =>
      cases ht
      exact ⟨_, rfl, _, rfl, ⟨rfl, rfl⟩, ⟨rfl, rfl⟩, ⟨rfl, rfl⟩, ⟨rfl, rfl⟩, ⟨rfl, rfl⟩, ⟨rfl, rfl⟩, ⟨rfl, rfl⟩, ⟨_, _, rfl, hlp1_5_2, (fun e => by cases e), hrp1_5_2⟩, trivial⟩
  · rintro e w' ⟨v, rfl, J, π', hg, hv⟩
    obtain ⟨hv, _⟩ := hv _ rfl
    exact ⟨v, rfl, J, hv, hg⟩
noncomputable def quorum_Valid.f (k : Nat) (m : Q32) (n : Int) : Option Bool := quorum_Valid k m.p n
def quorum_Valid.Post (I : Imm) (w : World) (r : Bool) (v : Value) (w' : World) : Prop := ∃ (J : Imm), v = .bool r ∧ Got w w' I J []
theorem quorum_Valid.calls (k : Nat) (I0 : Imm) (a0 : Q32) (Ap0_5_2 : Option Addr) (cp0_5_2 : Nat) (a1 : Int) (w : World) (hI : I0.at_ w) (hlp0_5_2 : a0.f5.f2.length ≤ cp0_5_2) (hrp0_5_2 : Rd (Ty.int .u8) I0 Ap0_5_2 a0.f5.f2) (r : Bool) (h : quorum_Valid.f k a0 a1 = some r) :
    Calls Tryz.prog 23 [.agg #[.int .i64 a0.f0, .int .i64 a0.f1, .int .i64 a0.f2, .int .i64 a0.f3, .int .u32 a0.f4, .int .i64 a0.f5.f0, .string a0.f5.f1, .slice Ap0_5_2 a0.f5.f2.length cp0_5_2], .int .i64 a1].toArray w fun e w' => ∃ v, e = .returned v ∧ quorum_Valid.Post I0 w r v w' := by
  refine (FunOK.calls (fn := Tryz.f23) (by kernel_rfl) (quorum_Valid.ok k) rfl (a0.p, (a1, ())) h hI (vs := [.agg #[.int .i64 a0.f0, .int .i64 a0.f1, .int .i64 a0.f2, .int .i64 a0.f3, .int .u32 a0.f4, .int .i64 a0.f5.f0, .string a0.f5.f1, .slice Ap0_5_2 a0.f5.f2.length cp0_5_2], .int .i64 a1]) (Nat.le_of_ble_eq_true (by kernel_rfl)) rfl (fun t av ht => ?_)).mono ?_
  · match t, ht with
    | 0, ht =>
      cases ht
      exact ⟨_, rfl, _, rfl, ⟨rfl, rfl⟩, ⟨rfl, rfl⟩, ⟨rfl, rfl⟩, ⟨rfl, rfl⟩, ⟨rfl, rfl⟩, ⟨rfl, rfl⟩, ⟨rfl, rfl⟩, ⟨_, _, rfl, hlp0_5_2, (fun e => by cases e), hrp0_5_2⟩, trivial⟩
    | 1, ht => cases ht; exact ⟨_, rfl, rfl, rfl⟩
  · rintro e w' ⟨v, rfl, J, π', hg, hv⟩
    obtain ⟨hv, _⟩ := hv _ rfl
    exact ⟨v, rfl, J, hv, hg⟩
end Go.Proofs.YtijhdekfbjafgaaGreat
namespace Go.Proofs.YtijhdekfbjafgaaGreat
open Go Go.RowKit Go.Proofs.YtijhdekfbjafgaaGreat.RW
set_option linter.unusedVariables false
set_option maxRecDepth 100000
set_option maxHeartbeats 8000000

theorem part_any {P : Program} {t : TypeId} {xs : Array Value} {o : Nat} {v : Value} (h : (simQ P [] [] (part t xs o) .no []).map (·.1) = some v) (w : World) : (part t xs o).run P w = .ok v w := by
  cases hs : simQ P [] [] (part t xs o) .no [] with
  | none => rw [hs] at h; cases h
  | some x =>
    obtain ⟨x1, es1⟩ := x
    rw [hs] at h
    simp only [Option.map_some, Option.some.injEq] at h
    subst h
    exact simQ_any _ _ _ _ hs w

def vk (a b c d : Int) : Value := .agg #[.int .i64 a, .int .i64 b, .int .i64 c, .int .i64 d]
def bk (a c d s : Int) : Value := .agg #[.int .i64 a, .int .i64 c, .int .i64 d, .int .u32 s]
def sk (c d : Int) : Value := .agg #[.int .i64 c, .int .i64 d]
theorem f24 : (Tryz.prog.fieldsOf 65).toList.map (fun f => (f.type, f.offset, f.name != "_")) = [(3, 0, true), (3, 1, true)] := by kernel_rfl
theorem f72 : (Tryz.prog.fieldsOf 93).toList.map (fun f => (f.type, f.offset, f.name != "_")) = [(3, 0, true), (3, 1, true), (65, 2, true)] := by kernel_rfl
theorem f84 : (Tryz.prog.fieldsOf 111).toList.map (fun f => (f.type, f.offset, f.name != "_")) = [(3, 0, true), (65, 1, true), (23, 3, true)] := by kernel_rfl
theorem eqF {P : Program} {w : World} (d : Nat) (xs ys : Array Value) (f : Field) (fs : List Field) {t : TypeId} {o : Nat} (ht : (f.type, f.offset, f.name != "_") = (t, o, true)) {a b : Value} {r r2 : Bool} (h1 : (part t xs o).run P w = .ok a w) (h2 : (part t ys o).run P w = .ok b w) (h3 : (Op.equalIn d t a b).run P w = .ok r w)
    (h4 : (Op.eqFields d xs ys fs).run P w = .ok r2 w) : (Op.eqFields d xs ys (f :: fs)).run P w = .ok (r && r2) w := by
  injection ht with e1 ht
  injection ht with e2 e3
  subst e1; subst e2
  have hn : f.name ≠ "_" := by simpa using e3
  simp only [Op.eqFields, if_pos hn, Sem.run_bind, h1, h2, h3, Result.andThen_ok, Sem.run_ite]
  cases r
  · simp
  · simp [h4]
theorem two_of {α β : Type} {g : α → β} {l : List α} {x y : β} (h : l.map g = [x, y]) : ∃ f1 f2, l = [f1, f2] ∧ g f1 = x ∧ g f2 = y := by
  cases l with
  | nil => cases h
  | cons f1 l => cases l with
    | nil => cases h
    | cons f2 l => cases l with
      | nil => simp only [List.map_cons, List.map_nil, List.cons.injEq] at h; exact ⟨f1, f2, rfl, h.1, h.2.1⟩
      | cons f3 l => simp at h
theorem three_of {α β : Type} {g : α → β} {l : List α} {x y z : β} (h : l.map g = [x, y, z]) : ∃ f1 f2 f3, l = [f1, f2, f3] ∧ g f1 = x ∧ g f2 = y ∧ g f3 = z := by
  cases l with
  | nil => cases h
  | cons f1 l =>
    simp only [List.map_cons, List.cons.injEq] at h
    obtain ⟨f2, f3, rfl, h2, h3⟩ := two_of h.2
    exact ⟨f1, f2, f3, rfl, h.1, h2, h3⟩
theorem eq24 (w : World) (n : Nat) (c d c' d' : Int) : (Op.equalIn (n + 2) 65 (sk c d) (sk c' d')).run Tryz.prog w = .ok (c == c' && (d == d' && true)) w := by
  unfold sk
  rw [run_equalIn_struct w (n + 1) 65 _ _ (by kernel_rfl) (by kernel_rfl)]
  obtain ⟨f1, f2, e, h1, h2⟩ := two_of f24
  rw [e]
  exact eqF _ _ _ _ _ h1 (part_any (by kernel_rfl) w) (part_any (by kernel_rfl) w) (run_equalIn_int w n 3 .i64 .i64 c c' (by kernel_rfl)) (eqF _ _ _ _ _ h2 (part_any (by kernel_rfl) w) (part_any (by kernel_rfl) w) (run_equalIn_int w n 3 .i64 .i64 d d' (by kernel_rfl)) rfl)
theorem eq72 (w : World) (a b c d a' b' c' d' : Int) : (Op.equal 93 (vk a b c d) (vk a' b' c' d')).run Tryz.prog w = .ok (a == a' && (b == b' && ((c == c' && (d == d' && true)) && true))) w := by
  unfold vk Op.equal Op.maxDepth
  rw [run_equalIn_struct w 9999 93 _ _ (by kernel_rfl) (by kernel_rfl)]
  obtain ⟨f1, f2, f3, e, h1, h2, h3⟩ := three_of f72
  rw [e]
  exact eqF _ _ _ _ _ h1 (part_any (by kernel_rfl) w) (part_any (by kernel_rfl) w) (run_equalIn_int w 9998 3 .i64 .i64 a a' (by kernel_rfl)) (eqF _ _ _ _ _ h2 (part_any (by kernel_rfl) w) (part_any (by kernel_rfl) w) (run_equalIn_int w 9998 3 .i64 .i64 b b' (by kernel_rfl))
    (eqF _ _ _ _ _ h3 (part_any (v := sk c d) (by kernel_rfl) w) (part_any (v := sk c' d') (by kernel_rfl) w) (eq24 w 9997 c d c' d') rfl))
theorem eq84 (w : World) (a c d s a' c' d' s' : Int) : (Op.equal 111 (bk a c d s) (bk a' c' d' s')).run Tryz.prog w = .ok (a == a' && ((c == c' && (d == d' && true)) && (s == s' && true))) w := by
  unfold bk Op.equal Op.maxDepth
  rw [run_equalIn_struct w 9999 111 _ _ (by kernel_rfl) (by kernel_rfl)]
  obtain ⟨f1, f2, f3, e, h1, h2, h3⟩ := three_of f84
  rw [e]
  exact eqF _ _ _ _ _ h1 (part_any (by kernel_rfl) w) (part_any (by kernel_rfl) w) (run_equalIn_int w 9998 3 .i64 .i64 a a' (by kernel_rfl)) (eqF _ _ _ _ _ h2 (part_any (v := sk c d) (by kernel_rfl) w) (part_any (v := sk c' d') (by kernel_rfl) w) (eq24 w 9997 c d c' d')
    (eqF _ _ _ _ _ h3 (part_any (by kernel_rfl) w) (part_any (by kernel_rfl) w) (run_equalIn_int w 9998 23 .u32 .u32 s s' (by kernel_rfl)) rfl))
/-! ### keys -/
abbrev VK := Int × Int × Int × Int
def kV (v : VK) : Value := vk v.1 v.2.1 v.2.2.1 v.2.2.2
def kB (v : VK) : Value := bk v.1 v.2.1 v.2.2.1 v.2.2.2
theorem vk_dec (a b : VK) : (a.1 == b.1 && (a.2.1 == b.2.1 && ((a.2.2.1 == b.2.2.1 && (a.2.2.2 == b.2.2.2 && true)) && true))) = decide (a = b) := by
  obtain ⟨a1, a2, a3, a4⟩ := a
  obtain ⟨b1, b2, b3, b4⟩ := b
  by_cases h1 : a1 = b1 <;> by_cases h2 : a2 = b2 <;> by_cases h3 : a3 = b3 <;> by_cases h4 : a4 = b4 <;> simp [h1, h2, h3, h4]
theorem bk_dec (a b : VK) : (a.1 == b.1 && ((a.2.1 == b.2.1 && (a.2.2.1 == b.2.2.1 && true)) && (a.2.2.2 == b.2.2.2 && true))) = decide (a = b) := by
  obtain ⟨a1, a2, a3, a4⟩ := a
  obtain ⟨b1, b2, b3, b4⟩ := b
  by_cases h1 : a1 = b1 <;> by_cases h2 : a2 = b2 <;> by_cases h3 : a3 = b3 <;> by_cases h4 : a4 = b4 <;> simp [h1, h2, h3, h4]
theorem stays_of {v : Value} (h : Instr.sameBits 10000 v v = true) (w : World) : (Instr.keyThatStays v v).run Tryz.prog w = .ok v w := by
  unfold Instr.keyThatStays
  rw [if_pos h]
  rfl
theorem bits_agg (n : Nat) (l : List Value) (h : ∀ x ∈ l, Instr.sameBits n x x = true) : Instr.sameBits (n + 1) (.agg l.toArray) (.agg l.toArray) = true := by
  have hz : ∀ l : List Value, (∀ x ∈ l, Instr.sameBits n x x = true) → ((l.zip l).all fun (x, y) => Instr.sameBits n x y) = true := by
    intro l
    induction l with
    | nil => intro _; rfl
    | cons x l ih =>
      intro h
      simp only [List.zip_cons_cons, List.all_cons, h x List.mem_cons_self, Bool.true_and]
      exact ih (fun y hy => h y (List.mem_cons_of_mem _ hy))
  simp only [Instr.sameBits, beq_self_eq_true, Bool.true_and]
  exact hz l h
theorem bits_int (n : Nat) (k : IntKind) (a : Int) : Instr.sameBits n (.int k a) (.int k a) = true := by
  cases n <;> simp [Instr.sameBits]
theorem any_run {α : Type} {s : Sem α} {v : α} (h : (simQ Tryz.prog [] [] s .no []).map (·.1) = some v) (w : World) : s.run Tryz.prog w = .ok v w := by
  cases hs : simQ Tryz.prog [] [] s .no [] with
  | none => rw [hs] at h; cases h
  | some x =>
    obtain ⟨x1, es1⟩ := x
    rw [hs] at h
    simp only [Option.map_some, Option.some.injEq] at h
    subst h
    exact simQ_any _ _ _ _ hs w
theorem chk72 (em : Bool) (w : World) (a : VK) : (Instr.checkKey em 10000 93 (kV a)).run Tryz.prog w = .ok () w := any_run (by unfold kV vk; kernel_rfl) w
theorem chk84 (em : Bool) (w : World) (a : VK) : (Instr.checkKey em 10000 111 (kB a)).run Tryz.prog w = .ok () w := any_run (by unfold kB bk; kernel_rfl) w
theorem stay72 (w : World) (a : VK) : (Instr.keyThatStays (kV a) (kV a)).run Tryz.prog w = .ok (kV a) w :=
  stays_of (bits_agg 9999 [.int .i64 a.1, .int .i64 a.2.1, .int .i64 a.2.2.1, .int .i64 a.2.2.2] (fun x hx => by simp only [List.mem_cons, List.not_mem_nil, or_false] at hx; rcases hx with rfl | rfl | rfl | rfl <;> exact bits_int _ _ _)) w
theorem stay84 (w : World) (a : VK) : (Instr.keyThatStays (kB a) (kB a)).run Tryz.prog w = .ok (kB a) w :=
  stays_of (bits_agg 9999 [.int .i64 a.1, .int .i64 a.2.1, .int .i64 a.2.2.1, .int .u32 a.2.2.2] (fun x hx => by simp only [List.mem_cons, List.not_mem_nil, or_false] at hx; rcases hx with rfl | rfl | rfl | rfl <;> exact bits_int _ _ _)) w
theorem str72 : ∃ fs, Tryz.prog.underlying 93 = some (.struct fs) := ⟨_, (show Tryz.prog.underlying 93 = some (.struct (Tryz.prog.fieldsOf 93)) by kernel_rfl)⟩
theorem str84 : ∃ fs, Tryz.prog.underlying 111 = some (.struct fs) := ⟨_, (show Tryz.prog.underlying 111 = some (.struct (Tryz.prog.fieldsOf 111)) by kernel_rfl)⟩
theorem mt91 : MT Tryz.prog 119 93 4 kV Value.bool false := MT.ofStruct (by kernel_rfl) str72 (fun a => ⟨_, rfl⟩) (fun w a b => by unfold kV; rw [eq72, vk_dec]) chk72 stay72 (any_run (by kernel_rfl))
theorem mt69 : MT Tryz.prog 90 93 23 kV (Value.int .u32) 0 := MT.ofStruct (by kernel_rfl) str72 (fun a => ⟨_, rfl⟩) (fun w a b => by unfold kV; rw [eq72, vk_dec]) chk72 stay72 (any_run (by kernel_rfl))
theorem mt79 : MT Tryz.prog 106 111 3 kB (Value.int .i64) 0 := MT.ofStruct (by kernel_rfl) str84 (fun a => ⟨_, rfl⟩) (fun w a b => by unfold kB; rw [eq84, bk_dec]) chk84 stay84 (any_run (by kernel_rfl))

/-! ### what is computed -/
def vkey (m : Q32) : VK := (m.f0, m.f1, m.f2, m.f3)
def bkey (m : Q32) : VK := (m.f0, m.f2, m.f3, m.f4)
def dkey (m : Q32) : VK := (m.f0, 0, m.f2, m.f3)
noncomputable def cnt (k : Nat) (n : Int) : List Q32 → List (VK × Bool) → Option (List Q32)
  | [], _ => some []
  | m :: r, seen => if (mget seen (vkey m)).getD false = true then cnt k n r seen else (quorum_group_valid.f k n m).bind fun ok => if ok = true then (cnt k n r (mput seen (vkey m) true)).bind fun c => some (m :: c) else cnt k n r seen
def bump (sz : Int) (st : List (VK × Int) × List (VK × Int)) (m : Q32) : List (VK × Int) × List (VK × Int) :=
  (mput st.1 (bkey m) (W .i64 ((mget st.1 (bkey m)).getD 0 + 1)), if W .i64 ((mget st.1 (bkey m)).getD 0 + 1) = sz then mput st.2 (dkey m) m.f4 else st.2)
noncomputable def quorum_tally.f (k : Nat) (l : List Q32) (n : Int) : Option (List (VK × Int)) := (cnt k n l []).bind fun c => (quorum_Size.f n).bind fun sz => some (c.foldl (bump sz) ([], [])).2
/-- A message as yield is handed it. -/
def m32 (x : Q32) (A : Option Addr) (c : Nat) : Value := .agg #[.int .i64 x.f0, .int .i64 x.f1, .int .i64 x.f2, .int .i64 x.f3, .int .u32 x.f4, .int .i64 x.f5.f0, .string x.f5.f1, .slice A x.f5.f2.length c]
def E32 (x : Q32) (xs : Array Value) : Prop := ∃ A c, xs = #[m32 x A c]

/-! ### counted, and the iterator that it makes -/
noncomputable def c45 : Code := cBody Tryz.f80
noncomputable def c45r0 : Code := cL c45
noncomputable def c45e : Code := cR c45
noncomputable def c45r1 : Code := cL c45e
noncomputable def c45t : Code := cR c45e
noncomputable def o45r0 : List Oper := cOps c45r0
noncomputable def o45r1 : List Oper := cOps c45r1
theorem own_new {w0 : World} {I0 I : Imm} {nx : Nat} {L : List Blk} {X : List Res} {w : World} (hs : Sat ⟨w0, fun _ => False, I0⟩ I nx L X w) {i : Nat} {b : Blk} (hi : L[i]? = some b) : w0.heap.size ≤ b.g :=
  (hs.own b (List.mem_of_getElem? hi)).resolve_right (fun h => h)
def fv53 (b1 b2 : Nat) : Value := .func (.func 93) #[] #[.pointer (some ⟨b1, 0, none⟩), .pointer (some ⟨b2, 0, none⟩)]
def counted.Post (I : Imm) (w : World) (A : Option Addr) (n c : Nat) (a : Int) (v : Value) (w' : World) : Prop :=
  ∃ (J : Imm) (b1 b2 : Nat), v = fv53 b1 b2 ∧ Got w w' I J [] ∧ J ⟨b1, 0, none⟩ = some (.slice A n c) ∧ J ⟨b2, 0, none⟩ = some (.func (.func 48) #[.int .i64 a] #[])
theorem counted.calls (I0 : Imm) (A : Option Addr) (n c : Nat) (a : Int) (w : World) (hI : I0.at_ w) :
    Calls Tryz.prog 80 [.slice A n c, .func (.func 48) #[.int .i64 a] #[]].toArray w fun e w' => ∃ v, e = .returned v ∧ counted.Post I0 w A n c a v w' := by
  refine calls_body Tryz.func80 (by kernel_rfl) 6 (by kernel_rfl) (by kernel_rfl) ⟨w, fun _ => False, I0⟩ I0 [] [(0, .slice A n c), (1, .func (.func 48) #[.int .i64 a] #[])] (by kernel_rfl) (Sat.start w _ I0 hI) ?_
  generalize w.heap.size = nx0
  show OK _ c45 _ _ _ _ _ _ _ _
  refine OK.seq c45r0 c45e (by kernel_rfl) ?_
  refine OK.region 0 o45r0 (by kernel_rfl) ?_
  refine RL.simP (K' := [(2, .pointer (some ⟨nx0, 0, none⟩)), (3, .pointer (some ⟨nx0 + 1, 0, none⟩))]) (nx' := nx0 + 2) (L' := [⟨nx0, [.slice A n c], 30⟩, ⟨nx0 + 1, [.func (.func 48) #[.int .i64 a] #[]], 50⟩]) [] (RFacts.nil _ _ _) 3 [.no, .no, .no] (by kernel_rfl) (by kernel_rfl) ?_
  refine RL.nil (by kernel_rfl) ?_
  refine QN.then_ ?_
  refine OK.seq c45r1 c45t (by kernel_rfl) ?_
  refine OK.region 1 o45r1 (by kernel_rfl) ?_
  refine RL.simP (K' := [(4, .func (.func 93) #[] #[.pointer (some ⟨nx0, 0, none⟩), .pointer (some ⟨nx0 + 1, 0, none⟩)])]) (nx' := nx0 + 2) (L' := [⟨nx0, [.slice A n c], 30⟩, ⟨nx0 + 1, [.func (.func 48) #[.int .i64 a] #[]], 50⟩]) [] (RFacts.nil _ _ _) 2 [.no, .no] (by kernel_rfl) (by kernel_rfl) ?_
  refine RL.immL 0 rfl (fun w hs => own_new hs (i := 0) rfl) (fun J1 hJ1 h1 => ?_)
  refine RL.immL 0 rfl (fun w hs => own_new hs (i := 0) rfl) (fun J2 hJ2 h2 => ?_)
  refine RL.nil (by kernel_rfl) ?_
  refine QN.then_ ?_
  refine OK.ret (by kernel_rfl) ?_
  refine QN.body rfl [] (RFacts.nil _ _ _) .no (fv53 nx0 (nx0 + 1)) (by kernel_rfl) (by kernel_rfl) (by kernel_rfl) ?_ _ (.inr rfl)
  exact fun w' hs' => ⟨_, rfl, J2, nx0, nx0 + 1, rfl, hs'.got _ (List.nil_sublist _), hJ2 _ _ (h1 0 _ rfl), h2 0 _ rfl⟩

theorem W64 {n : Int} (h0 : 0 ≤ n) (h1 : n < 9223372036854775808) : W .i64 n = n := by
  have h2 : (2 : Int) ^ 64 = 18446744073709551616 := by decide
  have h3 : (2 : Int) ^ 63 = 9223372036854775808 := by decide
  unfold W IntKind.wrap
  simp only [IntKind.bits, IntKind.signed, h2, h3, Nat.add_one_sub_one, Bool.true_and, decide_eq_true_eq]
  have h4 : n % 18446744073709551616 = n := Int.emod_eq_of_lt h0 (by omega)
  rw [h4, if_neg (by omega)]

noncomputable def c53 : Code := cBody Tryz.f93
noncomputable def c53r0 : Code := cL c53
noncomputable def c53a : Code := cR c53
noncomputable def c53r1 : Code := cL c53a
noncomputable def c53b : Code := cR c53a
noncomputable def c53lp : Code := cL c53b
noncomputable def c53in : Code := cL c53lp
noncomputable def c53r2 : Code := cL c53in
noncomputable def c53c : Code := cR c53in
noncomputable def c53cd : Code := cL c53c
noncomputable def c53d : Code := cR c53c
noncomputable def c53bk : Code := cL c53d
noncomputable def c53r8 : Code := cR c53d
noncomputable def c53bd : Code := cL c53bk
noncomputable def c53r3 : Code := cL c53bd
noncomputable def c53e1 : Code := cR c53bd
noncomputable def c53r4 : Code := cL c53e1
noncomputable def c53e2 : Code := cR c53e1
noncomputable def c53e3 : Code := cL c53e2
noncomputable def c53e4 : Code := cR c53e2
noncomputable def c53r5 : Code := cL c53e3
noncomputable def c53k5 : Code := cR c53e3
noncomputable def c53r6 : Code := cL c53e4
noncomputable def c53e5 : Code := cR c53e4
noncomputable def c53r7 : Code := cL c53e5
noncomputable def c53k7 : Code := cR c53e5
noncomputable def o53 : Nat → List Oper
  | 0 => cOps c53r0
  | 1 => cOps c53r1
  | 2 => cOps c53r2
  | 3 => cOps c53r3
  | 4 => cOps c53r4
  | 5 => cOps c53r5
  | 6 => cOps c53r6
  | 7 => cOps c53r7
  | _ => cOps c53r8
/-- What holds at the head of a round. -/
def inv53 (k : Nat) (n : Int) (l c : List Q32) (I0 : Imm) (A : Option Addr) (cap b2 lid : Nat) (W : World) (S' : Nat → Prop) (J' : List Q32 → World → Prop) (kq : Nat) : St := fun K I _ L X =>
  ∃ (i g : Nat) (seen : List (VK × Bool)) (pre rest : List Q32), K = [(9, .slice A l.length cap), (10, .int .i64 (l.length : Int)), (11, .int .i64 (i : Int)), (4, .map (some g)), (0, .func (.yield lid) #[] #[]), (2, .pointer (some ⟨b2, 0, none⟩))] ∧ L = [] ∧ X = [jres S' W (J' pre), mres kV Value.bool g seen] ∧ Imm.le I0 I ∧
    i + kq = l.length + 1 ∧ i ≤ l.length ∧ cnt k n (l.drop i) seen = some rest ∧ pre ++ rest = c
theorem counted1.calls (k : Nat) (n : Int) (l c : List Q32) (hc : cnt k n l [] = some c) (I0 : Imm) (A : Option Addr) (cap : Nat) (hr : Rd qt32 I0 A l) (b1 b2 : Nat)
    (h1 : I0 ⟨b1, 0, none⟩ = some (.slice A l.length cap)) (h2 : I0 ⟨b2, 0, none⟩ = some (.func (.func 48) #[.int .i64 n] #[]))
    (lid : Nat) (W : World) (hI : I0.at_ W) (S' : Nat → Prop) (hS : ∀ k, S' k → k < W.heap.size) (hIS : ∀ a v, I0 a = some v → ¬ S' a.block) (J' : List Q32 → World → Prop) (hJ : ∀ pre A B, J' pre A → LowEq W.heap.size A B → J' pre B)
    (hY : ∀ pre x xs W1, J' pre W1 → (pre ++ [x]) <+: c → E32 x xs → YieldAt (Fence.ro none) 0 Tryz.prog lid xs W1 fun e W' => e = .returned (.bool true) ∧ J' (pre ++ [x]) W' ∧ Evo S' W1 W')
    (h0 : J' [] W) : Calls Tryz.prog 93 [.func (.yield lid) #[] #[], .pointer (some ⟨b1, 0, none⟩), .pointer (some ⟨b2, 0, none⟩)].toArray W fun e W' => (∃ v, e = .returned v) ∧ J' c W' ∧ Evo S' W W' := by
  refine calls_body Tryz.func93 (by kernel_rfl) 41 (by kernel_rfl) (by kernel_rfl) ⟨W, S', I0⟩ I0 [jres S' W (J' [])] [(0, .func (.yield lid) #[] #[]), (1, .pointer (some ⟨b1, 0, none⟩)), (2, .pointer (some ⟨b2, 0, none⟩))] (by kernel_rfl) (Sat.startJ hI hS hIS h0) ?_
  generalize W.heap.size = nx0
  show OK _ c53 _ _ _ _ _ _ _ _
  refine OK.seq c53r0 c53a (by kernel_rfl) ?_
  refine OK.region 0 (o53 0) (by kernel_rfl) ?_
  refine RL.makeMap (T := 119) kV Value.bool (some 8) (by kernel_rfl) (by kernel_rfl) ?_
  refine RL.simP (K' := [(4, .map (some nx0)), (0, .func (.yield lid) #[] #[]), (1, .pointer (some ⟨b1, 0, none⟩)), (2, .pointer (some ⟨b2, 0, none⟩))]) (nx' := nx0 + 1) (L' := []) [] (RFacts.nil _ _ _) 1 [.no] (by kernel_rfl) (by kernel_rfl) ?_
  refine RL.nil (by kernel_rfl) ?_
  refine QN.then_ ?_
  refine OK.seq c53r1 c53b (by kernel_rfl) ?_
  refine OK.region 1 (o53 1) (by kernel_rfl) ?_
  refine RL.simP (K' := [(9, .slice A l.length cap), (10, .int .i64 (l.length : Int)), (11, .int .i64 ((0 : Nat) : Int)), (4, .map (some nx0)), (0, .func (.yield lid) #[] #[]), (2, .pointer (some ⟨b2, 0, none⟩))]) (nx' := nx0 + 1) (L' := []) [(⟨b1, 0, none⟩, .slice A l.length cap)] (RFacts.imm h1 (RFacts.nil _ _ _)) 3 [.r 0, .no, .no] (by kernel_rfl) (by kernel_rfl) ?_
  refine RL.nil (by kernel_rfl) ?_
  refine QN.then_ ?_
  refine OK.block 0 c53lp (by kernel_rfl) ?_
  refine OK.loopInv c53in (by kernel_rfl) (inv53 k n l c I0 A cap b2 lid W S' J') (l.length + 1) ⟨0, nx0, [], [], c, rfl, rfl, rfl, Imm.le_refl _, by omega, by omega, by simpa using hc, rfl⟩ (fun K I nx L X h => ?_) ?_
  · obtain ⟨i, g, seen, pre, rest, _, _, _, _, h5, h6, _⟩ := h
    omega
  rintro kq _ I nx _ _ ⟨i, g, seen, pre, rest, rfl, rfl, rfl, hle, hi1, hi2, hcnt, hpre⟩ Q' hJn hQ
  refine OK.seq c53r2 c53c (by kernel_rfl) ?_
  refine OK.region 2 (o53 2) (by kernel_rfl) ?_
  refine RL.simP (K' := [(12, .bool (decide ((i : Int) < (l.length : Int)))), (9, .slice A l.length cap), (10, .int .i64 (l.length : Int)), (11, .int .i64 (i : Int)), (4, .map (some g)), (0, .func (.yield lid) #[] #[]), (2, .pointer (some ⟨b2, 0, none⟩))]) (nx' := nx) (L' := []) [] (RFacts.nil _ _ _) 1 [.no] (by kernel_rfl) (by kernel_rfl) ?_
  refine RL.nil (by kernel_rfl) ?_
  refine QN.then_ ?_
  refine OK.seq c53cd c53d (by kernel_rfl) ?_
  refine OK.cond (.tmp 12) (cL c53cd) (cR c53cd) (decide ((i : Int) < (l.length : Int))) (by kernel_rfl) (by kernel_rfl) (by kernel_rfl) (fun hb => ?_) (fun hb => ?_)
  rotate_left
  · -- the end
    have hlt : ¬ ((i : Int) < (l.length : Int)) := of_decide_eq_false hb
    have hil : i = l.length := by omega
    subst hil
    rw [List.drop_length] at hcnt
    obtain rfl : [] = rest := Option.some.inj hcnt
    rw [List.append_nil] at hpre
    subst hpre
    refine OK.exit 0 (by kernel_rfl) ?_
    refine QN.thenE ?_
    refine QN.outE hQ ?_
    refine QN.blkE ?_
    refine QN.body rfl [] (RFacts.nil _ _ _) .no (.tuple #[]) (by kernel_rfl) (by kernel_rfl) (by kernel_rfl) ?_ _ (.inl rfl)
    exact fun w' hs' => ⟨⟨_, rfl⟩, jres_at hs' List.mem_cons_self (hJ _), hs'.evo⟩
  have hlt : (i : Int) < (l.length : Int) := of_decide_eq_true hb
  refine OK.skip (by kernel_rfl) ?_
  refine QN.then_ ?_
  refine OK.seq c53bk c53r8 (by kernel_rfl) ?_
  -- what comes behind the body, whatever it has done
  have hnext : ∀ (J : Imm) (nx : Nat) (L : List Blk) (seen' : List (VK × Bool)) (pre' rest' : List Q32), Imm.le I0 J → cnt k n (l.drop (i + 1)) seen' = some rest' → pre' ++ rest' = c →
      OK Tryz.prog c53r8 Q' ⟨41, []⟩ [(9, .slice A l.length cap), (10, .int .i64 (l.length : Int)), (11, .int .i64 (i : Int)), (4, .map (some g)), (0, .func (.yield lid) #[] #[]), (2, .pointer (some ⟨b2, 0, none⟩))] ⟨W, S', I0⟩ J nx L [jres S' W (J' pre'), mres kV Value.bool g seen'] := by
    intro J nx L seen' pre' rest' hJ1 hcnt' hpre'
    refine OK.sub (K' := [(9, .slice A l.length cap), (10, .int .i64 (l.length : Int)), (11, .int .i64 (i : Int)), (4, .map (some g)), (0, .func (.yield lid) #[] #[]), (2, .pointer (some ⟨b2, 0, none⟩))]) (L' := []) (by kernel_rfl) (List.nil_sublist _) (List.Sublist.refl _) ?_
    refine OK.region 8 (o53 8) (by kernel_rfl) ?_
    refine RL.simP (K' := [(9, .slice A l.length cap), (10, .int .i64 (l.length : Int)), (11, .int .i64 (RW.W .i64 ((i : Int) + 1))), (4, .map (some g)), (0, .func (.yield lid) #[] #[]), (2, .pointer (some ⟨b2, 0, none⟩))]) (nx' := nx) (L' := []) [] (RFacts.nil _ _ _) 2 [.no, .no] (by kernel_rfl) (by kernel_rfl) ?_
    refine RL.nil (by kernel_rfl) ?_
    have hml := hr.1
    rw [W64 (by omega) (by omega), show ((i : Int) + 1) = ((i + 1 : Nat) : Int) from by omega]
    exact hJn _ _ _ _ _ ⟨i + 1, g, seen', pre', rest', rfl, rfl, rfl, hJ1, by omega, by omega, hcnt', hpre'⟩
  obtain ⟨g1, o1, hA1, A1, c1, hl1, hr1, hc1⟩ := qt32_at (Rd.ext hle hr) (i : Int) (by omega) hlt
  obtain ⟨m, hm⟩ : ∃ m, l.getD (i : Int).toNat qz32 = m := ⟨_, rfl⟩
  rw [hm] at hl1 hr1 hc1
  have hil : i < l.length := by omega
  have hdrop : l.drop i = m :: l.drop (i + 1) := by
    rw [List.drop_eq_getElem_cons hil, ← hm, Int.toNat_natCast, List.getD_eq_getElem?_getD, List.getElem?_eq_getElem hil]
    rfl
  rw [hdrop] at hcnt
  simp only [cnt] at hcnt
  refine OK.block 1 c53bd (by kernel_rfl) ?_
  refine OK.seq c53r3 c53e1 (by kernel_rfl) ?_
  refine OK.region 3 (o53 3) (by kernel_rfl) ?_
  refine RL.idx 8 .i64 (i : Int) hA1 l.length cap (some 13) (by kernel_rfl) (by kernel_rfl) (T := 30) (e := 28) (by kernel_rfl) (by kernel_rfl) (by omega) hlt (K' := [(13, .pointer (some ⟨g1, o1 + (i : Int).toNat * 8, none⟩)), (12, .bool (decide ((i : Int) < (l.length : Int)))), (9, .slice A l.length cap), (10, .int .i64 (l.length : Int)), (11, .int .i64 (i : Int)), (4, .map (some g)), (0, .func (.yield lid) #[] #[]), (2, .pointer (some ⟨b2, 0, none⟩))]) ?_ ?_
  · kernel_rfl
  refine RL.simP (K' := [(6, .pointer (some ⟨nx, 0, none⟩)), (9, .slice A l.length cap), (10, .int .i64 (l.length : Int)), (11, .int .i64 (i : Int)), (4, .map (some g)), (0, .func (.yield lid) #[] #[]), (2, .pointer (some ⟨b2, 0, none⟩))]) (nx' := nx + 1)
    (L' := [⟨nx, [.int .i64 m.f0, .int .i64 m.f1, .int .i64 m.f2, .int .i64 m.f3, .int .u32 m.f4, .int .i64 m.f5.f0, .string m.f5.f1, .slice A1 m.f5.f2.length c1], 28⟩])
    [(⟨g1, o1 + (i : Int).toNat * 8, none⟩, .int .i64 m.f0), (⟨g1, o1 + (i : Int).toNat * 8 + 1, none⟩, .int .i64 m.f1), (⟨g1, o1 + (i : Int).toNat * 8 + 2, none⟩, .int .i64 m.f2), (⟨g1, o1 + (i : Int).toNat * 8 + 3, none⟩, .int .i64 m.f3), (⟨g1, o1 + (i : Int).toNat * 8 + 4, none⟩, .int .u32 m.f4), (⟨g1, o1 + (i : Int).toNat * 8 + 5, none⟩, .int .i64 m.f5.f0), (⟨g1, o1 + (i : Int).toNat * 8 + 6, none⟩, .string m.f5.f1), (⟨g1, o1 + (i : Int).toNat * 8 + 7, none⟩, .slice A1 m.f5.f2.length c1)]
    (RFacts.imm (hc1 0 _ rfl) (RFacts.imm (hc1 1 _ rfl) (RFacts.imm (hc1 2 _ rfl) (RFacts.imm (hc1 3 _ rfl) (RFacts.imm (hc1 4 _ rfl) (RFacts.imm (hc1 5 _ rfl) (RFacts.imm (hc1 6 _ rfl) (RFacts.imm (hc1 7 _ rfl) (RFacts.nil _ _ _))))))))) 3 [.r 0, .no, .l 0] (by kernel_rfl) (by kernel_rfl) ?_
  refine RL.nil (by kernel_rfl) ?_
  refine QN.then_ ?_
  refine OK.seq c53r4 c53e2 (by kernel_rfl) ?_
  refine OK.region 4 (o53 4) (by kernel_rfl) ?_
  refine RL.simP (K' := [(6, .pointer (some ⟨nx, 0, none⟩)), (7, .pointer (some ⟨nx + 1, 0, none⟩)), (9, .slice A l.length cap), (10, .int .i64 (l.length : Int)), (11, .int .i64 (i : Int)), (4, .map (some g)), (0, .func (.yield lid) #[] #[]), (2, .pointer (some ⟨b2, 0, none⟩))]) (nx' := nx + 2)
    (L' := [⟨nx, [.int .i64 m.f0, .int .i64 m.f1, .int .i64 m.f2, .int .i64 m.f3, .int .u32 m.f4, .int .i64 m.f5.f0, .string m.f5.f1, .slice A1 m.f5.f2.length c1], 28⟩, ⟨nx + 1, [.int .i64 m.f0, .int .i64 m.f1, .int .i64 m.f2, .int .i64 m.f3], 93⟩])
    [] (RFacts.nil _ _ _) 12 [.no, .l 0, .no, .l 0, .no, .l 0, .no, .l 0, .no, .no, .no, .l 1] (by kernel_rfl) (by kernel_rfl) ?_
  refine RL.nil (by kernel_rfl) ?_
  refine QN.then_ ?_
  refine OK.seq c53e3 c53e4 (by kernel_rfl) ?_
  refine OK.seq c53r5 c53k5 (by kernel_rfl) ?_
  refine OK.region 5 (o53 5) (by kernel_rfl) ?_
  refine RL.simP (K' := [(25, .map (some g)), (26, kV (vkey m)), (6, .pointer (some ⟨nx, 0, none⟩)), (7, .pointer (some ⟨nx + 1, 0, none⟩)), (9, .slice A l.length cap), (10, .int .i64 (l.length : Int)), (11, .int .i64 (i : Int)), (4, .map (some g)), (0, .func (.yield lid) #[] #[]), (2, .pointer (some ⟨b2, 0, none⟩))]) (nx' := nx + 2)
    (L' := [⟨nx, [.int .i64 m.f0, .int .i64 m.f1, .int .i64 m.f2, .int .i64 m.f3, .int .u32 m.f4, .int .i64 m.f5.f0, .string m.f5.f1, .slice A1 m.f5.f2.length c1], 28⟩, ⟨nx + 1, [.int .i64 m.f0, .int .i64 m.f1, .int .i64 m.f2, .int .i64 m.f3], 93⟩])
    [] (RFacts.nil _ _ _) 2 [.no, .l 1] (by kernel_rfl) (by kernel_rfl) ?_
  cases hsv : (mget seen (vkey m)).getD false with
  | true =>
    rw [hsv, if_pos rfl] at hcnt
    refine RL.lookM mt91 (vkey m) false 1 (some 27) (by kernel_rfl) rfl (by kernel_rfl) (K' := [(27, .bool true), (25, .map (some g)), (26, kV (vkey m)), (6, .pointer (some ⟨nx, 0, none⟩)), (7, .pointer (some ⟨nx + 1, 0, none⟩)), (9, .slice A l.length cap), (10, .int .i64 (l.length : Int)), (11, .int .i64 (i : Int)), (4, .map (some g)), (0, .func (.yield lid) #[] #[]), (2, .pointer (some ⟨b2, 0, none⟩))]) ?_ ?_
    · rw [if_neg (by decide), hsv]; kernel_rfl
    refine RL.simP (K' := [(33, .bool true), (9, .slice A l.length cap), (10, .int .i64 (l.length : Int)), (11, .int .i64 (i : Int)), (4, .map (some g)), (0, .func (.yield lid) #[] #[]), (2, .pointer (some ⟨b2, 0, none⟩))]) (nx' := nx + 2) (L' := [⟨nx, [.int .i64 m.f0, .int .i64 m.f1, .int .i64 m.f2, .int .i64 m.f3, .int .u32 m.f4, .int .i64 m.f5.f0, .string m.f5.f1, .slice A1 m.f5.f2.length c1], 28⟩, ⟨nx + 1, [.int .i64 m.f0, .int .i64 m.f1, .int .i64 m.f2, .int .i64 m.f3], 93⟩]) [] (RFacts.nil _ _ _) 6 [] (by kernel_rfl) (by kernel_rfl) ?_
    refine RL.nil (by kernel_rfl) ?_
    refine QN.then_ ?_
    refine OK.condT (.tmp 33) (cL c53k5) (cR c53k5) (by kernel_rfl) (by kernel_rfl) (by kernel_rfl) ?_
    refine OK.exit 1 (by kernel_rfl) ?_
    refine QN.thenE ?_
    refine QN.blkE ?_
    refine QN.then_ ?_
    refine OK.sub (K' := [(9, .slice A l.length cap), (10, .int .i64 (l.length : Int)), (11, .int .i64 (i : Int)), (4, .map (some g)), (0, .func (.yield lid) #[] #[]), (2, .pointer (some ⟨b2, 0, none⟩))]) (L' := []) (by kernel_rfl) (List.nil_sublist _) (List.Sublist.refl _) ?_
    exact hnext _ _ _ _ _ _ hle hcnt hpre
  | false =>
    rw [hsv, if_neg (by decide)] at hcnt
    obtain ⟨ok, hok, hcnt⟩ := Option.bind_eq_some_iff.mp hcnt
    refine RL.lookM mt91 (vkey m) false 1 (some 27) (by kernel_rfl) rfl (by kernel_rfl) (K' := [(27, .bool false), (25, .map (some g)), (26, kV (vkey m)), (6, .pointer (some ⟨nx, 0, none⟩)), (7, .pointer (some ⟨nx + 1, 0, none⟩)), (9, .slice A l.length cap), (10, .int .i64 (l.length : Int)), (11, .int .i64 (i : Int)), (4, .map (some g)), (0, .func (.yield lid) #[] #[]), (2, .pointer (some ⟨b2, 0, none⟩))]) ?_ ?_
    · rw [if_neg (by decide), hsv]; kernel_rfl
    refine RL.simP (K' := [(28, .bool false), (29, .func (.func 48) #[.int .i64 n] #[]), (30, m32 m A1 c1), (6, .pointer (some ⟨nx, 0, none⟩)), (7, .pointer (some ⟨nx + 1, 0, none⟩)), (9, .slice A l.length cap), (10, .int .i64 (l.length : Int)), (11, .int .i64 (i : Int)), (4, .map (some g)), (0, .func (.yield lid) #[] #[]), (2, .pointer (some ⟨b2, 0, none⟩))]) (nx' := nx + 2) (L' := [⟨nx, [.int .i64 m.f0, .int .i64 m.f1, .int .i64 m.f2, .int .i64 m.f3, .int .u32 m.f4, .int .i64 m.f5.f0, .string m.f5.f1, .slice A1 m.f5.f2.length c1], 28⟩, ⟨nx + 1, [.int .i64 m.f0, .int .i64 m.f1, .int .i64 m.f2, .int .i64 m.f3], 93⟩]) [(⟨b2, 0, none⟩, .func (.func 48) #[.int .i64 n] #[])] (RFacts.imm (hle _ _ h2) (RFacts.nil _ _ _)) 3 [.no, .r 0, .l 0] (by kernel_rfl) (by kernel_rfl) ?_
    refine RL.callP 48 [.int .i64 n, m32 m A1 c1] (some 31) (fun w => quorum_group_valid.Post I w ok) (by kernel_rfl) (by kernel_rfl) (fun w hs => quorum_group_valid.calls k I n m A1 c1 w hs.im hl1 hr1 ok hok) ?_
    rintro w v w' hs ⟨J, rfl, hg⟩
    have hleJ := Imm.le_trans hle hg.le
    refine RL.resume (K' := [(31, .bool ok), (28, .bool false), (29, .func (.func 48) #[.int .i64 n] #[]), (30, m32 m A1 c1), (6, .pointer (some ⟨nx, 0, none⟩)), (7, .pointer (some ⟨nx + 1, 0, none⟩)), (9, .slice A l.length cap), (10, .int .i64 (l.length : Int)), (11, .int .i64 (i : Int)), (4, .map (some g)), (0, .func (.yield lid) #[] #[]), (2, .pointer (some ⟨b2, 0, none⟩))]) (X' := [jres S' W (J' pre), mres kV Value.bool g seen]) (by kernel_rfl) (hs.call hg) ?_
    clear hs hg
    generalize w'.heap.size = nx2
    clear w w'
    refine RL.simP (K' := [(33, .bool (!ok)), (6, .pointer (some ⟨nx, 0, none⟩)), (7, .pointer (some ⟨nx + 1, 0, none⟩)), (9, .slice A l.length cap), (10, .int .i64 (l.length : Int)), (11, .int .i64 (i : Int)), (4, .map (some g)), (0, .func (.yield lid) #[] #[]), (2, .pointer (some ⟨b2, 0, none⟩))]) (nx' := nx2) (L' := [⟨nx, [.int .i64 m.f0, .int .i64 m.f1, .int .i64 m.f2, .int .i64 m.f3, .int .u32 m.f4, .int .i64 m.f5.f0, .string m.f5.f1, .slice A1 m.f5.f2.length c1], 28⟩, ⟨nx + 1, [.int .i64 m.f0, .int .i64 m.f1, .int .i64 m.f2, .int .i64 m.f3], 93⟩]) [] (RFacts.nil _ _ _) 2 [.no, .no] (by kernel_rfl) (by kernel_rfl) ?_
    refine RL.nil (by kernel_rfl) ?_
    refine QN.then_ ?_
    cases ok with
    | false =>
      rw [if_neg (by decide)] at hcnt
      refine OK.condT (.tmp 33) (cL c53k5) (cR c53k5) (by kernel_rfl) (by kernel_rfl) (by kernel_rfl) ?_
      refine OK.exit 1 (by kernel_rfl) ?_
      refine QN.thenE ?_
      refine QN.blkE ?_
      refine QN.then_ ?_
      refine OK.sub (K' := [(9, .slice A l.length cap), (10, .int .i64 (l.length : Int)), (11, .int .i64 (i : Int)), (4, .map (some g)), (0, .func (.yield lid) #[] #[]), (2, .pointer (some ⟨b2, 0, none⟩))]) (L' := []) (by kernel_rfl) (List.nil_sublist _) (List.Sublist.refl _) ?_
      exact hnext _ _ _ _ _ _ hleJ hcnt hpre
    | true =>
      rw [if_pos rfl] at hcnt
      obtain ⟨rest', hcnt2, hrest⟩ := Option.bind_eq_some_iff.mp hcnt
      obtain rfl := Option.some.inj hrest
      have hpre2 : (pre ++ [m]) ++ rest' = c := by rw [List.append_assoc]; exact hpre
      refine OK.condF (.tmp 33) (cL c53k5) (cR c53k5) (by kernel_rfl) (by kernel_rfl) (by kernel_rfl) ?_
      refine OK.skip (by kernel_rfl) ?_
      refine QN.then_ ?_
      refine OK.seq c53r6 c53e5 (by kernel_rfl) ?_
      refine OK.region 6 (o53 6) (by kernel_rfl) ?_
      refine RL.simP (K' := [(34, .map (some g)), (35, kV (vkey m)), (6, .pointer (some ⟨nx, 0, none⟩)), (7, .pointer (some ⟨nx + 1, 0, none⟩)), (9, .slice A l.length cap), (10, .int .i64 (l.length : Int)), (11, .int .i64 (i : Int)), (4, .map (some g)), (0, .func (.yield lid) #[] #[]), (2, .pointer (some ⟨b2, 0, none⟩))]) (nx' := nx2) (L' := [⟨nx, [.int .i64 m.f0, .int .i64 m.f1, .int .i64 m.f2, .int .i64 m.f3, .int .u32 m.f4, .int .i64 m.f5.f0, .string m.f5.f1, .slice A1 m.f5.f2.length c1], 28⟩, ⟨nx + 1, [.int .i64 m.f0, .int .i64 m.f1, .int .i64 m.f2, .int .i64 m.f3], 93⟩]) [] (RFacts.nil _ _ _) 2 [.no, .l 1] (by kernel_rfl) (by kernel_rfl) ?_
      refine RL.putM mt91 (vkey m) true 1 (by kernel_rfl) rfl (by kernel_rfl) ?_
      refine RL.nil (by kernel_rfl) ?_
      refine QN.then_ ?_
      refine OK.seq c53r7 c53k7 (by kernel_rfl) ?_
      refine OK.regionI 7 (o53 7) (by kernel_rfl) ?_
      refine RLi.simP (K' := [(36, .func (.yield lid) #[] #[]), (37, m32 m A1 c1), (6, .pointer (some ⟨nx, 0, none⟩)), (7, .pointer (some ⟨nx + 1, 0, none⟩)), (9, .slice A l.length cap), (10, .int .i64 (l.length : Int)), (11, .int .i64 (i : Int)), (4, .map (some g)), (0, .func (.yield lid) #[] #[]), (2, .pointer (some ⟨b2, 0, none⟩))]) (nx' := nx2) (L' := [⟨nx, [.int .i64 m.f0, .int .i64 m.f1, .int .i64 m.f2, .int .i64 m.f3, .int .u32 m.f4, .int .i64 m.f5.f0, .string m.f5.f1, .slice A1 m.f5.f2.length c1], 28⟩, ⟨nx + 1, [.int .i64 m.f0, .int .i64 m.f1, .int .i64 m.f2, .int .i64 m.f3], 93⟩]) [] (RFacts.nil _ _ _) 2 [.no, .l 0] (by kernel_rfl) (by kernel_rfl) (by kernel_rfl) ?_
      refine RLi.yield (X' := [jres S' W (J' (pre ++ [m])), mres kV Value.bool g (mput seen (vkey m) true)]) lid #[m32 m A1 c1] (some 38) (by kernel_rfl) (by kernel_rfl) (by kernel_rfl) (fun w hs => ?_) (fun nx3 => ?_)
      · refine RW.YieldAt.mono (hY pre m _ w (jres_at hs List.mem_cons_self (hJ _)) ⟨rest', hpre2⟩ ⟨A1, c1, rfl⟩) ?_
        rintro e w' ⟨he, hJ', hev⟩
        exact ⟨he, hs.yielded hS hev hJ'⟩
      refine RLi.simP (K' := [(39, .bool false), (9, .slice A l.length cap), (10, .int .i64 (l.length : Int)), (11, .int .i64 (i : Int)), (4, .map (some g)), (0, .func (.yield lid) #[] #[]), (2, .pointer (some ⟨b2, 0, none⟩))]) (nx' := nx3) (L' := [⟨nx, [.int .i64 m.f0, .int .i64 m.f1, .int .i64 m.f2, .int .i64 m.f3, .int .u32 m.f4, .int .i64 m.f5.f0, .string m.f5.f1, .slice A1 m.f5.f2.length c1], 28⟩, ⟨nx + 1, [.int .i64 m.f0, .int .i64 m.f1, .int .i64 m.f2, .int .i64 m.f3], 93⟩]) [] (RFacts.nil _ _ _) 1 [.no] (by kernel_rfl) (by kernel_rfl) (by kernel_rfl) ?_
      refine RLi.nil (by kernel_rfl) ?_
      refine QN.then_ ?_
      refine OK.condF (.tmp 39) (cL c53k7) (cR c53k7) (by kernel_rfl) (by kernel_rfl) (by kernel_rfl) ?_
      refine OK.skip (by kernel_rfl) ?_
      refine QN.blkN ?_
      refine QN.then_ ?_
      refine OK.sub (K' := [(9, .slice A l.length cap), (10, .int .i64 (l.length : Int)), (11, .int .i64 (i : Int)), (4, .map (some g)), (0, .func (.yield lid) #[] #[]), (2, .pointer (some ⟨b2, 0, none⟩))]) (L' := []) (by kernel_rfl) (List.nil_sublist _) (List.Sublist.refl _) ?_
      exact hnext _ _ _ _ _ _ hleJ hcnt2 hpre2

/-! ### the tally -/
def cAs : Code → Code
  | .rangeFunc _ _ a _ => a
  | c => c
def cBd : Code → Code
  | .rangeFunc _ _ _ b => b
  | c => c
noncomputable def c35 : Code := cBody Tryz.f65
noncomputable def c35r0 : Code := cL c35
noncomputable def c35a : Code := cR c35
noncomputable def c35r1 : Code := cL c35a
noncomputable def c35b : Code := cR c35a
noncomputable def c35c : Code := cL c35b
noncomputable def c35r2 : Code := cL c35c
noncomputable def c35bk : Code := cR c35c
noncomputable def c35rf : Code := cL c35bk
noncomputable def c35e : Code := cR c35b
noncomputable def c35r8 : Code := cL c35e
noncomputable def c35t : Code := cR c35e
noncomputable def c35as : Code := cAs c35rf
noncomputable def c35bd : Code := cBd c35rf
noncomputable def c35b1 : Code := cL c35bd
noncomputable def c35r4 : Code := cL c35b1
noncomputable def c35d1 : Code := cR c35b1
noncomputable def c35r5 : Code := cL c35d1
noncomputable def c35d2 : Code := cR c35d1
noncomputable def c35r6 : Code := cL c35d2
noncomputable def c35cd : Code := cR c35d2
noncomputable def c35r7 : Code := cL c35cd
noncomputable def c35sk : Code := cR c35cd
noncomputable def o35 : Nat → List Oper
  | 0 => cOps c35r0
  | 1 => cOps c35r1
  | 2 => cOps c35r2
  | 3 => cOps c35as
  | 4 => cOps c35r4
  | 5 => cOps c35r5
  | 6 => cOps c35r6
  | 7 => cOps c35r7
  | _ => cOps c35r8
def cells32 (x : Q32) (A : Option Addr) (c : Nat) : List Value := [.int .i64 x.f0, .int .i64 x.f1, .int .i64 x.f2, .int .i64 x.f3, .int .u32 x.f4, .int .i64 x.f5.f0, .string x.f5.f1, .slice A x.f5.f2.length c]
def cells84 (m : Q32) : List Value := [.int .i64 m.f0, .int .i64 m.f2, .int .i64 m.f3, .int .u32 m.f4]
theorem an35_5 : ancs (o35 5) [] = [0, 0, 3, 7, 3, 19, 63] := by kernel_rfl
theorem an35_6 : ancs (o35 6) [] = [0, 0, 3, 0, 8, 31] := by kernel_rfl
theorem tally_body (lid : Nat) (Q : Exit → Act → World → Prop) (hQ : ¬ LetsOut Q) (B : Base) (I : Imm) (nx g3 g5 g6 gv gd gm : Nat) (n sz : Int) (m : Q32) (A1 : Option Addr) (c1 : Nat) (vt dt : List (VK × Int))
    (h3 : I ⟨g3, 0, none⟩ = some (.int .i64 n)) (h5 : I ⟨g5, 0, none⟩ = some (.map (some gv))) (h6 : I ⟨g6, 0, none⟩ = some (.map (some gd))) (hsz : quorum_Size.f n = some sz)
    (k : ∀ J nx', I.le J → QN Q .normal ⟨47, []⟩ [] B J nx' [] [mres kB (Value.int .i64) gv (bump sz (vt, dt) m).1, mres kV (Value.int .u32) gd (bump sz (vt, dt) m).2]) :
    OKr lid Tryz.prog c35bd Q ⟨47, []⟩ [(7, .pointer (some ⟨gm, 0, none⟩)), (3, .pointer (some ⟨g3, 0, none⟩)), (5, .pointer (some ⟨g5, 0, none⟩)), (6, .pointer (some ⟨g6, 0, none⟩))] B I nx [⟨gm, cells32 m A1 c1, 28⟩] [mres kB (Value.int .i64) gv vt, mres kV (Value.int .u32) gd dt] := by
  obtain ⟨v, hv⟩ : ∃ v, RW.W .i64 ((mget vt (bkey m)).getD 0 + 1) = v := ⟨_, rfl⟩
  refine OKr.block 1 c35b1 (by kernel_rfl) ?_
  have hQ1 : ¬ LetsOut (Exit.inBlock 1 Q) := letsBlock hQ
  refine OKr.seq c35r4 c35d1 (by kernel_rfl) ?_
  refine OKr.region 4 (o35 4) (by kernel_rfl) (letsThen hQ1) (by kernel_rfl) ?_
  refine RL.simP (K' := [(8, .pointer (some ⟨nx, 0, none⟩)), (3, .pointer (some ⟨g3, 0, none⟩)), (5, .pointer (some ⟨g5, 0, none⟩)), (6, .pointer (some ⟨g6, 0, none⟩))]) (nx' := nx + 1) (L' := [⟨gm, cells32 m A1 c1, 28⟩, ⟨nx, cells84 m, 111⟩]) [] (RFacts.nil _ _ _) 12 [.no, .l 0, .no, .l 0, .no, .l 0, .no, .no, .l 0, .no, .no, .l 1] (by kernel_rfl) (by kernel_rfl) ?_
  refine RL.nil (by kernel_rfl) ?_
  refine QN.thenr ?_
  refine OKr.seq c35r5 c35d2 (by kernel_rfl) ?_
  refine OKr.drawn 5 (o35 5) (by kernel_rfl) (by kernel_rfl) (letsThen hQ1) (by kernel_rfl) ?_
  obtain ⟨old, hold⟩ : ∃ old, (mget vt (bkey m)).getD 0 = old := ⟨_, rfl⟩
  obtain ⟨at_, hat⟩ : ∃ at_ : Nat, mat vt (bkey m) = at_ := ⟨_, rfl⟩
  refine drawnAnyS 6 (o35 5) _ [(4, fun _ => .tuple #[.int .i64 old, goInt (at_ : Int)])] [(2, fun _ => .int .i64 old)] [(⟨g5, 0, none⟩, .map (some gv))] [⟨gm, cells32 m A1 c1, 28⟩, ⟨nx, cells84 m, 111⟩] [.r 0, .l 1, .no, .no, .no, .no] an35_5 (by kernel_rfl) (by kernel_rfl)
    (fun _ => [.map (some gv), kB (bkey m), .int .i64 old, .int .i64 (RW.W .i64 (old + 1)), .tuple #[.int .i64 old, goInt (at_ : Int)], goInt (at_ : Int)])
    (fun _ => [(31, goInt (at_ : Int)), (30, .tuple #[.int .i64 old, goInt (at_ : Int)]), (29, .int .i64 (RW.W .i64 (old + 1))), (28, .int .i64 old), (27, kB (bkey m)), (26, .map (some gv)), (8, .pointer (some ⟨nx, 0, none⟩)), (3, .pointer (some ⟨g3, 0, none⟩)), (5, .pointer (some ⟨g5, 0, none⟩)), (6, .pointer (some ⟨g6, 0, none⟩))])
    (fun u => by kernel_rfl) (fun u => by kernel_rfl)
    (fun D _ w => Sat B I (nx + 1) [⟨gm, cells32 m A1 c1, 28⟩, ⟨nx, cells84 m, 111⟩] [mres kB (Value.int .i64) gv (bif D 4 then mens vt (bkey m) 0 else vt), mres kV (Value.int .u32) gd dt] w)
    (fun D u w hs => ⟨hs.blk, fun r hr => (RFacts.imm h5 (RFacts.nil _ _ _)) _ _ w hs r hr⟩) (fun u w hs => hs)
    [fun _ => [(29, .int .i64 (RW.W .i64 (old + 1))), (28, .int .i64 old), (27, kB (bkey m)), (26, .map (some gv)), (8, .pointer (some ⟨nx, 0, none⟩)), (3, .pointer (some ⟨g3, 0, none⟩)), (5, .pointer (some ⟨g5, 0, none⟩)), (6, .pointer (some ⟨g6, 0, none⟩))]]
    ⟨fun u => by kernel_rfl, trivial⟩ ⟨fun D u w hD _ hs => ?_, trivial⟩
    [fun _ => [(27, kB (bkey m)), (26, .map (some gv)), (8, .pointer (some ⟨nx, 0, none⟩)), (3, .pointer (some ⟨g3, 0, none⟩)), (5, .pointer (some ⟨g5, 0, none⟩)), (6, .pointer (some ⟨g6, 0, none⟩))]]
    ⟨fun u => by kernel_rfl, trivial⟩ ⟨fun D u w _ hs => ?_, fun _ _ _ => rfl, trivial⟩ (fun u a w hs ha => ?_)
  · -- the entry is made
    simp only [hD, cond_false] at hs ⊢
    have hx : execOp (evalK [(29, .int .i64 (RW.W .i64 (old + 1))), (28, .int .i64 old), (27, kB (bkey m)), (26, .map (some gv)), (8, .pointer (some ⟨nx, 0, none⟩)), (3, .pointer (some ⟨g3, 0, none⟩)), (5, .pointer (some ⟨g5, 0, none⟩)), (6, .pointer (some ⟨g6, 0, none⟩))]) ((o35 5).getD 4 default) = toNext (Instr.mapEntry 106 (.map (some gv)) (kB (bkey m))) := by kernel_rfl
    have hr := mt79.entry (hs.res _ List.mem_cons_self) (bkey m)
    rw [hold, hat] at hr
    refine .inl ⟨_, _, .inl (by rw [hx]; exact run_toNext hr), fun _ => (none, 0, []), rfl, ?_⟩
    simp only [dset_self, cond_true]
    exact hs.putMap (m := 0) rfl
  · -- the count that stands
    have hx : execOp (evalK [(27, kB (bkey m)), (26, .map (some gv)), (8, .pointer (some ⟨nx, 0, none⟩)), (3, .pointer (some ⟨g3, 0, none⟩)), (5, .pointer (some ⟨g5, 0, none⟩)), (6, .pointer (some ⟨g6, 0, none⟩))]) ((o35 5).getD 2 default) = toNext (Instr.lookup 106 (.map (some gv)) (kB (bkey m)) false) := by kernel_rfl
    have hr := mt79.lookup (q := 0) (w := w) (g := gv) (l := bif D 4 then mens vt (bkey m) 0 else vt) (by simp) (hs.res _ List.mem_cons_self) (bkey m) false
    have hval : (mget (bif D 4 then mens vt (bkey m) 0 else vt) (bkey m)).getD 0 = old := by
      cases D 4 with
      | true => rw [cond_true, mens_get]; exact hold
      | false => exact hold
    rw [if_neg (by decide), hval] at hr
    rw [hx]
    exact run_toNext hr
  refine RL.go (X := [mres kB (Value.int .i64) gv (mens vt (bkey m) 0), mres kV (Value.int .u32) gd dt]) ?_ ha hs
  have hmm := mens_mat vt (bkey m) 0
  refine RL.storeM (T := 106) (bkey m) v 0 (l := mens vt (bkey m) 0) (by rw [hmm.1]; exact hmm.2) (by kernel_rfl) rfl ?_ ?_
  · rw [hmm.1, hat, ← hv, hold]
    kernel_rfl
  refine RL.norm (X' := [mres kB (Value.int .i64) gv (mput vt (bkey m) v), mres kV (Value.int .u32) gd dt]) rfl rfl rfl (by rw [mput_mens]; rfl) ?_
  refine RL.nil (by kernel_rfl) ?_
  refine QN.thenr ?_
  refine OKr.seq c35r6 c35cd (by kernel_rfl) ?_
  have hget : (mget (mput vt (bkey m) v) (bkey m)).getD 0 = v := by rw [mput_get]; rfl
  refine OKr.drawn 6 (o35 6) (by kernel_rfl) (by kernel_rfl) (letsThen hQ1) (by kernel_rfl) ?_
  refine drawnAnyS 6 (o35 6) _ [(4, fun _ => .int .i64 sz)] [(2, fun _ => .int .i64 v)] [(⟨g5, 0, none⟩, .map (some gv)), (⟨g3, 0, none⟩, .int .i64 n)] [⟨gm, cells32 m A1 c1, 28⟩, ⟨nx, cells84 m, 111⟩] [.r 0, .l 1, .no, .r 1, .no, .no] an35_6 (by kernel_rfl) (by kernel_rfl)
    (fun _ => [.map (some gv), kB (bkey m), .int .i64 v, .int .i64 n, .int .i64 sz, .bool (v == sz)])
    (fun _ => [(37, .bool (v == sz)), (36, .int .i64 sz), (35, .int .i64 n), (34, .int .i64 v), (33, kB (bkey m)), (32, .map (some gv)), (31, goInt (at_ : Int)), (30, .tuple #[.int .i64 old, goInt (at_ : Int)]), (29, .int .i64 (RW.W .i64 (old + 1))), (28, .int .i64 old), (27, kB (bkey m)), (26, .map (some gv)), (8, .pointer (some ⟨nx, 0, none⟩)), (3, .pointer (some ⟨g3, 0, none⟩)), (5, .pointer (some ⟨g5, 0, none⟩)), (6, .pointer (some ⟨g6, 0, none⟩))])
    (fun u => by kernel_rfl) (fun u => by kernel_rfl)
    (fun _ _ w => ∃ J, I.le J ∧ Sat B J w.heap.size [⟨gm, cells32 m A1 c1, 28⟩, ⟨nx, cells84 m, 111⟩] [mres kB (Value.int .i64) gv (mput vt (bkey m) v), mres kV (Value.int .u32) gd dt] w)
    (fun D u w ⟨J, hJ, hs⟩ => ⟨hs.blk, fun r hr => (RFacts.imm (hJ _ _ h5) (RFacts.imm (hJ _ _ h3) (RFacts.nil _ _ _))) _ _ w hs r hr⟩) (fun u w hs => ⟨I, Imm.le_refl _, by rw [hs.hnx]; exact hs⟩)
    [fun _ => [(35, .int .i64 n), (34, .int .i64 v), (33, kB (bkey m)), (32, .map (some gv)), (31, goInt (at_ : Int)), (30, .tuple #[.int .i64 old, goInt (at_ : Int)]), (29, .int .i64 (RW.W .i64 (old + 1))), (28, .int .i64 old), (27, kB (bkey m)), (26, .map (some gv)), (8, .pointer (some ⟨nx, 0, none⟩)), (3, .pointer (some ⟨g3, 0, none⟩)), (5, .pointer (some ⟨g5, 0, none⟩)), (6, .pointer (some ⟨g6, 0, none⟩))]]
    ⟨fun u => by kernel_rfl, trivial⟩ ⟨fun D u w _ _ hs => ?_, trivial⟩
    [fun _ => [(33, kB (bkey m)), (32, .map (some gv)), (31, goInt (at_ : Int)), (30, .tuple #[.int .i64 old, goInt (at_ : Int)]), (29, .int .i64 (RW.W .i64 (old + 1))), (28, .int .i64 old), (27, kB (bkey m)), (26, .map (some gv)), (8, .pointer (some ⟨nx, 0, none⟩)), (3, .pointer (some ⟨g3, 0, none⟩)), (5, .pointer (some ⟨g5, 0, none⟩)), (6, .pointer (some ⟨g6, 0, none⟩))]]
    ⟨fun u => by kernel_rfl, trivial⟩ ⟨fun D u w _ hs => ?_, fun _ _ _ => rfl, trivial⟩ (fun u a w hs ha => ?_)
  · -- the size of a quorum
    obtain ⟨J, hJ, hs⟩ := hs
    refine (Does.call 81 [.int .i64 n] (by kernel_rfl) (quorum_Size.calls J n w hs.im sz hsz)).mono ?_
    rintro x w' ⟨J2, rfl, hg⟩
    exact ⟨fun _ => (none, 0, []), rfl, J2, Imm.le_trans hJ hg.le, hs.call hg⟩
  · obtain ⟨J, hJ, hs⟩ := hs
    have hx : execOp (evalK [(33, kB (bkey m)), (32, .map (some gv)), (31, goInt (at_ : Int)), (30, .tuple #[.int .i64 old, goInt (at_ : Int)]), (29, .int .i64 (RW.W .i64 (old + 1))), (28, .int .i64 old), (27, kB (bkey m)), (26, .map (some gv)), (8, .pointer (some ⟨nx, 0, none⟩)), (3, .pointer (some ⟨g3, 0, none⟩)), (5, .pointer (some ⟨g5, 0, none⟩)), (6, .pointer (some ⟨g6, 0, none⟩))]) ((o35 6).getD 2 default) = toNext (Instr.lookup 106 (.map (some gv)) (kB (bkey m)) false) := by kernel_rfl
    have hr := mt79.lookup (q := 0) (w := w) (g := gv) (l := mput vt (bkey m) v) (by simp) (hs.res _ List.mem_cons_self) (bkey m) false
    rw [if_neg (by decide), hget] at hr
    rw [hx]
    exact run_toNext hr
  obtain ⟨J, hJ, hs⟩ := hs
  revert hs
  generalize w.heap.size = nx2
  intro hs
  refine RL.go (X := [mres kB (Value.int .i64) gv (mput vt (bkey m) v), mres kV (Value.int .u32) gd dt]) ?_ ha hs
  clear hs ha a w u
  refine RL.nil (by kernel_rfl) ?_
  refine QN.thenr ?_
  refine OKr.cond (.tmp 37) c35r7 c35sk (v == sz) (by kernel_rfl) (by kernel_rfl) (by kernel_rfl) (fun hb => ?_) (fun hb => ?_)
  · have hvs : v = sz := beq_iff_eq.1 hb
    refine OKr.region 7 (o35 7) (by kernel_rfl) hQ1 (by kernel_rfl) ?_
    refine RL.simP (K' := [(38, .map (some gd)), (43, kV (dkey m)), (45, .int .u32 m.f4)]) (nx' := nx2) (L' := [⟨gm, cells32 m A1 c1, 28⟩, ⟨nx, cells84 m, 111⟩]) [(⟨g6, 0, none⟩, .map (some gd))] (RFacts.imm (hJ _ _ h6) (RFacts.nil _ _ _)) 8 [.r 0, .no, .l 1, .no, .l 1, .no, .no, .l 1] (by kernel_rfl) (by kernel_rfl) ?_
    refine RL.putM mt69 (dkey m) m.f4 1 (by kernel_rfl) rfl (by kernel_rfl) ?_
    refine RL.nil (by kernel_rfl) ?_
    refine QN.blkN ?_
    refine QN.sub (K' := []) (L' := []) rfl (List.nil_sublist _) (List.Sublist.refl _) ?_
    have := k J nx2 hJ
    unfold bump at this
    simp only [hv, if_pos hvs] at this
    exact this
  · have hvs : v ≠ sz := fun e => by rw [e] at hb; simp at hb
    refine OKr.skip (by kernel_rfl) ?_
    refine QN.blkN ?_
    refine QN.sub (K' := []) (L' := []) rfl (List.nil_sublist _) (List.Sublist.refl _) ?_
    have := k J nx2 hJ
    unfold bump at this
    simp only [hv, if_neg hvs] at this
    exact this

theorem knows_round {A : Fr} {K : List (Nat × Value)} {a : Act} (ha : Knows A K a) (p : Tmp) (v : Value) : Knows ⟨A.n, []⟩ (putK A K (some p) v) { tmps := ((#[p] : Array Tmp).zip #[v]).foldl (fun t (q, v) => t.setIfInBounds q v) a.tmps, defers := [] } := by
  have h := ha.put (some p) v
  have e : ((#[p] : Array Tmp).zip #[v]).foldl (fun t (q, v) => t.setIfInBounds q v) a.tmps = a.tmps.setIfInBounds p v := by simp
  rw [e]
  exact ⟨h.size, rfl, h.slot⟩
def tst (sz : Int) (pre : List Q32) : List (VK × Int) × List (VK × Int) := pre.foldl (bump sz) ([], [])
theorem tst_snoc (sz : Int) (pre : List Q32) (x : Q32) : tst sz (pre ++ [x]) = bump sz (tst sz pre) x := by simp [tst]
/-- What holds between the rounds. -/
def tJ (I : Imm) (gv gd : Nat) (sz : Int) (pre : List Q32) (W : World) : Prop :=
  I.at_ W ∧ W.heap[gv]? = some (.map (ents kB (Value.int .i64) 0 (tst sz pre).1).toArray (tst sz pre).1.length) ∧ W.heap[gd]? = some (.map (ents kV (Value.int .u32) 0 (tst sz pre).2).toArray (tst sz pre).2.length)
def quorum_tally.Post (I : Imm) (w : World) (r : List (VK × Int)) (v : Value) (w' : World) : Prop := ∃ (J : Imm) (g : Nat), v = .map (some g) ∧ Got w w' I J [] ∧ Mp kV (Value.int .u32) J g r
theorem quorum_tally.calls (k : Nat) (I0 : Imm) (a0 : List Q32) (Ap0 : Option Addr) (cp0 : Nat) (a1 : Int) (w : World) (hI : I0.at_ w) (hlp0 : a0.length ≤ cp0) (hrp0 : Rd qt32 I0 Ap0 a0) (r : List (VK × Int)) (h : quorum_tally.f k a0 a1 = some r) :
    Calls Tryz.prog 65 [.slice Ap0 a0.length cp0, .int .i64 a1].toArray w fun e w' => ∃ v, e = .returned v ∧ quorum_tally.Post I0 w r v w' := by
  obtain ⟨c, hc, h⟩ := Option.bind_eq_some_iff.mp h
  obtain ⟨sz, hsz, h⟩ := Option.bind_eq_some_iff.mp h
  obtain rfl : (tst sz c).2 = r := Option.some.inj h
  clear h
  refine calls_bodyM Tryz.func65 (by kernel_rfl) 47 (by kernel_rfl) (by kernel_rfl) ⟨w, fun _ => False, I0⟩ I0 [] [(0, .slice Ap0 a0.length cp0), (1, .int .i64 a1)] (by kernel_rfl) (Sat.start w _ I0 hI) ?_
  generalize w.heap.size = nx0
  show OK _ c35 _ _ _ _ _ _ _ _
  refine OK.seq c35r0 c35a (by kernel_rfl) ?_
  refine OK.region 0 (o35 0) (by kernel_rfl) ?_
  refine RL.simP (K' := [(3, .pointer (some ⟨nx0, 0, none⟩)), (0, .slice Ap0 a0.length cp0)]) (nx' := nx0 + 1) (L' := [⟨nx0, [.int .i64 a1], 3⟩]) [] (RFacts.nil _ _ _) 2 [.no, .no] (by kernel_rfl) (by kernel_rfl) ?_
  refine RL.immL 0 rfl (fun w hs => own_new hs (i := 0) rfl) (fun J1 hJ1 h3 => ?_)
  refine RL.nil (by kernel_rfl) ?_
  refine QN.then_ ?_
  refine OK.seq c35r1 c35b (by kernel_rfl) ?_
  refine OK.region 1 (o35 1) (by kernel_rfl) ?_
  refine RL.makeMap (T := 106) kB (Value.int .i64) (some 9) (by kernel_rfl) (by kernel_rfl) ?_
  refine RL.makeMap (T := 90) kV (Value.int .u32) (some 10) (by kernel_rfl) (by kernel_rfl) ?_
  refine RL.simP (K' := [(5, .pointer (some ⟨nx0 + 1 + 1 + 1, 0, none⟩)), (6, .pointer (some ⟨nx0 + 1 + 1 + 1 + 1, 0, none⟩)), (3, .pointer (some ⟨nx0, 0, none⟩)), (0, .slice Ap0 a0.length cp0)]) (nx' := nx0 + 1 + 1 + 1 + 1 + 1) (L' := [⟨nx0 + 1 + 1 + 1, [.map (some (nx0 + 1))], 106⟩, ⟨nx0 + 1 + 1 + 1 + 1, [.map (some (nx0 + 1 + 1))], 90⟩]) [] (RFacts.nil _ _ _) 4 [.no, .no, .l 0, .l 1] (by kernel_rfl) (by kernel_rfl) ?_
  refine RL.immL 0 rfl (fun w hs => own_new hs (i := 0) rfl) (fun J2 hJ2 h5 => ?_)
  refine RL.immL 0 rfl (fun w hs => own_new hs (i := 0) rfl) (fun J3 hJ3 h6 => ?_)
  refine RL.nil (by kernel_rfl) ?_
  refine QN.then_ ?_
  refine OK.seq c35c c35e (by kernel_rfl) ?_
  refine OK.seq c35r2 c35bk (by kernel_rfl) ?_
  refine OK.region 2 (o35 2) (by kernel_rfl) ?_
  replace h3 := hJ3 _ _ (hJ2 _ _ (h3 0 _ rfl))
  replace h5 := hJ3 _ _ (h5 0 _ rfl)
  replace h6 := h6 0 _ rfl
  have hJ := Imm.le_trans hJ1 (Imm.le_trans hJ2 hJ3)
  refine RL.simP (K' := [(11, .slice Ap0 a0.length cp0), (13, .func (.func 48) #[.int .i64 a1] #[]), (5, .pointer (some ⟨nx0 + 1 + 1 + 1, 0, none⟩)), (6, .pointer (some ⟨nx0 + 1 + 1 + 1 + 1, 0, none⟩)), (3, .pointer (some ⟨nx0, 0, none⟩))]) (nx' := nx0 + 1 + 1 + 1 + 1 + 1) (L' := []) [(⟨nx0, 0, none⟩, .int .i64 a1)] (RFacts.imm h3 (RFacts.nil _ _ _)) 3 [.no, .r 0, .no] (by kernel_rfl) (by kernel_rfl) ?_
  refine RL.callP 80 [.slice Ap0 a0.length cp0, .func (.func 48) #[.int .i64 a1] #[]] (some 14) (fun w => counted.Post J3 w Ap0 a0.length cp0 a1) (by kernel_rfl) (by kernel_rfl) (fun w hs => counted.calls J3 Ap0 a0.length cp0 a1 w hs.im) ?_
  rintro w1 v w2 hs ⟨J, b1, b2, rfl, hg, hb1, hb2⟩
  replace hJ := Imm.le_trans hJ hg.le
  replace h3 := hg.le _ _ h3
  replace h5 := hg.le _ _ h5
  replace h6 := hg.le _ _ h6
  refine RL.resume (K' := [(14, fv53 b1 b2), (11, .slice Ap0 a0.length cp0), (13, .func (.func 48) #[.int .i64 a1] #[]), (5, .pointer (some ⟨nx0 + 1 + 1 + 1, 0, none⟩)), (6, .pointer (some ⟨nx0 + 1 + 1 + 1 + 1, 0, none⟩)), (3, .pointer (some ⟨nx0, 0, none⟩))]) (X' := [mres kB (Value.int .i64) (nx0 + 1) [], mres kV (Value.int .u32) (nx0 + 1 + 1) []]) (by kernel_rfl) (hs.call hg) ?_
  clear hs hg
  generalize w2.heap.size = nx2
  clear w1 w2 hJ1 hJ2 hJ3 J1 J2 J3
  generalize nx0 + 1 + 1 + 1 + 1 = g6 at h6 ⊢
  generalize nx0 + 1 + 1 + 1 = g5 at h5 ⊢
  generalize hgd : nx0 + 1 + 1 = gd at h6 ⊢
  generalize hgv : nx0 + 1 = gv at h5 ⊢
  have hne : gv ≠ gd := by omega
  clear hgd hgv
  refine RL.nil (by kernel_rfl) ?_
  refine QN.then_ ?_
  refine OK.block 0 c35rf (by kernel_rfl) ?_
  intro a w1 ha hs
  have hrf : c35rf = .rangeFunc (.tmp 14) #[15] c35as c35bd := by kernel_rfl
  rw [hrf]
  have hlow : ∀ a v, J a = some v → a.block < w1.heap.size := fun a v h => look_lt (hs.im a v h)
  have hgvl : gv < w1.heap.size := by rw [hs.hnx]; exact (hs.rown _ List.mem_cons_self gv rfl).1
  have hgdl : gd < w1.heap.size := by rw [hs.hnx]; exact (hs.rown _ (List.mem_cons_of_mem _ List.mem_cons_self) gd rfl).1
  have hImv : ∀ a v, J a = some v → a.block ≠ gv := fun a v h e => hs.imX a v h _ List.mem_cons_self e
  have hImd : ∀ a v, J a = some v → a.block ≠ gd := fun a v h e => hs.imX a v h _ (List.mem_cons_of_mem _ List.mem_cons_self) e
  have hat : ∀ {A B : World}, J.at_ A → LowEq w1.heap.size A B → J.at_ B := fun {A B} h hl a v hv => by
    rw [← h a v hv]
    exact look_of_block (hl.blk _ (hlow a v hv))
  refine range_wp (gf := 93) (lb := #[.pointer (some ⟨b1, 0, none⟩), .pointer (some ⟨b2, 0, none⟩)]) ((ha.eval (by kernel_rfl)).trans (by kernel_rfl)) (fun args w => any_run (by kernel_rfl) w) E32 (fun x xs ⟨A, c, e⟩ => by rw [e]; rfl) c (fun k => k = gv ∨ k = gd) (fun k hk => by rcases hk with rfl | rfl <;> assumption)
    (tJ J gv gd sz) (fun pre A B h hl => ⟨hat h.1 hl, by rw [hl.blk _ hgvl]; exact h.2.1, by rw [hl.blk _ hgdl]; exact h.2.2⟩) ⟨hs.im, hs.res _ List.mem_cons_self, hs.res _ (List.mem_cons_of_mem _ List.mem_cons_self)⟩ ?_ ?_ ?_
  · -- a round
    rintro l pre x xs W hJp hpre ⟨A1, c1, rfl⟩ hwl hlW
    refine (OKr.region 3 (o35 3) (by kernel_rfl) (fun ⟨_, _, h⟩ => h) (by kernel_rfl) ?_ : OKr l Tryz.prog c35as _ ⟨47, []⟩ [(15, m32 x A1 c1), (14, fv53 b1 b2), (11, .slice Ap0 a0.length cp0), (13, .func (.func 48) #[.int .i64 a1] #[]), (5, .pointer (some ⟨g5, 0, none⟩)), (6, .pointer (some ⟨g6, 0, none⟩)), (3, .pointer (some ⟨nx0, 0, none⟩))] ⟨W, fun _ => False, J⟩ J W.heap.size [] []) _ W (knows_round ha 15 (m32 x A1 c1)) (Sat.start W _ J hJp.1)
    refine RL.simP (K' := [(7, .pointer (some ⟨W.heap.size, 0, none⟩)), (3, .pointer (some ⟨nx0, 0, none⟩)), (5, .pointer (some ⟨g5, 0, none⟩)), (6, .pointer (some ⟨g6, 0, none⟩))]) (nx' := W.heap.size + 1) (L' := [⟨W.heap.size, cells32 x A1 c1, 28⟩]) [] (RFacts.nil _ _ _) 2 [.no, .l 0] (by kernel_rfl) (by kernel_rfl) ?_
    refine RL.nil (by kernel_rfl) ?_
    intro a1' W1 ha1 hs1
    refine ⟨hs1.evo, fun W2 hev => ?_⟩
    have hsz1 := hs1.evo.size
    have hsz2 := hev.size
    have e2 : ∀ k, k < W.heap.size → k ≠ l → W2.heap[k]? = W.heap[k]? := fun k hk hne => (hev.blk k (by show k < W1.heap.size; have : W.heap.size ≤ W1.heap.size := hsz1; omega) hne).trans (hs1.evo.blk k hk (fun h => h))
    have hm : W2.heap[W.heap.size]? = some (.cells (cells32 x A1 c1).toArray 28 (0, 0)) := by
      rw [hev.blk _ (by rw [hs1.hnx]; exact Nat.lt_succ_self _) (by omega)]
      exact hs1.blk _ List.mem_cons_self
    have hat2 : J.at_ W2 := fun a v hv => by
      rw [← hJp.1 a v hv]
      have := hlow a v hv
      exact look_of_block (e2 _ (by omega) (by omega))
    have hml : W.heap.size < W2.heap.size := (Array.getElem?_eq_some_iff.1 hm).1
    refine tally_body l _ (fun ⟨_, _, h⟩ => by cases h.1) ⟨W2, fun k => (k = gv ∨ k = gd) ∨ W.heap.size ≤ k, J⟩ J W2.heap.size nx0 g5 g6 gv gd W.heap.size a1 sz x A1 c1 (tst sz pre).1 (tst sz pre).2 h3 h5 h6 hsz (fun J' nx' hJ' a3 W3 _ hs3 => ?_) a1' W2 ha1 (Sat.start2 hat2 _ (fun b hb => ?_) (List.pairwise_singleton _ _) _ _ ?_ ?_ ?_ ?_ ?_)
    · refine ⟨rfl, ⟨fun a v hv => hs3.im a v (hJ' a v hv), ?_, ?_⟩, hs3.evo⟩
      · rw [tst_snoc]; exact hs3.res _ List.mem_cons_self
      · rw [tst_snoc]; exact hs3.res _ (List.mem_cons_of_mem _ List.mem_cons_self)
    · rw [List.mem_singleton.1 hb]
      exact ⟨hm, .inr (Nat.le_refl _), fun a v hv => by have := hlow a v hv; show W.heap.size ≠ a.block; omega⟩
    · show W2.heap[gv]? = _
      rw [e2 gv (by omega) (by omega)]
      exact hJp.2.1
    · show W2.heap[gd]? = _
      rw [e2 gd (by omega) (by omega)]
      exact hJp.2.2
    · intro k hk
      obtain rfl : k = gv := hk
      exact ⟨by omega, .inl (.inl rfl), fun b hb => by rw [List.mem_singleton.1 hb]; show W.heap.size ≠ k; omega, fun a v hv => hImv a v hv⟩
    · intro k hk
      obtain rfl : k = gd := hk
      exact ⟨by omega, .inl (.inr rfl), fun b hb => by rw [List.mem_singleton.1 hb]; show W.heap.size ≠ k; omega, fun a v hv => hImd a v hv⟩
    · intro k hk hk2
      obtain rfl : k = gv := hk
      exact hne hk2
  · -- the iterator
    intro l W S' J' hev hS' hJ' hY h0
    have hsz1 := hev.size
    exact counted1.calls k a1 a0 c hc J Ap0 cp0 (Rd.ext hJ hrp0) b1 b2 hb1 hb2 l W (hat hs.im (hev.low (Nat.le_refl _) (fun k h => h.elim))) S' (fun k hk => (hS' k hk).1) (fun a v hv hs' => by
      have := hlow a v hv
      rcases (hS' _ hs').2 with (h | h) | h
      · exact hImv a v hv h
      · exact hImd a v hv h
      · omega) J' hJ' (fun pre x xs W1 h1 h2 h3 => hY pre x xs W1 h1 h2 h3) h0
  · -- behind it
    intro D W hD hJc hev hdef
    have hs' := hs.turned (r1' := mres kB (Value.int .i64) gv (tst sz c).1) (r2' := mres kV (Value.int .u32) gd (tst sz c).2) (fun k hk => hk) hev rfl rfl hJc.2.1 hJc.2.2 hdef hD
    refine (?_ : OK Tryz.prog c35e (bodyPostM Fence.wide 0 Tryz.prog Tryz.f65 _) ⟨47, [{ target := .collected D, args := #[] }]⟩ [(14, fv53 b1 b2), (11, .slice Ap0 a0.length cp0), (13, .func (.func 48) #[.int .i64 a1] #[]), (5, .pointer (some ⟨g5, 0, none⟩)), (6, .pointer (some ⟨g6, 0, none⟩)), (3, .pointer (some ⟨nx0, 0, none⟩))] _ J W.heap.size [] [mres kB (Value.int .i64) gv (tst sz c).1, mres kV (Value.int .u32) gd (tst sz c).2, dres D (some [])]) _ W ⟨ha.size, by show _ :: a.defers = _; rw [ha.defers], ha.slot⟩ hs'
    refine OK.seq c35r8 c35t (by kernel_rfl) ?_
    refine OK.region 8 (o35 8) (by kernel_rfl) ?_
    refine RL.simP (K' := [(4, .map (some gd))]) (nx' := W.heap.size) (L' := []) [(⟨g6, 0, none⟩, .map (some gd))] (RFacts.imm h6 (RFacts.nil _ _ _)) 2 [.r 0, .no] (by kernel_rfl) (by kernel_rfl) ?_
    refine RL.nil (by kernel_rfl) ?_
    refine QN.then_ ?_
    refine OK.ret (by kernel_rfl) ?_
    refine QN.bodyM rfl (.map (some gd)) (by kernel_rfl) (by kernel_rfl) (fun w2 hs2 => hs2.res (dres D (some [])) (List.mem_cons_of_mem _ (List.mem_cons_of_mem _ List.mem_cons_self))) (fun w2 hs2 => ?_)
    have hDl : D < w2.heap.size := (Array.getElem?_eq_some_iff.1 (hs2.res (dres D (some [])) (List.mem_cons_of_mem _ (List.mem_cons_of_mem _ List.mem_cons_self)))).1
    have hs3 := hs2.replace (m := 2) (r := dres D (some [])) rfl (dres D none) (w' := w2.putObj D (.deferred none)) rfl rfl rfl (by simp) (fun k _ hf => World.putObj_heap_other (fun e => hf e)) (World.putObj_heap_same hDl) (fun k hk => .inl hk) (fun k hk => by obtain rfl : k = D := hk; simpa using hDl)
    have hgd3 : (w2.putObj D (.deferred none)).heap[gd]? = some (.map (ents kV (Value.int .u32) 0 (tst sz c).2).toArray (tst sz c).2.length) := hs3.res (mres kV (Value.int .u32) gd (tst sz c).2) (List.mem_cons_of_mem _ List.mem_cons_self)
    have hown := hs3.rown (mres kV (Value.int .u32) gd (tst sz c).2) (List.mem_cons_of_mem _ List.mem_cons_self) gd rfl
    have hmk : ∀ a v, mapImm gd (codeM (ents kV (Value.int .u32) 0 (tst sz c).2).toArray) a = some v → a = ⟨gd, 0, some 0⟩ ∧ v = codeM (ents kV (Value.int .u32) 0 (tst sz c).2).toArray := fun a v h => by
      unfold mapImm at h
      split at h
      · exact ⟨‹_›, (Option.some.inj h).symm⟩
      · cases h
    have hs4 := (hs3.less (List.Sublist.refl _) (List.nil_sublist _)).imm (mapImm gd (codeM (ents kV (Value.int .u32) 0 (tst sz c).2).toArray)) (fun a v h => by
      obtain ⟨rfl, rfl⟩ := hmk a v h
      simp only [RW.look, hgd3]) (fun a v _ b hb => by cases hb) (fun a v _ r hr => by cases hr) (fun a v h => by
      obtain ⟨rfl, rfl⟩ := hmk a v h
      exact .inl (hown.2.resolve_right (fun h => h)))
    refine ⟨_, rfl, _, gd, rfl, hs4.got _ (List.nil_sublist _), Imm.or_get ?_ (by unfold mapImm; rw [if_pos rfl])⟩
    cases hx : J ⟨gd, 0, some 0⟩ with
    | none => rfl
    | some v => exact absurd rfl (hImd _ v hx)

end Go.Proofs.YtijhdekfbjafgaaGreat
namespace Go.Proofs.YtijhdekfbjafgaaGreat
open Go Go.Proofs.YtijhdekfbjafgaaGreat.RW
set_option linter.unusedVariables false
set_option maxRecDepth 100000
set_option maxHeartbeats 8000000

/-! ### quorum_Prepared: function 14, armillary/quorum.Prepared -/
noncomputable def K14_0 : Code := cBody Tryz.f92
noncomputable def K14_1 : Code := cL K14_0
noncomputable def O14_1 : List Oper := cOps K14_1
noncomputable def K14_3 : Code := cR K14_0
noncomputable def K14_4 : Code := cL K14_3
noncomputable def O14_4 : List Oper := cOps K14_4
noncomputable def K14_6 : Code := cR K14_3
noncomputable def K14_7 : Code := cL K14_6
noncomputable def O14_7 : List Oper := cOps K14_7
noncomputable def K14_9 : Code := cR K14_6
noncomputable def quorum_Prepared.f (k : Nat) (a0 : List Q32) (a1 : Int) (a2 : Q24) : Option (Int × Bool) := ((quorum_tally.f k a0 a1).bind fun t1 => (some ((mget t1 (2, 0, a2.f0, a2.f1)).getD 0, (mget t1 (2, 0, a2.f0, a2.f1)).isSome)))
def quorum_Prepared.Post (I : Imm) (w : World) (r : Int × Bool) (v : Value) (w' : World) : Prop :=
  ∃ (J : Imm), v = .tuple #[.int .u32 r.1, .bool r.2] ∧ Got w w' I J []
theorem quorum_Prepared.a14_4 : ancs O14_4 [] = [0, 0, 3, 0, 8, 31, 63, 127, 127, 255, 1023] := by kernel_rfl
theorem quorum_Prepared.a14_4o : drawOk O14_4 [0, 0, 3, 0, 8, 31, 63, 127, 127, 255, 1023] 10 = true := by kernel_rfl
noncomputable def quorum_Prepared.d1l (t1 : (List (VK × Int))) : List Ld :=
  [⟨2, fun x => .map (some ((x 0).2.1)), fun x => [], fun x J => Mp kV (Value.int .u32) J (x 0).2.1 t1 ∧ True, fun x J J' h f => ⟨Mp.ext h f.1, trivial⟩⟩]
noncomputable def quorum_Prepared.d1g (a2 : Q24) (t1 : (List (VK × Int))) : List (Nat × ((Nat → Wt) → Value)) := [(5, fun u => .tuple #[.int .u32 ((mget t1 (2, 0, a2.f0, a2.f1)).getD 0), .bool (mget t1 (2, 0, a2.f0, a2.f1)).isSome])]
theorem quorum_Prepared.d1v (a0 : List Q32) (Ap0 : Option Addr) (cp0 : Nat) (a1 : Int) (a2 : Q24) (nx0 : Nat) (t1 : (List (VK × Int))) (u : Nat → Wt) : (qSim Tryz.prog [] [⟨nx0, [.int .i64 a2.f0, .int .i64 a2.f1], 65⟩] O14_4 ⟨21, []⟩ (Ld.vl (quorum_Prepared.d1l t1)) (quorum_Prepared.d1g a2 t1) u [.no, .no, .no, .l 0, .no, .no, .no, .no, .no, .no] 0 (O14_4.take 10) [(5, .pointer (some ⟨nx0, 0, none⟩)), (0, .slice Ap0 a0.length cp0), (1, .int .i64 a1)]).map (fun x => (x.1, x.2.1)) = some ([.slice Ap0 a0.length cp0, .int .i64 a1, .map (some ((u 2 0).2.1)), .agg #[.int .i64 a2.f0, .int .i64 a2.f1], .agg #[.int .i64 2, .int .i64 0, .int .i64 a2.f0, .int .i64 a2.f1], .tuple #[.int .u32 ((mget t1 (2, 0, a2.f0, a2.f1)).getD 0), .bool (mget t1 (2, 0, a2.f0, a2.f1)).isSome], .tuple #[.int .u32 ((mget t1 (2, 0, a2.f0, a2.f1)).getD 0), .bool (mget t1 (2, 0, a2.f0, a2.f1)).isSome], .int .u32 ((mget t1 (2, 0, a2.f0, a2.f1)).getD 0), .bool (mget t1 (2, 0, a2.f0, a2.f1)).isSome, .int .u32 ((mget t1 (2, 0, a2.f0, a2.f1)).getD 0)], [(8, .int .u32 ((mget t1 (2, 0, a2.f0, a2.f1)).getD 0)), (18, .bool (mget t1 (2, 0, a2.f0, a2.f1)).isSome), (17, .int .u32 ((mget t1 (2, 0, a2.f0, a2.f1)).getD 0)), (10, .tuple #[.int .u32 ((mget t1 (2, 0, a2.f0, a2.f1)).getD 0), .bool (mget t1 (2, 0, a2.f0, a2.f1)).isSome]), (16, .tuple #[.int .u32 ((mget t1 (2, 0, a2.f0, a2.f1)).getD 0), .bool (mget t1 (2, 0, a2.f0, a2.f1)).isSome]), (15, .agg #[.int .i64 2, .int .i64 0, .int .i64 a2.f0, .int .i64 a2.f1]), (14, .agg #[.int .i64 a2.f0, .int .i64 a2.f1]), (13, .map (some ((u 2 0).2.1))), (12, .int .i64 a1), (11, .slice Ap0 a0.length cp0), (5, .pointer (some ⟨nx0, 0, none⟩)), (0, .slice Ap0 a0.length cp0), (1, .int .i64 a1)]) := by kernel_rfl
theorem quorum_Prepared.d1e (a0 : List Q32) (Ap0 : Option Addr) (cp0 : Nat) (a1 : Int) (a2 : Q24) (nx0 : Nat) (t1 : (List (VK × Int))) (u : Nat → Wt) : (qSim Tryz.prog [] [⟨nx0, [.int .i64 a2.f0, .int .i64 a2.f1], 65⟩] O14_4 ⟨21, []⟩ (Ld.vl (quorum_Prepared.d1l t1)) (quorum_Prepared.d1g a2 t1) u [.no, .no, .no, .l 0, .no, .no, .no, .no, .no, .no] 0 (O14_4.take 10) [(5, .pointer (some ⟨nx0, 0, none⟩)), (0, .slice Ap0 a0.length cp0), (1, .int .i64 a1)]).map (fun x => x.2.2.map (·.1)) = (qSim Tryz.prog [] [⟨nx0, [.int .i64 a2.f0, .int .i64 a2.f1], 65⟩] O14_4 ⟨21, []⟩ (Ld.vl (quorum_Prepared.d1l t1)) (quorum_Prepared.d1g a2 t1) u [.no, .no, .no, .l 0, .no, .no, .no, .no, .no, .no] 0 (O14_4.take 10) [(5, .pointer (some ⟨nx0, 0, none⟩)), (0, .slice Ap0 a0.length cp0), (1, .int .i64 a1)]).map (fun x => x.2.2.map (·.2)) := by kernel_rfl
theorem quorum_Prepared.calls (k : Nat) (I0 : Imm) (a0 : List Q32) (Ap0 : Option Addr) (cp0 : Nat) (a1 : Int) (a2 : Q24) (w : World) (hI : I0.at_ w) (hlp0 : a0.length ≤ cp0) (hrp0 : Rd qt32 I0 Ap0 a0) (r : Int × Bool) (h : quorum_Prepared.f k a0 a1 a2 = some r) :
    Calls Tryz.prog 92 [.slice Ap0 a0.length cp0, .int .i64 a1, .agg #[.int .i64 a2.f0, .int .i64 a2.f1]].toArray w fun e w' => ∃ v, e = .returned v ∧ quorum_Prepared.Post I0 w r v w' := by
  have H : ((quorum_tally.f k a0 a1).bind fun t1 => (some ((mget t1 (2, 0, a2.f0, a2.f1)).getD 0, (mget t1 (2, 0, a2.f0, a2.f1)).isSome))) = some r := h
  clear h
  refine calls_body Tryz.func92 (by kernel_rfl) 21 (by kernel_rfl) (by kernel_rfl) ⟨w, fun _ => False, I0⟩ I0 [] [(0, .slice Ap0 a0.length cp0), (1, .int .i64 a1), (2, .agg #[.int .i64 a2.f0, .int .i64 a2.f1])] (by kernel_rfl) (Sat.start w _ I0 hI) ?_
  generalize w.heap.size = nx0
  show OK _ K14_0 _ _ _ _ _ _ _ _
  refine OK.seq K14_1 K14_3 (by kernel_rfl) ?_
  refine OK.region 0 O14_1 (by kernel_rfl) ?_
  refine RL.simP (K' := [(5, .pointer (some ⟨nx0, 0, none⟩)), (0, .slice Ap0 a0.length cp0), (1, .int .i64 a1)]) (nx' := nx0 + 1) (L' := [⟨nx0, [.int .i64 a2.f0, .int .i64 a2.f1], 65⟩]) [] (RFacts.nil _ _ _) 3 [.no, .no, .no] (by kernel_rfl) (by kernel_rfl) ?_
  refine RL.nil (by kernel_rfl) ?_
  refine QN.then_ ?_
  refine OK.seq K14_4 K14_6 (by kernel_rfl) ?_
  obtain ⟨t1, hA1, H⟩ := Option.bind_eq_some_iff.mp H
  refine OK.drawnC 1 10 O14_4 [0, 0, 3, 0, 8, 31, 63, 127, 127, 255, 1023] (by kernel_rfl) (by kernel_rfl) (quorum_Prepared.d1l t1) (quorum_Prepared.d1g a2 t1) [] (RI.nil _) [.no, .no, .no, .l 0, .no, .no, .no, .no, .no, .no] quorum_Prepared.a14_4 quorum_Prepared.a14_4o (by kernel_rfl) (by kernel_rfl) (fun u => [.slice Ap0 a0.length cp0, .int .i64 a1, .map (some ((u 2 0).2.1)), .agg #[.int .i64 a2.f0, .int .i64 a2.f1], .agg #[.int .i64 2, .int .i64 0, .int .i64 a2.f0, .int .i64 a2.f1], .tuple #[.int .u32 ((mget t1 (2, 0, a2.f0, a2.f1)).getD 0), .bool (mget t1 (2, 0, a2.f0, a2.f1)).isSome], .tuple #[.int .u32 ((mget t1 (2, 0, a2.f0, a2.f1)).getD 0), .bool (mget t1 (2, 0, a2.f0, a2.f1)).isSome], .int .u32 ((mget t1 (2, 0, a2.f0, a2.f1)).getD 0), .bool (mget t1 (2, 0, a2.f0, a2.f1)).isSome, .int .u32 ((mget t1 (2, 0, a2.f0, a2.f1)).getD 0)]) (fun u => [(8, .int .u32 ((mget t1 (2, 0, a2.f0, a2.f1)).getD 0)), (18, .bool (mget t1 (2, 0, a2.f0, a2.f1)).isSome), (17, .int .u32 ((mget t1 (2, 0, a2.f0, a2.f1)).getD 0)), (10, .tuple #[.int .u32 ((mget t1 (2, 0, a2.f0, a2.f1)).getD 0), .bool (mget t1 (2, 0, a2.f0, a2.f1)).isSome]), (16, .tuple #[.int .u32 ((mget t1 (2, 0, a2.f0, a2.f1)).getD 0), .bool (mget t1 (2, 0, a2.f0, a2.f1)).isSome]), (15, .agg #[.int .i64 2, .int .i64 0, .int .i64 a2.f0, .int .i64 a2.f1]), (14, .agg #[.int .i64 a2.f0, .int .i64 a2.f1]), (13, .map (some ((u 2 0).2.1))), (12, .int .i64 a1), (11, .slice Ap0 a0.length cp0), (5, .pointer (some ⟨nx0, 0, none⟩)), (0, .slice Ap0 a0.length cp0), (1, .int .i64 a1)]) (quorum_Prepared.d1v a0 Ap0 cp0 a1 a2 nx0 t1) (quorum_Prepared.d1e a0 Ap0 cp0 a1 a2 nx0 t1) [fun u => [(12, .int .i64 a1), (11, .slice Ap0 a0.length cp0), (5, .pointer (some ⟨nx0, 0, none⟩)), (0, .slice Ap0 a0.length cp0), (1, .int .i64 a1)]] (framesOk.cons (fun u => by kernel_rfl) framesOk.nil) ?_ [fun u => [(15, .agg #[.int .i64 2, .int .i64 0, .int .i64 a2.f0, .int .i64 a2.f1]), (14, .agg #[.int .i64 a2.f0, .int .i64 a2.f1]), (13, .map (some ((u 2 0).2.1))), (12, .int .i64 a1), (11, .slice Ap0 a0.length cp0), (5, .pointer (some ⟨nx0, 0, none⟩)), (0, .slice Ap0 a0.length cp0), (1, .int .i64 a1)]] (framesOk.cons (fun u => by kernel_rfl) framesOk.nil) ?_ ?_
  · refine LoudsG.cons ?_ (LoudsG.nil)
    · intro D u J w hp hJ hs hF
      refine Does.call 65 [.slice Ap0 a0.length cp0, .int .i64 a1] (by kernel_rfl) ((quorum_tally.calls k J a0 Ap0 cp0 a1 w hs.im hlp0 (Rd.ext hJ hrp0) t1 hA1).mono ?_)
      rintro e w' ⟨v, rfl, J2, g0_, rfl, hg, hm0_⟩
      exact ⟨_, rfl, fun _ => (none, g0_, []), J2, rfl, hg, hm0_, trivial⟩
  · refine Givens.consS (fun D u w hp hS =>  ?_) (fun _ _ _ => rfl) (Givens.nil)
    · obtain ⟨J, hJ, hs, hF⟩ := hS
      exact giv_look mt69 (2, 0, a2.f0, a2.f1) (((hF.1 (hp 2 (by kernel_rfl) (by kernel_rfl))).1)) hs.im (by kernel_rfl)
  intro u I1 nx1 hi1 hF
  have hf1 := ((hF.1 rfl).1)
  clear hF
  show RL _ _ _ 10 _ [(8, .int .u32 ((mget t1 (2, 0, a2.f0, a2.f1)).getD 0)), (18, .bool (mget t1 (2, 0, a2.f0, a2.f1)).isSome), (17, .int .u32 ((mget t1 (2, 0, a2.f0, a2.f1)).getD 0)), (10, .tuple #[.int .u32 ((mget t1 (2, 0, a2.f0, a2.f1)).getD 0), .bool (mget t1 (2, 0, a2.f0, a2.f1)).isSome]), (16, .tuple #[.int .u32 ((mget t1 (2, 0, a2.f0, a2.f1)).getD 0), .bool (mget t1 (2, 0, a2.f0, a2.f1)).isSome]), (15, .agg #[.int .i64 2, .int .i64 0, .int .i64 a2.f0, .int .i64 a2.f1]), (14, .agg #[.int .i64 a2.f0, .int .i64 a2.f1]), (13, .map (some ((u 2 0).2.1))), (12, .int .i64 a1), (11, .slice Ap0 a0.length cp0), (5, .pointer (some ⟨nx0, 0, none⟩)), (0, .slice Ap0 a0.length cp0), (1, .int .i64 a1)] _ _ _ [⟨nx0, [.int .i64 a2.f0, .int .i64 a2.f1], 65⟩] []
  revert hf1
  generalize (u 2 0).1 = A1
  generalize (u 2 0).2.1 = c1
  generalize (u 2 0).2.2 = cs1
  intro hf1
  clear u
  refine RL.simP (K' := [(9, .bool (mget t1 (2, 0, a2.f0, a2.f1)).isSome), (8, .int .u32 ((mget t1 (2, 0, a2.f0, a2.f1)).getD 0))]) (nx' := nx1) (L' := [⟨nx0, [.int .i64 a2.f0, .int .i64 a2.f1], 65⟩]) [] (RFacts.nil _ _ _) 1 [.no] (by kernel_rfl) (by kernel_rfl) ?_
  refine RL.nil (by kernel_rfl) ?_
  refine QN.then_ ?_
  refine OK.seq K14_7 K14_9 (by kernel_rfl) ?_
  refine OK.region 2 O14_7 (by kernel_rfl) ?_
  refine RL.simP (K' := [(7, .bool (mget t1 (2, 0, a2.f0, a2.f1)).isSome), (6, .int .u32 ((mget t1 (2, 0, a2.f0, a2.f1)).getD 0))]) (nx' := nx1) (L' := [⟨nx0, [.int .i64 a2.f0, .int .i64 a2.f1], 65⟩]) [] (RFacts.nil _ _ _) 4 [.no, .no, .no, .no] (by kernel_rfl) (by kernel_rfl) ?_
  refine RL.nil (by kernel_rfl) ?_
  refine QN.then_ ?_
  refine OK.ret (by kernel_rfl) ?_
  obtain rfl := Option.some.inj H
  refine QN.body rfl [] (RFacts.nil _ _ _) (.no) (.tuple #[.int .u32 ((mget t1 (2, 0, a2.f0, a2.f1)).getD 0), .bool (mget t1 (2, 0, a2.f0, a2.f1)).isSome]) (by kernel_rfl) (by kernel_rfl) (by kernel_rfl) ?_ _ (.inr rfl)
  exact fun w' hs' => ⟨_, rfl, I1, rfl, hs'.got _ .slnil⟩

end Go.Proofs.YtijhdekfbjafgaaGreat
namespace Go.Proofs.YtijhdekfbjafgaaGreat
open Go Go.Proofs.YtijhdekfbjafgaaGreat.RW
set_option linter.unusedVariables false
set_option maxRecDepth 100000
set_option maxHeartbeats 8000000

/-! ### quorum_Committed: function 16, armillary/quorum.Committed -/
noncomputable def K16_0 : Code := cBody Tryz.f85
noncomputable def K16_1 : Code := cL K16_0
noncomputable def O16_1 : List Oper := cOps K16_1
noncomputable def K16_3 : Code := cR K16_0
noncomputable def K16_4 : Code := cL K16_3
noncomputable def O16_4 : List Oper := cOps K16_4
noncomputable def K16_6 : Code := cR K16_3
noncomputable def K16_7 : Code := cL K16_6
noncomputable def O16_7 : List Oper := cOps K16_7
noncomputable def K16_9 : Code := cR K16_6
noncomputable def quorum_Committed.f (k : Nat) (a0 : List Q32) (a1 : Int) (a2 : Q24) : Option (Int × Bool) := ((quorum_tally.f k a0 a1).bind fun t1 => (some ((mget t1 (3, 0, a2.f0, a2.f1)).getD 0, (mget t1 (3, 0, a2.f0, a2.f1)).isSome)))
def quorum_Committed.Post (I : Imm) (w : World) (r : Int × Bool) (v : Value) (w' : World) : Prop :=
  ∃ (J : Imm), v = .tuple #[.int .u32 r.1, .bool r.2] ∧ Got w w' I J []
theorem quorum_Committed.a16_4 : ancs O16_4 [] = [0, 0, 3, 0, 8, 31, 63, 127, 127, 255, 1023] := by kernel_rfl
theorem quorum_Committed.a16_4o : drawOk O16_4 [0, 0, 3, 0, 8, 31, 63, 127, 127, 255, 1023] 10 = true := by kernel_rfl
noncomputable def quorum_Committed.d1l (t1 : (List (VK × Int))) : List Ld :=
  [⟨2, fun x => .map (some ((x 0).2.1)), fun x => [], fun x J => Mp kV (Value.int .u32) J (x 0).2.1 t1 ∧ True, fun x J J' h f => ⟨Mp.ext h f.1, trivial⟩⟩]
noncomputable def quorum_Committed.d1g (a2 : Q24) (t1 : (List (VK × Int))) : List (Nat × ((Nat → Wt) → Value)) := [(5, fun u => .tuple #[.int .u32 ((mget t1 (3, 0, a2.f0, a2.f1)).getD 0), .bool (mget t1 (3, 0, a2.f0, a2.f1)).isSome])]
theorem quorum_Committed.d1v (a0 : List Q32) (Ap0 : Option Addr) (cp0 : Nat) (a1 : Int) (a2 : Q24) (nx0 : Nat) (t1 : (List (VK × Int))) (u : Nat → Wt) : (qSim Tryz.prog [] [⟨nx0, [.int .i64 a2.f0, .int .i64 a2.f1], 65⟩] O16_4 ⟨21, []⟩ (Ld.vl (quorum_Committed.d1l t1)) (quorum_Committed.d1g a2 t1) u [.no, .no, .no, .l 0, .no, .no, .no, .no, .no, .no] 0 (O16_4.take 10) [(5, .pointer (some ⟨nx0, 0, none⟩)), (0, .slice Ap0 a0.length cp0), (1, .int .i64 a1)]).map (fun x => (x.1, x.2.1)) = some ([.slice Ap0 a0.length cp0, .int .i64 a1, .map (some ((u 2 0).2.1)), .agg #[.int .i64 a2.f0, .int .i64 a2.f1], .agg #[.int .i64 3, .int .i64 0, .int .i64 a2.f0, .int .i64 a2.f1], .tuple #[.int .u32 ((mget t1 (3, 0, a2.f0, a2.f1)).getD 0), .bool (mget t1 (3, 0, a2.f0, a2.f1)).isSome], .tuple #[.int .u32 ((mget t1 (3, 0, a2.f0, a2.f1)).getD 0), .bool (mget t1 (3, 0, a2.f0, a2.f1)).isSome], .int .u32 ((mget t1 (3, 0, a2.f0, a2.f1)).getD 0), .bool (mget t1 (3, 0, a2.f0, a2.f1)).isSome, .int .u32 ((mget t1 (3, 0, a2.f0, a2.f1)).getD 0)], [(8, .int .u32 ((mget t1 (3, 0, a2.f0, a2.f1)).getD 0)), (18, .bool (mget t1 (3, 0, a2.f0, a2.f1)).isSome), (17, .int .u32 ((mget t1 (3, 0, a2.f0, a2.f1)).getD 0)), (10, .tuple #[.int .u32 ((mget t1 (3, 0, a2.f0, a2.f1)).getD 0), .bool (mget t1 (3, 0, a2.f0, a2.f1)).isSome]), (16, .tuple #[.int .u32 ((mget t1 (3, 0, a2.f0, a2.f1)).getD 0), .bool (mget t1 (3, 0, a2.f0, a2.f1)).isSome]), (15, .agg #[.int .i64 3, .int .i64 0, .int .i64 a2.f0, .int .i64 a2.f1]), (14, .agg #[.int .i64 a2.f0, .int .i64 a2.f1]), (13, .map (some ((u 2 0).2.1))), (12, .int .i64 a1), (11, .slice Ap0 a0.length cp0), (5, .pointer (some ⟨nx0, 0, none⟩)), (0, .slice Ap0 a0.length cp0), (1, .int .i64 a1)]) := by kernel_rfl
theorem quorum_Committed.d1e (a0 : List Q32) (Ap0 : Option Addr) (cp0 : Nat) (a1 : Int) (a2 : Q24) (nx0 : Nat) (t1 : (List (VK × Int))) (u : Nat → Wt) : (qSim Tryz.prog [] [⟨nx0, [.int .i64 a2.f0, .int .i64 a2.f1], 65⟩] O16_4 ⟨21, []⟩ (Ld.vl (quorum_Committed.d1l t1)) (quorum_Committed.d1g a2 t1) u [.no, .no, .no, .l 0, .no, .no, .no, .no, .no, .no] 0 (O16_4.take 10) [(5, .pointer (some ⟨nx0, 0, none⟩)), (0, .slice Ap0 a0.length cp0), (1, .int .i64 a1)]).map (fun x => x.2.2.map (·.1)) = (qSim Tryz.prog [] [⟨nx0, [.int .i64 a2.f0, .int .i64 a2.f1], 65⟩] O16_4 ⟨21, []⟩ (Ld.vl (quorum_Committed.d1l t1)) (quorum_Committed.d1g a2 t1) u [.no, .no, .no, .l 0, .no, .no, .no, .no, .no, .no] 0 (O16_4.take 10) [(5, .pointer (some ⟨nx0, 0, none⟩)), (0, .slice Ap0 a0.length cp0), (1, .int .i64 a1)]).map (fun x => x.2.2.map (·.2)) := by kernel_rfl
theorem quorum_Committed.calls (k : Nat) (I0 : Imm) (a0 : List Q32) (Ap0 : Option Addr) (cp0 : Nat) (a1 : Int) (a2 : Q24) (w : World) (hI : I0.at_ w) (hlp0 : a0.length ≤ cp0) (hrp0 : Rd qt32 I0 Ap0 a0) (r : Int × Bool) (h : quorum_Committed.f k a0 a1 a2 = some r) :
    Calls Tryz.prog 85 [.slice Ap0 a0.length cp0, .int .i64 a1, .agg #[.int .i64 a2.f0, .int .i64 a2.f1]].toArray w fun e w' => ∃ v, e = .returned v ∧ quorum_Committed.Post I0 w r v w' := by
  have H : ((quorum_tally.f k a0 a1).bind fun t1 => (some ((mget t1 (3, 0, a2.f0, a2.f1)).getD 0, (mget t1 (3, 0, a2.f0, a2.f1)).isSome))) = some r := h
  clear h
  refine calls_body Tryz.func85 (by kernel_rfl) 21 (by kernel_rfl) (by kernel_rfl) ⟨w, fun _ => False, I0⟩ I0 [] [(0, .slice Ap0 a0.length cp0), (1, .int .i64 a1), (2, .agg #[.int .i64 a2.f0, .int .i64 a2.f1])] (by kernel_rfl) (Sat.start w _ I0 hI) ?_
  generalize w.heap.size = nx0
  show OK _ K16_0 _ _ _ _ _ _ _ _
  refine OK.seq K16_1 K16_3 (by kernel_rfl) ?_
  refine OK.region 0 O16_1 (by kernel_rfl) ?_
  refine RL.simP (K' := [(5, .pointer (some ⟨nx0, 0, none⟩)), (0, .slice Ap0 a0.length cp0), (1, .int .i64 a1)]) (nx' := nx0 + 1) (L' := [⟨nx0, [.int .i64 a2.f0, .int .i64 a2.f1], 65⟩]) [] (RFacts.nil _ _ _) 3 [.no, .no, .no] (by kernel_rfl) (by kernel_rfl) ?_
  refine RL.nil (by kernel_rfl) ?_
  refine QN.then_ ?_
  refine OK.seq K16_4 K16_6 (by kernel_rfl) ?_
  obtain ⟨t1, hA1, H⟩ := Option.bind_eq_some_iff.mp H
  refine OK.drawnC 1 10 O16_4 [0, 0, 3, 0, 8, 31, 63, 127, 127, 255, 1023] (by kernel_rfl) (by kernel_rfl) (quorum_Committed.d1l t1) (quorum_Committed.d1g a2 t1) [] (RI.nil _) [.no, .no, .no, .l 0, .no, .no, .no, .no, .no, .no] quorum_Committed.a16_4 quorum_Committed.a16_4o (by kernel_rfl) (by kernel_rfl) (fun u => [.slice Ap0 a0.length cp0, .int .i64 a1, .map (some ((u 2 0).2.1)), .agg #[.int .i64 a2.f0, .int .i64 a2.f1], .agg #[.int .i64 3, .int .i64 0, .int .i64 a2.f0, .int .i64 a2.f1], .tuple #[.int .u32 ((mget t1 (3, 0, a2.f0, a2.f1)).getD 0), .bool (mget t1 (3, 0, a2.f0, a2.f1)).isSome], .tuple #[.int .u32 ((mget t1 (3, 0, a2.f0, a2.f1)).getD 0), .bool (mget t1 (3, 0, a2.f0, a2.f1)).isSome], .int .u32 ((mget t1 (3, 0, a2.f0, a2.f1)).getD 0), .bool (mget t1 (3, 0, a2.f0, a2.f1)).isSome, .int .u32 ((mget t1 (3, 0, a2.f0, a2.f1)).getD 0)]) (fun u => [(8, .int .u32 ((mget t1 (3, 0, a2.f0, a2.f1)).getD 0)), (18, .bool (mget t1 (3, 0, a2.f0, a2.f1)).isSome), (17, .int .u32 ((mget t1 (3, 0, a2.f0, a2.f1)).getD 0)), (10, .tuple #[.int .u32 ((mget t1 (3, 0, a2.f0, a2.f1)).getD 0), .bool (mget t1 (3, 0, a2.f0, a2.f1)).isSome]), (16, .tuple #[.int .u32 ((mget t1 (3, 0, a2.f0, a2.f1)).getD 0), .bool (mget t1 (3, 0, a2.f0, a2.f1)).isSome]), (15, .agg #[.int .i64 3, .int .i64 0, .int .i64 a2.f0, .int .i64 a2.f1]), (14, .agg #[.int .i64 a2.f0, .int .i64 a2.f1]), (13, .map (some ((u 2 0).2.1))), (12, .int .i64 a1), (11, .slice Ap0 a0.length cp0), (5, .pointer (some ⟨nx0, 0, none⟩)), (0, .slice Ap0 a0.length cp0), (1, .int .i64 a1)]) (quorum_Committed.d1v a0 Ap0 cp0 a1 a2 nx0 t1) (quorum_Committed.d1e a0 Ap0 cp0 a1 a2 nx0 t1) [fun u => [(12, .int .i64 a1), (11, .slice Ap0 a0.length cp0), (5, .pointer (some ⟨nx0, 0, none⟩)), (0, .slice Ap0 a0.length cp0), (1, .int .i64 a1)]] (framesOk.cons (fun u => by kernel_rfl) framesOk.nil) ?_ [fun u => [(15, .agg #[.int .i64 3, .int .i64 0, .int .i64 a2.f0, .int .i64 a2.f1]), (14, .agg #[.int .i64 a2.f0, .int .i64 a2.f1]), (13, .map (some ((u 2 0).2.1))), (12, .int .i64 a1), (11, .slice Ap0 a0.length cp0), (5, .pointer (some ⟨nx0, 0, none⟩)), (0, .slice Ap0 a0.length cp0), (1, .int .i64 a1)]] (framesOk.cons (fun u => by kernel_rfl) framesOk.nil) ?_ ?_
  · refine LoudsG.cons ?_ (LoudsG.nil)
    · intro D u J w hp hJ hs hF
      refine Does.call 65 [.slice Ap0 a0.length cp0, .int .i64 a1] (by kernel_rfl) ((quorum_tally.calls k J a0 Ap0 cp0 a1 w hs.im hlp0 (Rd.ext hJ hrp0) t1 hA1).mono ?_)
      rintro e w' ⟨v, rfl, J2, g0_, rfl, hg, hm0_⟩
      exact ⟨_, rfl, fun _ => (none, g0_, []), J2, rfl, hg, hm0_, trivial⟩
  · refine Givens.consS (fun D u w hp hS =>  ?_) (fun _ _ _ => rfl) (Givens.nil)
    · obtain ⟨J, hJ, hs, hF⟩ := hS
      exact giv_look mt69 (3, 0, a2.f0, a2.f1) (((hF.1 (hp 2 (by kernel_rfl) (by kernel_rfl))).1)) hs.im (by kernel_rfl)
  intro u I1 nx1 hi1 hF
  have hf1 := ((hF.1 rfl).1)
  clear hF
  show RL _ _ _ 10 _ [(8, .int .u32 ((mget t1 (3, 0, a2.f0, a2.f1)).getD 0)), (18, .bool (mget t1 (3, 0, a2.f0, a2.f1)).isSome), (17, .int .u32 ((mget t1 (3, 0, a2.f0, a2.f1)).getD 0)), (10, .tuple #[.int .u32 ((mget t1 (3, 0, a2.f0, a2.f1)).getD 0), .bool (mget t1 (3, 0, a2.f0, a2.f1)).isSome]), (16, .tuple #[.int .u32 ((mget t1 (3, 0, a2.f0, a2.f1)).getD 0), .bool (mget t1 (3, 0, a2.f0, a2.f1)).isSome]), (15, .agg #[.int .i64 3, .int .i64 0, .int .i64 a2.f0, .int .i64 a2.f1]), (14, .agg #[.int .i64 a2.f0, .int .i64 a2.f1]), (13, .map (some ((u 2 0).2.1))), (12, .int .i64 a1), (11, .slice Ap0 a0.length cp0), (5, .pointer (some ⟨nx0, 0, none⟩)), (0, .slice Ap0 a0.length cp0), (1, .int .i64 a1)] _ _ _ [⟨nx0, [.int .i64 a2.f0, .int .i64 a2.f1], 65⟩] []
  revert hf1
  generalize (u 2 0).1 = A1
  generalize (u 2 0).2.1 = c1
  generalize (u 2 0).2.2 = cs1
  intro hf1
  clear u
  refine RL.simP (K' := [(9, .bool (mget t1 (3, 0, a2.f0, a2.f1)).isSome), (8, .int .u32 ((mget t1 (3, 0, a2.f0, a2.f1)).getD 0))]) (nx' := nx1) (L' := [⟨nx0, [.int .i64 a2.f0, .int .i64 a2.f1], 65⟩]) [] (RFacts.nil _ _ _) 1 [.no] (by kernel_rfl) (by kernel_rfl) ?_
  refine RL.nil (by kernel_rfl) ?_
  refine QN.then_ ?_
  refine OK.seq K16_7 K16_9 (by kernel_rfl) ?_
  refine OK.region 2 O16_7 (by kernel_rfl) ?_
  refine RL.simP (K' := [(7, .bool (mget t1 (3, 0, a2.f0, a2.f1)).isSome), (6, .int .u32 ((mget t1 (3, 0, a2.f0, a2.f1)).getD 0))]) (nx' := nx1) (L' := [⟨nx0, [.int .i64 a2.f0, .int .i64 a2.f1], 65⟩]) [] (RFacts.nil _ _ _) 4 [.no, .no, .no, .no] (by kernel_rfl) (by kernel_rfl) ?_
  refine RL.nil (by kernel_rfl) ?_
  refine QN.then_ ?_
  refine OK.ret (by kernel_rfl) ?_
  obtain rfl := Option.some.inj H
  refine QN.body rfl [] (RFacts.nil _ _ _) (.no) (.tuple #[.int .u32 ((mget t1 (3, 0, a2.f0, a2.f1)).getD 0), .bool (mget t1 (3, 0, a2.f0, a2.f1)).isSome]) (by kernel_rfl) (by kernel_rfl) (by kernel_rfl) ?_ _ (.inr rfl)
  exact fun w' hs' => ⟨_, rfl, I1, rfl, hs'.got _ .slnil⟩

end Go.Proofs.YtijhdekfbjafgaaGreat
