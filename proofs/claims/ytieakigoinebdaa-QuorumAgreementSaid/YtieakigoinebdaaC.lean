/- The table of checksums of single bytes, and the checksum of a row of bytes: what they compute. -/
import Derived.Test.YtieakigoinebdaaRWP
import Derived.Test.YtieakigoinebdaaS
namespace Go.Proofs.Ytieakigoinebdaa
open Go Go.RowKit Go.Proofs.Ytieakigoinebdaa.RW
set_option linter.unusedVariables false
set_option maxRecDepth 100000
set_option maxHeartbeats 8000000

def crcStep (c : Int) : Int := bXor .u32 (Int.fdiv c 2) (W .u32 (3988292384 * bAnd .u32 c 1))
def crc8 : Nat → Int → Int
  | 0, c => c
  | n + 1, c => crc8 n (crcStep c)
def crcTab : List Int := (List.range 256).map fun (i : Nat) => crc8 8 (W .u32 (i : Int))
def ckStep (c x : Int) : Int := bXor .u32 (Int.fdiv c 256) (crcTab.getD (bXor .u8 (W .u8 c) x).toNat 0)
def codec_Checksum.f (b : List Int) : Option Int := some (bXor .u32 4294967295 (b.foldl ckStep 4294967295))

theorem own_newC {w0 : World} {I0 I : Imm} {nx : Nat} {L : List Blk} {X : List Res} {w : World} (hs : Sat ⟨w0, fun _ => False, I0⟩ I nx L X w) {i : Nat} {b : Blk} (hi : L[i]? = some b) : w0.heap.size ≤ b.g :=
  (hs.own b (List.mem_of_getElem? hi)).resolve_right (fun h => h)
theorem W64C {n : Int} (h0 : 0 ≤ n) (h1 : n < 9223372036854775808) : W .i64 n = n := by
  have h2 : (2 : Int) ^ 64 = 18446744073709551616 := by decide
  have h3 : (2 : Int) ^ 63 = 9223372036854775808 := by decide
  unfold W IntKind.wrap
  simp only [IntKind.bits, IntKind.signed, h2, h3, Nat.add_one_sub_one, Bool.true_and, decide_eq_true_eq]
  have h4 : n % 18446744073709551616 = n := Int.emod_eq_of_lt h0 (by omega)
  rw [h4, if_neg (by omega)]
theorem u8_range (x y : Int) : 0 ≤ bXor .u8 x y ∧ bXor .u8 x y < 256 := by
  have h2 : (2 : Int) ^ 8 = 256 := by decide
  unfold bXor IntKind.wrap
  simp only [IntKind.bits, IntKind.signed, h2, Bool.false_and, Bool.false_eq_true, if_false]
  exact ⟨Int.emod_nonneg _ (by omega), Int.emod_lt_of_pos _ (by omega)⟩
def tabV (tab : List Int) : List Value := (List.range 256).map fun j => .int .u32 (tab.getD j 0)
theorem RFacts.cells {B : Base} {I : Imm} {X : List Res} (xi : Nat) {g : Nat} {e : TypeId} {tab : List Int} {cs : List Value} (hl : tab.length = 256) (hX : X[xi]? = some (orow e 1 (some ⟨g, 0, none⟩) tab.length 256 cs)) (hr : Reps (Ty.int .u32) I tab cs) :
    RFacts B I X ((List.range 256).map fun j => (⟨g, j, none⟩, .int .u32 (tab.getD j 0))) := by
  intro nx L w hs r hrm
  obtain ⟨j, hj, rfl⟩ := List.mem_map.1 hrm
  have hj' : j < 256 := List.mem_range.1 hj
  have h1 := Ty.int_own hr (j : Int) (by omega) (by omega) 0 _ rfl
  simp only [Int.toNat_natCast, Nat.mul_one, Nat.add_zero] at h1
  have ho := hs.own_P hX
  show w.cell? ⟨g, j, none⟩ = _
  rw [ho.cellAt j (by rw [hl]; omega)]
  exact h1

noncomputable def c52 : Code := cBody Try.f52
noncomputable def c52r0 : Code := cL c52
noncomputable def c52a : Code := cR c52
noncomputable def c52r1 : Code := cL c52a
noncomputable def c52b : Code := cR c52a
noncomputable def c52c : Code := cL c52b
noncomputable def c52e : Code := cR c52b
noncomputable def c52r2 : Code := cL c52c
noncomputable def c52k0 : Code := cR c52c
noncomputable def c52lp : Code := cL c52k0
noncomputable def c52in : Code := cL c52lp
noncomputable def c52r3 : Code := cL c52in
noncomputable def c52d : Code := cR c52in
noncomputable def c52cd : Code := cL c52d
noncomputable def c52g : Code := cR c52d
noncomputable def c52k1 : Code := cL c52g
noncomputable def c52r11 : Code := cR c52g
noncomputable def c52bd : Code := cL c52k1
noncomputable def c52r4 : Code := cL c52bd
noncomputable def c52h : Code := cR c52bd
noncomputable def c52r5 : Code := cL c52h
noncomputable def c52i : Code := cR c52h
noncomputable def c52j : Code := cL c52i
noncomputable def c52r10 : Code := cR c52i
noncomputable def c52r6 : Code := cL c52j
noncomputable def c52k2 : Code := cR c52j
noncomputable def c52lq : Code := cL c52k2
noncomputable def c52jn : Code := cL c52lq
noncomputable def c52r7 : Code := cL c52jn
noncomputable def c52l : Code := cR c52jn
noncomputable def c52ce : Code := cL c52l
noncomputable def c52m : Code := cR c52l
noncomputable def c52k3 : Code := cL c52m
noncomputable def c52r9 : Code := cR c52m
noncomputable def c52r8 : Code := cL c52k3
noncomputable def c52r12 : Code := cL c52e
noncomputable def c52t : Code := cR c52e
noncomputable def o52 : Nat → List Oper
  | 0 => cOps c52r0
  | 1 => cOps c52r1
  | 2 => cOps c52r2
  | 3 => cOps c52r3
  | 4 => cOps c52r4
  | 5 => cOps c52r5
  | 6 => cOps c52r6
  | 7 => cOps c52r7
  | 8 => cOps c52r8
  | 9 => cOps c52r9
  | 10 => cOps c52r10
  | 11 => cOps c52r11
  | _ => cOps c52r12
def lT (i : Nat) : List Int := crcTab.take i ++ List.replicate (256 - i) 0
theorem crcTab_length : crcTab.length = 256 := by simp [crcTab]
theorem lT_length {i : Nat} (h : i ≤ 256) : (lT i).length = 256 := by
  simp only [lT, List.length_append, List.length_take, List.length_replicate, crcTab_length]
  omega
theorem lT_next {i : Nat} (h : i < 256) : (lT i).set i (crc8 8 (W .u32 (i : Int))) = lT (i + 1) := by
  have hl := crcTab_length
  have hc : crcTab.take (i + 1) = crcTab.take i ++ [crc8 8 (W .u32 (i : Int))] := by
    rw [List.take_succ_eq_append_getElem (by omega)]
    congr 2
    simp [crcTab]
  unfold lT
  rw [hc, List.set_append_right _ _ (by rw [List.length_take]; omega), List.length_take, Nat.min_eq_left (by omega), Nat.sub_self, show 256 - i = (256 - (i + 1)) + 1 from by omega, List.replicate_succ, List.set_cons_zero, List.append_assoc]
  rfl
theorem lT_end : lT 256 = crcTab := by
  unfold lT
  rw [List.take_of_length_le (by rw [crcTab_length]; omega)]
  simp
def codec_crcTable.Post (I : Imm) (w : World) (v : Value) (w' : World) : Prop := ∃ (J : Imm), v = .agg (tabV crcTab).toArray ∧ Got w w' I J []
def inv52 (g0 g1 : Nat) (I0 : Imm) (kq : Nat) : St := fun K I _ L X => ∃ (i : Nat) (cs : List Value), K = [(4, .int .i64 (i : Int)), (0, .pointer (some ⟨g0, 0, none⟩)), (1, .pointer (some ⟨g1, 0, none⟩))] ∧ L = [⟨g0, List.replicate 256 (.int .u32 0), 89⟩] ∧
  X = [orow 89 1 (some ⟨g1, 0, none⟩) (lT i).length 256 cs] ∧ I = I0 ∧ i + kq = 257 ∧ i ≤ 256 ∧ Reps (Ty.int .u32) I0 (lT i) cs
def jnv52 (g0 g1 i : Nat) (cs : List Value) (I0 : Imm) (c0 : Int) (kq : Nat) : St := fun K I _ L X => ∃ (j : Nat) (c : Int), K = [(9, .int .i64 (j : Int)), (3, .int .u32 c), (2, .int .i64 (i : Int)), (4, .int .i64 (i : Int)), (0, .pointer (some ⟨g0, 0, none⟩)), (1, .pointer (some ⟨g1, 0, none⟩))] ∧ L = [⟨g0, List.replicate 256 (.int .u32 0), 89⟩] ∧
  X = [orow 89 1 (some ⟨g1, 0, none⟩) (lT i).length 256 cs] ∧ I = I0 ∧ j + kq = 9 ∧ j ≤ 8 ∧ crc8 (8 - j) c = c0
theorem codec_crcTable.calls (I0 : Imm) (w : World) (hI : I0.at_ w) : Calls Try.prog 52 [].toArray w fun e w' => ∃ v, e = .returned v ∧ codec_crcTable.Post I0 w v w' := by
  refine calls_body Try.func52 (by kernel_rfl) 23 (by kernel_rfl) (by kernel_rfl) ⟨w, fun _ => False, I0⟩ I0 [] [] (by kernel_rfl) (Sat.start w _ I0 hI) ?_
  generalize w.heap.size = nx0
  show OK _ c52 _ _ _ _ _ _ _ _
  refine OK.seq c52r0 c52a (by kernel_rfl) ?_
  refine OK.region 0 (o52 0) (by kernel_rfl) ?_
  refine RL.simP (K' := [(0, .pointer (some ⟨nx0, 0, none⟩))]) (nx' := nx0 + 1) (L' := [⟨nx0, List.replicate 256 (.int .u32 0), 89⟩]) [] (RFacts.nil _ _ _) 1 [.no] (by kernel_rfl) (by kernel_rfl) ?_
  refine RL.nil (by kernel_rfl) ?_
  refine QN.then_ ?_
  refine OK.seq c52r1 c52b (by kernel_rfl) ?_
  refine OK.region 1 (o52 1) (by kernel_rfl) ?_
  refine RL.simP (K' := [(0, .pointer (some ⟨nx0, 0, none⟩)), (1, .pointer (some ⟨nx0 + 1, 0, none⟩))]) (nx' := nx0 + 2) (L' := [⟨nx0, List.replicate 256 (.int .u32 0), 89⟩, ⟨nx0 + 1, List.replicate 256 (.int .u32 0), 89⟩]) [] (RFacts.nil _ _ _) 1 [.no] (by kernel_rfl) (by kernel_rfl) ?_
  refine RL.toRow (b := ⟨nx0 + 1, List.replicate 256 (.int .u32 0), 89⟩) 1 256 1 rfl (by simp) (by decide) ?_
  refine RL.norm (L' := [⟨nx0, List.replicate 256 (.int .u32 0), 89⟩]) (X' := [orow 89 1 (some ⟨nx0 + 1, 0, none⟩) (lT 0).length 256 (List.replicate 256 (.int .u32 0))]) rfl rfl rfl (by rw [lT_length (by omega)]; rfl) ?_
  generalize nx0 + 1 = g1
  refine RL.nil (by kernel_rfl) ?_
  refine QN.then_ ?_
  refine OK.seq c52c c52e (by kernel_rfl) ?_
  refine OK.seq c52r2 c52k0 (by kernel_rfl) ?_
  refine OK.region 2 (o52 2) (by kernel_rfl) ?_
  refine RL.simP (K' := [(4, .int .i64 ((0 : Nat) : Int)), (0, .pointer (some ⟨nx0, 0, none⟩)), (1, .pointer (some ⟨g1, 0, none⟩))]) (nx' := nx0 + 2) (L' := [⟨nx0, List.replicate 256 (.int .u32 0), 89⟩]) [] (RFacts.nil _ _ _) 1 [.no] (by kernel_rfl) (by kernel_rfl) ?_
  refine RL.nil (by kernel_rfl) ?_
  refine QN.then_ ?_
  refine OK.block 0 c52lp (by kernel_rfl) ?_
  have hz : Reps (Ty.int .u32) I0 (lT 0) (List.replicate 256 (.int .u32 0)) := by
    have : lT 0 = List.replicate 256 0 := by simp [lT]
    rw [this]
    exact Reps.zeros rfl 256
  refine OK.loopInv c52in (by kernel_rfl) (inv52 nx0 g1 I0) 257 ⟨0, _, rfl, rfl, rfl, rfl, rfl, by omega, hz⟩ (fun K I nx L X h => ?_) ?_
  · obtain ⟨i, cs, _, _, _, _, h5, h6, _⟩ := h
    omega
  rintro kq _ _ nx _ _ ⟨i, cs, rfl, rfl, rfl, rfl, hi1, hi2, hcs⟩ Q' hJn hQ
  refine OK.seq c52r3 c52d (by kernel_rfl) ?_
  refine OK.region 3 (o52 3) (by kernel_rfl) ?_
  refine RL.simP (K' := [(5, .bool (decide ((i : Int) < 256))), (4, .int .i64 (i : Int)), (0, .pointer (some ⟨nx0, 0, none⟩)), (1, .pointer (some ⟨g1, 0, none⟩))]) (nx' := nx) (L' := [⟨nx0, List.replicate 256 (.int .u32 0), 89⟩]) [] (RFacts.nil _ _ _) 1 [.no] (by kernel_rfl) (by kernel_rfl) ?_
  refine RL.nil (by kernel_rfl) ?_
  refine QN.then_ ?_
  refine OK.seq c52cd c52g (by kernel_rfl) ?_
  refine OK.cond (.tmp 5) (cL c52cd) (cR c52cd) (decide ((i : Int) < 256)) (by kernel_rfl) (by kernel_rfl) (by kernel_rfl) (fun hb => ?_) (fun hb => ?_)
  rotate_left
  · have hlt : ¬ ((i : Int) < 256) := of_decide_eq_false hb
    obtain rfl : i = 256 := by omega
    refine OK.exit 0 (by kernel_rfl) ?_
    refine QN.thenE ?_
    refine QN.outE hQ ?_
    refine QN.blkE ?_
    refine QN.then_ ?_
    refine OK.seq c52r12 c52t (by kernel_rfl) ?_
    refine OK.region 12 (o52 12) (by kernel_rfl) ?_
    rw [lT_end] at hcs ⊢
    have hcl := crcTab_length
    generalize htab : crcTab = tab at hcs hcl
    refine RL.simP (K' := [(0, .pointer (some ⟨nx0, 0, none⟩))]) (nx' := nx) (L' := [⟨nx0, tabV tab, 89⟩]) ((List.range 256).map fun j => (⟨g1, j, none⟩, .int .u32 (tab.getD j 0))) (RFacts.cells 0 hcl rfl hcs) 2 [.r 0, .l 0] (by kernel_rfl) (by kernel_rfl) ?_
    refine RL.nil (by kernel_rfl) ?_
    refine QN.then_ ?_
    refine OK.ret (by kernel_rfl) ?_
    refine QN.body rfl [] (RFacts.nil _ _ _) (.l 0) (.agg (tabV tab).toArray) (by kernel_rfl) (by kernel_rfl) (by kernel_rfl) ?_ _ (.inr rfl)
    exact fun w' hs' => ⟨_, rfl, _, by rw [htab], hs'.got _ (List.nil_sublist _)⟩
  have hlt : (i : Int) < 256 := of_decide_eq_true hb
  refine OK.skip (by kernel_rfl) ?_
  refine QN.then_ ?_
  refine OK.seq c52k1 c52r11 (by kernel_rfl) ?_
  refine OK.block 1 c52bd (by kernel_rfl) ?_
  refine OK.seq c52r4 c52h (by kernel_rfl) ?_
  refine OK.region 4 (o52 4) (by kernel_rfl) ?_
  refine RL.simP (K' := [(2, .int .i64 (i : Int)), (4, .int .i64 (i : Int)), (0, .pointer (some ⟨nx0, 0, none⟩)), (1, .pointer (some ⟨g1, 0, none⟩))]) (nx' := nx) (L' := [⟨nx0, List.replicate 256 (.int .u32 0), 89⟩]) [] (RFacts.nil _ _ _) 2 [.no, .no] (by kernel_rfl) (by kernel_rfl) ?_
  refine RL.nil (by kernel_rfl) ?_
  refine QN.then_ ?_
  refine OK.seq c52r5 c52i (by kernel_rfl) ?_
  refine OK.region 5 (o52 5) (by kernel_rfl) ?_
  refine RL.simP (K' := [(3, .int .u32 (W .u32 (i : Int))), (2, .int .i64 (i : Int)), (4, .int .i64 (i : Int)), (0, .pointer (some ⟨nx0, 0, none⟩)), (1, .pointer (some ⟨g1, 0, none⟩))]) (nx' := nx) (L' := [⟨nx0, List.replicate 256 (.int .u32 0), 89⟩]) [] (RFacts.nil _ _ _) 3 [.no, .no, .no] (by kernel_rfl) (by kernel_rfl) ?_
  refine RL.nil (by kernel_rfl) ?_
  refine QN.then_ ?_
  refine OK.seq c52j c52r10 (by kernel_rfl) ?_
  refine OK.seq c52r6 c52k2 (by kernel_rfl) ?_
  refine OK.region 6 (o52 6) (by kernel_rfl) ?_
  refine RL.simP (K' := [(9, .int .i64 ((0 : Nat) : Int)), (3, .int .u32 (W .u32 (i : Int))), (2, .int .i64 (i : Int)), (4, .int .i64 (i : Int)), (0, .pointer (some ⟨nx0, 0, none⟩)), (1, .pointer (some ⟨g1, 0, none⟩))]) (nx' := nx) (L' := [⟨nx0, List.replicate 256 (.int .u32 0), 89⟩]) [] (RFacts.nil _ _ _) 1 [.no] (by kernel_rfl) (by kernel_rfl) ?_
  refine RL.nil (by kernel_rfl) ?_
  refine QN.then_ ?_
  refine OK.block 2 c52lq (by kernel_rfl) ?_
  refine OK.loopInv c52jn (by kernel_rfl) (jnv52 nx0 g1 i cs _ (crc8 8 (W .u32 (i : Int)))) 9 ⟨0, _, rfl, rfl, rfl, rfl, rfl, by omega, rfl⟩ (fun K I nx L X h => ?_) ?_
  · obtain ⟨j, c, _, _, _, _, h5, h6, _⟩ := h
    omega
  rintro kr _ _ nx3 _ _ ⟨j, c, rfl, rfl, rfl, rfl, hj1, hj2, hc⟩ Q2 hJn2 hQ2
  refine OK.seq c52r7 c52l (by kernel_rfl) ?_
  refine OK.region 7 (o52 7) (by kernel_rfl) ?_
  refine RL.simP (K' := [(10, .bool (decide ((j : Int) < 8))), (9, .int .i64 (j : Int)), (3, .int .u32 c), (2, .int .i64 (i : Int)), (4, .int .i64 (i : Int)), (0, .pointer (some ⟨nx0, 0, none⟩)), (1, .pointer (some ⟨g1, 0, none⟩))]) (nx' := nx3) (L' := [⟨nx0, List.replicate 256 (.int .u32 0), 89⟩]) [] (RFacts.nil _ _ _) 1 [.no] (by kernel_rfl) (by kernel_rfl) ?_
  refine RL.nil (by kernel_rfl) ?_
  refine QN.then_ ?_
  refine OK.seq c52ce c52m (by kernel_rfl) ?_
  refine OK.cond (.tmp 10) (cL c52ce) (cR c52ce) (decide ((j : Int) < 8)) (by kernel_rfl) (by kernel_rfl) (by kernel_rfl) (fun hb => ?_) (fun hb => ?_)
  rotate_left
  · have hlt2 : ¬ ((j : Int) < 8) := of_decide_eq_false hb
    obtain rfl : j = 8 := by omega
    obtain rfl : c = crc8 8 (W .u32 (i : Int)) := hc
    refine OK.exit 2 (by kernel_rfl) ?_
    refine QN.thenE ?_
    refine QN.outE hQ2 ?_
    refine QN.blkE ?_
    refine QN.then_ ?_
    refine OK.region 10 (o52 10) (by kernel_rfl) ?_
    refine RL.simP (K' := [(18, .int .i64 (i : Int)), (19, .int .u32 (crc8 8 (W .u32 (i : Int)))), (4, .int .i64 (i : Int)), (0, .pointer (some ⟨nx0, 0, none⟩)), (1, .pointer (some ⟨g1, 0, none⟩))]) (nx' := nx3) (L' := [⟨nx0, List.replicate 256 (.int .u32 0), 89⟩]) [] (RFacts.nil _ _ _) 2 [.no, .no] (by kernel_rfl) (by kernel_rfl) ?_
    refine RL.idxArr 1 .i64 (i : Int) g1 0 256 (some 20) (by kernel_rfl) (by kernel_rfl) (T := 89) (e := 27) (by kernel_rfl) (by kernel_rfl) (by omega) hlt (K' := [(20, .pointer (some ⟨g1, 0 + (i : Int).toNat * 1, none⟩)), (18, .int .i64 (i : Int)), (19, .int .u32 (crc8 8 (W .u32 (i : Int)))), (4, .int .i64 (i : Int)), (0, .pointer (some ⟨nx0, 0, none⟩)), (1, .pointer (some ⟨g1, 0, none⟩))]) (by kernel_rfl) ?_
    have hli : (lT i).length = 256 := lT_length (by omega)
    refine RL.storeL (T := 27) (e := 89) 1 0 rfl 256 (i : Int) cs [.int .u32 (crc8 8 (W .u32 (i : Int)))] (.int .u32 (crc8 8 (W .u32 (i : Int)))) (Ty.int .u32) (lT i) (crc8 8 (W .u32 (i : Int))) (by kernel_rfl) (by kernel_rfl) (by kernel_rfl) rfl rfl rfl rfl hcs (by omega) (by rw [hli]; exact hlt) (fun cs2 h2 => ?_)
    rw [Int.toNat_natCast, lT_next (by omega)] at h2 ⊢
    refine RL.nil (by kernel_rfl) ?_
    refine QN.blkN ?_
    refine QN.then_ ?_
    refine OK.region 11 (o52 11) (by kernel_rfl) ?_
    refine RL.simP (K' := [(4, .int .i64 (W .i64 ((i : Int) + 1))), (0, .pointer (some ⟨nx0, 0, none⟩)), (1, .pointer (some ⟨g1, 0, none⟩))]) (nx' := nx3) (L' := [⟨nx0, List.replicate 256 (.int .u32 0), 89⟩]) [] (RFacts.nil _ _ _) 2 [.no, .no] (by kernel_rfl) (by kernel_rfl) ?_
    refine RL.nil (by kernel_rfl) ?_
    rw [W64C (by omega) (by omega), show ((i : Int) + 1) = ((i + 1 : Nat) : Int) from by omega]
    exact hJn _ _ _ _ _ ⟨i + 1, cs2, rfl, rfl, rfl, rfl, by omega, by omega, h2⟩
  have hlt2 : (j : Int) < 8 := of_decide_eq_true hb
  refine OK.skip (by kernel_rfl) ?_
  refine QN.then_ ?_
  refine OK.seq c52k3 c52r9 (by kernel_rfl) ?_
  refine OK.block 3 c52r8 (by kernel_rfl) ?_
  refine OK.region 8 (o52 8) (by kernel_rfl) ?_
  refine RL.simP (K' := [(3, .int .u32 (crcStep c)), (9, .int .i64 (j : Int)), (2, .int .i64 (i : Int)), (4, .int .i64 (i : Int)), (0, .pointer (some ⟨nx0, 0, none⟩)), (1, .pointer (some ⟨g1, 0, none⟩))]) (nx' := nx3) (L' := [⟨nx0, List.replicate 256 (.int .u32 0), 89⟩]) [] (RFacts.nil _ _ _) 7 [] (by kernel_rfl) (by kernel_rfl) ?_
  refine RL.nil (by kernel_rfl) ?_
  refine QN.blkN ?_
  refine QN.then_ ?_
  refine OK.region 9 (o52 9) (by kernel_rfl) ?_
  refine RL.simP (K' := [(9, .int .i64 (W .i64 ((j : Int) + 1))), (3, .int .u32 (crcStep c)), (2, .int .i64 (i : Int)), (4, .int .i64 (i : Int)), (0, .pointer (some ⟨nx0, 0, none⟩)), (1, .pointer (some ⟨g1, 0, none⟩))]) (nx' := nx3) (L' := [⟨nx0, List.replicate 256 (.int .u32 0), 89⟩]) [] (RFacts.nil _ _ _) 2 [.no, .no] (by kernel_rfl) (by kernel_rfl) ?_
  refine RL.nil (by kernel_rfl) ?_
  rw [W64C (by omega) (by omega), show ((j : Int) + 1) = ((j + 1 : Nat) : Int) from by omega]
  refine hJn2 _ _ _ _ _ ⟨j + 1, crcStep c, rfl, rfl, rfl, rfl, by omega, by omega, ?_⟩
  rw [show 8 - j = (8 - (j + 1)) + 1 from by omega] at hc
  exact hc

noncomputable def c43 : Code := cBody Try.f43
noncomputable def c43r0 : Code := cL c43
noncomputable def c43a : Code := cR c43
noncomputable def c43r1 : Code := cL c43a
noncomputable def c43b : Code := cR c43a
noncomputable def c43c : Code := cL c43b
noncomputable def c43e : Code := cR c43b
noncomputable def c43r2 : Code := cL c43c
noncomputable def c43k0 : Code := cR c43c
noncomputable def c43lp : Code := cL c43k0
noncomputable def c43in : Code := cL c43lp
noncomputable def c43r3 : Code := cL c43in
noncomputable def c43d : Code := cR c43in
noncomputable def c43cd : Code := cL c43d
noncomputable def c43g : Code := cR c43d
noncomputable def c43k1 : Code := cL c43g
noncomputable def c43r6 : Code := cR c43g
noncomputable def c43bd : Code := cL c43k1
noncomputable def c43r4 : Code := cL c43bd
noncomputable def c43r5 : Code := cR c43bd
noncomputable def c43r7 : Code := cL c43e
noncomputable def c43t : Code := cR c43e
noncomputable def o43 : Nat → List Oper
  | 0 => cOps c43r0
  | 1 => cOps c43r1
  | 2 => cOps c43r2
  | 3 => cOps c43r3
  | 4 => cOps c43r4
  | 5 => cOps c43r5
  | 6 => cOps c43r6
  | _ => cOps c43r7
def codec_Checksum.Post (I : Imm) (w : World) (r : Int) (v : Value) (w' : World) : Prop := ∃ (J : Imm), v = .int .u32 r ∧ Got w w' I J []
theorem tabV_at (tab : List Int) {j : Nat} (h : j < 256) : (tabV tab)[j]? = some (.int .u32 (tab.getD j 0)) := by
  unfold tabV
  rw [List.getElem?_map, List.getElem?_range h]
  rfl
def inv43 (a0 : List Int) (Ap0 : Option Addr) (cp0 g3 : Nat) (I0 : Imm) (c0 : Int) (kq : Nat) : St := fun K I _ L X => ∃ (i : Nat) (c : Int), K = [(8, .slice Ap0 a0.length cp0), (9, .int .i64 (a0.length : Int)), (10, .int .i64 (i : Int)), (4, .int .u32 c), (3, .pointer (some ⟨g3, 0, none⟩))] ∧ L = [] ∧ X = [] ∧ I = I0 ∧ i + kq = a0.length + 1 ∧ i ≤ a0.length ∧ (a0.drop i).foldl ckStep c = c0
theorem codec_Checksum.calls (I0 : Imm) (a0 : List Int) (Ap0 : Option Addr) (cp0 : Nat) (w : World) (hI : I0.at_ w) (hlp0 : a0.length ≤ cp0) (hrp0 : Rd (Ty.int .u8) I0 Ap0 a0) (r : Int) (h : codec_Checksum.f a0 = some r) :
    Calls Try.prog 43 [.slice Ap0 a0.length cp0].toArray w fun e w' => ∃ v, e = .returned v ∧ codec_Checksum.Post I0 w r v w' := by
  obtain rfl := Option.some.inj h
  clear h
  refine calls_body Try.func43 (by kernel_rfl) 26 (by kernel_rfl) (by kernel_rfl) ⟨w, fun _ => False, I0⟩ I0 [] [(0, .slice Ap0 a0.length cp0)] (by kernel_rfl) (Sat.start w _ I0 hI) ?_
  generalize w.heap.size = nx0
  show OK _ c43 _ _ _ _ _ _ _ _
  refine OK.seq c43r0 c43a (by kernel_rfl) ?_
  refine OK.region 0 (o43 0) (by kernel_rfl) ?_
  refine RL.simP (K' := [(0, .slice Ap0 a0.length cp0)]) (nx' := nx0) (L' := []) [] (RFacts.nil _ _ _) 1 [.no] (by kernel_rfl) (by kernel_rfl) ?_
  refine RL.nil (by kernel_rfl) ?_
  refine QN.then_ ?_
  refine OK.seq c43r1 c43b (by kernel_rfl) ?_
  refine OK.region 1 (o43 1) (by kernel_rfl) ?_
  refine RL.callP 52 [] (some 7) (fun w => codec_crcTable.Post I0 w) (by kernel_rfl) (by kernel_rfl) (fun w hs => codec_crcTable.calls I0 w hs.im) ?_
  rintro w v w' hs ⟨J, rfl, hg⟩
  have hJ := hg.le
  refine RL.resume (K' := [(7, .agg (tabV crcTab).toArray), (0, .slice Ap0 a0.length cp0)]) (X' := []) rfl (hs.call hg) ?_
  clear hs hg
  generalize w'.heap.size = nx1
  clear w w'
  obtain ⟨tab, htab⟩ : ∃ tab, crcTab = tab := ⟨_, rfl⟩
  rw [htab]
  refine RL.simP (K' := [(4, .int .u32 4294967295), (3, .pointer (some ⟨nx1, 0, none⟩)), (0, .slice Ap0 a0.length cp0)]) (nx' := nx1 + 1) (L' := [⟨nx1, tabV tab, 89⟩]) [] (RFacts.nil _ _ _) 3 [.no, .l 0, .no] (by kernel_rfl) (by kernel_rfl) ?_
  refine RL.immL 0 rfl (fun w hs => own_newC hs (i := 0) rfl) (fun J1 hJ1 ht => ?_)
  generalize nx1 = g3 at ht ⊢
  refine RL.nil (by kernel_rfl) ?_
  refine QN.then_ ?_
  refine OK.seq c43c c43e (by kernel_rfl) ?_
  refine OK.seq c43r2 c43k0 (by kernel_rfl) ?_
  refine OK.region 2 (o43 2) (by kernel_rfl) ?_
  refine RL.simP (K' := [(8, .slice Ap0 a0.length cp0), (9, .int .i64 (a0.length : Int)), (10, .int .i64 ((0 : Nat) : Int)), (4, .int .u32 4294967295), (3, .pointer (some ⟨g3, 0, none⟩))]) (nx' := g3 + 1) (L' := []) [] (RFacts.nil _ _ _) 3 [.no, .no, .no] (by kernel_rfl) (by kernel_rfl) ?_
  refine RL.nil (by kernel_rfl) ?_
  refine QN.then_ ?_
  refine OK.block 0 c43lp (by kernel_rfl) ?_
  refine OK.loopInv c43in (by kernel_rfl) (inv43 a0 Ap0 cp0 g3 J1 (a0.foldl ckStep 4294967295)) (a0.length + 1) ⟨0, _, rfl, rfl, rfl, rfl, by omega, by omega, rfl⟩ (fun K I nx L X h => ?_) ?_
  · obtain ⟨i, c, _, _, _, _, h5, h6, _⟩ := h
    omega
  rintro kq _ J1 nx _ _ ⟨i, c, rfl, rfl, rfl, rfl, hi1, hi2, hc⟩ Q' hJn hQ
  refine OK.seq c43r3 c43d (by kernel_rfl) ?_
  refine OK.region 3 (o43 3) (by kernel_rfl) ?_
  refine RL.simP (K' := [(11, .bool (decide ((i : Int) < (a0.length : Int)))), (8, .slice Ap0 a0.length cp0), (9, .int .i64 (a0.length : Int)), (10, .int .i64 (i : Int)), (4, .int .u32 c), (3, .pointer (some ⟨g3, 0, none⟩))]) (nx' := nx) (L' := []) [] (RFacts.nil _ _ _) 1 [.no] (by kernel_rfl) (by kernel_rfl) ?_
  refine RL.nil (by kernel_rfl) ?_
  refine QN.then_ ?_
  refine OK.seq c43cd c43g (by kernel_rfl) ?_
  refine OK.cond (.tmp 11) (cL c43cd) (cR c43cd) (decide ((i : Int) < (a0.length : Int))) (by kernel_rfl) (by kernel_rfl) (by kernel_rfl) (fun hb => ?_) (fun hb => ?_)
  rotate_left
  · have hlt : ¬ ((i : Int) < (a0.length : Int)) := of_decide_eq_false hb
    obtain rfl : i = a0.length := by omega
    rw [List.drop_length] at hc
    obtain rfl : c = _ := hc
    refine OK.exit 0 (by kernel_rfl) ?_
    refine QN.thenE ?_
    refine QN.outE hQ ?_
    refine QN.blkE ?_
    refine QN.then_ ?_
    refine OK.seq c43r7 c43t (by kernel_rfl) ?_
    refine OK.region 7 (o43 7) (by kernel_rfl) ?_
    generalize a0.foldl ckStep 4294967295 = c
    refine RL.simP (K' := [(2, .int .u32 (bXor .u32 4294967295 c))]) (nx' := nx) (L' := []) [] (RFacts.nil _ _ _) 3 [.no, .no, .no] (by kernel_rfl) (by kernel_rfl) ?_
    refine RL.nil (by kernel_rfl) ?_
    refine QN.then_ ?_
    refine OK.ret (by kernel_rfl) ?_
    refine QN.body rfl [] (RFacts.nil _ _ _) .no (.int .u32 (bXor .u32 4294967295 c)) (by kernel_rfl) (by kernel_rfl) (by kernel_rfl) ?_ _ (.inr rfl)
    exact fun w' hs' => ⟨_, rfl, _, rfl, hs'.got _ (List.nil_sublist _)⟩
  have hlt : (i : Int) < (a0.length : Int) := of_decide_eq_true hb
  refine OK.skip (by kernel_rfl) ?_
  refine QN.then_ ?_
  obtain ⟨g1, o1, hA1, hc1⟩ := Ty.int_at (Rd.ext (Imm.le_trans hJ hJ1) hrp0) (i : Int) (by omega) hlt
  obtain ⟨x, hx⟩ : ∃ x, a0.getD (i : Int).toNat 0 = x := ⟨_, rfl⟩
  rw [hx] at hc1
  have hil : i < a0.length := by omega
  have hdrop : a0.drop i = x :: a0.drop (i + 1) := by
    rw [List.drop_eq_getElem_cons hil, ← hx, Int.toNat_natCast, List.getD_eq_getElem?_getD, List.getElem?_eq_getElem hil]
    rfl
  rw [hdrop, List.foldl_cons] at hc
  refine OK.seq c43k1 c43r6 (by kernel_rfl) ?_
  refine OK.block 1 c43bd (by kernel_rfl) ?_
  refine OK.seq c43r4 c43r5 (by kernel_rfl) ?_
  refine OK.region 4 (o43 4) (by kernel_rfl) ?_
  refine RL.idx 1 .i64 (i : Int) hA1 a0.length cp0 (some 12) (by kernel_rfl) (by kernel_rfl) (T := 28) (e := 5) (by kernel_rfl) (by kernel_rfl) (by omega) hlt (K' := [(12, .pointer (some ⟨g1, o1 + (i : Int).toNat * 1, none⟩)), (11, .bool (decide ((i : Int) < (a0.length : Int)))), (8, .slice Ap0 a0.length cp0), (9, .int .i64 (a0.length : Int)), (10, .int .i64 (i : Int)), (4, .int .u32 c), (3, .pointer (some ⟨g3, 0, none⟩))]) (by kernel_rfl) ?_
  refine RL.simP (K' := [(6, .int .u8 x), (8, .slice Ap0 a0.length cp0), (9, .int .i64 (a0.length : Int)), (10, .int .i64 (i : Int)), (4, .int .u32 c), (3, .pointer (some ⟨g3, 0, none⟩))]) (nx' := nx) (L' := []) [(⟨g1, o1 + (i : Int).toNat * 1, none⟩, .int .u8 x)] (RFacts.imm (hc1 0 _ rfl) (RFacts.nil _ _ _)) 2 [.r 0, .no] (by kernel_rfl) (by kernel_rfl) ?_
  refine RL.nil (by kernel_rfl) ?_
  refine QN.then_ ?_
  refine OK.region 5 (o43 5) (by kernel_rfl) ?_
  refine RL.simP (K' := [(19, .int .u8 (bXor .u8 (W .u8 c) x)), (15, .int .u32 (Int.fdiv c 256)), (8, .slice Ap0 a0.length cp0), (9, .int .i64 (a0.length : Int)), (10, .int .i64 (i : Int)), (4, .int .u32 c), (3, .pointer (some ⟨g3, 0, none⟩))]) (nx' := nx) (L' := []) [] (RFacts.nil _ _ _) 6 [] (by kernel_rfl) (by kernel_rfl) ?_
  obtain ⟨h0, h1⟩ := u8_range (W .u8 c) x
  obtain ⟨y, hy⟩ : ∃ y, bXor .u8 (W .u8 c) x = y := ⟨_, rfl⟩
  rw [hy] at h0 h1 ⊢
  refine RL.idxArr 1 .u8 y g3 0 256 (some 20) (by kernel_rfl) (by kernel_rfl) (T := 89) (e := 27) (by kernel_rfl) (by kernel_rfl) h0 h1 (K' := [(20, .pointer (some ⟨g3, 0 + y.toNat * 1, none⟩)), (19, .int .u8 y), (15, .int .u32 (Int.fdiv c 256)), (8, .slice Ap0 a0.length cp0), (9, .int .i64 (a0.length : Int)), (10, .int .i64 (i : Int)), (4, .int .u32 c), (3, .pointer (some ⟨g3, 0, none⟩))]) (by kernel_rfl) ?_
  have ht2 : J1 ⟨g3, 0 + y.toNat * 1, none⟩ = some (.int .u32 (tab.getD y.toNat 0)) := by
    rw [Nat.zero_add, Nat.mul_one]
    exact ht _ _ (tabV_at tab (by omega))
  refine RL.simP (K' := [(8, .slice Ap0 a0.length cp0), (9, .int .i64 (a0.length : Int)), (10, .int .i64 (i : Int)), (4, .int .u32 (bXor .u32 (Int.fdiv c 256) (tab.getD y.toNat 0))), (3, .pointer (some ⟨g3, 0, none⟩))]) (nx' := nx) (L' := []) [(⟨g3, 0 + y.toNat * 1, none⟩, .int .u32 (tab.getD y.toNat 0))] (RFacts.imm ht2 (RFacts.nil _ _ _)) 3 [.r 0, .no, .no] (by kernel_rfl) (by kernel_rfl) ?_
  have hck : ckStep c x = bXor .u32 (Int.fdiv c 256) (tab.getD y.toNat 0) := by
    unfold ckStep
    rw [hy, htab]
  rw [← hck]
  generalize ckStep c x = c2 at hc ⊢
  refine RL.nil (by kernel_rfl) ?_
  refine QN.blkN ?_
  refine QN.then_ ?_
  refine OK.region 6 (o43 6) (by kernel_rfl) ?_
  refine RL.simP (K' := [(8, .slice Ap0 a0.length cp0), (9, .int .i64 (a0.length : Int)), (10, .int .i64 (W .i64 ((i : Int) + 1))), (4, .int .u32 c2), (3, .pointer (some ⟨g3, 0, none⟩))]) (nx' := nx) (L' := []) [] (RFacts.nil _ _ _) 2 [.no, .no] (by kernel_rfl) (by kernel_rfl) ?_
  refine RL.nil (by kernel_rfl) ?_
  have hml := hrp0.1
  rw [W64C (by omega) (by omega), show ((i : Int) + 1) = ((i + 1 : Nat) : Int) from by omega]
  exact hJn _ _ _ _ _ ⟨i + 1, c2, rfl, rfl, rfl, rfl, by omega, by omega, hc⟩
end Go.Proofs.Ytieakigoinebdaa
