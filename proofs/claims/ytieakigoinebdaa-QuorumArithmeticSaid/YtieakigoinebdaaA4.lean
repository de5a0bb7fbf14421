/- The law QuorumArithmetic of the package armillarylaw29 returns true at every input and leaves its arguments as they are; no conditions. -/
import Derived.Test.YtieakigoinebdaaRows
import Derived.Test.YtieakigoinebdaaG4
import Derived.Test.YtieakigoinebdaaC
import Derived.WalkKit
import Derived.ProofKit
import Derived.OpenShut
namespace Go.Proofs.Ytieakigoinebdaa.quorumArithmetic
open Go.ChangeShapes Go.WideShapes Go.ChangeAt Go.RowKit Go.Proofs.Ytieakigoinebdaa Go.Proofs.Ytieakigoinebdaa.RW
set_option linter.unusedVariables false
set_option maxRecDepth 1000000

theorem own : ownKnob Try.prog.godebug = none := by kernel_rfl

theorem keptBut_of {w w' : World} (h : RW.Evo (fun _ => False) w w') (may : MemPlace → Prop) : w.keptBut w' may := by
  refine ⟨h.os, h.output, fun i hi => ?_⟩
  have := (World.keptBut_refl w may).2.2 i hi
  rw [h.blk i hi (fun h => h)]
  exact this
theorem post_same {H : Type} {enc : TypeId × Value → H} {P : Program} {f : Func} {s : ChangeSpec} {apart fresh handsOn : Bool} {W W' : World} {args : Array Value} {v : Value} {ds gs : List (DataW H)} {before pa pv : List MemPlace}
    (hW : DataW.Whole enc P f.params.toList s.vars apart W args.toList ds gs before)
    (hres : ∀ (b : Nat) (sp : Nat → Bool) (hd : Bool), DataW.TrodAll enc P W' b sp hd f.resultTypes.toList (v.resultList f.resultTypes.size) (s.fn H (ds ++ gs)).results [])
    (hargs : ∀ sp : Nat → Bool, (∀ p ∈ before, sp p.block = true) → DataW.TrodAll enc P W' 0 sp true f.params.toList args.toList (s.fn H (ds ++ gs)).args pa)
    (hvars : ∀ sp : Nat → Bool, (∀ p ∈ before, sp p.block = true) → DataW.TrodVars enc P W' sp s.vars (s.fn H (ds ++ gs)).vars pv)
    (hk : W.keptBut W' (fun _ => False)) : s.post enc P f apart fresh handsOn false W args v W' := by
  have hold : ∀ p ∈ before, (fun b => decide (b < W.heap.size)) p.block = true := fun p hp => by simpa using hW.lt p hp
  exact ⟨ds, gs, before, [], pa, pv, hW, hres _ _ _, hargs _ hold, hvars _ hold, World.keptBut_mono (fun p hp => hp.elim) hk, fun h => by cases h⟩

/-! ### what is computed: true -/
def num (a0 : Int) : Int := W .i64 (1 + (W .i64 (a0.tmod 13)))
theorem num_eq {a0 : Int} (h0 : 0 ≤ a0) : num a0 = 1 + a0 % 13 := by
  unfold num
  rw [Int.tmod_eq_emod_of_nonneg h0, W64C (n := a0 % 13) (by omega) (by omega), W64C (by omega) (by omega)]
theorem leader_eq {n v : Int} (h1 : 1 ≤ n) (h2 : n ≤ 13) (h3 : 0 ≤ v) : quorum_Leader.f n v = some (v % n) := by
  have h4 : quorum_group_possible.f n = some true := by
    unfold quorum_group_possible.f
    rw [if_pos (by omega)]
    simp [quorum_group_possible.k1, h2]
  have h5 : decide (v < 0) = false := by simp; omega
  unfold quorum_Leader.f
  rw [h4]
  simp only [Option.bind_some, if_true, h5]
  unfold quorum_Leader.k1
  simp [Int.tmod_eq_emod_of_nonneg h3, show n ≠ 0 from by omega]
def arest (a0 a1 : Int) : Option Bool := (some true).bind (fun t1 => ((quorum_MaxFaulty.f (W .i64 (1 + (W .i64 (a0.tmod 13))))).bind fun t2 => ((quorum_Size.f (W .i64 (1 + (W .i64 (a0.tmod 13))))).bind fun t3 => (if 0 ≤ (W .i64 (1 + (W .i64 (a0.tmod 13)))) then (if (W .i64 (1 + (W .i64 (a0.tmod 13)))) ≤ 35184372088832 then ((armillarylaw29_QuorumArithmetic.l2 a0 a1 300 (List.replicate (W .i64 (1 + (W .i64 (a0.tmod 13)))).toNat (0 : Int)) 0).bind (armillarylaw29_QuorumArithmetic.k3 300 a0 t1 t2 t3)) else none) else none))))
theorem l2_mod {a0 a1 : Int} (h0 : 0 ≤ a0) (g0 : 0 ≤ a1) (g1 : a1 ≤ 65535) : ∀ (k : Nat) (x4 : List Int) (x5 : Int), 0 ≤ x5 → x5 ≤ num a0 →
    armillarylaw29_QuorumArithmetic.l2 a0 a1 k x4 x5 = armillarylaw29_QuorumArithmetic.l2 a0 (a1 % num a0) k x4 x5 := by
  intro k
  have hn := num_eq h0
  have hm0 : 0 ≤ a1 % num a0 := Int.emod_nonneg _ (by omega)
  have hm1 : a1 % num a0 < num a0 := Int.emod_lt_of_pos _ (by omega)
  induction k with
  | zero => intro x4 x5 _ _; rfl
  | succ k ih =>
    intro x4 x5 hx0 hx1
    simp only [armillarylaw29_QuorumArithmetic.l2]
    show (if x5 < num a0 then (quorum_Leader.f (num a0) _).bind _ else _) = (if x5 < num a0 then (quorum_Leader.f (num a0) _).bind _ else _)
    by_cases hlt : x5 < num a0
    · rw [if_pos hlt, if_pos hlt]
      have e1 : W .i64 (W .i64 a1 + x5) = a1 + x5 := by rw [W64C (n := a1) g0 (by omega), W64C (by omega) (by omega)]
      have e2 : W .i64 (W .i64 (a1 % num a0) + x5) = a1 % num a0 + x5 := by rw [W64C (n := a1 % num a0) hm0 (by omega), W64C (by omega) (by omega)]
      have e3 : W .i64 (x5 + 1) = x5 + 1 := W64C (by omega) (by omega)
      rw [e1, e2, e3, leader_eq (by omega) (by omega) (by omega), leader_eq (by omega) (by omega) (by omega), Int.emod_add_emod]
      simp only [Option.bind_some]
      congr 1
      funext x6
      rw [ih _ _ (by omega) (by omega)]
    · rw [if_neg hlt, if_neg hlt]
theorem rest_mod {a0 : Int} (h0 : 0 ≤ a0) (a1 : Int) : arest a0 a1 = arest (a0 % 13) a1 := by
  have h : (a0 % 13).tmod 13 = a0.tmod 13 := by
    rw [Int.tmod_eq_emod_of_nonneg h0, Int.tmod_eq_emod_of_nonneg (by omega), Int.emod_emod_of_dvd _ (by decide)]
  have hl1 : ∀ (x1 : List Int) (k : Nat) (x : Int), armillarylaw29_QuorumArithmetic.l1 (a0 % 13) x1 k x = armillarylaw29_QuorumArithmetic.l1 a0 x1 k x := by
    intro x1 k
    induction k with
    | zero => intro x; rfl
    | succ k ih => intro x; simp only [armillarylaw29_QuorumArithmetic.l1, h, ih]
  have hl2 : ∀ (k : Nat) (x4 : List Int) (x : Int), armillarylaw29_QuorumArithmetic.l2 (a0 % 13) a1 k x4 x = armillarylaw29_QuorumArithmetic.l2 a0 a1 k x4 x := by
    intro k
    induction k with
    | zero => intro x4 x; rfl
    | succ k ih => intro x4 x; simp only [armillarylaw29_QuorumArithmetic.l2, h, ih]
  have hk2 : ∀ t1 t2 t3 x, armillarylaw29_QuorumArithmetic.k2 (a0 % 13) t1 t2 t3 x = armillarylaw29_QuorumArithmetic.k2 a0 t1 t2 t3 x := by
    intro t1 t2 t3 x
    cases x <;> simp only [armillarylaw29_QuorumArithmetic.k2, h]
  have hk3 : ∀ k t1 t2 t3 x, armillarylaw29_QuorumArithmetic.k3 k (a0 % 13) t1 t2 t3 x = armillarylaw29_QuorumArithmetic.k3 k a0 t1 t2 t3 x := by
    intro k t1 t2 t3 x
    cases x
    · simp only [armillarylaw29_QuorumArithmetic.k3, hl1]
      congr 1
      funext y
      exact (hk2 t1 t2 t3 y).symm ▸ rfl
    · rfl
  unfold arest
  simp only [Option.bind_some, h, hl2]
  congr 1
  funext t2
  congr 1
  funext t3
  congr 1
  congr 1
  congr 1
  funext y
  exact (hk3 300 true t2 t3 y).symm
theorem all_ok : ((List.range 13).all fun (a : Nat) => (List.range 13).all fun (r : Nat) => arest (a : Int) (r : Int) == some true) = true := by kernel_rfl
theorem sane : armillarylaw29_sanity.f 300 = some true := by kernel_rfl
theorem holds {a0 a1 : Int} (h0 : 0 ≤ a0) (h1 : a0 ≤ 255) (g0 : 0 ≤ a1) (g1 : a1 ≤ 65535) : armillarylaw29_QuorumArithmetic.f 300 a0 a1 = some true := by
  have e1 : armillarylaw29_QuorumArithmetic.f 300 a0 a1 = arest a0 a1 := by
    unfold armillarylaw29_QuorumArithmetic.f
    rw [sane]
    rfl
  have hn := num_eq h0
  have hm0 : 0 ≤ a1 % num a0 := Int.emod_nonneg _ (by omega)
  have hm1 : a1 % num a0 < num a0 := Int.emod_lt_of_pos _ (by omega)
  have e2 : arest a0 a1 = arest a0 (a1 % num a0) := by
    unfold arest
    rw [l2_mod h0 g0 g1 _ _ 0 (by omega) (by omega)]
  rw [e1, e2, rest_mod h0]
  have h := all_ok
  rw [List.all_eq_true] at h
  have h2 := h (a0 % 13).toNat (List.mem_range.2 (by omega))
  rw [List.all_eq_true] at h2
  have h3 := h2 (a1 % num a0).toNat (List.mem_range.2 (by omega))
  rw [Int.toNat_of_nonneg (by omega : 0 ≤ a0 % 13), Int.toNat_of_nonneg hm0] at h3
  simpa using h3

/-! ### the walk -/
theorem walk (a0 : Int) (a1 : Int) (w0 : (Lit.int .u8 a0).wf = true) (w1 : (Lit.int .u16 a1).wf = true) (w : World) :
    Calls Try.prog 4 #[.int .u8 a0, .int .u16 a1] w fun e w' => e = .returned (.bool true) ∧ RW.Evo (fun _ => False) w w' := by
  have hx : 0 ≤ a0 ∧ a0 ≤ 255 := by simpa [Lit.wf, IntKind.min, IntKind.max, IntKind.signed, IntKind.bits] using w0
  have hy : 0 ≤ a1 ∧ a1 ≤ 65535 := by simpa [Lit.wf, IntKind.min, IntKind.max, IntKind.signed, IntKind.bits] using w1
  refine (armillarylaw29_QuorumArithmetic.calls 300 (fun _ => none) a0 a1 w (fun _ _ h => by cases h) true (holds hx.1 hx.2 hy.1 hy.2)).mono ?_
  rintro e w' ⟨v, rfl, J, rfl, hg⟩
  exact ⟨rfl, hg.evo⟩

/-! ### THE ROW's STEP: WRITTEN OUT: LEAVE IT -/
set_option maxRecDepth 100000 in
theorem lifted (os : Os) (started : os.Started) (H : Type) (enc : TypeId × Value → H) :
    ReturnsInHanded {} Try.checked os 4 .any (Rows.quorumArithmeticSpec.pre6 enc Try.prog Try.f4 Rows.quorumArithmeticRow.domain false) (Rows.quorumArithmeticSpec.post enc Try.prog Try.f4 false true false false) := by
  refine returnsInHanded_of_change (C := Try.checked) own started (by kernel_rfl) Try.func4
    (ChangeSpec.witness6 (enc := enc) (C := Try.checked) false ⟨#[], #[.int .u8 0, .int .u16 0], []⟩ 8 (by kernel_rfl) (by kernel_rfl) (by kernel_rfl) (by kernel_rfl)) ?_
  intro W base args ds gs before hval0 hW hcnd _
  have hval : ∀ (j : Nat) t v, Try.f4.params[j]? = some t → args[j]? = some v → Value.okWide Try.prog W .any base t v := hval0
  have hW' := hW
  obtain ⟨p, q, hA0, hV, rfl, hfz, hnd⟩ := hW
  have hA : DataW.TrodAll enc Try.prog W 0 (fun _ => true) true Try.f4.params.toList args.toList ds p := hA0
  rw [Try.params4] at hA hval
  obtain ⟨v0, vs0, d0, ds0, p0, q0, hargs, rfl, rfl, h0, r0⟩ := trodAll_cons hA
  obtain ⟨v1, vs1, d1, ds1, p1, q1, rfl, rfl, rfl, h1, r1⟩ := trodAll_cons r0
  obtain ⟨rfl, rfl, rfl⟩ := trodAll_nil r1
  obtain rfl : args = #[v0, v1] := by cases args; simp_all
  obtain ⟨rfl, rfl⟩ := trodVars_none hV
  obtain ⟨a0, rfl, rfl, rfl, w0⟩ := open_int Try.underlying5 (hval 0 5 v0 rfl rfl) h0
  obtain ⟨a1, rfl, rfl, rfl, w1⟩ := open_int Try.underlying47 (hval 1 47 v1 rfl rfl) h1
  clear hA0 hval0
  simp only [List.append_nil] at hW'
  refine (walk a0 a1 w0 w1 W).mono fun e W' ⟨he, hg⟩ => ?_
  subst he
  exact ⟨_, rfl, post_same (pa := []) (pv := []) hW' (fun _ _ _ => (trodAll_cons_mk (shut_bool Try.underlying4 _) trodAll_mk0)) (fun sp _ => (trodAll_cons_mk (shut_int Try.underlying5 w0) (trodAll_cons_mk (shut_int Try.underlying47 w1) trodAll_mk0))) (fun _ _ => rfl)
    (keptBut_of hg _)⟩

theorem over : Rows.quorumArithmeticRow.holds Try.pinned (OpenSpec.ofChange Rows.quorumArithmeticSpec) :=
  OpenClaim.holds_of_wide 4 Try.f4 rfl rfl rfl rfl rfl rfl rfl ⟨rfl, rfl, rfl, rfl, rfl⟩ rfl rfl rfl rfl rfl (by kernel_rfl) Try.func4 (by kernel_rfl)
    (of_decide_eq_true (by kernel_rfl)) (by unfold Func.isWrapper; first | (rw [if_pos (by decide +kernel)]; kernel_rfl) | (rw [if_neg (by decide +kernel)]; exact ⟨rfl, rfl⟩))
    (fun os started H enc _ => lifted os started H enc)

/-- ████ THE STATEMENT ████ -/
theorem proved : Rows.QuorumArithmeticSaid :=
  over
#print axioms proved
end Go.Proofs.Ytieakigoinebdaa.quorumArithmetic
