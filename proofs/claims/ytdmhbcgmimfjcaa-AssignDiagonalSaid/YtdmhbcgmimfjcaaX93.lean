/- Words of the walk, the functions' walks and plain laws, joined; no conditions beyond those that the theorems name. -/
import Derived.Test.YtdmhbcgmimfjcaaX92
namespace Go.Proofs.Ytdmhbcgmimfjcaa
open Go Go.Proofs.Ytdmhbcgmimfjcaa.RW
set_option linter.unusedVariables false
set_option maxRecDepth 100000
set_option maxHeartbeats 8000000

/-! ### assign_solution_augments0: function 37, (*armillary/assign.solution).augment -/
noncomputable def K37s0_0 : Code := cBody Try.f37
noncomputable def K37s0_1 : Code := cL K37s0_0
noncomputable def O37s0_1 : List Oper := cOps K37s0_1
noncomputable def K37s0_3 : Code := cR K37s0_0
noncomputable def K37s0_4 : Code := cL K37s0_3
noncomputable def K37s0_5 : Code := cL K37s0_4
noncomputable def O37s0_5 : List Oper := cOps K37s0_5
noncomputable def K37s0_7 : Code := cR K37s0_4
noncomputable def K37s0_8 : Code := cL K37s0_7
noncomputable def O37s0_8 : List Oper := cOps K37s0_8
noncomputable def K37s0_10 : Code := cR K37s0_7
noncomputable def K37s0_11 : Code := cL K37s0_10
noncomputable def O37s0_11 : List Oper := cOps K37s0_11
noncomputable def K37s0_13 : Code := cR K37s0_10
noncomputable def K37s0_14 : Code := cL K37s0_13
noncomputable def K37s0_15 : Code := cL K37s0_14
noncomputable def O37s0_15 : List Oper := cOps K37s0_15
noncomputable def K37s0_17 : Code := cR K37s0_14
noncomputable def K37s0_18 : Code := cL K37s0_17
noncomputable def K37s0_19 : Code := cL K37s0_18
noncomputable def K37s0_20 : Code := cL K37s0_19
noncomputable def O37s0_20 : List Oper := cOps K37s0_20
noncomputable def K37s0_22 : Code := cR K37s0_19
noncomputable def K37s0_23 : Code := cL K37s0_22
noncomputable def K37s0_24 : Code := cL K37s0_23
noncomputable def K37s0_25 : Code := cR K37s0_23
noncomputable def K37s0_26 : Code := cR K37s0_22
noncomputable def K37s0_27 : Code := cL K37s0_26
noncomputable def K37s0_28 : Code := cL K37s0_27
noncomputable def K37s0_29 : Code := cL K37s0_28
noncomputable def O37s0_29 : List Oper := cOps K37s0_29
noncomputable def K37s0_31 : Code := cR K37s0_28
noncomputable def O37s0_31 : List Oper := cOps K37s0_31
noncomputable def K37s0_33 : Code := cR K37s0_26
noncomputable def O37s0_33 : List Oper := cOps K37s0_33
noncomputable def K37s0_35 : Code := cR K37s0_13
noncomputable def K37s0_36 : Code := cL K37s0_35
noncomputable def K37s0_37 : Code := cL K37s0_36
noncomputable def O37s0_37 : List Oper := cOps K37s0_37
noncomputable def K37s0_39 : Code := cR K37s0_36
noncomputable def K37s0_40 : Code := cL K37s0_39
noncomputable def K37s0_41 : Code := cL K37s0_40
noncomputable def K37s0_42 : Code := cL K37s0_41
noncomputable def O37s0_42 : List Oper := cOps K37s0_42
noncomputable def K37s0_44 : Code := cR K37s0_41
noncomputable def K37s0_45 : Code := cL K37s0_44
noncomputable def K37s0_46 : Code := cL K37s0_45
noncomputable def K37s0_47 : Code := cR K37s0_45
noncomputable def K37s0_48 : Code := cR K37s0_44
noncomputable def K37s0_49 : Code := cL K37s0_48
noncomputable def K37s0_50 : Code := cL K37s0_49
noncomputable def K37s0_51 : Code := cL K37s0_50
noncomputable def O37s0_51 : List Oper := cOps K37s0_51
noncomputable def K37s0_53 : Code := cR K37s0_50
noncomputable def O37s0_53 : List Oper := cOps K37s0_53
noncomputable def K37s0_55 : Code := cR K37s0_48
noncomputable def O37s0_55 : List Oper := cOps K37s0_55
noncomputable def K37s0_57 : Code := cR K37s0_35
noncomputable def K37s0_58 : Code := cL K37s0_57
noncomputable def O37s0_58 : List Oper := cOps K37s0_58
noncomputable def K37s0_60 : Code := cR K37s0_57
noncomputable def K37s0_61 : Code := cL K37s0_60
noncomputable def O37s0_61 : List Oper := cOps K37s0_61
noncomputable def K37s0_63 : Code := cR K37s0_60
noncomputable def K37s0_64 : Code := cL K37s0_63
noncomputable def K37s0_65 : Code := cR K37s0_63
noncomputable def K37s0_66 : Code := cL K37s0_65
noncomputable def K37s0_67 : Code := cL K37s0_66
noncomputable def K37s0_68 : Code := cL K37s0_67
noncomputable def K37s0_69 : Code := cL K37s0_68
noncomputable def K37s0_70 : Code := cL K37s0_69
noncomputable def O37s0_70 : List Oper := cOps K37s0_70
noncomputable def K37s0_72 : Code := cR K37s0_69
noncomputable def K37s0_73 : Code := cL K37s0_72
noncomputable def K37s0_74 : Code := cL K37s0_73
noncomputable def O37s0_74 : List Oper := cOps K37s0_74
noncomputable def K37s0_76 : Code := cR K37s0_73
noncomputable def K37s0_77 : Code := cL K37s0_76
noncomputable def K37s0_78 : Code := cL K37s0_77
noncomputable def K37s0_79 : Code := cL K37s0_78
noncomputable def O37s0_79 : List Oper := cOps K37s0_79
noncomputable def K37s0_81 : Code := cR K37s0_78
noncomputable def K37s0_82 : Code := cL K37s0_81
noncomputable def K37s0_83 : Code := cL K37s0_82
noncomputable def K37s0_84 : Code := cR K37s0_82
noncomputable def K37s0_85 : Code := cR K37s0_81
noncomputable def K37s0_86 : Code := cL K37s0_85
noncomputable def K37s0_87 : Code := cL K37s0_86
noncomputable def K37s0_88 : Code := cL K37s0_87
noncomputable def O37s0_88 : List Oper := cOps K37s0_88
noncomputable def K37s0_90 : Code := cR K37s0_87
noncomputable def K37s0_91 : Code := cL K37s0_90
noncomputable def K37s0_92 : Code := cL K37s0_91
noncomputable def O37s0_92 : List Oper := cOps K37s0_92
noncomputable def K37s0_94 : Code := cR K37s0_91
noncomputable def K37s0_95 : Code := cL K37s0_94
noncomputable def K37s0_96 : Code := cR K37s0_94
noncomputable def K37s0_97 : Code := cR K37s0_90
noncomputable def K37s0_98 : Code := cL K37s0_97
noncomputable def K37s0_99 : Code := cL K37s0_98
noncomputable def O37s0_99 : List Oper := cOps K37s0_99
noncomputable def K37s0_101 : Code := cR K37s0_98
noncomputable def K37s0_102 : Code := cL K37s0_101
noncomputable def O37s0_102 : List Oper := cOps K37s0_102
noncomputable def K37s0_104 : Code := cR K37s0_101
noncomputable def K37s0_105 : Code := cL K37s0_104
noncomputable def O37s0_105 : List Oper := cOps K37s0_105
noncomputable def K37s0_107 : Code := cR K37s0_104
noncomputable def K37s0_108 : Code := cR K37s0_97
noncomputable def K37s0_109 : Code := cL K37s0_108
noncomputable def O37s0_109 : List Oper := cOps K37s0_109
noncomputable def K37s0_111 : Code := cR K37s0_108
noncomputable def K37s0_112 : Code := cL K37s0_111
noncomputable def O37s0_112 : List Oper := cOps K37s0_112
noncomputable def K37s0_114 : Code := cR K37s0_111
noncomputable def K37s0_115 : Code := cR K37s0_85
noncomputable def O37s0_115 : List Oper := cOps K37s0_115
noncomputable def K37s0_117 : Code := cR K37s0_72
noncomputable def K37s0_118 : Code := cL K37s0_117
noncomputable def O37s0_118 : List Oper := cOps K37s0_118
noncomputable def K37s0_120 : Code := cR K37s0_117
noncomputable def K37s0_121 : Code := cL K37s0_120
noncomputable def O37s0_121 : List Oper := cOps K37s0_121
noncomputable def K37s0_123 : Code := cR K37s0_120
noncomputable def K37s0_124 : Code := cL K37s0_123
noncomputable def O37s0_124 : List Oper := cOps K37s0_124
noncomputable def K37s0_126 : Code := cR K37s0_123
noncomputable def K37s0_127 : Code := cL K37s0_126
noncomputable def K37s0_128 : Code := cL K37s0_127
noncomputable def O37s0_128 : List Oper := cOps K37s0_128
noncomputable def K37s0_130 : Code := cR K37s0_127
noncomputable def K37s0_131 : Code := cL K37s0_130
noncomputable def K37s0_132 : Code := cR K37s0_130
noncomputable def K37s0_133 : Code := cR K37s0_126
noncomputable def K37s0_134 : Code := cL K37s0_133
noncomputable def O37s0_134 : List Oper := cOps K37s0_134
noncomputable def K37s0_136 : Code := cR K37s0_133
noncomputable def O37s0_136 : List Oper := cOps K37s0_136
noncomputable def K37s0_138 : Code := cR K37s0_65
noncomputable def K37s0_139 : Code := cL K37s0_138
noncomputable def O37s0_139 : List Oper := cOps K37s0_139
noncomputable def K37s0_141 : Code := cR K37s0_138
noncomputable def K37s0_142 : Code := cL K37s0_141
noncomputable def K37s0_143 : Code := cL K37s0_142
noncomputable def K37s0_144 : Code := cL K37s0_143
noncomputable def K37s0_145 : Code := cL K37s0_144
noncomputable def O37s0_145 : List Oper := cOps K37s0_145
noncomputable def K37s0_147 : Code := cR K37s0_144
noncomputable def K37s0_148 : Code := cL K37s0_147
noncomputable def K37s0_149 : Code := cR K37s0_147
noncomputable def K37s0_150 : Code := cR K37s0_143
noncomputable def K37s0_151 : Code := cL K37s0_150
noncomputable def K37s0_152 : Code := cL K37s0_151
noncomputable def O37s0_152 : List Oper := cOps K37s0_152
noncomputable def K37s0_154 : Code := cR K37s0_151
noncomputable def K37s0_155 : Code := cL K37s0_154
noncomputable def K37s0_156 : Code := cL K37s0_155
noncomputable def O37s0_156 : List Oper := cOps K37s0_156
noncomputable def K37s0_158 : Code := cR K37s0_155
noncomputable def K37s0_159 : Code := cL K37s0_158
noncomputable def O37s0_159 : List Oper := cOps K37s0_159
noncomputable def K37s0_161 : Code := cR K37s0_158
noncomputable def O37s0_161 : List Oper := cOps K37s0_161
noncomputable def K37s0_163 : Code := cR K37s0_154
noncomputable def O37s0_163 : List Oper := cOps K37s0_163
def assign_solution_augments0.k1 (x5 : List Int) (x6 : List Int) (x12 : List Int) : Option (S58) := (some (⟨x12, x5, x6⟩ : S58))
def assign_solution_augments0.l1 (a2 : Int) (x8 : List Int) : Nat → (List Int) → Int → Option (List Int)
 | 0, _, _ => none
 | k + 1, x13, x14 => (if x14 ≠ (-1) then (if 0 ≤ x14 then (if x14 < (12 : Int) then ((if (x8.getD ((x14).toNat) 0) = (-1) then (if 0 ≤ x14 then (if x14 < (12 : Int) then (some (x13.set ((x14).toNat) a2)) else none) else none) else (if 0 ≤ (x8.getD ((x14).toNat) 0) then (if (x8.getD ((x14).toNat) 0) < (12 : Int) then (if 0 ≤ x14 then (if x14 < (12 : Int) then (some (x13.set ((x14).toNat) (x13.getD (((x8.getD ((x14).toNat) 0)).toNat) 0))) else none) else none) else none) else none)).bind (fun x15 => (assign_solution_augments0.l1 a2 x8 k x15 (x8.getD ((x14).toNat) 0)))) else none) else none) else (some x13))
def assign_solution_augments0.k3 (k : Nat) (a2 : Int) : List Int × List Int × List Int × List Int × List Int × List Bool × List Int × Int → Option (S58)
 | (x4, x5, x6, x7, x8, x9, x10, x11) => ((assign_solution_augments0.l1 a2 x8 k x4 x11).bind (assign_solution_augments0.k1 x5 x6))
def assign_solution_augments0.k6 (x35 : List Int) (x36 : List Int) (x38 : Int) : Option (List Int × List Int × Int) := (some (x35, x36, x38))
def assign_solution_augments0.k7 (x30 : Int) (x31 : Int) (x35 : List Int) (x36 : List Int) (x37 : Bool) : Option (List Int × List Int × Int) := ((if x37 = true then (some x31) else (some x30)).bind (assign_solution_augments0.k6 x35 x36))
def assign_solution_augments0.k8 (x30 : Int) (x31 : Int) : List Int × List Int → Option (List Int × List Int × Int)
 | (x35, x36) => ((if x30 = (-1) then (some true) else (if 0 ≤ x31 then (if x31 < (12 : Int) then (if 0 ≤ x30 then (if x30 < (12 : Int) then (some (decide ((x35.getD ((x31).toNat) 0) < (x35.getD ((x30).toNat) 0)))) else none) else none) else none) else none)).bind (assign_solution_augments0.k7 x30 x31 x35 x36))
def assign_solution_augments0.l3 (b1 : List Int) (x17 : List Int) (x18 : List Int) (x21 : List Bool) (x23 : Int) (x24 : Int) : Nat → (List Int) → (List Int) → Int → Int → Option (List Int × List Int × Int)
 | 0, _, _, _, _ => none
 | k + 1, x28, x29, x30, x31 => (if x31 < 12 then ((if 0 ≤ x31 then (if x31 < (12 : Int) then (if (x21.getD ((x31).toNat) false) = true then (some (x28, x29, x30)) else (if 0 ≤ x24 then (if x24 < (12 : Int) then (if 0 ≤ x31 then (if x31 < (12 : Int) then (if 0 ≤ x24 then (if x24 < (12 : Int) then (if 0 ≤ x31 then (if x31 < (12 : Int) then (if 0 ≤ x31 then (if x31 < (12 : Int) then ((if (W .i64 ((W .i64 ((x17.getD ((x24).toNat) 0) + (x18.getD ((x31).toNat) 0))) - (b1.getD ((x24).toNat * 12 + (x31).toNat) 0))) < (x28.getD ((x31).toNat) 0) then (if 0 ≤ x31 then (if x31 < (12 : Int) then (if 0 ≤ x31 then (if x31 < (12 : Int) then (some ((x28.set ((x31).toNat) (W .i64 ((W .i64 ((x17.getD ((x24).toNat) 0) + (x18.getD ((x31).toNat) 0))) - (b1.getD ((x24).toNat * 12 + (x31).toNat) 0)))), (x29.set ((x31).toNat) x23))) else none) else none) else none) else none) else (some (x28, x29))).bind (assign_solution_augments0.k8 x30 x31)) else none) else none) else none) else none) else none) else none) else none) else none) else none) else none)) else none) else none).bind (fun (x32, x33, x34) => (assign_solution_augments0.l3 b1 x17 x18 x21 x23 x24 k x32 x33 x34 (W .i64 (x31 + 1))))) else (some (x28, x29, x30)))
def assign_solution_augments0.l2 (b1 : List Int) : Nat → (List Int) → (List Int) → (List Int) → (List Int) → (List Int) → (List Bool) → (List Int) → Int → Int → Option (List Int × List Int × List Int × List Int × List Int × List Bool × List Int × Int)
 | 0, _, _, _, _, _, _, _, _, _ => none
 | k + 1, x16, x17, x18, x19, x20, x21, x22, x23, x24 => ((assign_solution_augments0.l3 b1 x17 x18 x21 x23 x24 k x19 x20 (-1) 0).bind (fun (x25, x26, x27) => (if 0 ≤ x27 then (if x27 < (12 : Int) then ((assign_solution_augment_1s0.f k (x25.getD ((x27).toNat) 0) x22 (⟨x16, x17, x18⟩ : S58) x21 x25).bind fun t1 => (if 0 ≤ x27 then (if x27 < (12 : Int) then (if 0 ≤ x27 then (if x27 < (12 : Int) then (if (t1.1.f0.getD ((x27).toNat) 0) = (-1) then (some (t1.1.f0, t1.1.f1, t1.1.f2, t1.2, x26, (x21.set ((x27).toNat) true), x22, x27)) else (if 0 ≤ x27 then (if x27 < (12 : Int) then (if (x22.length + [(t1.1.f0.getD ((x27).toNat) 0)].length) * 8 ≤ 140737488355328 then (assign_solution_augments0.l2 b1 k t1.1.f0 t1.1.f1 t1.1.f2 t1.2 x26 (x21.set ((x27).toNat) true) (x22 ++ [(t1.1.f0.getD ((x27).toNat) 0)]) x27 (t1.1.f0.getD ((x27).toNat) 0)) else none) else none) else none)) else none) else none) else none) else none)) else none) else none)))
def assign_solution_augments0.k9 (k : Nat) (a2 : Int) (b0 : S58) (b1 : List Int) (x1 : List Int) (x2 : List Int) (x3 : List Int) : Option (S58) := ((assign_solution_augments0.l2 b1 k b0.f0 x3 b0.f2 x1 x2 (List.replicate 12 false) [a2] (-1) a2).bind (assign_solution_augments0.k3 k a2))
def assign_solution_augments0.l4 (a2 : Int) (b0 : S58) (b1 : List Int) : Nat → (List Int) → Int → Option (List Int)
 | 0, _, _ => none
 | k + 1, x39, x40 => (if x40 < 12 then (if 0 ≤ a2 then (if a2 < (12 : Int) then (if 0 ≤ a2 then (if a2 < (12 : Int) then (if 0 ≤ x40 then (if x40 < (12 : Int) then (if 0 ≤ x40 then (if x40 < (12 : Int) then (if 0 ≤ a2 then (if a2 < (12 : Int) then (assign_solution_augments0.l4 a2 b0 b1 k (x39.set ((a2).toNat) (iMax (x39.getD ((a2).toNat) 0) (W .i64 ((b1.getD ((a2).toNat * 12 + (x40).toNat) 0) - (b0.f2.getD ((x40).toNat) 0))))) (W .i64 (x40 + 1))) else none) else none) else none) else none) else none) else none) else none) else none) else none) else none) else (some x39))
def assign_solution_augments0.k10 (k : Nat) (a2 : Int) (b0 : S58) (b1 : List Int) : List Int × List Int → Option (S58)
 | (x1, x2) => ((assign_solution_augments0.l4 a2 b0 b1 k b0.f1 0).bind (assign_solution_augments0.k9 k a2 b0 b1 x1 x2))
def assign_solution_augments0.l5 : Nat → (List Int) → (List Int) → Int → Option (List Int × List Int)
 | 0, _, _, _ => none
 | k + 1, x41, x42, x43 => (if x43 < 12 then (if 0 ≤ x43 then (if x43 < (12 : Int) then (if 0 ≤ x43 then (if x43 < (12 : Int) then (assign_solution_augments0.l5 k (x41.set ((x43).toNat) 1152921504606846976) (x42.set ((x43).toNat) (-1)) (W .i64 (x43 + 1))) else none) else none) else none) else none) else (some (x41, x42)))
def assign_solution_augments0.f (k : Nat) (a2 : Int) (b0 : S58) (b1 : List Int) : Option (S58) := ((assign_solution_augments0.l5 k (List.replicate 12 0) (List.replicate 12 0) 0).bind (assign_solution_augments0.k10 k a2 b0 b1))
def assign_solution_augments0.Post (S : Nat → Prop) (gb0 : Nat) (gb1 : Nat) (a2 : Int) (b0 : S58) (b1 : List Int) (I : Imm) (w : World) (r : S58) (v : Value) (w' : World) : Prop :=
 ∃ (J : Imm), v = .tuple #[] ∧ Sat ⟨w, S, I⟩ J w'.heap.size [⟨gb0, ((arrV (Value.int .i64) 0 12 r.f0) ++ ((arrV (Value.int .i64) 0 12 r.f1) ++ (arrV (Value.int .i64) 0 12 r.f2))), 58⟩, ⟨gb1, arrV (Value.int .i64) 0 144 b1, 54⟩] [] w' ∧ 12 ≤ r.f0.length ∧ 12 ≤ r.f1.length ∧ 12 ≤ r.f2.length
noncomputable def a37s0_161n : List Nat := [0, 0, 0, 0, 4, 20, 60, 124, 1, 257, 1023, 2047]
theorem a37s0_161 : ancs O37s0_161 [] = a37s0_161n := by kernel_rfl
theorem a37s0_161o : drawOk O37s0_161 a37s0_161n 10 = true := by kernel_rfl
noncomputable def u37d1l  : List Ld :=
 []
noncomputable def u37d1g (gb0 : Nat) (x8 : List Int) (x14 : Int) : List (Nat × ((Nat → Wt) → Value)) := [(6, fun u => .pointer (some ⟨gb0, 0 + ((x8.getD ((x14).toNat) 0)).toNat * 1, none⟩))]
noncomputable def u37d1q (nx0 : Nat) (gb0 : Nat) (gb1 : Nat) (a2 : Int) (b1 : List Int) (nx2 : Nat) (x5 : List Int) (x6 : List Int) (x7 : List Int) (x8 : List Int) (x9 : List Bool) (x10 : List Int) (A1 : Option Addr) (c1 : Nat) (x13 : List Int) (x14 : Int) (u : Nat → Wt) : Option (List Value × List (Nat × Value) × List (Nat × Nat)) := qSim Try.prog [(⟨gb0, 0 + ((x8.getD ((x14).toNat) 0)).toNat * 1, none⟩, .int .i64 (x13.getD (((x8.getD ((x14).toNat) 0)).toNat) 0))] [⟨gb0, ((arrV (Value.int .i64) 0 12 x13) ++ ((arrV (Value.int .i64) 0 12 x5) ++ (arrV (Value.int .i64) 0 12 x6))), 58⟩, ⟨gb1, arrV (Value.int .i64) 0 144 b1, 54⟩, ⟨nx0, [.pointer (some ⟨gb0, 0, none⟩)], 64⟩, ⟨nx0 + 1, arrV (Value.int .i64) 0 12 x7, 52⟩, ⟨nx0 + 2, arrV (Value.int .i64) 0 12 x8, 56⟩, ⟨nx0 + 3, arrV Value.bool false 12 x9, 70⟩, ⟨nx2 + 1, [.slice A1 x10.length c1], 23⟩] O37s0_161 ⟨164, []⟩ (Ld.vl u37d1l) (u37d1g gb0 x8 x14) u [.l 2, .no, .l 2, .no, .no, .no, .no, .r 0, .no, .no] 0 (O37s0_161.take 10) [(145, .bool ((x8.getD ((x14).toNat) 0) == (-1))), (19, .int .i64 (x8.getD ((x14).toNat) 0)), (2, .int .i64 a2), (3, .pointer (some ⟨nx0, 0, none⟩)), (7, .pointer (some ⟨nx0 + 2, 0, none⟩)), (18, .int .i64 x14)]
noncomputable def u37d1s (gb0 : Nat) (x8 : List Int) (x13 : List Int) (x14 : Int) (u : Nat → Wt) : List Value := [.pointer (some ⟨gb0, 0, none⟩), .int .i64 x14, .pointer (some ⟨gb0, 0, none⟩), .int .i64 (x8.getD ((x14).toNat) 0), .pointer (some ⟨gb0, 0, none⟩), .pointer (some ⟨gb0, 0, none⟩), .pointer (some ⟨gb0, 0 + ((x8.getD ((x14).toNat) 0)).toNat * 1, none⟩), .int .i64 (x13.getD (((x8.getD ((x14).toNat) 0)).toNat) 0), .pointer (some ⟨gb0, 0, none⟩), .pointer (some ⟨gb0, 0, none⟩)]
noncomputable def u37d1f (nx0 : Nat) (gb0 : Nat) (a2 : Int) (x8 : List Int) (x13 : List Int) (x14 : Int) (i : Nat) (u : Nat → Wt) : List (Nat × Value) := foldPut ⟨164, []⟩ [(145, .bool ((x8.getD ((x14).toNat) 0) == (-1))), (19, .int .i64 (x8.getD ((x14).toNat) 0)), (2, .int .i64 a2), (3, .pointer (some ⟨nx0, 0, none⟩)), (7, .pointer (some ⟨nx0 + 2, 0, none⟩)), (18, .int .i64 x14)] (O37s0_161.take i) (((u37d1s gb0 x8 x13 x14) u).take i)
theorem u37d1v (nx0 : Nat) (gb0 : Nat) (gb1 : Nat) (a2 : Int) (b1 : List Int) (nx2 : Nat) (x5 : List Int) (x6 : List Int) (x7 : List Int) (x8 : List Int) (x9 : List Bool) (x10 : List Int) (A1 : Option Addr) (c1 : Nat) (x13 : List Int) (x14 : Int) (u : Nat → Wt) : (u37d1q nx0 gb0 gb1 a2 b1 nx2 x5 x6 x7 x8 x9 x10 A1 c1 x13 x14 u).map (fun x => (x.1, x.2.1)) = some ((u37d1s gb0 x8 x13 x14) u, (u37d1f nx0 gb0 a2 x8 x13 x14 10) u) := by kernel_rfl
theorem u37d1e (nx0 : Nat) (gb0 : Nat) (gb1 : Nat) (a2 : Int) (b1 : List Int) (nx2 : Nat) (x5 : List Int) (x6 : List Int) (x7 : List Int) (x8 : List Int) (x9 : List Bool) (x10 : List Int) (A1 : Option Addr) (c1 : Nat) (x13 : List Int) (x14 : Int) (u : Nat → Wt) : (u37d1q nx0 gb0 gb1 a2 b1 nx2 x5 x6 x7 x8 x9 x10 A1 c1 x13 x14 u).map (fun x => x.2.2.map (·.1)) = (u37d1q nx0 gb0 gb1 a2 b1 nx2 x5 x6 x7 x8 x9 x10 A1 c1 x13 x14 u).map (fun x => x.2.2.map (·.2)) := by kernel_rfl
noncomputable def a37s0_99n : List Nat := [0, 0, 1, 5, 15, 31, 0, 0, 64, 320, 960, 1984, 4095, 0, 0, 0, 8192, 90112, 253952, 516096, 1048575, 2097151]
theorem a37s0_99 : ancs O37s0_99 [] = a37s0_99n := by kernel_rfl
theorem a37s0_99o : drawOk O37s0_99 a37s0_99n 20 = true := by kernel_rfl
noncomputable def u37d2l  : List Ld :=
 []
noncomputable def u37d2g (gb0 : Nat) (gb1 : Nat) (x24 : Int) (x31 : Int) : List (Nat × ((Nat → Wt) → Value)) := [(4, fun u => .pointer (some ⟨gb0, 12 + (x24).toNat * 1, none⟩)), (10, fun u => .pointer (some ⟨gb0, 24 + (x31).toNat * 1, none⟩)), (17, fun u => .pointer (some ⟨gb1, 0 + (x24).toNat * 12, none⟩)), (18, fun u => .pointer (some ⟨gb1, 0 + (x24).toNat * 12 + (x31).toNat * 1, none⟩))]
noncomputable def u37d2q (nx0 : Nat) (gb0 : Nat) (gb1 : Nat) (a2 : Int) (b1 : List Int) (nx2 : Nat) (x16 : List Int) (x17 : List Int) (x18 : List Int) (x21 : List Bool) (x22 : List Int) (A2 : Option Addr) (c2 : Nat) (x23 : Int) (x24 : Int) (x28 : List Int) (x29 : List Int) (x30 : Int) (x31 : Int) (u : Nat → Wt) : Option (List Value × List (Nat × Value) × List (Nat × Nat)) := qSim Try.prog [(⟨gb0, 12 + (x24).toNat * 1, none⟩, .int .i64 (x17.getD ((x24).toNat) 0)), (⟨gb0, 24 + (x31).toNat * 1, none⟩, .int .i64 (x18.getD ((x31).toNat) 0)), (⟨gb1, 0 + (x24).toNat * 12 + (x31).toNat * 1, none⟩, .int .i64 (b1.getD ((x24).toNat * 12 + (x31).toNat) 0))] [⟨gb0, ((arrV (Value.int .i64) 0 12 x16) ++ ((arrV (Value.int .i64) 0 12 x17) ++ (arrV (Value.int .i64) 0 12 x18))), 58⟩, ⟨gb1, arrV (Value.int .i64) 0 144 b1, 54⟩, ⟨nx0, [.pointer (some ⟨gb0, 0, none⟩)], 64⟩, ⟨nx0 + 1, arrV (Value.int .i64) 0 12 x28, 52⟩, ⟨nx0 + 2, arrV (Value.int .i64) 0 12 x29, 56⟩, ⟨nx0 + 3, arrV Value.bool false 12 x21, 70⟩, ⟨nx2 + 1, [.slice A2 x22.length c2], 23⟩] O37s0_99 ⟨164, []⟩ (Ld.vl u37d2l) (u37d2g gb0 gb1 x24 x31) u [.l 2, .no, .no, .no, .no, .r 0, .l 2, .no, .no, .no, .no, .r 1, .no, .no, .no, .no, .no, .no, .no, .r 2] 0 (O37s0_99.take 20) [(66, .bool (x21.getD ((x31).toNat) false)), (15, .int .i64 x31), (1, .pointer (some ⟨gb1, 0, none⟩)), (2, .int .i64 a2), (3, .pointer (some ⟨nx0, 0, none⟩)), (6, .pointer (some ⟨nx0 + 1, 0, none⟩)), (7, .pointer (some ⟨nx0 + 2, 0, none⟩)), (8, .pointer (some ⟨nx0 + 3, 0, none⟩)), (11, .pointer (some ⟨nx2 + 1, 0, none⟩)), (12, .int .i64 x23), (13, .int .i64 x24), (14, .int .i64 x30), (61, .int .i64 x31)]
noncomputable def u37d2s (gb0 : Nat) (gb1 : Nat) (b1 : List Int) (x17 : List Int) (x18 : List Int) (x24 : Int) (x31 : Int) (u : Nat → Wt) : List Value := [.pointer (some ⟨gb0, 0, none⟩), .int .i64 x24, .pointer (some ⟨gb0, 0, none⟩), .pointer (some ⟨gb0, 12, none⟩), .pointer (some ⟨gb0, 12 + (x24).toNat * 1, none⟩), .int .i64 (x17.getD ((x24).toNat) 0), .pointer (some ⟨gb0, 0, none⟩), .int .i64 x31, .pointer (some ⟨gb0, 0, none⟩), .pointer (some ⟨gb0, 24, none⟩), .pointer (some ⟨gb0, 24 + (x31).toNat * 1, none⟩), .int .i64 (x18.getD ((x31).toNat) 0), .int .i64 (W .i64 ((x17.getD ((x24).toNat) 0) + (x18.getD ((x31).toNat) 0))), .pointer (some ⟨gb1, 0, none⟩), .int .i64 x24, .int .i64 x31, .pointer (some ⟨gb1, 0, none⟩), .pointer (some ⟨gb1, 0 + (x24).toNat * 12, none⟩), .pointer (some ⟨gb1, 0 + (x24).toNat * 12 + (x31).toNat * 1, none⟩), .int .i64 (b1.getD ((x24).toNat * 12 + (x31).toNat) 0)]
noncomputable def u37d2f (nx0 : Nat) (gb0 : Nat) (gb1 : Nat) (a2 : Int) (b1 : List Int) (nx2 : Nat) (x17 : List Int) (x18 : List Int) (x21 : List Bool) (x23 : Int) (x24 : Int) (x30 : Int) (x31 : Int) (i : Nat) (u : Nat → Wt) : List (Nat × Value) := foldPut ⟨164, []⟩ [(66, .bool (x21.getD ((x31).toNat) false)), (15, .int .i64 x31), (1, .pointer (some ⟨gb1, 0, none⟩)), (2, .int .i64 a2), (3, .pointer (some ⟨nx0, 0, none⟩)), (6, .pointer (some ⟨nx0 + 1, 0, none⟩)), (7, .pointer (some ⟨nx0 + 2, 0, none⟩)), (8, .pointer (some ⟨nx0 + 3, 0, none⟩)), (11, .pointer (some ⟨nx2 + 1, 0, none⟩)), (12, .int .i64 x23), (13, .int .i64 x24), (14, .int .i64 x30), (61, .int .i64 x31)] (O37s0_99.take i) (((u37d2s gb0 gb1 b1 x17 x18 x24 x31) u).take i)
theorem u37d2v (nx0 : Nat) (gb0 : Nat) (gb1 : Nat) (a2 : Int) (b1 : List Int) (nx2 : Nat) (x16 : List Int) (x17 : List Int) (x18 : List Int) (x21 : List Bool) (x22 : List Int) (A2 : Option Addr) (c2 : Nat) (x23 : Int) (x24 : Int) (x28 : List Int) (x29 : List Int) (x30 : Int) (x31 : Int) (u : Nat → Wt) : (u37d2q nx0 gb0 gb1 a2 b1 nx2 x16 x17 x18 x21 x22 A2 c2 x23 x24 x28 x29 x30 x31 u).map (fun x => (x.1, x.2.1)) = some ((u37d2s gb0 gb1 b1 x17 x18 x24 x31) u, (u37d2f nx0 gb0 gb1 a2 b1 nx2 x17 x18 x21 x23 x24 x30 x31 20) u) := by kernel_rfl
theorem u37d2e (nx0 : Nat) (gb0 : Nat) (gb1 : Nat) (a2 : Int) (b1 : List Int) (nx2 : Nat) (x16 : List Int) (x17 : List Int) (x18 : List Int) (x21 : List Bool) (x22 : List Int) (A2 : Option Addr) (c2 : Nat) (x23 : Int) (x24 : Int) (x28 : List Int) (x29 : List Int) (x30 : Int) (x31 : Int) (u : Nat → Wt) : (u37d2q nx0 gb0 gb1 a2 b1 nx2 x16 x17 x18 x21 x22 A2 c2 x23 x24 x28 x29 x30 x31 u).map (fun x => x.2.2.map (·.1)) = (u37d2q nx0 gb0 gb1 a2 b1 nx2 x16 x17 x18 x21 x22 A2 c2 x23 x24 x28 x29 x30 x31 u).map (fun x => x.2.2.map (·.2)) := by kernel_rfl
noncomputable def a37s0_109n : List Nat := [0, 1, 3, 7, 15, 31, 7, 71, 199, 511, 1023]
theorem a37s0_109 : ancs O37s0_109 [] = a37s0_109n := by kernel_rfl
theorem a37s0_109o : drawOk O37s0_109 a37s0_109n 9 = true := by kernel_rfl
noncomputable def u37d3l  : List Ld :=
 []
noncomputable def u37d3g  : List (Nat × ((Nat → Wt) → Value)) := [(2, fun u => .bool true)]
noncomputable def u37d3q (nx0 : Nat) (gb0 : Nat) (gb1 : Nat) (a2 : Int) (b1 : List Int) (nx2 : Nat) (x16 : List Int) (x17 : List Int) (x18 : List Int) (x21 : List Bool) (x22 : List Int) (A2 : Option Addr) (c2 : Nat) (x23 : Int) (x24 : Int) (x30 : Int) (x31 : Int) (x35 : List Int) (x36 : List Int) (u : Nat → Wt) : Option (List Value × List (Nat × Value) × List (Nat × Nat)) := qSim Try.prog [] [⟨gb0, ((arrV (Value.int .i64) 0 12 x16) ++ ((arrV (Value.int .i64) 0 12 x17) ++ (arrV (Value.int .i64) 0 12 x18))), 58⟩, ⟨gb1, arrV (Value.int .i64) 0 144 b1, 54⟩, ⟨nx0, [.pointer (some ⟨gb0, 0, none⟩)], 64⟩, ⟨nx0 + 1, arrV (Value.int .i64) 0 12 x35, 52⟩, ⟨nx0 + 2, arrV (Value.int .i64) 0 12 x36, 56⟩, ⟨nx0 + 3, arrV Value.bool false 12 x21, 70⟩, ⟨nx2 + 1, [.slice A2 x22.length c2], 23⟩] O37s0_109 ⟨164, []⟩ (Ld.vl u37d3l) u37d3g u [.no, .no, .no, .no, .no, .no, .no, .no, .no] 0 (O37s0_109.take 9) [(1, .pointer (some ⟨gb1, 0, none⟩)), (2, .int .i64 a2), (3, .pointer (some ⟨nx0, 0, none⟩)), (6, .pointer (some ⟨nx0 + 1, 0, none⟩)), (7, .pointer (some ⟨nx0 + 2, 0, none⟩)), (8, .pointer (some ⟨nx0 + 3, 0, none⟩)), (11, .pointer (some ⟨nx2 + 1, 0, none⟩)), (12, .int .i64 x23), (13, .int .i64 x24), (14, .int .i64 x30), (15, .int .i64 x31), (61, .int .i64 x31)]
noncomputable def u37d3s (x30 : Int) (u : Nat → Wt) : List Value := [.int .i64 x30, .bool (x30 == (-1)), .bool true, undef, undef, undef, undef, undef, undef]
noncomputable def u37d3f (nx0 : Nat) (gb1 : Nat) (a2 : Int) (nx2 : Nat) (x23 : Int) (x24 : Int) (x30 : Int) (x31 : Int) (i : Nat) (u : Nat → Wt) : List (Nat × Value) := foldPut ⟨164, []⟩ [(1, .pointer (some ⟨gb1, 0, none⟩)), (2, .int .i64 a2), (3, .pointer (some ⟨nx0, 0, none⟩)), (6, .pointer (some ⟨nx0 + 1, 0, none⟩)), (7, .pointer (some ⟨nx0 + 2, 0, none⟩)), (8, .pointer (some ⟨nx0 + 3, 0, none⟩)), (11, .pointer (some ⟨nx2 + 1, 0, none⟩)), (12, .int .i64 x23), (13, .int .i64 x24), (14, .int .i64 x30), (15, .int .i64 x31), (61, .int .i64 x31)] (O37s0_109.take i) (((u37d3s x30) u).take i)
theorem u37d3v (nx0 : Nat) (gb0 : Nat) (gb1 : Nat) (a2 : Int) (b1 : List Int) (nx2 : Nat) (x16 : List Int) (x17 : List Int) (x18 : List Int) (x21 : List Bool) (x22 : List Int) (A2 : Option Addr) (c2 : Nat) (x23 : Int) (x24 : Int) (x30 : Int) (x31 : Int) (x35 : List Int) (x36 : List Int) (u : Nat → Wt) : (u37d3q nx0 gb0 gb1 a2 b1 nx2 x16 x17 x18 x21 x22 A2 c2 x23 x24 x30 x31 x35 x36 u).map (fun x => (x.1, x.2.1)) = some ((u37d3s x30) u, (u37d3f nx0 gb1 a2 nx2 x23 x24 x30 x31 9) u) := by kernel_rfl
theorem u37d3e (nx0 : Nat) (gb0 : Nat) (gb1 : Nat) (a2 : Int) (b1 : List Int) (nx2 : Nat) (x16 : List Int) (x17 : List Int) (x18 : List Int) (x21 : List Bool) (x22 : List Int) (A2 : Option Addr) (c2 : Nat) (x23 : Int) (x24 : Int) (x30 : Int) (x31 : Int) (x35 : List Int) (x36 : List Int) (u : Nat → Wt) : (u37d3q nx0 gb0 gb1 a2 b1 nx2 x16 x17 x18 x21 x22 A2 c2 x23 x24 x30 x31 x35 x36 u).map (fun x => x.2.2.map (·.1)) = (u37d3q nx0 gb0 gb1 a2 b1 nx2 x16 x17 x18 x21 x22 A2 c2 x23 x24 x30 x31 x35 x36 u).map (fun x => x.2.2.map (·.2)) := by kernel_rfl
noncomputable def u37d4l  : List Ld :=
 []
noncomputable def u37d4g (nx0 : Nat) (x30 : Int) (x31 : Int) : List (Nat × ((Nat → Wt) → Value)) := [(2, fun u => .bool false), (4, fun u => .pointer (some ⟨nx0 + 1, 0 + (x31).toNat * 1, none⟩)), (7, fun u => .pointer (some ⟨nx0 + 1, 0 + (x30).toNat * 1, none⟩))]
noncomputable def u37d4q (nx0 : Nat) (gb0 : Nat) (gb1 : Nat) (a2 : Int) (b1 : List Int) (nx2 : Nat) (x16 : List Int) (x17 : List Int) (x18 : List Int) (x21 : List Bool) (x22 : List Int) (A2 : Option Addr) (c2 : Nat) (x23 : Int) (x24 : Int) (x30 : Int) (x31 : Int) (x35 : List Int) (x36 : List Int) (u : Nat → Wt) : Option (List Value × List (Nat × Value) × List (Nat × Nat)) := qSim Try.prog [(⟨nx0 + 1, 0 + (x31).toNat * 1, none⟩, .int .i64 (x35.getD ((x31).toNat) 0)), (⟨nx0 + 1, 0 + (x30).toNat * 1, none⟩, .int .i64 (x35.getD ((x30).toNat) 0))] [⟨gb0, ((arrV (Value.int .i64) 0 12 x16) ++ ((arrV (Value.int .i64) 0 12 x17) ++ (arrV (Value.int .i64) 0 12 x18))), 58⟩, ⟨gb1, arrV (Value.int .i64) 0 144 b1, 54⟩, ⟨nx0, [.pointer (some ⟨gb0, 0, none⟩)], 64⟩, ⟨nx0 + 1, arrV (Value.int .i64) 0 12 x35, 52⟩, ⟨nx0 + 2, arrV (Value.int .i64) 0 12 x36, 56⟩, ⟨nx0 + 3, arrV Value.bool false 12 x21, 70⟩, ⟨nx2 + 1, [.slice A2 x22.length c2], 23⟩] O37s0_109 ⟨164, []⟩ (Ld.vl u37d4l) (u37d4g nx0 x30 x31) u [.no, .no, .no, .no, .no, .r 0, .no, .no, .r 1] 0 (O37s0_109.take 9) [(1, .pointer (some ⟨gb1, 0, none⟩)), (2, .int .i64 a2), (3, .pointer (some ⟨nx0, 0, none⟩)), (6, .pointer (some ⟨nx0 + 1, 0, none⟩)), (7, .pointer (some ⟨nx0 + 2, 0, none⟩)), (8, .pointer (some ⟨nx0 + 3, 0, none⟩)), (11, .pointer (some ⟨nx2 + 1, 0, none⟩)), (12, .int .i64 x23), (13, .int .i64 x24), (14, .int .i64 x30), (15, .int .i64 x31), (61, .int .i64 x31)]
noncomputable def u37d4s (nx0 : Nat) (x30 : Int) (x31 : Int) (x35 : List Int) (u : Nat → Wt) : List Value := [.int .i64 x30, .bool (x30 == (-1)), .bool false, .int .i64 x31, .pointer (some ⟨nx0 + 1, 0 + (x31).toNat * 1, none⟩), .int .i64 (x35.getD ((x31).toNat) 0), .int .i64 x30, .pointer (some ⟨nx0 + 1, 0 + (x30).toNat * 1, none⟩), .int .i64 (x35.getD ((x30).toNat) 0)]
noncomputable def u37d4f (nx0 : Nat) (gb1 : Nat) (a2 : Int) (nx2 : Nat) (x23 : Int) (x24 : Int) (x30 : Int) (x31 : Int) (x35 : List Int) (i : Nat) (u : Nat → Wt) : List (Nat × Value) := foldPut ⟨164, []⟩ [(1, .pointer (some ⟨gb1, 0, none⟩)), (2, .int .i64 a2), (3, .pointer (some ⟨nx0, 0, none⟩)), (6, .pointer (some ⟨nx0 + 1, 0, none⟩)), (7, .pointer (some ⟨nx0 + 2, 0, none⟩)), (8, .pointer (some ⟨nx0 + 3, 0, none⟩)), (11, .pointer (some ⟨nx2 + 1, 0, none⟩)), (12, .int .i64 x23), (13, .int .i64 x24), (14, .int .i64 x30), (15, .int .i64 x31), (61, .int .i64 x31)] (O37s0_109.take i) (((u37d4s nx0 x30 x31 x35) u).take i)
theorem u37d4v (nx0 : Nat) (gb0 : Nat) (gb1 : Nat) (a2 : Int) (b1 : List Int) (nx2 : Nat) (x16 : List Int) (x17 : List Int) (x18 : List Int) (x21 : List Bool) (x22 : List Int) (A2 : Option Addr) (c2 : Nat) (x23 : Int) (x24 : Int) (x30 : Int) (x31 : Int) (x35 : List Int) (x36 : List Int) (u : Nat → Wt) : (u37d4q nx0 gb0 gb1 a2 b1 nx2 x16 x17 x18 x21 x22 A2 c2 x23 x24 x30 x31 x35 x36 u).map (fun x => (x.1, x.2.1)) = some ((u37d4s nx0 x30 x31 x35) u, (u37d4f nx0 gb1 a2 nx2 x23 x24 x30 x31 x35 9) u) := by kernel_rfl
theorem u37d4e (nx0 : Nat) (gb0 : Nat) (gb1 : Nat) (a2 : Int) (b1 : List Int) (nx2 : Nat) (x16 : List Int) (x17 : List Int) (x18 : List Int) (x21 : List Bool) (x22 : List Int) (A2 : Option Addr) (c2 : Nat) (x23 : Int) (x24 : Int) (x30 : Int) (x31 : Int) (x35 : List Int) (x36 : List Int) (u : Nat → Wt) : (u37d4q nx0 gb0 gb1 a2 b1 nx2 x16 x17 x18 x21 x22 A2 c2 x23 x24 x30 x31 x35 x36 u).map (fun x => x.2.2.map (·.1)) = (u37d4q nx0 gb0 gb1 a2 b1 nx2 x16 x17 x18 x21 x22 A2 c2 x23 x24 x30 x31 x35 x36 u).map (fun x => x.2.2.map (·.2)) := by kernel_rfl
noncomputable def a37s0_53n : List Nat := [0, 0, 0, 0, 4, 20, 60, 124, 0, 0, 0, 256, 2816, 7936, 16128, 0, 0, 32768, 163840, 491520, 1015808, 2096896, 4194300, 1, 8388609, 33554431, 67108863]
theorem a37s0_53 : ancs O37s0_53 [] = a37s0_53n := by kernel_rfl
theorem a37s0_53o : drawOk O37s0_53 a37s0_53n 25 = true := by kernel_rfl
noncomputable def u37d5l  : List Ld :=
 []
noncomputable def u37d5g (gb0 : Nat) (gb1 : Nat) (a2 : Int) (x40 : Int) : List (Nat × ((Nat → Wt) → Value)) := [(6, fun u => .pointer (some ⟨gb0, 12 + (a2).toNat * 1, none⟩)), (12, fun u => .pointer (some ⟨gb1, 0 + (a2).toNat * 12, none⟩)), (13, fun u => .pointer (some ⟨gb1, 0 + (a2).toNat * 12 + (x40).toNat * 1, none⟩)), (19, fun u => .pointer (some ⟨gb0, 24 + (x40).toNat * 1, none⟩))]
noncomputable def u37d5q (nx0 : Nat) (gb0 : Nat) (gb1 : Nat) (a2 : Int) (b0 : S58) (b1 : List Int) (x1 : List Int) (x2 : List Int) (x39 : List Int) (x40 : Int) (u : Nat → Wt) : Option (List Value × List (Nat × Value) × List (Nat × Nat)) := qSim Try.prog [(⟨gb0, 12 + (a2).toNat * 1, none⟩, .int .i64 (x39.getD ((a2).toNat) 0)), (⟨gb1, 0 + (a2).toNat * 12 + (x40).toNat * 1, none⟩, .int .i64 (b1.getD ((a2).toNat * 12 + (x40).toNat) 0)), (⟨gb0, 24 + (x40).toNat * 1, none⟩, .int .i64 (b0.f2.getD ((x40).toNat) 0))] [⟨gb0, ((arrV (Value.int .i64) 0 12 b0.f0) ++ ((arrV (Value.int .i64) 0 12 x39) ++ (arrV (Value.int .i64) 0 12 b0.f2))), 58⟩, ⟨gb1, arrV (Value.int .i64) 0 144 b1, 54⟩, ⟨nx0, [.pointer (some ⟨gb0, 0, none⟩)], 64⟩, ⟨nx0 + 1, arrV (Value.int .i64) 0 12 x1, 52⟩, ⟨nx0 + 2, arrV (Value.int .i64) 0 12 x2, 56⟩, ⟨nx0 + 3, arrV Value.bool false 12 (List.replicate 12 false), 70⟩] O37s0_53 ⟨164, []⟩ (Ld.vl u37d5l) (u37d5g gb0 gb1 a2 x40) u [.l 2, .no, .l 2, .no, .no, .no, .no, .r 0, .no, .no, .no, .no, .no, .no, .r 1, .l 2, .no, .no, .no, .no, .r 2, .no, .no, .no, .no] 0 (O37s0_53.take 25) [(10, .int .i64 x40), (1, .pointer (some ⟨gb1, 0, none⟩)), (2, .int .i64 a2), (3, .pointer (some ⟨nx0, 0, none⟩)), (6, .pointer (some ⟨nx0 + 1, 0, none⟩)), (7, .pointer (some ⟨nx0 + 2, 0, none⟩)), (8, .pointer (some ⟨nx0 + 3, 0, none⟩)), (28, .int .i64 x40)]
noncomputable def u37d5s (gb0 : Nat) (gb1 : Nat) (a2 : Int) (b0 : S58) (b1 : List Int) (x39 : List Int) (x40 : Int) (u : Nat → Wt) : List Value := [.pointer (some ⟨gb0, 0, none⟩), .int .i64 a2, .pointer (some ⟨gb0, 0, none⟩), .int .i64 a2, .pointer (some ⟨gb0, 0, none⟩), .pointer (some ⟨gb0, 12, none⟩), .pointer (some ⟨gb0, 12 + (a2).toNat * 1, none⟩), .int .i64 (x39.getD ((a2).toNat) 0), .pointer (some ⟨gb1, 0, none⟩), .int .i64 a2, .int .i64 x40, .pointer (some ⟨gb1, 0, none⟩), .pointer (some ⟨gb1, 0 + (a2).toNat * 12, none⟩), .pointer (some ⟨gb1, 0 + (a2).toNat * 12 + (x40).toNat * 1, none⟩), .int .i64 (b1.getD ((a2).toNat * 12 + (x40).toNat) 0), .pointer (some ⟨gb0, 0, none⟩), .int .i64 x40, .pointer (some ⟨gb0, 0, none⟩), .pointer (some ⟨gb0, 24, none⟩), .pointer (some ⟨gb0, 24 + (x40).toNat * 1, none⟩), .int .i64 (b0.f2.getD ((x40).toNat) 0), .int .i64 (W .i64 ((b1.getD ((a2).toNat * 12 + (x40).toNat) 0) - (b0.f2.getD ((x40).toNat) 0))), .int .i64 (iMax (x39.getD ((a2).toNat) 0) (W .i64 ((b1.getD ((a2).toNat * 12 + (x40).toNat) 0) - (b0.f2.getD ((x40).toNat) 0)))), .pointer (some ⟨gb0, 0, none⟩), .pointer (some ⟨gb0, 12, none⟩)]
noncomputable def u37d5f (nx0 : Nat) (gb0 : Nat) (gb1 : Nat) (a2 : Int) (b0 : S58) (b1 : List Int) (x39 : List Int) (x40 : Int) (i : Nat) (u : Nat → Wt) : List (Nat × Value) := foldPut ⟨164, []⟩ [(10, .int .i64 x40), (1, .pointer (some ⟨gb1, 0, none⟩)), (2, .int .i64 a2), (3, .pointer (some ⟨nx0, 0, none⟩)), (6, .pointer (some ⟨nx0 + 1, 0, none⟩)), (7, .pointer (some ⟨nx0 + 2, 0, none⟩)), (8, .pointer (some ⟨nx0 + 3, 0, none⟩)), (28, .int .i64 x40)] (O37s0_53.take i) (((u37d5s gb0 gb1 a2 b0 b1 x39 x40) u).take i)
theorem u37d5v (nx0 : Nat) (gb0 : Nat) (gb1 : Nat) (a2 : Int) (b0 : S58) (b1 : List Int) (x1 : List Int) (x2 : List Int) (x39 : List Int) (x40 : Int) (u : Nat → Wt) : (u37d5q nx0 gb0 gb1 a2 b0 b1 x1 x2 x39 x40 u).map (fun x => (x.1, x.2.1)) = some ((u37d5s gb0 gb1 a2 b0 b1 x39 x40) u, (u37d5f nx0 gb0 gb1 a2 b0 b1 x39 x40 25) u) := by kernel_rfl
theorem u37d5e (nx0 : Nat) (gb0 : Nat) (gb1 : Nat) (a2 : Int) (b0 : S58) (b1 : List Int) (x1 : List Int) (x2 : List Int) (x39 : List Int) (x40 : Int) (u : Nat → Wt) : (u37d5q nx0 gb0 gb1 a2 b0 b1 x1 x2 x39 x40 u).map (fun x => x.2.2.map (·.1)) = (u37d5q nx0 gb0 gb1 a2 b0 b1 x1 x2 x39 x40 u).map (fun x => x.2.2.map (·.2)) := by kernel_rfl
theorem assign_solution_augments0.calls (k : Nat) (I0 : Imm) (gb0 : Nat) (gb1 : Nat) (a2 : Int) (b0 : S58) (b1 : List Int) (w : World) (hs : Sat ⟨w, SM [⟨gb0, ((arrV (Value.int .i64) 0 12 b0.f0) ++ ((arrV (Value.int .i64) 0 12 b0.f1) ++ (arrV (Value.int .i64) 0 12 b0.f2))), 58⟩, ⟨gb1, arrV (Value.int .i64) 0 144 b1, 54⟩] [], I0⟩ I0 w.heap.size [⟨gb0, ((arrV (Value.int .i64) 0 12 b0.f0) ++ ((arrV (Value.int .i64) 0 12 b0.f1) ++ (arrV (Value.int .i64) 0 12 b0.f2))), 58⟩, ⟨gb1, arrV (Value.int .i64) 0 144 b1, 54⟩] [] w) (hzb0_0 : 12 ≤ b0.f0.length) (hzb0_1 : 12 ≤ b0.f1.length) (hzb0_2 : 12 ≤ b0.f2.length) (hzb1 : 144 ≤ b1.length) (r : S58) (h : assign_solution_augments0.f k a2 b0 b1 = some r) :
  Calls Try.prog 37 [.pointer (some ⟨gb0, 0, none⟩), .pointer (some ⟨gb1, 0, none⟩), .int .i64 a2].toArray w fun e w' => ∃ v, e = .returned v ∧ assign_solution_augments0.Post (SM [⟨gb0, ((arrV (Value.int .i64) 0 12 b0.f0) ++ ((arrV (Value.int .i64) 0 12 b0.f1) ++ (arrV (Value.int .i64) 0 12 b0.f2))), 58⟩, ⟨gb1, arrV (Value.int .i64) 0 144 b1, 54⟩] []) gb0 gb1 a2 b0 b1 I0 w r v w' := by
 have H : ((assign_solution_augments0.l5 k (List.replicate 12 0) (List.replicate 12 0) 0).bind (assign_solution_augments0.k10 k a2 b0 b1)) = some r := h
 clear h
 refine calls_bodyL Try.func37 (by kernel_rfl) 164 (by kernel_rfl) (by kernel_rfl) ⟨w, SM [⟨gb0, ((arrV (Value.int .i64) 0 12 b0.f0) ++ ((arrV (Value.int .i64) 0 12 b0.f1) ++ (arrV (Value.int .i64) 0 12 b0.f2))), 58⟩, ⟨gb1, arrV (Value.int .i64) 0 144 b1, 54⟩] [], I0⟩ I0 [⟨gb0, ((arrV (Value.int .i64) 0 12 b0.f0) ++ ((arrV (Value.int .i64) 0 12 b0.f1) ++ (arrV (Value.int .i64) 0 12 b0.f2))), 58⟩, ⟨gb1, arrV (Value.int .i64) 0 144 b1, 54⟩] [] [(0, .pointer (some ⟨gb0, 0, none⟩)), (1, .pointer (some ⟨gb1, 0, none⟩)), (2, .int .i64 a2)] (by kernel_rfl) hs ?_
 generalize w.heap.size = nx0
 show OK _ K37s0_0 _ _ _ _ _ _ _ _
 refine OK.seq K37s0_1 K37s0_3 (by kernel_rfl) ?_
 refine OK.region 0 O37s0_1 (by kernel_rfl) ?_
 refine RL.simP (K' := [(3, .pointer (some ⟨nx0, 0, none⟩)), (1, .pointer (some ⟨gb1, 0, none⟩)), (2, .int .i64 a2)]) (nx' := nx0 + 1) (L' := [⟨gb0, ((arrV (Value.int .i64) 0 12 b0.f0) ++ ((arrV (Value.int .i64) 0 12 b0.f1) ++ (arrV (Value.int .i64) 0 12 b0.f2))), 58⟩, ⟨gb1, arrV (Value.int .i64) 0 144 b1, 54⟩, ⟨nx0, [.pointer (some ⟨gb0, 0, none⟩)], 64⟩]) [] (RFacts.nil _ _ _) 1 [.no] (by kernel_rfl) (by kernel_rfl) ?_
 refine RL.nil (by kernel_rfl) ?_
 refine QN.then_ ?_
 refine OK.scope K37s0_4 (by kernel_rfl) ?_
 refine OK.seq K37s0_5 K37s0_7 (by kernel_rfl) ?_
 refine OK.region 1 O37s0_5 (by kernel_rfl) ?_
 refine RL.simP (K' := [(6, .pointer (some ⟨nx0 + 1, 0, none⟩)), (3, .pointer (some ⟨nx0, 0, none⟩)), (1, .pointer (some ⟨gb1, 0, none⟩)), (2, .int .i64 a2)]) (nx' := nx0 + 2) (L' := [⟨gb0, ((arrV (Value.int .i64) 0 12 b0.f0) ++ ((arrV (Value.int .i64) 0 12 b0.f1) ++ (arrV (Value.int .i64) 0 12 b0.f2))), 58⟩, ⟨gb1, arrV (Value.int .i64) 0 144 b1, 54⟩, ⟨nx0, [.pointer (some ⟨gb0, 0, none⟩)], 64⟩, ⟨nx0 + 1, arrV (Value.int .i64) 0 12 (List.replicate 12 0), 52⟩]) [] (RFacts.nil _ _ _) 1 [.no] (by kernel_rfl) (by kernel_rfl) ?_
 refine RL.nil (by kernel_rfl) ?_
 refine QN.then_ ?_
 refine OK.seq K37s0_8 K37s0_10 (by kernel_rfl) ?_
 refine OK.region 2 O37s0_8 (by kernel_rfl) ?_
 refine RL.simP (K' := [(7, .pointer (some ⟨nx0 + 2, 0, none⟩)), (6, .pointer (some ⟨nx0 + 1, 0, none⟩)), (3, .pointer (some ⟨nx0, 0, none⟩)), (1, .pointer (some ⟨gb1, 0, none⟩)), (2, .int .i64 a2)]) (nx' := nx0 + 3) (L' := [⟨gb0, ((arrV (Value.int .i64) 0 12 b0.f0) ++ ((arrV (Value.int .i64) 0 12 b0.f1) ++ (arrV (Value.int .i64) 0 12 b0.f2))), 58⟩, ⟨gb1, arrV (Value.int .i64) 0 144 b1, 54⟩, ⟨nx0, [.pointer (some ⟨gb0, 0, none⟩)], 64⟩, ⟨nx0 + 1, arrV (Value.int .i64) 0 12 (List.replicate 12 0), 52⟩, ⟨nx0 + 2, arrV (Value.int .i64) 0 12 (List.replicate 12 0), 56⟩]) [] (RFacts.nil _ _ _) 1 [.no] (by kernel_rfl) (by kernel_rfl) ?_
 refine RL.nil (by kernel_rfl) ?_
 refine QN.then_ ?_
 refine OK.seq K37s0_11 K37s0_13 (by kernel_rfl) ?_
 refine OK.region 3 O37s0_11 (by kernel_rfl) ?_
 refine RL.simP (K' := [(8, .pointer (some ⟨nx0 + 3, 0, none⟩)), (7, .pointer (some ⟨nx0 + 2, 0, none⟩)), (6, .pointer (some ⟨nx0 + 1, 0, none⟩)), (3, .pointer (some ⟨nx0, 0, none⟩)), (1, .pointer (some ⟨gb1, 0, none⟩)), (2, .int .i64 a2)]) (nx' := nx0 + 4) (L' := [⟨gb0, ((arrV (Value.int .i64) 0 12 b0.f0) ++ ((arrV (Value.int .i64) 0 12 b0.f1) ++ (arrV (Value.int .i64) 0 12 b0.f2))), 58⟩, ⟨gb1, arrV (Value.int .i64) 0 144 b1, 54⟩, ⟨nx0, [.pointer (some ⟨gb0, 0, none⟩)], 64⟩, ⟨nx0 + 1, arrV (Value.int .i64) 0 12 (List.replicate 12 0), 52⟩, ⟨nx0 + 2, arrV (Value.int .i64) 0 12 (List.replicate 12 0), 56⟩, ⟨nx0 + 3, arrV Value.bool false 12 (List.replicate 12 false), 70⟩]) [] (RFacts.nil _ _ _) 1 [.no] (by kernel_rfl) (by kernel_rfl) ?_
 refine RL.nil (by kernel_rfl) ?_
 refine QN.then_ ?_
 refine OK.seq K37s0_14 K37s0_35 (by kernel_rfl) ?_
 refine OK.seq K37s0_15 K37s0_17 (by kernel_rfl) ?_
 refine OK.region 4 O37s0_15 (by kernel_rfl) ?_
 refine RL.simK (K' := [(20, .int .i64 0), (8, .pointer (some ⟨nx0 + 3, 0, none⟩)), (7, .pointer (some ⟨nx0 + 2, 0, none⟩)), (6, .pointer (some ⟨nx0 + 1, 0, none⟩)), (3, .pointer (some ⟨nx0, 0, none⟩)), (1, .pointer (some ⟨gb1, 0, none⟩)), (2, .int .i64 a2)]) [] (RFacts.nil _ _ _) 1 [.no] (by kernel_rfl) (by kernel_rfl) ?_
 refine RL.nil (by kernel_rfl) ?_
 refine QN.then_ ?_
 refine OK.join (fun K' I' _ L' X' => ∃ (x1 : List Int) (x2 : List Int), K' = [(1, .pointer (some ⟨gb1, 0, none⟩)), (2, .int .i64 a2), (3, .pointer (some ⟨nx0, 0, none⟩)), (6, .pointer (some ⟨nx0 + 1, 0, none⟩)), (7, .pointer (some ⟨nx0 + 2, 0, none⟩)), (8, .pointer (some ⟨nx0 + 3, 0, none⟩))] ∧ L' = [⟨gb0, ((arrV (Value.int .i64) 0 12 b0.f0) ++ ((arrV (Value.int .i64) 0 12 b0.f1) ++ (arrV (Value.int .i64) 0 12 b0.f2))), 58⟩, ⟨gb1, arrV (Value.int .i64) 0 144 b1, 54⟩, ⟨nx0, [.pointer (some ⟨gb0, 0, none⟩)], 64⟩, ⟨nx0 + 1, arrV (Value.int .i64) 0 12 x1, 52⟩, ⟨nx0 + 2, arrV (Value.int .i64) 0 12 x2, 56⟩, ⟨nx0 + 3, arrV Value.bool false 12 (List.replicate 12 false), 70⟩] ∧ X' = [] ∧ Imm.le I0 I' ∧ 12 ≤ x1.length ∧ 12 ≤ x2.length ∧ assign_solution_augments0.k10 k a2 b0 b1 (x1, x2) = some r) ?_ ?_
 ·rintro _ I1 nx1 _ _ ⟨x1, x2, rfl, rfl, rfl, hi1, hz1, hz2, H⟩
  replace H : ((assign_solution_augments0.l4 a2 b0 b1 k b0.f1 0).bind (assign_solution_augments0.k9 k a2 b0 b1 x1 x2)) = some r := H
  refine QN.then_ ?_
  refine OK.seq K37s0_36 K37s0_57 (by kernel_rfl) ?_
  refine OK.seq K37s0_37 K37s0_39 (by kernel_rfl) ?_
  refine OK.region 9 O37s0_37 (by kernel_rfl) ?_
  refine RL.simK (K' := [(28, .int .i64 0), (1, .pointer (some ⟨gb1, 0, none⟩)), (2, .int .i64 a2), (3, .pointer (some ⟨nx0, 0, none⟩)), (6, .pointer (some ⟨nx0 + 1, 0, none⟩)), (7, .pointer (some ⟨nx0 + 2, 0, none⟩)), (8, .pointer (some ⟨nx0 + 3, 0, none⟩))]) [] (RFacts.nil _ _ _) 1 [.no] (by kernel_rfl) (by kernel_rfl) ?_
  refine RL.nil (by kernel_rfl) ?_
  refine QN.then_ ?_
  refine OK.join (fun K' I' _ L' X' => ∃ (x3 : List Int), K' = [(1, .pointer (some ⟨gb1, 0, none⟩)), (2, .int .i64 a2), (3, .pointer (some ⟨nx0, 0, none⟩)), (6, .pointer (some ⟨nx0 + 1, 0, none⟩)), (7, .pointer (some ⟨nx0 + 2, 0, none⟩)), (8, .pointer (some ⟨nx0 + 3, 0, none⟩))] ∧ L' = [⟨gb0, ((arrV (Value.int .i64) 0 12 b0.f0) ++ ((arrV (Value.int .i64) 0 12 x3) ++ (arrV (Value.int .i64) 0 12 b0.f2))), 58⟩, ⟨gb1, arrV (Value.int .i64) 0 144 b1, 54⟩, ⟨nx0, [.pointer (some ⟨gb0, 0, none⟩)], 64⟩, ⟨nx0 + 1, arrV (Value.int .i64) 0 12 x1, 52⟩, ⟨nx0 + 2, arrV (Value.int .i64) 0 12 x2, 56⟩, ⟨nx0 + 3, arrV Value.bool false 12 (List.replicate 12 false), 70⟩] ∧ X' = [] ∧ Imm.le I1 I' ∧ 12 ≤ x3.length ∧ assign_solution_augments0.k9 k a2 b0 b1 x1 x2 x3 = some r) ?_ ?_
  ·rintro _ I2 nx2 _ _ ⟨x3, rfl, rfl, rfl, hi2, hz3, H⟩
   replace H : ((assign_solution_augments0.l2 b1 k b0.f0 x3 b0.f2 x1 x2 (List.replicate 12 false) [a2] (-1) a2).bind (assign_solution_augments0.k3 k a2)) = some r := H
   refine QN.then_ ?_
   refine OK.seq K37s0_58 K37s0_60 (by kernel_rfl) ?_
   refine OK.region 14 O37s0_58 (by kernel_rfl) ?_
   refine RL.simP (K' := [(12, .int .i64 (-1)), (11, .pointer (some ⟨nx2 + 1, 0, none⟩)), (1, .pointer (some ⟨gb1, 0, none⟩)), (2, .int .i64 a2), (3, .pointer (some ⟨nx0, 0, none⟩)), (6, .pointer (some ⟨nx0 + 1, 0, none⟩)), (7, .pointer (some ⟨nx0 + 2, 0, none⟩)), (8, .pointer (some ⟨nx0 + 3, 0, none⟩))]) (nx' := nx2 + 2) (L' := [⟨gb0, ((arrV (Value.int .i64) 0 12 b0.f0) ++ ((arrV (Value.int .i64) 0 12 x3) ++ (arrV (Value.int .i64) 0 12 b0.f2))), 58⟩, ⟨gb1, arrV (Value.int .i64) 0 144 b1, 54⟩, ⟨nx0, [.pointer (some ⟨gb0, 0, none⟩)], 64⟩, ⟨nx0 + 1, arrV (Value.int .i64) 0 12 x1, 52⟩, ⟨nx0 + 2, arrV (Value.int .i64) 0 12 x2, 56⟩, ⟨nx0 + 3, arrV Value.bool false 12 (List.replicate 12 false), 70⟩, ⟨nx2, [.int .i64 a2], 3⟩, ⟨nx2 + 1, [.slice (some ⟨nx2, 0, none⟩) 1 1], 23⟩]) [] (RFacts.nil _ _ _) 5 [.no, .no, .no, .l 7, .no] (by kernel_rfl) (by kernel_rfl) ?_
   refine RL.nil (by kernel_rfl) ?_
   refine QN.then_ ?_
   refine OK.seq K37s0_61 K37s0_63 (by kernel_rfl) ?_
   refine OK.region 15 O37s0_61 (by kernel_rfl) ?_
   refine RL.simK (K' := [(13, .int .i64 a2), (12, .int .i64 (-1)), (11, .pointer (some ⟨nx2 + 1, 0, none⟩)), (1, .pointer (some ⟨gb1, 0, none⟩)), (2, .int .i64 a2), (3, .pointer (some ⟨nx0, 0, none⟩)), (6, .pointer (some ⟨nx0 + 1, 0, none⟩)), (7, .pointer (some ⟨nx0 + 2, 0, none⟩)), (8, .pointer (some ⟨nx0 + 3, 0, none⟩))]) [] (RFacts.nil _ _ _) 2 [.no, .no] (by kernel_rfl) (by kernel_rfl) ?_
   refine RL.nil (by kernel_rfl) ?_
   refine QN.then_ ?_
   refine OK.seq K37s0_64 K37s0_65 (by kernel_rfl) ?_
   refine OK.label 0 (by kernel_rfl) ?_
   refine QN.then_ ?_
   refine OK.seq K37s0_66 K37s0_138 (by kernel_rfl) ?_
   refine OK.join (fun K' I' _ L' X' => ∃ (x4 : List Int) (x5 : List Int) (x6 : List Int) (x7 : List Int) (x8 : List Int) (x9 : List Bool) (x10 : List Int) (x11 : Int) (A1 : Option Addr) (c1 : Nat) (cs1 : List Value), K' = [(2, .int .i64 a2), (3, .pointer (some ⟨nx0, 0, none⟩)), (7, .pointer (some ⟨nx0 + 2, 0, none⟩)), (12, .int .i64 x11)] ∧ L' = [⟨gb0, ((arrV (Value.int .i64) 0 12 x4) ++ ((arrV (Value.int .i64) 0 12 x5) ++ (arrV (Value.int .i64) 0 12 x6))), 58⟩, ⟨gb1, arrV (Value.int .i64) 0 144 b1, 54⟩, ⟨nx0, [.pointer (some ⟨gb0, 0, none⟩)], 64⟩, ⟨nx0 + 1, arrV (Value.int .i64) 0 12 x7, 52⟩, ⟨nx0 + 2, arrV (Value.int .i64) 0 12 x8, 56⟩, ⟨nx0 + 3, arrV Value.bool false 12 x9, 70⟩, ⟨nx2 + 1, [.slice A1 x10.length c1], 23⟩] ∧ X' = [orow 3 1 A1 x10.length c1 cs1] ∧ Imm.le I2 I' ∧ 12 ≤ x4.length ∧ 12 ≤ x5.length ∧ 12 ≤ x6.length ∧ 12 ≤ x7.length ∧ 12 ≤ x8.length ∧ 12 ≤ x9.length ∧ Reps (Ty.int .i64) I' x10 cs1 ∧ assign_solution_augments0.k3 k a2 (x4, x5, x6, x7, x8, x9, x10, x11) = some r) ?_ ?_
   ·rintro _ I3 nx3 _ _ ⟨x4, x5, x6, x7, x8, x9, x10, x11, A1, c1, cs1, rfl, rfl, rfl, hi3, hz4, hz5, hz6, hz7, hz8, hz9, hp1, H⟩
    replace H : ((assign_solution_augments0.l1 a2 x8 k x4 x11).bind (assign_solution_augments0.k1 x5 x6)) = some r := H
    refine QN.then_ ?_
    refine OK.seq K37s0_139 K37s0_141 (by kernel_rfl) ?_
    refine OK.region 33 O37s0_139 (by kernel_rfl) ?_
    refine RL.simK (K' := [(18, .int .i64 x11), (2, .int .i64 a2), (3, .pointer (some ⟨nx0, 0, none⟩)), (7, .pointer (some ⟨nx0 + 2, 0, none⟩))]) [] (RFacts.nil _ _ _) 2 [.no, .no] (by kernel_rfl) (by kernel_rfl) ?_
    refine RL.nil (by kernel_rfl) ?_
    refine QN.then_ ?_
    refine OK.join (fun K' I' _ L' X' => ∃ (x12 : List Int), K' = [] ∧ L' = [⟨gb0, ((arrV (Value.int .i64) 0 12 x12) ++ ((arrV (Value.int .i64) 0 12 x5) ++ (arrV (Value.int .i64) 0 12 x6))), 58⟩, ⟨gb1, arrV (Value.int .i64) 0 144 b1, 54⟩, ⟨nx0, [.pointer (some ⟨gb0, 0, none⟩)], 64⟩, ⟨nx0 + 1, arrV (Value.int .i64) 0 12 x7, 52⟩, ⟨nx0 + 2, arrV (Value.int .i64) 0 12 x8, 56⟩, ⟨nx0 + 3, arrV Value.bool false 12 x9, 70⟩, ⟨nx2 + 1, [.slice A1 x10.length c1], 23⟩] ∧ X' = [orow 3 1 A1 x10.length c1 cs1] ∧ Imm.le I3 I' ∧ 12 ≤ x12.length ∧ assign_solution_augments0.k1 x5 x6 x12 = some r) ?_ ?_
    ·rintro _ I4 nx4 _ _ ⟨x12, rfl, rfl, rfl, hi4, hz10, H⟩
     replace H : (some (⟨x12, x5, x6⟩ : S58)) = some r := H
     refine QN.scN ?_
     obtain rfl := Option.some.inj H
     refine QN.body rfl [] (RFacts.nil _ _ _) (.no) (.tuple #[]) (by kernel_rfl) (by kernel_rfl) (by kernel_rfl) ?_ _ (.inl rfl)
     exact fun w' hs' => ⟨_, rfl, I4, rfl, ((hs'.fin.selB [0, 1] (by kernel_rfl)).sel [] (by kernel_rfl)), hz10, hz5, hz6⟩
    ·intro Q_1 hJ4 hQ4
     obtain ⟨y4, H, HK4⟩ := Option.bind_eq_some_iff.mp H
     refine OK.block 8 K37s0_142 (by kernel_rfl) ?_
     refine OK.sub (K' := [(2, .int .i64 a2), (3, .pointer (some ⟨nx0, 0, none⟩)), (7, .pointer (some ⟨nx0 + 2, 0, none⟩)), (18, .int .i64 x11)]) (L' := [⟨gb0, ((arrV (Value.int .i64) 0 12 x4) ++ ((arrV (Value.int .i64) 0 12 x5) ++ (arrV (Value.int .i64) 0 12 x6))), 58⟩, ⟨gb1, arrV (Value.int .i64) 0 144 b1, 54⟩, ⟨nx0, [.pointer (some ⟨gb0, 0, none⟩)], 64⟩, ⟨nx0 + 1, arrV (Value.int .i64) 0 12 x7, 52⟩, ⟨nx0 + 2, arrV (Value.int .i64) 0 12 x8, 56⟩, ⟨nx0 + 3, arrV Value.bool false 12 x9, 70⟩, ⟨nx2 + 1, [.slice A1 x10.length c1], 23⟩]) (by kernel_rfl) (.cons_cons _ (.cons_cons _ (.cons_cons _ (.cons_cons _ (.cons_cons _ (.cons_cons _ (.cons_cons _ .slnil))))))) (.refl _) ?_
     refine OK.loopInv K37s0_143 (by kernel_rfl) (fun n_ K' I' _ L' X' => ∃ (x13 : List Int) (x14 : Int), K' = [(2, .int .i64 a2), (3, .pointer (some ⟨nx0, 0, none⟩)), (7, .pointer (some ⟨nx0 + 2, 0, none⟩)), (18, .int .i64 x14)] ∧ L' = [⟨gb0, ((arrV (Value.int .i64) 0 12 x13) ++ ((arrV (Value.int .i64) 0 12 x5) ++ (arrV (Value.int .i64) 0 12 x6))), 58⟩, ⟨gb1, arrV (Value.int .i64) 0 144 b1, 54⟩, ⟨nx0, [.pointer (some ⟨gb0, 0, none⟩)], 64⟩, ⟨nx0 + 1, arrV (Value.int .i64) 0 12 x7, 52⟩, ⟨nx0 + 2, arrV (Value.int .i64) 0 12 x8, 56⟩, ⟨nx0 + 3, arrV Value.bool false 12 x9, 70⟩, ⟨nx2 + 1, [.slice A1 x10.length c1], 23⟩] ∧ X' = [orow 3 1 A1 x10.length c1 cs1] ∧ Imm.le I3 I' ∧ 12 ≤ x13.length ∧ assign_solution_augments0.l1 a2 x8 n_ x13 x14 = some y4) k ⟨x4, x11, rfl, rfl, rfl, (Imm.le_refl _), hz4, H⟩ ?_ ?_
     ·rintro _ _ _ _ _ ⟨x13, x14, rfl, rfl, rfl, _, hz11, H⟩
      cases H
     ·rintro kq1 _ I5 nx5 _ _ ⟨x13, x14, rfl, rfl, rfl, hi5, hz11, H⟩ Q_l1 hJ5 hQ5
      replace H : (if x14 ≠ (-1) then (if 0 ≤ x14 then (if x14 < (12 : Int) then ((if (x8.getD ((x14).toNat) 0) = (-1) then (if 0 ≤ x14 then (if x14 < (12 : Int) then (some (x13.set ((x14).toNat) a2)) else none) else none) else (if 0 ≤ (x8.getD ((x14).toNat) 0) then (if (x8.getD ((x14).toNat) 0) < (12 : Int) then (if 0 ≤ x14 then (if x14 < (12 : Int) then (some (x13.set ((x14).toNat) (x13.getD (((x8.getD ((x14).toNat) 0)).toNat) 0))) else none) else none) else none) else none)).bind (fun x15 => (assign_solution_augments0.l1 a2 x8 kq1 x15 (x8.getD ((x14).toNat) 0)))) else none) else none) else (some x13)) = some y4 := H
      refine OK.seq K37s0_144 K37s0_150 (by kernel_rfl) ?_
      refine OK.seq K37s0_145 K37s0_147 (by kernel_rfl) ?_
      refine OK.region 34 O37s0_145 (by kernel_rfl) ?_
      refine RL.simK (K' := [(140, .bool (x14 != (-1))), (2, .int .i64 a2), (3, .pointer (some ⟨nx0, 0, none⟩)), (7, .pointer (some ⟨nx0 + 2, 0, none⟩)), (18, .int .i64 x14)]) [] (RFacts.nil _ _ _) 2 [.no, .no] (by kernel_rfl) (by kernel_rfl) ?_
      refine RL.nil (by kernel_rfl) ?_
      refine QN.then_ ?_
      refine OK.cond (.tmp 140) K37s0_148 K37s0_149 (x14 != (-1)) (by kernel_rfl) (by kernel_rfl) (by kernel_rfl) (fun hb => ?_) (fun hb => ?_)
      ·skip
       have hc := (bne_iff_ne.1 hb)
       rw [if_pos hc] at H
       clear hb
       refine OK.skip (by kernel_rfl) ?_
       refine QN.then_ ?_
       refine OK.block 9 K37s0_151 (by kernel_rfl) ?_
       refine OK.seq K37s0_152 K37s0_154 (by kernel_rfl) ?_
       refine OK.region 35 O37s0_152 (by kernel_rfl) ?_
       refine RL.simK (K' := [(141, .int .i64 x14), (2, .int .i64 a2), (3, .pointer (some ⟨nx0, 0, none⟩)), (7, .pointer (some ⟨nx0 + 2, 0, none⟩)), (18, .int .i64 x14)]) [] (RFacts.nil _ _ _) 1 [.no] (by kernel_rfl) (by kernel_rfl) ?_
       by_cases hib0 : 0 ≤ x14
       case neg => rw [if_neg hib0] at H; cases H
       rw [if_pos hib0] at H
       by_cases hib1 : x14 < (12 : Int)
       case neg => rw [if_neg hib1] at H; cases H
       rw [if_pos hib1] at H
       have ha01 := hib0; have ha11 := hib1
       refine RL.idxArr (T := 56) (e := 3) 1 .i64 x14 (nx0 + 2) (0) 12 (some 142) (by kernel_rfl) (by kernel_rfl) (by kernel_rfl) (by kernel_rfl) hib0 hib1 (K' := [(142, .pointer (some ⟨nx0 + 2, 0 + (x14).toNat * 1, none⟩)), (141, .int .i64 x14), (2, .int .i64 a2), (3, .pointer (some ⟨nx0, 0, none⟩)), (7, .pointer (some ⟨nx0 + 2, 0, none⟩)), (18, .int .i64 x14)]) (by kernel_rfl) ?_
       refine RL.ldA (g := nx0 + 2) (ty := 56) (cs := arrV (Value.int .i64) 0 12 x8) (Value.int .i64) 0 12 x8 [] [] 0 ((x14).toNat) 4 (by kernel_rfl) (by kernel_rfl) (by kernel_rfl) (by omega) (0 + (x14).toNat * 1) (by omega) (some 143) (by kernel_rfl) (by kernel_rfl) (by kernel_rfl) (K' := [(143, .int .i64 (x8.getD ((x14).toNat) 0)), (142, .pointer (some ⟨nx0 + 2, 0 + (x14).toNat * 1, none⟩)), (141, .int .i64 x14), (2, .int .i64 a2), (3, .pointer (some ⟨nx0, 0, none⟩)), (7, .pointer (some ⟨nx0 + 2, 0, none⟩)), (18, .int .i64 x14)]) (by kernel_rfl) ?_
       refine RL.simK (K' := [(19, .int .i64 (x8.getD ((x14).toNat) 0)), (2, .int .i64 a2), (3, .pointer (some ⟨nx0, 0, none⟩)), (7, .pointer (some ⟨nx0 + 2, 0, none⟩)), (18, .int .i64 x14)]) [] (RFacts.nil _ _ _) 1 [.no] (by kernel_rfl) (by kernel_rfl) ?_
       refine RL.nil (by kernel_rfl) ?_
       refine QN.then_ ?_
       refine OK.seq K37s0_155 K37s0_163 (by kernel_rfl) ?_
       refine OK.seq K37s0_156 K37s0_158 (by kernel_rfl) ?_
       refine OK.region 36 O37s0_156 (by kernel_rfl) ?_
       refine RL.simK (K' := [(145, .bool ((x8.getD ((x14).toNat) 0) == (-1))), (19, .int .i64 (x8.getD ((x14).toNat) 0)), (2, .int .i64 a2), (3, .pointer (some ⟨nx0, 0, none⟩)), (7, .pointer (some ⟨nx0 + 2, 0, none⟩)), (18, .int .i64 x14)]) [] (RFacts.nil _ _ _) 2 [.no, .no] (by kernel_rfl) (by kernel_rfl) ?_
       refine RL.nil (by kernel_rfl) ?_
       refine QN.then_ ?_
       refine OK.join (fun K' I' _ L' X' => ∃ (x15 : List Int), K' = [(2, .int .i64 a2), (3, .pointer (some ⟨nx0, 0, none⟩)), (7, .pointer (some ⟨nx0 + 2, 0, none⟩)), (19, .int .i64 (x8.getD ((x14).toNat) 0))] ∧ L' = [⟨gb0, ((arrV (Value.int .i64) 0 12 x15) ++ ((arrV (Value.int .i64) 0 12 x5) ++ (arrV (Value.int .i64) 0 12 x6))), 58⟩, ⟨gb1, arrV (Value.int .i64) 0 144 b1, 54⟩, ⟨nx0, [.pointer (some ⟨gb0, 0, none⟩)], 64⟩, ⟨nx0 + 1, arrV (Value.int .i64) 0 12 x7, 52⟩, ⟨nx0 + 2, arrV (Value.int .i64) 0 12 x8, 56⟩, ⟨nx0 + 3, arrV Value.bool false 12 x9, 70⟩, ⟨nx2 + 1, [.slice A1 x10.length c1], 23⟩] ∧ X' = [orow 3 1 A1 x10.length c1 cs1] ∧ Imm.le I5 I' ∧ 12 ≤ x15.length ∧ (assign_solution_augments0.l1 a2 x8 kq1 x15 (x8.getD ((x14).toNat) 0)) = some y4) ?_ ?_
       ·rintro _ I6 nx6 _ _ ⟨x15, rfl, rfl, rfl, hi6, hz12, H⟩
        replace H : (assign_solution_augments0.l1 a2 x8 kq1 x15 (x8.getD ((x14).toNat) 0)) = some y4 := H
        refine QN.then_ ?_
        refine OK.region 39 O37s0_163 (by kernel_rfl) ?_
        refine RL.simK (K' := [(18, .int .i64 (x8.getD ((x14).toNat) 0)), (2, .int .i64 a2), (3, .pointer (some ⟨nx0, 0, none⟩)), (7, .pointer (some ⟨nx0 + 2, 0, none⟩))]) [] (RFacts.nil _ _ _) 2 [.no, .no] (by kernel_rfl) (by kernel_rfl) ?_
        refine RL.nil (by kernel_rfl) ?_
        refine QN.blkN ?_
        refine QN.sub (K' := [(2, .int .i64 a2), (3, .pointer (some ⟨nx0, 0, none⟩)), (7, .pointer (some ⟨nx0 + 2, 0, none⟩)), (18, .int .i64 (x8.getD ((x14).toNat) 0))]) (L' := [⟨gb0, ((arrV (Value.int .i64) 0 12 x15) ++ ((arrV (Value.int .i64) 0 12 x5) ++ (arrV (Value.int .i64) 0 12 x6))), 58⟩, ⟨gb1, arrV (Value.int .i64) 0 144 b1, 54⟩, ⟨nx0, [.pointer (some ⟨gb0, 0, none⟩)], 64⟩, ⟨nx0 + 1, arrV (Value.int .i64) 0 12 x7, 52⟩, ⟨nx0 + 2, arrV (Value.int .i64) 0 12 x8, 56⟩, ⟨nx0 + 3, arrV Value.bool false 12 x9, 70⟩, ⟨nx2 + 1, [.slice A1 x10.length c1], 23⟩]) (by kernel_rfl) (.cons_cons _ (.cons_cons _ (.cons_cons _ (.cons_cons _ (.cons_cons _ (.cons_cons _ (.cons_cons _ .slnil))))))) (.refl _) ?_
        exact hJ5 _ _ _ _ _ ⟨x15, (x8.getD ((x14).toNat) 0), rfl, rfl, rfl, (Imm.le_trans hi5 hi6), hz12, H⟩
       ·intro Q_2 hJ6 hQ6
        obtain ⟨y5, H, HK5⟩ := Option.bind_eq_some_iff.mp H
        refine OK.cond (.tmp 145) K37s0_159 K37s0_161 ((x8.getD ((x14).toNat) 0) == (-1)) (by kernel_rfl) (by kernel_rfl) (by kernel_rfl) (fun hb => ?_) (fun hb => ?_)
        ·skip
         have hc := (beq_iff_eq.1 hb)
         rw [if_pos hc] at H
         clear hb
         refine OK.region 37 O37s0_159 (by kernel_rfl) ?_
         refine RL.simK (K' := [(150, .pointer (some ⟨gb0, 0, none⟩)), (148, .int .i64 a2), (147, .int .i64 x14), (19, .int .i64 (x8.getD ((x14).toNat) 0)), (2, .int .i64 a2), (3, .pointer (some ⟨nx0, 0, none⟩)), (7, .pointer (some ⟨nx0 + 2, 0, none⟩))]) [] (RFacts.nil _ _ _) 5 [.l 2, .no, .no, .no, .no] (by kernel_rfl) (by kernel_rfl) ?_
         by_cases hib0 : 0 ≤ x14
         case neg => rw [if_neg hib0] at H; cases H
         rw [if_pos hib0] at H
         by_cases hib1 : x14 < (12 : Int)
         case neg => rw [if_neg hib1] at H; cases H
         rw [if_pos hib1] at H
         have ha02 := hib0; have ha12 := hib1
         refine RL.idxArr (T := 56) (e := 3) 1 .i64 x14 gb0 (0) 12 (some 151) (by kernel_rfl) (by kernel_rfl) (by kernel_rfl) (by kernel_rfl) hib0 hib1 (K' := [(151, .pointer (some ⟨gb0, 0 + (x14).toNat * 1, none⟩)), (150, .pointer (some ⟨gb0, 0, none⟩)), (148, .int .i64 a2), (147, .int .i64 x14), (19, .int .i64 (x8.getD ((x14).toNat) 0)), (2, .int .i64 a2), (3, .pointer (some ⟨nx0, 0, none⟩)), (7, .pointer (some ⟨nx0 + 2, 0, none⟩))]) (by kernel_rfl) ?_
         refine RL.stA (g := gb0) (ty := 58) (cs := ((arrV (Value.int .i64) 0 12 x13) ++ ((arrV (Value.int .i64) 0 12 x5) ++ (arrV (Value.int .i64) 0 12 x6)))) (Value.int .i64) 0 12 x13 a2 [] ((arrV (Value.int .i64) 0 12 x5) ++ (arrV (Value.int .i64) 0 12 x6)) 0 ((x14).toNat) 0 (by kernel_rfl) (by kernel_rfl) (by kernel_rfl) (by omega) hz11 (0 + (x14).toNat * 1) (by omega) 3 (by kernel_rfl) (by kernel_rfl) (by kernel_rfl) (by rfl) (fun _ h => by cases h) (fun _ h => by cases h) (cs' := ((arrV (Value.int .i64) 0 12 (x13.set ((x14).toNat) a2)) ++ ((arrV (Value.int .i64) 0 12 x5) ++ (arrV (Value.int .i64) 0 12 x6)))) (by kernel_rfl) ?_
         refine RL.nil (by kernel_rfl) ?_
         refine QN.sub (K' := [(19, .int .i64 (x8.getD ((x14).toNat) 0)), (2, .int .i64 a2), (3, .pointer (some ⟨nx0, 0, none⟩)), (7, .pointer (some ⟨nx0 + 2, 0, none⟩))]) (L' := [⟨gb0, ((arrV (Value.int .i64) 0 12 (x13.set ((x14).toNat) a2)) ++ ((arrV (Value.int .i64) 0 12 x5) ++ (arrV (Value.int .i64) 0 12 x6))), 58⟩, ⟨gb1, arrV (Value.int .i64) 0 144 b1, 54⟩, ⟨nx0, [.pointer (some ⟨gb0, 0, none⟩)], 64⟩, ⟨nx0 + 1, arrV (Value.int .i64) 0 12 x7, 52⟩, ⟨nx0 + 2, arrV (Value.int .i64) 0 12 x8, 56⟩, ⟨nx0 + 3, arrV Value.bool false 12 x9, 70⟩, ⟨nx2 + 1, [.slice A1 x10.length c1], 23⟩]) (by kernel_rfl) (.cons_cons _ (.cons_cons _ (.cons_cons _ (.cons_cons _ (.cons_cons _ (.cons_cons _ (.cons_cons _ .slnil))))))) (.refl _) ?_
         obtain rfl := Option.some.inj H
         refine QN.sub (K' := [(2, .int .i64 a2), (3, .pointer (some ⟨nx0, 0, none⟩)), (7, .pointer (some ⟨nx0 + 2, 0, none⟩)), (19, .int .i64 (x8.getD ((x14).toNat) 0))]) (L' := [⟨gb0, ((arrV (Value.int .i64) 0 12 (x13.set ((x14).toNat) a2)) ++ ((arrV (Value.int .i64) 0 12 x5) ++ (arrV (Value.int .i64) 0 12 x6))), 58⟩, ⟨gb1, arrV (Value.int .i64) 0 144 b1, 54⟩, ⟨nx0, [.pointer (some ⟨gb0, 0, none⟩)], 64⟩, ⟨nx0 + 1, arrV (Value.int .i64) 0 12 x7, 52⟩, ⟨nx0 + 2, arrV (Value.int .i64) 0 12 x8, 56⟩, ⟨nx0 + 3, arrV Value.bool false 12 x9, 70⟩, ⟨nx2 + 1, [.slice A1 x10.length c1], 23⟩]) (by kernel_rfl) (.cons_cons _ (.cons_cons _ (.cons_cons _ (.cons_cons _ (.cons_cons _ (.cons_cons _ (.cons_cons _ .slnil))))))) (.refl _) ?_
         exact hJ6 _ _ _ _ _ ⟨(x13.set ((x14).toNat) a2), rfl, rfl, rfl, (Imm.le_refl _), (le_set hz11), HK5⟩
        ·skip
         have hc := (beq_eq_false_iff_ne.1 hb)
         rw [if_neg hc] at H
         clear hb
         by_cases hi0_1 : 0 ≤ (x8.getD ((x14).toNat) 0)
         case neg => rw [if_neg hi0_1] at H; cases H
         rw [if_pos hi0_1] at H
         by_cases hi1_1 : (x8.getD ((x14).toNat) 0) < (12 : Int)
         case neg => rw [if_neg hi1_1] at H; cases H
         rw [if_pos hi1_1] at H
         refine OK.drawnC 38 10 O37s0_161 a37s0_161n (by kernel_rfl) (by kernel_rfl) u37d1l (u37d1g gb0 x8 x14) [(⟨gb0, 0 + ((x8.getD ((x14).toNat) 0)).toNat * 1, none⟩, .int .i64 (x13.getD (((x8.getD ((x14).toNat) 0)).toNat) 0))] (RI.arr (g := gb0) (ty := 58) (cs := ((arrV (Value.int .i64) 0 12 x13) ++ ((arrV (Value.int .i64) 0 12 x5) ++ (arrV (Value.int .i64) 0 12 x6)))) (Value.int .i64) 0 12 x13 [] ((arrV (Value.int .i64) 0 12 x5) ++ (arrV (Value.int .i64) 0 12 x6)) 0 (((x8.getD ((x14).toNat) 0)).toNat) 0 (by kernel_rfl) (by kernel_rfl) (by kernel_rfl) (by omega) (0 + ((x8.getD ((x14).toNat) 0)).toNat * 1) (by omega) (RI.nil _)) [.l 2, .no, .l 2, .no, .no, .no, .no, .r 0, .no, .no] a37s0_161 a37s0_161o (by kernel_rfl) (by kernel_rfl) (u37d1s gb0 x8 x13 x14) (u37d1f nx0 gb0 a2 x8 x13 x14 10) (u37d1v nx0 gb0 gb1 a2 b1 nx2 x5 x6 x7 x8 x9 x10 A1 c1 x13 x14) (u37d1e nx0 gb0 gb1 a2 b1 nx2 x5 x6 x7 x8 x9 x10 A1 c1 x13 x14) [] framesOk.nil ?_ [u37d1f nx0 gb0 a2 x8 x13 x14 6] (framesOk.cons (fun u => rfl) framesOk.nil) ?_ ?_
         ·refine LoudsG.nil
         ·refine Givens.cons (fun u w =>  ?_) (fun _ _ _ => rfl) (Givens.nil)
          ·exact giv_idxArr (T := 56) (e := 3) 1 .i64 (x8.getD ((x14).toNat) 0) gb0 (0) 12 (by kernel_rfl) (by kernel_rfl) (by kernel_rfl) hi0_1 hi1_1 w
         intro u I7 nx7 hi7 hF
         clear hF
         refine RL.norm (K' := [(161, .pointer (some ⟨gb0, 0, none⟩)), (160, .pointer (some ⟨gb0, 0, none⟩)), (159, .int .i64 (x13.getD (((x8.getD ((x14).toNat) 0)).toNat) 0)), (158, .pointer (some ⟨gb0, 0 + ((x8.getD ((x14).toNat) 0)).toNat * 1, none⟩)), (157, .pointer (some ⟨gb0, 0, none⟩)), (156, .pointer (some ⟨gb0, 0, none⟩)), (155, .int .i64 (x8.getD ((x14).toNat) 0)), (154, .pointer (some ⟨gb0, 0, none⟩)), (153, .int .i64 x14), (152, .pointer (some ⟨gb0, 0, none⟩)), (145, .bool ((x8.getD ((x14).toNat) 0) == (-1))), (19, .int .i64 (x8.getD ((x14).toNat) 0)), (2, .int .i64 a2), (3, .pointer (some ⟨nx0, 0, none⟩)), (7, .pointer (some ⟨nx0 + 2, 0, none⟩)), (18, .int .i64 x14)]) (X' := [orow 3 1 A1 x10.length c1 cs1]) (by kernel_rfl) rfl rfl rfl ?_
         by_cases hib0 : 0 ≤ x14
         case neg => rw [if_neg hib0] at H; cases H
         rw [if_pos hib0] at H
         by_cases hib1 : x14 < (12 : Int)
         case neg => rw [if_neg hib1] at H; cases H
         rw [if_pos hib1] at H
         have ha03 := hib0; have ha13 := hib1
         refine RL.idxArr (T := 56) (e := 3) 1 .i64 x14 gb0 (0) 12 (some 162) (by kernel_rfl) (by kernel_rfl) (by kernel_rfl) (by kernel_rfl) hib0 hib1 (K' := [(162, .pointer (some ⟨gb0, 0 + (x14).toNat * 1, none⟩)), (161, .pointer (some ⟨gb0, 0, none⟩)), (160, .pointer (some ⟨gb0, 0, none⟩)), (159, .int .i64 (x13.getD (((x8.getD ((x14).toNat) 0)).toNat) 0)), (158, .pointer (some ⟨gb0, 0 + ((x8.getD ((x14).toNat) 0)).toNat * 1, none⟩)), (157, .pointer (some ⟨gb0, 0, none⟩)), (156, .pointer (some ⟨gb0, 0, none⟩)), (155, .int .i64 (x8.getD ((x14).toNat) 0)), (154, .pointer (some ⟨gb0, 0, none⟩)), (153, .int .i64 x14), (152, .pointer (some ⟨gb0, 0, none⟩)), (145, .bool ((x8.getD ((x14).toNat) 0) == (-1))), (19, .int .i64 (x8.getD ((x14).toNat) 0)), (2, .int .i64 a2), (3, .pointer (some ⟨nx0, 0, none⟩)), (7, .pointer (some ⟨nx0 + 2, 0, none⟩)), (18, .int .i64 x14)]) (by kernel_rfl) ?_
         refine RL.stA (g := gb0) (ty := 58) (cs := ((arrV (Value.int .i64) 0 12 x13) ++ ((arrV (Value.int .i64) 0 12 x5) ++ (arrV (Value.int .i64) 0 12 x6)))) (Value.int .i64) 0 12 x13 (x13.getD (((x8.getD ((x14).toNat) 0)).toNat) 0) [] ((arrV (Value.int .i64) 0 12 x5) ++ (arrV (Value.int .i64) 0 12 x6)) 0 ((x14).toNat) 0 (by kernel_rfl) (by kernel_rfl) (by kernel_rfl) (by omega) hz11 (0 + (x14).toNat * 1) (by omega) 3 (by kernel_rfl) (by kernel_rfl) (by kernel_rfl) (by rfl) (fun _ h => by cases h) (fun _ h => by cases h) (cs' := ((arrV (Value.int .i64) 0 12 (x13.set ((x14).toNat) (x13.getD (((x8.getD ((x14).toNat) 0)).toNat) 0))) ++ ((arrV (Value.int .i64) 0 12 x5) ++ (arrV (Value.int .i64) 0 12 x6)))) (by kernel_rfl) ?_
         refine RL.nil (by kernel_rfl) ?_
         refine QN.sub (K' := [(19, .int .i64 (x8.getD ((x14).toNat) 0)), (2, .int .i64 a2), (3, .pointer (some ⟨nx0, 0, none⟩)), (7, .pointer (some ⟨nx0 + 2, 0, none⟩))]) (L' := [⟨gb0, ((arrV (Value.int .i64) 0 12 (x13.set ((x14).toNat) (x13.getD (((x8.getD ((x14).toNat) 0)).toNat) 0))) ++ ((arrV (Value.int .i64) 0 12 x5) ++ (arrV (Value.int .i64) 0 12 x6))), 58⟩, ⟨gb1, arrV (Value.int .i64) 0 144 b1, 54⟩, ⟨nx0, [.pointer (some ⟨gb0, 0, none⟩)], 64⟩, ⟨nx0 + 1, arrV (Value.int .i64) 0 12 x7, 52⟩, ⟨nx0 + 2, arrV (Value.int .i64) 0 12 x8, 56⟩, ⟨nx0 + 3, arrV Value.bool false 12 x9, 70⟩, ⟨nx2 + 1, [.slice A1 x10.length c1], 23⟩]) (by kernel_rfl) (.cons_cons _ (.cons_cons _ (.cons_cons _ (.cons_cons _ (.cons_cons _ (.cons_cons _ (.cons_cons _ .slnil))))))) (.refl _) ?_
         obtain rfl := Option.some.inj H
         refine QN.sub (K' := [(2, .int .i64 a2), (3, .pointer (some ⟨nx0, 0, none⟩)), (7, .pointer (some ⟨nx0 + 2, 0, none⟩)), (19, .int .i64 (x8.getD ((x14).toNat) 0))]) (L' := [⟨gb0, ((arrV (Value.int .i64) 0 12 (x13.set ((x14).toNat) (x13.getD (((x8.getD ((x14).toNat) 0)).toNat) 0))) ++ ((arrV (Value.int .i64) 0 12 x5) ++ (arrV (Value.int .i64) 0 12 x6))), 58⟩, ⟨gb1, arrV (Value.int .i64) 0 144 b1, 54⟩, ⟨nx0, [.pointer (some ⟨gb0, 0, none⟩)], 64⟩, ⟨nx0 + 1, arrV (Value.int .i64) 0 12 x7, 52⟩, ⟨nx0 + 2, arrV (Value.int .i64) 0 12 x8, 56⟩, ⟨nx0 + 3, arrV Value.bool false 12 x9, 70⟩, ⟨nx2 + 1, [.slice A1 x10.length c1], 23⟩]) (by kernel_rfl) (.cons_cons _ (.cons_cons _ (.cons_cons _ (.cons_cons _ (.cons_cons _ (.cons_cons _ (.cons_cons _ .slnil))))))) (.refl _) ?_
         exact hJ6 _ _ _ _ _ ⟨(x13.set ((x14).toNat) (x13.getD (((x8.getD ((x14).toNat) 0)).toNat) 0)), rfl, rfl, rfl, hi7, (le_set hz11), HK5⟩
      ·skip
       have hc := (not_not_intro (bne_eq_false_iff_eq.1 hb))
       rw [if_neg hc] at H
       clear hb
       refine OK.exit 8 (by kernel_rfl) ?_
       refine QN.thenE ?_
       refine QN.outE hQ5 ?_
       refine QN.blkE ?_
       obtain rfl := Option.some.inj H
       refine QN.sub (K' := []) (L' := [⟨gb0, ((arrV (Value.int .i64) 0 12 x13) ++ ((arrV (Value.int .i64) 0 12 x5) ++ (arrV (Value.int .i64) 0 12 x6))), 58⟩, ⟨gb1, arrV (Value.int .i64) 0 144 b1, 54⟩, ⟨nx0, [.pointer (some ⟨gb0, 0, none⟩)], 64⟩, ⟨nx0 + 1, arrV (Value.int .i64) 0 12 x7, 52⟩, ⟨nx0 + 2, arrV (Value.int .i64) 0 12 x8, 56⟩, ⟨nx0 + 3, arrV Value.bool false 12 x9, 70⟩, ⟨nx2 + 1, [.slice A1 x10.length c1], 23⟩]) (by kernel_rfl) (.cons_cons _ (.cons_cons _ (.cons_cons _ (.cons_cons _ (.cons_cons _ (.cons_cons _ (.cons_cons _ .slnil))))))) (.refl _) ?_
       exact hJ4 _ _ _ _ _ ⟨x13, rfl, rfl, rfl, hi5, hz11, HK4⟩
   ·intro Q_3 hJ3 hQ3
    obtain ⟨y3, H, HK3⟩ := Option.bind_eq_some_iff.mp H
    refine OK.block 4 K37s0_67 (by kernel_rfl) ?_
    refine OK.toRow (b := ⟨nx2, [.int .i64 a2], 3⟩) 6 1 1 (by kernel_rfl) (by kernel_rfl) (by decide) ?_
    have hp4 : Reps (Ty.int .i64) I2 [a2] [.int .i64 a2] := ⟨_, _, rfl, rfl, rfl⟩
    refine OK.norm (L' := [⟨gb0, ((arrV (Value.int .i64) 0 12 b0.f0) ++ ((arrV (Value.int .i64) 0 12 x3) ++ (arrV (Value.int .i64) 0 12 b0.f2))), 58⟩, ⟨gb1, arrV (Value.int .i64) 0 144 b1, 54⟩, ⟨nx0, [.pointer (some ⟨gb0, 0, none⟩)], 64⟩, ⟨nx0 + 1, arrV (Value.int .i64) 0 12 x1, 52⟩, ⟨nx0 + 2, arrV (Value.int .i64) 0 12 x2, 56⟩, ⟨nx0 + 3, arrV Value.bool false 12 (List.replicate 12 false), 70⟩, ⟨nx2 + 1, [.slice (some ⟨nx2, 0, none⟩) 1 1], 23⟩]) (X' := [orow 3 1 (some ⟨nx2, 0, none⟩) ([a2].length) 1 [.int .i64 a2]]) rfl rfl (by kernel_rfl) (by kernel_rfl) ?_
    refine OK.sub (K' := [(1, .pointer (some ⟨gb1, 0, none⟩)), (2, .int .i64 a2), (3, .pointer (some ⟨nx0, 0, none⟩)), (6, .pointer (some ⟨nx0 + 1, 0, none⟩)), (7, .pointer (some ⟨nx0 + 2, 0, none⟩)), (8, .pointer (some ⟨nx0 + 3, 0, none⟩)), (11, .pointer (some ⟨nx2 + 1, 0, none⟩)), (12, .int .i64 (-1)), (13, .int .i64 a2)]) (L' := [⟨gb0, ((arrV (Value.int .i64) 0 12 b0.f0) ++ ((arrV (Value.int .i64) 0 12 x3) ++ (arrV (Value.int .i64) 0 12 b0.f2))), 58⟩, ⟨gb1, arrV (Value.int .i64) 0 144 b1, 54⟩, ⟨nx0, [.pointer (some ⟨gb0, 0, none⟩)], 64⟩, ⟨nx0 + 1, arrV (Value.int .i64) 0 12 x1, 52⟩, ⟨nx0 + 2, arrV (Value.int .i64) 0 12 x2, 56⟩, ⟨nx0 + 3, arrV Value.bool false 12 (List.replicate 12 false), 70⟩, ⟨nx2 + 1, [.slice (some ⟨nx2, 0, none⟩) 1 1], 23⟩]) (by kernel_rfl) (.cons_cons _ (.cons_cons _ (.cons_cons _ (.cons_cons _ (.cons_cons _ (.cons_cons _ (.cons_cons _ .slnil))))))) (.refl _) ?_
    refine OK.loopInv K37s0_68 (by kernel_rfl) (fun n_ K' I' _ L' X' => ∃ (x16 : List Int) (x17 : List Int) (x18 : List Int) (x19 : List Int) (x20 : List Int) (x21 : List Bool) (x22 : List Int) (x23 : Int) (x24 : Int) (A2 : Option Addr) (c2 : Nat) (cs2 : List Value), K' = [(1, .pointer (some ⟨gb1, 0, none⟩)), (2, .int .i64 a2), (3, .pointer (some ⟨nx0, 0, none⟩)), (6, .pointer (some ⟨nx0 + 1, 0, none⟩)), (7, .pointer (some ⟨nx0 + 2, 0, none⟩)), (8, .pointer (some ⟨nx0 + 3, 0, none⟩)), (11, .pointer (some ⟨nx2 + 1, 0, none⟩)), (12, .int .i64 x23), (13, .int .i64 x24)] ∧ L' = [⟨gb0, ((arrV (Value.int .i64) 0 12 x16) ++ ((arrV (Value.int .i64) 0 12 x17) ++ (arrV (Value.int .i64) 0 12 x18))), 58⟩, ⟨gb1, arrV (Value.int .i64) 0 144 b1, 54⟩, ⟨nx0, [.pointer (some ⟨gb0, 0, none⟩)], 64⟩, ⟨nx0 + 1, arrV (Value.int .i64) 0 12 x19, 52⟩, ⟨nx0 + 2, arrV (Value.int .i64) 0 12 x20, 56⟩, ⟨nx0 + 3, arrV Value.bool false 12 x21, 70⟩, ⟨nx2 + 1, [.slice A2 x22.length c2], 23⟩] ∧ X' = [orow 3 1 A2 x22.length c2 cs2] ∧ Imm.le I2 I' ∧ 12 ≤ x16.length ∧ 12 ≤ x17.length ∧ 12 ≤ x18.length ∧ 12 ≤ x19.length ∧ 12 ≤ x20.length ∧ 12 ≤ x21.length ∧ Reps (Ty.int .i64) I' x22 cs2 ∧ assign_solution_augments0.l2 b1 n_ x16 x17 x18 x19 x20 x21 x22 x23 x24 = some y3) k ⟨b0.f0, x3, b0.f2, x1, x2, (List.replicate 12 false), [a2], (-1), a2, (some ⟨nx2, 0, none⟩), 1, [.int .i64 a2], rfl, rfl, rfl, (Imm.le_refl _), hzb0_0, hz3, hzb0_2, hz1, hz2, (Nat.le_of_eq List.length_replicate.symm), hp4, H⟩ ?_ ?_
    ·rintro _ _ _ _ _ ⟨x16, x17, x18, x19, x20, x21, x22, x23, x24, A2, c2, cs2, rfl, rfl, rfl, _, hz13, hz14, hz15, hz16, hz17, hz18, hp2, H⟩
     cases H
    ·rintro kq2 _ I8 nx8 _ _ ⟨x16, x17, x18, x19, x20, x21, x22, x23, x24, A2, c2, cs2, rfl, rfl, rfl, hi8, hz13, hz14, hz15, hz16, hz17, hz18, hp2, H⟩ Q_l2 hJ7 hQ7
     replace H : ((assign_solution_augments0.l3 b1 x17 x18 x21 x23 x24 kq2 x19 x20 (-1) 0).bind (fun (x25, x26, x27) => (if 0 ≤ x27 then (if x27 < (12 : Int) then ((assign_solution_augment_1s0.f kq2 (x25.getD ((x27).toNat) 0) x22 (⟨x16, x17, x18⟩ : S58) x21 x25).bind fun t1 => (if 0 ≤ x27 then (if x27 < (12 : Int) then (if 0 ≤ x27 then (if x27 < (12 : Int) then (if (t1.1.f0.getD ((x27).toNat) 0) = (-1) then (some (t1.1.f0, t1.1.f1, t1.1.f2, t1.2, x26, (x21.set ((x27).toNat) true), x22, x27)) else (if 0 ≤ x27 then (if x27 < (12 : Int) then (if (x22.length + [(t1.1.f0.getD ((x27).toNat) 0)].length) * 8 ≤ 140737488355328 then (assign_solution_augments0.l2 b1 kq2 t1.1.f0 t1.1.f1 t1.1.f2 t1.2 x26 (x21.set ((x27).toNat) true) (x22 ++ [(t1.1.f0.getD ((x27).toNat) 0)]) x27 (t1.1.f0.getD ((x27).toNat) 0)) else none) else none) else none)) else none) else none) else none) else none)) else none) else none))) = some y3 := H
     refine OK.block 5 K37s0_69 (by kernel_rfl) ?_
     refine OK.seq K37s0_70 K37s0_72 (by kernel_rfl) ?_
     refine OK.region 16 O37s0_70 (by kernel_rfl) ?_
     refine RL.simK (K' := [(14, .int .i64 (-1)), (1, .pointer (some ⟨gb1, 0, none⟩)), (2, .int .i64 a2), (3, .pointer (some ⟨nx0, 0, none⟩)), (6, .pointer (some ⟨nx0 + 1, 0, none⟩)), (7, .pointer (some ⟨nx0 + 2, 0, none⟩)), (8, .pointer (some ⟨nx0 + 3, 0, none⟩)), (11, .pointer (some ⟨nx2 + 1, 0, none⟩)), (12, .int .i64 x23), (13, .int .i64 x24)]) [] (RFacts.nil _ _ _) 1 [.no] (by kernel_rfl) (by kernel_rfl) ?_
     refine RL.nil (by kernel_rfl) ?_
     refine QN.then_ ?_
     refine OK.seq K37s0_73 K37s0_117 (by kernel_rfl) ?_
     refine OK.seq K37s0_74 K37s0_76 (by kernel_rfl) ?_
     refine OK.region 17 O37s0_74 (by kernel_rfl) ?_
     refine RL.simK (K' := [(61, .int .i64 0), (14, .int .i64 (-1)), (1, .pointer (some ⟨gb1, 0, none⟩)), (2, .int .i64 a2), (3, .pointer (some ⟨nx0, 0, none⟩)), (6, .pointer (some ⟨nx0 + 1, 0, none⟩)), (7, .pointer (some ⟨nx0 + 2, 0, none⟩)), (8, .pointer (some ⟨nx0 + 3, 0, none⟩)), (11, .pointer (some ⟨nx2 + 1, 0, none⟩)), (12, .int .i64 x23), (13, .int .i64 x24)]) [] (RFacts.nil _ _ _) 1 [.no] (by kernel_rfl) (by kernel_rfl) ?_
     refine RL.nil (by kernel_rfl) ?_
     refine QN.then_ ?_
     refine OK.join (fun K' I' _ L' X' => ∃ (x25 : List Int) (x26 : List Int) (x27 : Int), K' = [(1, .pointer (some ⟨gb1, 0, none⟩)), (2, .int .i64 a2), (3, .pointer (some ⟨nx0, 0, none⟩)), (6, .pointer (some ⟨nx0 + 1, 0, none⟩)), (7, .pointer (some ⟨nx0 + 2, 0, none⟩)), (8, .pointer (some ⟨nx0 + 3, 0, none⟩)), (11, .pointer (some ⟨nx2 + 1, 0, none⟩)), (14, .int .i64 x27)] ∧ L' = [⟨gb0, ((arrV (Value.int .i64) 0 12 x16) ++ ((arrV (Value.int .i64) 0 12 x17) ++ (arrV (Value.int .i64) 0 12 x18))), 58⟩, ⟨gb1, arrV (Value.int .i64) 0 144 b1, 54⟩, ⟨nx0, [.pointer (some ⟨gb0, 0, none⟩)], 64⟩, ⟨nx0 + 1, arrV (Value.int .i64) 0 12 x25, 52⟩, ⟨nx0 + 2, arrV (Value.int .i64) 0 12 x26, 56⟩, ⟨nx0 + 3, arrV Value.bool false 12 x21, 70⟩, ⟨nx2 + 1, [.slice A2 x22.length c2], 23⟩] ∧ X' = [orow 3 1 A2 x22.length c2 cs2] ∧ Imm.le I8 I' ∧ 12 ≤ x25.length ∧ 12 ≤ x26.length ∧ (if 0 ≤ x27 then (if x27 < (12 : Int) then ((assign_solution_augment_1s0.f kq2 (x25.getD ((x27).toNat) 0) x22 (⟨x16, x17, x18⟩ : S58) x21 x25).bind fun t1 => (if 0 ≤ x27 then (if x27 < (12 : Int) then (if 0 ≤ x27 then (if x27 < (12 : Int) then (if (t1.1.f0.getD ((x27).toNat) 0) = (-1) then (some (t1.1.f0, t1.1.f1, t1.1.f2, t1.2, x26, (x21.set ((x27).toNat) true), x22, x27)) else (if 0 ≤ x27 then (if x27 < (12 : Int) then (if (x22.length + [(t1.1.f0.getD ((x27).toNat) 0)].length) * 8 ≤ 140737488355328 then (assign_solution_augments0.l2 b1 kq2 t1.1.f0 t1.1.f1 t1.1.f2 t1.2 x26 (x21.set ((x27).toNat) true) (x22 ++ [(t1.1.f0.getD ((x27).toNat) 0)]) x27 (t1.1.f0.getD ((x27).toNat) 0)) else none) else none) else none)) else none) else none) else none) else none)) else none) else none) = some y3) ?_ ?_
     ·rintro _ I9 nx9 _ _ ⟨x25, x26, x27, rfl, rfl, rfl, hi9, hz19, hz20, H⟩
      replace H : (if 0 ≤ x27 then (if x27 < (12 : Int) then ((assign_solution_augment_1s0.f kq2 (x25.getD ((x27).toNat) 0) x22 (⟨x16, x17, x18⟩ : S58) x21 x25).bind fun t1 => (if 0 ≤ x27 then (if x27 < (12 : Int) then (if 0 ≤ x27 then (if x27 < (12 : Int) then (if (t1.1.f0.getD ((x27).toNat) 0) = (-1) then (some (t1.1.f0, t1.1.f1, t1.1.f2, t1.2, x26, (x21.set ((x27).toNat) true), x22, x27)) else (if 0 ≤ x27 then (if x27 < (12 : Int) then (if (x22.length + [(t1.1.f0.getD ((x27).toNat) 0)].length) * 8 ≤ 140737488355328 then (assign_solution_augments0.l2 b1 kq2 t1.1.f0 t1.1.f1 t1.1.f2 t1.2 x26 (x21.set ((x27).toNat) true) (x22 ++ [(t1.1.f0.getD ((x27).toNat) 0)]) x27 (t1.1.f0.getD ((x27).toNat) 0)) else none) else none) else none)) else none) else none) else none) else none)) else none) else none) = some y3 := H
      refine QN.then_ ?_
      refine OK.seq K37s0_118 K37s0_120 (by kernel_rfl) ?_
      refine OK.region 27 O37s0_118 (by kernel_rfl) ?_
      refine RL.simK (K' := [(17, .func (.func 40) #[] #[.pointer (some ⟨nx2 + 1, 0, none⟩), .pointer (some ⟨nx0, 0, none⟩), .pointer (some ⟨nx0 + 3, 0, none⟩), .pointer (some ⟨nx0 + 1, 0, none⟩)]), (1, .pointer (some ⟨gb1, 0, none⟩)), (2, .int .i64 a2), (3, .pointer (some ⟨nx0, 0, none⟩)), (6, .pointer (some ⟨nx0 + 1, 0, none⟩)), (7, .pointer (some ⟨nx0 + 2, 0, none⟩)), (8, .pointer (some ⟨nx0 + 3, 0, none⟩)), (11, .pointer (some ⟨nx2 + 1, 0, none⟩)), (14, .int .i64 x27)]) [] (RFacts.nil _ _ _) 2 [.no, .no] (by kernel_rfl) (by kernel_rfl) ?_
      refine RL.nil (by kernel_rfl) ?_
      refine QN.then_ ?_
      refine OK.seq K37s0_121 K37s0_123 (by kernel_rfl) ?_
      refine OK.region 28 O37s0_121 (by kernel_rfl) ?_
      refine RL.simK (K' := [(114, .int .i64 x27), (113, .func (.func 40) #[] #[.pointer (some ⟨nx2 + 1, 0, none⟩), .pointer (some ⟨nx0, 0, none⟩), .pointer (some ⟨nx0 + 3, 0, none⟩), .pointer (some ⟨nx0 + 1, 0, none⟩)]), (1, .pointer (some ⟨gb1, 0, none⟩)), (2, .int .i64 a2), (3, .pointer (some ⟨nx0, 0, none⟩)), (6, .pointer (some ⟨nx0 + 1, 0, none⟩)), (7, .pointer (some ⟨nx0 + 2, 0, none⟩)), (8, .pointer (some ⟨nx0 + 3, 0, none⟩)), (11, .pointer (some ⟨nx2 + 1, 0, none⟩)), (14, .int .i64 x27)]) [] (RFacts.nil _ _ _) 2 [.no, .no] (by kernel_rfl) (by kernel_rfl) ?_
      by_cases hib0 : 0 ≤ x27
      case neg => rw [if_neg hib0] at H; cases H
      rw [if_pos hib0] at H
      by_cases hib1 : x27 < (12 : Int)
      case neg => rw [if_neg hib1] at H; cases H
      rw [if_pos hib1] at H
      have ha04 := hib0; have ha14 := hib1
      refine RL.idxArr (T := 52) (e := 2) 1 .i64 x27 (nx0 + 1) (0) 12 (some 115) (by kernel_rfl) (by kernel_rfl) (by kernel_rfl) (by kernel_rfl) hib0 hib1 (K' := [(115, .pointer (some ⟨nx0 + 1, 0 + (x27).toNat * 1, none⟩)), (114, .int .i64 x27), (113, .func (.func 40) #[] #[.pointer (some ⟨nx2 + 1, 0, none⟩), .pointer (some ⟨nx0, 0, none⟩), .pointer (some ⟨nx0 + 3, 0, none⟩), .pointer (some ⟨nx0 + 1, 0, none⟩)]), (1, .pointer (some ⟨gb1, 0, none⟩)), (2, .int .i64 a2), (3, .pointer (some ⟨nx0, 0, none⟩)), (6, .pointer (some ⟨nx0 + 1, 0, none⟩)), (7, .pointer (some ⟨nx0 + 2, 0, none⟩)), (8, .pointer (some ⟨nx0 + 3, 0, none⟩)), (11, .pointer (some ⟨nx2 + 1, 0, none⟩)), (14, .int .i64 x27)]) (by kernel_rfl) ?_
      refine RL.ldA (g := nx0 + 1) (ty := 52) (cs := arrV (Value.int .i64) 0 12 x25) (Value.int .i64) 0 12 x25 [] [] 0 ((x27).toNat) 3 (by kernel_rfl) (by kernel_rfl) (by kernel_rfl) (by omega) (0 + (x27).toNat * 1) (by omega) (some 116) (by kernel_rfl) (by kernel_rfl) (by kernel_rfl) (K' := [(116, .int .i64 (x25.getD ((x27).toNat) 0)), (115, .pointer (some ⟨nx0 + 1, 0 + (x27).toNat * 1, none⟩)), (114, .int .i64 x27), (113, .func (.func 40) #[] #[.pointer (some ⟨nx2 + 1, 0, none⟩), .pointer (some ⟨nx0, 0, none⟩), .pointer (some ⟨nx0 + 3, 0, none⟩), .pointer (some ⟨nx0 + 1, 0, none⟩)]), (1, .pointer (some ⟨gb1, 0, none⟩)), (2, .int .i64 a2), (3, .pointer (some ⟨nx0, 0, none⟩)), (6, .pointer (some ⟨nx0 + 1, 0, none⟩)), (7, .pointer (some ⟨nx0 + 2, 0, none⟩)), (8, .pointer (some ⟨nx0 + 3, 0, none⟩)), (11, .pointer (some ⟨nx2 + 1, 0, none⟩)), (14, .int .i64 x27)]) (by kernel_rfl) ?_
      refine RL.arrange (L' := [⟨nx2 + 1, [.slice A2 x22.length c2], 23⟩, ⟨nx0, [.pointer (some ⟨gb0, 0, none⟩)], 64⟩, ⟨gb0, ((arrV (Value.int .i64) 0 12 x16) ++ ((arrV (Value.int .i64) 0 12 x17) ++ (arrV (Value.int .i64) 0 12 x18))), 58⟩, ⟨nx0 + 3, arrV Value.bool false 12 x21, 70⟩, ⟨nx0 + 1, arrV (Value.int .i64) 0 12 x25, 52⟩, ⟨gb1, arrV (Value.int .i64) 0 144 b1, 54⟩, ⟨nx0 + 2, arrV (Value.int .i64) 0 12 x26, 56⟩]) (X' := [orow 3 1 A2 x22.length c2 cs2]) [6, 2, 0, 5, 3, 1, 4] [0] (by kernel_rfl) (by kernel_rfl) (by kernel_rfl) (by kernel_rfl) ?_
      obtain ⟨t1, hA1, H⟩ := Option.bind_eq_some_iff.mp H
      refine RL.callM (L1 := [⟨nx2 + 1, [.slice A2 x22.length c2], 23⟩, ⟨nx0, [.pointer (some ⟨gb0, 0, none⟩)], 64⟩, ⟨gb0, ((arrV (Value.int .i64) 0 12 x16) ++ ((arrV (Value.int .i64) 0 12 x17) ++ (arrV (Value.int .i64) 0 12 x18))), 58⟩, ⟨nx0 + 3, arrV Value.bool false 12 x21, 70⟩, ⟨nx0 + 1, arrV (Value.int .i64) 0 12 x25, 52⟩]) (L2 := [⟨gb1, arrV (Value.int .i64) 0 144 b1, 54⟩, ⟨nx0 + 2, arrV (Value.int .i64) 0 12 x26, 56⟩]) (X1 := [orow 3 1 A2 x22.length c2 cs2]) (X2 := []) rfl rfl 40 [.int .i64 (x25.getD ((x27).toNat) 0), .pointer (some ⟨nx2 + 1, 0, none⟩), .pointer (some ⟨nx0, 0, none⟩), .pointer (some ⟨nx0 + 3, 0, none⟩), .pointer (some ⟨nx0 + 1, 0, none⟩)] (some 117) (fun w => assign_solution_augment_1s0.Post (SM [⟨nx2 + 1, [.slice A2 x22.length c2], 23⟩, ⟨nx0, [.pointer (some ⟨gb0, 0, none⟩)], 64⟩, ⟨gb0, ((arrV (Value.int .i64) 0 12 x16) ++ ((arrV (Value.int .i64) 0 12 x17) ++ (arrV (Value.int .i64) 0 12 x18))), 58⟩, ⟨nx0 + 3, arrV Value.bool false 12 x21, 70⟩, ⟨nx0 + 1, arrV (Value.int .i64) 0 12 x25, 52⟩] [orow 3 1 A2 x22.length c2 cs2]) (nx2 + 1) nx0 gb0 (nx0 + 3) (nx0 + 1) (x25.getD ((x27).toNat) 0) x22 A2 c2 cs2 (⟨x16, x17, x18⟩ : S58) x21 x25 I9 w t1) (by kernel_rfl) (by kernel_rfl) (fun w hs => assign_solution_augment_1s0.calls kq2 I9 (nx2 + 1) nx0 gb0 (nx0 + 3) (nx0 + 1) (x25.getD ((x27).toNat) 0) x22 A2 c2 cs2 (⟨x16, x17, x18⟩ : S58) x21 x25 w hs (Reps.ext hi9 hp2) hz13 hz14 hz15 hz18 hz19 t1 hA1) ?_
      rintro w v w' hs ⟨I10, rfl, hg, hz21, hz22, hz23, hz24⟩
      have hi10 : Imm.le I9 I10 := hg.le
      refine RL.resume (L' := [⟨nx2 + 1, [.slice A2 x22.length c2], 23⟩, ⟨nx0, [.pointer (some ⟨gb0, 0, none⟩)], 64⟩, ⟨gb0, ((arrV (Value.int .i64) 0 12 t1.1.f0) ++ ((arrV (Value.int .i64) 0 12 t1.1.f1) ++ (arrV (Value.int .i64) 0 12 t1.1.f2))), 58⟩, ⟨nx0 + 3, arrV Value.bool false 12 x21, 70⟩, ⟨nx0 + 1, arrV (Value.int .i64) 0 12 t1.2, 52⟩, ⟨gb1, arrV (Value.int .i64) 0 144 b1, 54⟩, ⟨nx0 + 2, arrV (Value.int .i64) 0 12 x26, 56⟩]) (X' := [orow 3 1 A2 x22.length c2 cs2]) rfl (hs.outof hg) ?_
      clear hs hg
      generalize w'.heap.size = nx10
      clear w w'
      refine RL.nil (by kernel_rfl) ?_
      refine QN.sub (K' := [(1, .pointer (some ⟨gb1, 0, none⟩)), (2, .int .i64 a2), (3, .pointer (some ⟨nx0, 0, none⟩)), (6, .pointer (some ⟨nx0 + 1, 0, none⟩)), (7, .pointer (some ⟨nx0 + 2, 0, none⟩)), (8, .pointer (some ⟨nx0 + 3, 0, none⟩)), (11, .pointer (some ⟨nx2 + 1, 0, none⟩)), (14, .int .i64 x27)]) (L' := [⟨nx2 + 1, [.slice A2 x22.length c2], 23⟩, ⟨nx0, [.pointer (some ⟨gb0, 0, none⟩)], 64⟩, ⟨gb0, ((arrV (Value.int .i64) 0 12 t1.1.f0) ++ ((arrV (Value.int .i64) 0 12 t1.1.f1) ++ (arrV (Value.int .i64) 0 12 t1.1.f2))), 58⟩, ⟨nx0 + 3, arrV Value.bool false 12 x21, 70⟩, ⟨nx0 + 1, arrV (Value.int .i64) 0 12 t1.2, 52⟩, ⟨gb1, arrV (Value.int .i64) 0 144 b1, 54⟩, ⟨nx0 + 2, arrV (Value.int .i64) 0 12 x26, 56⟩]) (by kernel_rfl) (.cons_cons _ (.cons_cons _ (.cons_cons _ (.cons_cons _ (.cons_cons _ (.cons_cons _ (.cons_cons _ .slnil))))))) (.refl _) ?_
      refine QN.then_ ?_
      refine OK.seq K37s0_124 K37s0_126 (by kernel_rfl) ?_
      refine OK.region 29 O37s0_124 (by kernel_rfl) ?_
      refine RL.simK (K' := [(119, .int .i64 x27), (118, .int .i64 x27), (1, .pointer (some ⟨gb1, 0, none⟩)), (2, .int .i64 a2), (3, .pointer (some ⟨nx0, 0, none⟩)), (6, .pointer (some ⟨nx0 + 1, 0, none⟩)), (7, .pointer (some ⟨nx0 + 2, 0, none⟩)), (8, .pointer (some ⟨nx0 + 3, 0, none⟩)), (11, .pointer (some ⟨nx2 + 1, 0, none⟩)), (14, .int .i64 x27)]) [] (RFacts.nil _ _ _) 2 [.no, .no] (by kernel_rfl) (by kernel_rfl) ?_
      by_cases hib0 : 0 ≤ x27
      case neg => rw [if_neg hib0] at H; cases H
      rw [if_pos hib0] at H
      by_cases hib1 : x27 < (12 : Int)
      case neg => rw [if_neg hib1] at H; cases H
      rw [if_pos hib1] at H
      have ha05 := hib0; have ha15 := hib1
      refine RL.idxArr (T := 70) (e := 4) 1 .i64 x27 (nx0 + 3) (0) 12 (some 120) (by kernel_rfl) (by kernel_rfl) (by kernel_rfl) (by kernel_rfl) hib0 hib1 (K' := [(120, .pointer (some ⟨nx0 + 3, 0 + (x27).toNat * 1, none⟩)), (119, .int .i64 x27), (118, .int .i64 x27), (1, .pointer (some ⟨gb1, 0, none⟩)), (2, .int .i64 a2), (3, .pointer (some ⟨nx0, 0, none⟩)), (6, .pointer (some ⟨nx0 + 1, 0, none⟩)), (7, .pointer (some ⟨nx0 + 2, 0, none⟩)), (8, .pointer (some ⟨nx0 + 3, 0, none⟩)), (11, .pointer (some ⟨nx2 + 1, 0, none⟩)), (14, .int .i64 x27)]) (by kernel_rfl) ?_
      refine RL.stA (g := nx0 + 3) (ty := 70) (cs := arrV Value.bool false 12 x21) Value.bool false 12 x21 true [] [] 0 ((x27).toNat) 3 (by kernel_rfl) (by kernel_rfl) (by kernel_rfl) (by omega) hz18 (0 + (x27).toNat * 1) (by omega) 4 (by kernel_rfl) (by kernel_rfl) (by kernel_rfl) (by rfl) (fun _ h => by cases h) (fun _ h => by cases h) (cs' := arrV Value.bool false 12 (x21.set ((x27).toNat) true)) (by kernel_rfl) ?_
      refine RL.simK (K' := [(12, .int .i64 x27), (1, .pointer (some ⟨gb1, 0, none⟩)), (2, .int .i64 a2), (3, .pointer (some ⟨nx0, 0, none⟩)), (6, .pointer (some ⟨nx0 + 1, 0, none⟩)), (7, .pointer (some ⟨nx0 + 2, 0, none⟩)), (8, .pointer (some ⟨nx0 + 3, 0, none⟩)), (11, .pointer (some ⟨nx2 + 1, 0, none⟩)), (14, .int .i64 x27)]) [] (RFacts.nil _ _ _) 1 [.no] (by kernel_rfl) (by kernel_rfl) ?_
      refine RL.nil (by kernel_rfl) ?_
      refine QN.then_ ?_
      refine OK.seq K37s0_127 K37s0_133 (by kernel_rfl) ?_
      refine OK.seq K37s0_128 K37s0_130 (by kernel_rfl) ?_
      refine OK.region 30 O37s0_128 (by kernel_rfl) ?_
      refine RL.simK (K' := [(124, .pointer (some ⟨gb0, 0, none⟩)), (122, .int .i64 x27), (12, .int .i64 x27), (1, .pointer (some ⟨gb1, 0, none⟩)), (2, .int .i64 a2), (3, .pointer (some ⟨nx0, 0, none⟩)), (6, .pointer (some ⟨nx0 + 1, 0, none⟩)), (7, .pointer (some ⟨nx0 + 2, 0, none⟩)), (8, .pointer (some ⟨nx0 + 3, 0, none⟩)), (11, .pointer (some ⟨nx2 + 1, 0, none⟩)), (14, .int .i64 x27)]) [] (RFacts.nil _ _ _) 4 [.l 1, .no, .no, .no] (by kernel_rfl) (by kernel_rfl) ?_
      by_cases hib0 : 0 ≤ x27
      case neg => rw [if_neg hib0] at H; cases H
      rw [if_pos hib0] at H
      by_cases hib1 : x27 < (12 : Int)
      case neg => rw [if_neg hib1] at H; cases H
      rw [if_pos hib1] at H
      have ha06 := hib0; have ha16 := hib1
      refine RL.idxArr (T := 56) (e := 3) 1 .i64 x27 gb0 (0) 12 (some 125) (by kernel_rfl) (by kernel_rfl) (by kernel_rfl) (by kernel_rfl) hib0 hib1 (K' := [(125, .pointer (some ⟨gb0, 0 + (x27).toNat * 1, none⟩)), (124, .pointer (some ⟨gb0, 0, none⟩)), (122, .int .i64 x27), (12, .int .i64 x27), (1, .pointer (some ⟨gb1, 0, none⟩)), (2, .int .i64 a2), (3, .pointer (some ⟨nx0, 0, none⟩)), (6, .pointer (some ⟨nx0 + 1, 0, none⟩)), (7, .pointer (some ⟨nx0 + 2, 0, none⟩)), (8, .pointer (some ⟨nx0 + 3, 0, none⟩)), (11, .pointer (some ⟨nx2 + 1, 0, none⟩)), (14, .int .i64 x27)]) (by kernel_rfl) ?_
      refine RL.ldA (g := gb0) (ty := 58) (cs := ((arrV (Value.int .i64) 0 12 t1.1.f0) ++ ((arrV (Value.int .i64) 0 12 t1.1.f1) ++ (arrV (Value.int .i64) 0 12 t1.1.f2)))) (Value.int .i64) 0 12 t1.1.f0 [] ((arrV (Value.int .i64) 0 12 t1.1.f1) ++ (arrV (Value.int .i64) 0 12 t1.1.f2)) 0 ((x27).toNat) 2 (by kernel_rfl) (by kernel_rfl) (by kernel_rfl) (by omega) (0 + (x27).toNat * 1) (by omega) (some 126) (by kernel_rfl) (by kernel_rfl) (by kernel_rfl) (K' := [(126, .int .i64 (t1.1.f0.getD ((x27).toNat) 0)), (125, .pointer (some ⟨gb0, 0 + (x27).toNat * 1, none⟩)), (124, .pointer (some ⟨gb0, 0, none⟩)), (122, .int .i64 x27), (12, .int .i64 x27), (1, .pointer (some ⟨gb1, 0, none⟩)), (2, .int .i64 a2), (3, .pointer (some ⟨nx0, 0, none⟩)), (6, .pointer (some ⟨nx0 + 1, 0, none⟩)), (7, .pointer (some ⟨nx0 + 2, 0, none⟩)), (8, .pointer (some ⟨nx0 + 3, 0, none⟩)), (11, .pointer (some ⟨nx2 + 1, 0, none⟩)), (14, .int .i64 x27)]) (by kernel_rfl) ?_
      refine RL.simK (K' := [(127, .bool ((t1.1.f0.getD ((x27).toNat) 0) == (-1))), (12, .int .i64 x27), (1, .pointer (some ⟨gb1, 0, none⟩)), (2, .int .i64 a2), (3, .pointer (some ⟨nx0, 0, none⟩)), (6, .pointer (some ⟨nx0 + 1, 0, none⟩)), (7, .pointer (some ⟨nx0 + 2, 0, none⟩)), (8, .pointer (some ⟨nx0 + 3, 0, none⟩)), (11, .pointer (some ⟨nx2 + 1, 0, none⟩)), (14, .int .i64 x27)]) [] (RFacts.nil _ _ _) 1 [.no] (by kernel_rfl) (by kernel_rfl) ?_
      refine RL.nil (by kernel_rfl) ?_
      refine QN.then_ ?_
      refine OK.cond (.tmp 127) K37s0_131 K37s0_132 ((t1.1.f0.getD ((x27).toNat) 0) == (-1)) (by kernel_rfl) (by kernel_rfl) (by kernel_rfl) (fun hb => ?_) (fun hb => ?_)
      ·skip
       have hc := (beq_iff_eq.1 hb)
       rw [if_pos hc] at H
       clear hb
       refine OK.exit 4 (by kernel_rfl) ?_
       refine QN.thenE ?_
       refine QN.blkX (by decide) ?_
       refine QN.outE hQ7 ?_
       refine QN.blkE ?_
       obtain rfl := Option.some.inj H
       refine QN.arrange (L' := [⟨gb0, ((arrV (Value.int .i64) 0 12 t1.1.f0) ++ ((arrV (Value.int .i64) 0 12 t1.1.f1) ++ (arrV (Value.int .i64) 0 12 t1.1.f2))), 58⟩, ⟨gb1, arrV (Value.int .i64) 0 144 b1, 54⟩, ⟨nx0, [.pointer (some ⟨gb0, 0, none⟩)], 64⟩, ⟨nx0 + 1, arrV (Value.int .i64) 0 12 t1.2, 52⟩, ⟨nx0 + 2, arrV (Value.int .i64) 0 12 x26, 56⟩, ⟨nx0 + 3, arrV Value.bool false 12 (x21.set ((x27).toNat) true), 70⟩, ⟨nx2 + 1, [.slice A2 x22.length c2], 23⟩]) (X' := [orow 3 1 A2 x22.length c2 cs2]) [2, 5, 1, 4, 6, 3, 0] [0] (by kernel_rfl) (by kernel_rfl) (by kernel_rfl) (by kernel_rfl) ?_
       refine QN.sub (K' := [(2, .int .i64 a2), (3, .pointer (some ⟨nx0, 0, none⟩)), (7, .pointer (some ⟨nx0 + 2, 0, none⟩)), (12, .int .i64 x27)]) (L' := [⟨gb0, ((arrV (Value.int .i64) 0 12 t1.1.f0) ++ ((arrV (Value.int .i64) 0 12 t1.1.f1) ++ (arrV (Value.int .i64) 0 12 t1.1.f2))), 58⟩, ⟨gb1, arrV (Value.int .i64) 0 144 b1, 54⟩, ⟨nx0, [.pointer (some ⟨gb0, 0, none⟩)], 64⟩, ⟨nx0 + 1, arrV (Value.int .i64) 0 12 t1.2, 52⟩, ⟨nx0 + 2, arrV (Value.int .i64) 0 12 x26, 56⟩, ⟨nx0 + 3, arrV Value.bool false 12 (x21.set ((x27).toNat) true), 70⟩, ⟨nx2 + 1, [.slice A2 x22.length c2], 23⟩]) (by kernel_rfl) (.cons_cons _ (.cons_cons _ (.cons_cons _ (.cons_cons _ (.cons_cons _ (.cons_cons _ (.cons_cons _ .slnil))))))) (.refl _) ?_
       exact hJ3 _ _ _ _ _ ⟨t1.1.f0, t1.1.f1, t1.1.f2, t1.2, x26, (x21.set ((x27).toNat) true), x22, x27, A2, c2, cs2, rfl, rfl, rfl, (Imm.le_trans (Imm.le_trans hi8 hi9) hi10), hz21, hz22, hz23, hz24, hz20, (le_set hz18), (Reps.ext (Imm.le_trans hi9 hi10) hp2), HK3⟩
      ·skip
       have hc := (beq_eq_false_iff_ne.1 hb)
       rw [if_neg hc] at H
       clear hb
       refine OK.skip (by kernel_rfl) ?_
       refine QN.then_ ?_
       refine OK.seq K37s0_134 K37s0_136 (by kernel_rfl) ?_
       refine OK.region 31 O37s0_134 (by kernel_rfl) ?_
       refine RL.simK (K' := [(131, .pointer (some ⟨gb0, 0, none⟩)), (129, .int .i64 x27), (12, .int .i64 x27), (1, .pointer (some ⟨gb1, 0, none⟩)), (2, .int .i64 a2), (3, .pointer (some ⟨nx0, 0, none⟩)), (6, .pointer (some ⟨nx0 + 1, 0, none⟩)), (7, .pointer (some ⟨nx0 + 2, 0, none⟩)), (8, .pointer (some ⟨nx0 + 3, 0, none⟩)), (11, .pointer (some ⟨nx2 + 1, 0, none⟩))]) [] (RFacts.nil _ _ _) 4 [.l 1, .no, .no, .no] (by kernel_rfl) (by kernel_rfl) ?_
       by_cases hib0 : 0 ≤ x27
       case neg => rw [if_neg hib0] at H; cases H
       rw [if_pos hib0] at H
       by_cases hib1 : x27 < (12 : Int)
       case neg => rw [if_neg hib1] at H; cases H
       rw [if_pos hib1] at H
       have ha07 := hib0; have ha17 := hib1
       refine RL.idxArr (T := 56) (e := 3) 1 .i64 x27 gb0 (0) 12 (some 132) (by kernel_rfl) (by kernel_rfl) (by kernel_rfl) (by kernel_rfl) hib0 hib1 (K' := [(132, .pointer (some ⟨gb0, 0 + (x27).toNat * 1, none⟩)), (131, .pointer (some ⟨gb0, 0, none⟩)), (129, .int .i64 x27), (12, .int .i64 x27), (1, .pointer (some ⟨gb1, 0, none⟩)), (2, .int .i64 a2), (3, .pointer (some ⟨nx0, 0, none⟩)), (6, .pointer (some ⟨nx0 + 1, 0, none⟩)), (7, .pointer (some ⟨nx0 + 2, 0, none⟩)), (8, .pointer (some ⟨nx0 + 3, 0, none⟩)), (11, .pointer (some ⟨nx2 + 1, 0, none⟩))]) (by kernel_rfl) ?_
       refine RL.ldA (g := gb0) (ty := 58) (cs := ((arrV (Value.int .i64) 0 12 t1.1.f0) ++ ((arrV (Value.int .i64) 0 12 t1.1.f1) ++ (arrV (Value.int .i64) 0 12 t1.1.f2)))) (Value.int .i64) 0 12 t1.1.f0 [] ((arrV (Value.int .i64) 0 12 t1.1.f1) ++ (arrV (Value.int .i64) 0 12 t1.1.f2)) 0 ((x27).toNat) 2 (by kernel_rfl) (by kernel_rfl) (by kernel_rfl) (by omega) (0 + (x27).toNat * 1) (by omega) (some 133) (by kernel_rfl) (by kernel_rfl) (by kernel_rfl) (K' := [(133, .int .i64 (t1.1.f0.getD ((x27).toNat) 0)), (132, .pointer (some ⟨gb0, 0 + (x27).toNat * 1, none⟩)), (131, .pointer (some ⟨gb0, 0, none⟩)), (129, .int .i64 x27), (12, .int .i64 x27), (1, .pointer (some ⟨gb1, 0, none⟩)), (2, .int .i64 a2), (3, .pointer (some ⟨nx0, 0, none⟩)), (6, .pointer (some ⟨nx0 + 1, 0, none⟩)), (7, .pointer (some ⟨nx0 + 2, 0, none⟩)), (8, .pointer (some ⟨nx0 + 3, 0, none⟩)), (11, .pointer (some ⟨nx2 + 1, 0, none⟩))]) (by kernel_rfl) ?_
       refine RL.simK (K' := [(13, .int .i64 (t1.1.f0.getD ((x27).toNat) 0)), (12, .int .i64 x27), (1, .pointer (some ⟨gb1, 0, none⟩)), (2, .int .i64 a2), (3, .pointer (some ⟨nx0, 0, none⟩)), (6, .pointer (some ⟨nx0 + 1, 0, none⟩)), (7, .pointer (some ⟨nx0 + 2, 0, none⟩)), (8, .pointer (some ⟨nx0 + 3, 0, none⟩)), (11, .pointer (some ⟨nx2 + 1, 0, none⟩))]) [] (RFacts.nil _ _ _) 1 [.no] (by kernel_rfl) (by kernel_rfl) ?_
       refine RL.nil (by kernel_rfl) ?_
       refine QN.then_ ?_
       refine OK.region 32 O37s0_136 (by kernel_rfl) ?_
       refine RL.simP (K' := [(136, .slice (some ⟨nx10, 0, none⟩) 1 1), (134, .slice A2 x22.length c2), (13, .int .i64 (t1.1.f0.getD ((x27).toNat) 0)), (12, .int .i64 x27), (1, .pointer (some ⟨gb1, 0, none⟩)), (2, .int .i64 a2), (3, .pointer (some ⟨nx0, 0, none⟩)), (6, .pointer (some ⟨nx0 + 1, 0, none⟩)), (7, .pointer (some ⟨nx0 + 2, 0, none⟩)), (8, .pointer (some ⟨nx0 + 3, 0, none⟩)), (11, .pointer (some ⟨nx2 + 1, 0, none⟩))]) (nx' := nx10 + 1) (L' := [⟨nx2 + 1, [.slice A2 x22.length c2], 23⟩, ⟨nx0, [.pointer (some ⟨gb0, 0, none⟩)], 64⟩, ⟨gb0, ((arrV (Value.int .i64) 0 12 t1.1.f0) ++ ((arrV (Value.int .i64) 0 12 t1.1.f1) ++ (arrV (Value.int .i64) 0 12 t1.1.f2))), 58⟩, ⟨nx0 + 3, arrV Value.bool false 12 (x21.set ((x27).toNat) true), 70⟩, ⟨nx0 + 1, arrV (Value.int .i64) 0 12 t1.2, 52⟩, ⟨gb1, arrV (Value.int .i64) 0 144 b1, 54⟩, ⟨nx0 + 2, arrV (Value.int .i64) 0 12 x26, 56⟩, ⟨nx10, [.int .i64 (t1.1.f0.getD ((x27).toNat) 0)], 3⟩]) [] (RFacts.nil _ _ _) 3 [.l 0, .no, .no] (by kernel_rfl) (by kernel_rfl) ?_
       by_cases hz25 : (x22.length + [(t1.1.f0.getD ((x27).toNat) 0)].length) * 8 ≤ 140737488355328
       case neg => rw [if_neg hz25] at H; cases H
       rw [if_pos hz25] at H
       refine RL.appendB (T := 23) (e := 3) (S := A2) 1 8 23 c2 7 1 nx10 3 cs2 [.int .i64 (t1.1.f0.getD ((x27).toNat) 0)] (Ty.int .i64) x22 [(t1.1.f0.getD ((x27).toNat) 0)] 0 (some 137) (by kernel_rfl) (by kernel_rfl) (by kernel_rfl) (by kernel_rfl) (by kernel_rfl) (by decide) (by kernel_rfl) (Reps.ext (Imm.le_trans hi9 hi10) hp2) (by kernel_rfl) ⟨_, _, rfl, rfl, rfl⟩ hz25 (by omega) (fun A3 c3 nx11 cs3 hp3 => ?_)
       refine RL.sub (K' := [(137, .slice A3 ((x22 ++ [(t1.1.f0.getD ((x27).toNat) 0)]).length) c3), (136, .slice (some ⟨nx10, 0, none⟩) 1 1), (13, .int .i64 (t1.1.f0.getD ((x27).toNat) 0)), (12, .int .i64 x27), (1, .pointer (some ⟨gb1, 0, none⟩)), (2, .int .i64 a2), (3, .pointer (some ⟨nx0, 0, none⟩)), (6, .pointer (some ⟨nx0 + 1, 0, none⟩)), (7, .pointer (some ⟨nx0 + 2, 0, none⟩)), (8, .pointer (some ⟨nx0 + 3, 0, none⟩)), (11, .pointer (some ⟨nx2 + 1, 0, none⟩))]) (L' := [⟨nx2 + 1, [.slice A2 x22.length c2], 23⟩, ⟨nx0, [.pointer (some ⟨gb0, 0, none⟩)], 64⟩, ⟨gb0, ((arrV (Value.int .i64) 0 12 t1.1.f0) ++ ((arrV (Value.int .i64) 0 12 t1.1.f1) ++ (arrV (Value.int .i64) 0 12 t1.1.f2))), 58⟩, ⟨nx0 + 3, arrV Value.bool false 12 (x21.set ((x27).toNat) true), 70⟩, ⟨nx0 + 1, arrV (Value.int .i64) 0 12 t1.2, 52⟩, ⟨gb1, arrV (Value.int .i64) 0 144 b1, 54⟩, ⟨nx0 + 2, arrV (Value.int .i64) 0 12 x26, 56⟩, ⟨nx10, [.int .i64 (t1.1.f0.getD ((x27).toNat) 0)], 3⟩]) (X' := [orow 3 1 A3 ((x22 ++ [(t1.1.f0.getD ((x27).toNat) 0)]).length) c3 cs3]) (by kernel_rfl) (.refl _) (.refl _) ?_
       refine RL.simP (K' := [(13, .int .i64 (t1.1.f0.getD ((x27).toNat) 0)), (12, .int .i64 x27), (1, .pointer (some ⟨gb1, 0, none⟩)), (2, .int .i64 a2), (3, .pointer (some ⟨nx0, 0, none⟩)), (6, .pointer (some ⟨nx0 + 1, 0, none⟩)), (7, .pointer (some ⟨nx0 + 2, 0, none⟩)), (8, .pointer (some ⟨nx0 + 3, 0, none⟩)), (11, .pointer (some ⟨nx2 + 1, 0, none⟩))]) (nx' := nx11) (L' := [⟨nx2 + 1, [.slice A3 ((x22 ++ [(t1.1.f0.getD ((x27).toNat) 0)]).length) c3], 23⟩, ⟨nx0, [.pointer (some ⟨gb0, 0, none⟩)], 64⟩, ⟨gb0, ((arrV (Value.int .i64) 0 12 t1.1.f0) ++ ((arrV (Value.int .i64) 0 12 t1.1.f1) ++ (arrV (Value.int .i64) 0 12 t1.1.f2))), 58⟩, ⟨nx0 + 3, arrV Value.bool false 12 (x21.set ((x27).toNat) true), 70⟩, ⟨nx0 + 1, arrV (Value.int .i64) 0 12 t1.2, 52⟩, ⟨gb1, arrV (Value.int .i64) 0 144 b1, 54⟩, ⟨nx0 + 2, arrV (Value.int .i64) 0 12 x26, 56⟩, ⟨nx10, [.int .i64 (t1.1.f0.getD ((x27).toNat) 0)], 3⟩]) [] (RFacts.nil _ _ _) 1 [.l 0] (by kernel_rfl) (by kernel_rfl) ?_
       refine RL.nil (by kernel_rfl) ?_
       refine QN.blkN ?_
       refine QN.arrange (L' := [⟨gb0, ((arrV (Value.int .i64) 0 12 t1.1.f0) ++ ((arrV (Value.int .i64) 0 12 t1.1.f1) ++ (arrV (Value.int .i64) 0 12 t1.1.f2))), 58⟩, ⟨gb1, arrV (Value.int .i64) 0 144 b1, 54⟩, ⟨nx0, [.pointer (some ⟨gb0, 0, none⟩)], 64⟩, ⟨nx0 + 1, arrV (Value.int .i64) 0 12 t1.2, 52⟩, ⟨nx0 + 2, arrV (Value.int .i64) 0 12 x26, 56⟩, ⟨nx0 + 3, arrV Value.bool false 12 (x21.set ((x27).toNat) true), 70⟩, ⟨nx2 + 1, [.slice A3 ((x22 ++ [(t1.1.f0.getD ((x27).toNat) 0)]).length) c3], 23⟩]) (X' := [orow 3 1 A3 ((x22 ++ [(t1.1.f0.getD ((x27).toNat) 0)]).length) c3 cs3]) [2, 5, 1, 4, 6, 3, 0] [0] (by kernel_rfl) (by kernel_rfl) (by kernel_rfl) (by kernel_rfl) ?_
       refine QN.sub (K' := [(1, .pointer (some ⟨gb1, 0, none⟩)), (2, .int .i64 a2), (3, .pointer (some ⟨nx0, 0, none⟩)), (6, .pointer (some ⟨nx0 + 1, 0, none⟩)), (7, .pointer (some ⟨nx0 + 2, 0, none⟩)), (8, .pointer (some ⟨nx0 + 3, 0, none⟩)), (11, .pointer (some ⟨nx2 + 1, 0, none⟩)), (12, .int .i64 x27), (13, .int .i64 (t1.1.f0.getD ((x27).toNat) 0))]) (L' := [⟨gb0, ((arrV (Value.int .i64) 0 12 t1.1.f0) ++ ((arrV (Value.int .i64) 0 12 t1.1.f1) ++ (arrV (Value.int .i64) 0 12 t1.1.f2))), 58⟩, ⟨gb1, arrV (Value.int .i64) 0 144 b1, 54⟩, ⟨nx0, [.pointer (some ⟨gb0, 0, none⟩)], 64⟩, ⟨nx0 + 1, arrV (Value.int .i64) 0 12 t1.2, 52⟩, ⟨nx0 + 2, arrV (Value.int .i64) 0 12 x26, 56⟩, ⟨nx0 + 3, arrV Value.bool false 12 (x21.set ((x27).toNat) true), 70⟩, ⟨nx2 + 1, [.slice A3 ((x22 ++ [(t1.1.f0.getD ((x27).toNat) 0)]).length) c3], 23⟩]) (by kernel_rfl) (.cons_cons _ (.cons_cons _ (.cons_cons _ (.cons_cons _ (.cons_cons _ (.cons_cons _ (.cons_cons _ .slnil))))))) (.refl _) ?_
       exact hJ7 _ _ _ _ _ ⟨t1.1.f0, t1.1.f1, t1.1.f2, t1.2, x26, (x21.set ((x27).toNat) true), (x22 ++ [(t1.1.f0.getD ((x27).toNat) 0)]), x27, (t1.1.f0.getD ((x27).toNat) 0), A3, c3, cs3, rfl, rfl, rfl, (Imm.le_trans (Imm.le_trans hi8 hi9) hi10), hz21, hz22, hz23, hz24, hz20, (le_set hz18), hp3, H⟩
     ·intro Q_4 hJ8 hQ8
      obtain ⟨y6, H, HK6⟩ := Option.bind_eq_some_iff.mp H
      refine OK.block 6 K37s0_77 (by kernel_rfl) ?_
      refine OK.sub (K' := [(1, .pointer (some ⟨gb1, 0, none⟩)), (2, .int .i64 a2), (3, .pointer (some ⟨nx0, 0, none⟩)), (6, .pointer (some ⟨nx0 + 1, 0, none⟩)), (7, .pointer (some ⟨nx0 + 2, 0, none⟩)), (8, .pointer (some ⟨nx0 + 3, 0, none⟩)), (11, .pointer (some ⟨nx2 + 1, 0, none⟩)), (12, .int .i64 x23), (13, .int .i64 x24), (14, .int .i64 (-1)), (61, .int .i64 0)]) (L' := [⟨gb0, ((arrV (Value.int .i64) 0 12 x16) ++ ((arrV (Value.int .i64) 0 12 x17) ++ (arrV (Value.int .i64) 0 12 x18))), 58⟩, ⟨gb1, arrV (Value.int .i64) 0 144 b1, 54⟩, ⟨nx0, [.pointer (some ⟨gb0, 0, none⟩)], 64⟩, ⟨nx0 + 1, arrV (Value.int .i64) 0 12 x19, 52⟩, ⟨nx0 + 2, arrV (Value.int .i64) 0 12 x20, 56⟩, ⟨nx0 + 3, arrV Value.bool false 12 x21, 70⟩, ⟨nx2 + 1, [.slice A2 x22.length c2], 23⟩]) (by kernel_rfl) (.cons_cons _ (.cons_cons _ (.cons_cons _ (.cons_cons _ (.cons_cons _ (.cons_cons _ (.cons_cons _ .slnil))))))) (.refl _) ?_
      refine OK.loopInv K37s0_78 (by kernel_rfl) (fun n_ K' I' _ L' X' => ∃ (x28 : List Int) (x29 : List Int) (x30 : Int) (x31 : Int), K' = [(1, .pointer (some ⟨gb1, 0, none⟩)), (2, .int .i64 a2), (3, .pointer (some ⟨nx0, 0, none⟩)), (6, .pointer (some ⟨nx0 + 1, 0, none⟩)), (7, .pointer (some ⟨nx0 + 2, 0, none⟩)), (8, .pointer (some ⟨nx0 + 3, 0, none⟩)), (11, .pointer (some ⟨nx2 + 1, 0, none⟩)), (12, .int .i64 x23), (13, .int .i64 x24), (14, .int .i64 x30), (61, .int .i64 x31)] ∧ L' = [⟨gb0, ((arrV (Value.int .i64) 0 12 x16) ++ ((arrV (Value.int .i64) 0 12 x17) ++ (arrV (Value.int .i64) 0 12 x18))), 58⟩, ⟨gb1, arrV (Value.int .i64) 0 144 b1, 54⟩, ⟨nx0, [.pointer (some ⟨gb0, 0, none⟩)], 64⟩, ⟨nx0 + 1, arrV (Value.int .i64) 0 12 x28, 52⟩, ⟨nx0 + 2, arrV (Value.int .i64) 0 12 x29, 56⟩, ⟨nx0 + 3, arrV Value.bool false 12 x21, 70⟩, ⟨nx2 + 1, [.slice A2 x22.length c2], 23⟩] ∧ X' = [orow 3 1 A2 x22.length c2 cs2] ∧ Imm.le I8 I' ∧ 12 ≤ x28.length ∧ 12 ≤ x29.length ∧ assign_solution_augments0.l3 b1 x17 x18 x21 x23 x24 n_ x28 x29 x30 x31 = some y6) kq2 ⟨x19, x20, (-1), 0, rfl, rfl, rfl, (Imm.le_refl _), hz16, hz17, H⟩ ?_ ?_
      ·rintro _ _ _ _ _ ⟨x28, x29, x30, x31, rfl, rfl, rfl, _, hz26, hz27, H⟩
       cases H
      ·rintro kq3 _ I11 nx12 _ _ ⟨x28, x29, x30, x31, rfl, rfl, rfl, hi11, hz26, hz27, H⟩ Q_l3 hJ9 hQ9
       replace H : (if x31 < 12 then ((if 0 ≤ x31 then (if x31 < (12 : Int) then (if (x21.getD ((x31).toNat) false) = true then (some (x28, x29, x30)) else (if 0 ≤ x24 then (if x24 < (12 : Int) then (if 0 ≤ x31 then (if x31 < (12 : Int) then (if 0 ≤ x24 then (if x24 < (12 : Int) then (if 0 ≤ x31 then (if x31 < (12 : Int) then (if 0 ≤ x31 then (if x31 < (12 : Int) then ((if (W .i64 ((W .i64 ((x17.getD ((x24).toNat) 0) + (x18.getD ((x31).toNat) 0))) - (b1.getD ((x24).toNat * 12 + (x31).toNat) 0))) < (x28.getD ((x31).toNat) 0) then (if 0 ≤ x31 then (if x31 < (12 : Int) then (if 0 ≤ x31 then (if x31 < (12 : Int) then (some ((x28.set ((x31).toNat) (W .i64 ((W .i64 ((x17.getD ((x24).toNat) 0) + (x18.getD ((x31).toNat) 0))) - (b1.getD ((x24).toNat * 12 + (x31).toNat) 0)))), (x29.set ((x31).toNat) x23))) else none) else none) else none) else none) else (some (x28, x29))).bind (assign_solution_augments0.k8 x30 x31)) else none) else none) else none) else none) else none) else none) else none) else none) else none) else none)) else none) else none).bind (fun (x32, x33, x34) => (assign_solution_augments0.l3 b1 x17 x18 x21 x23 x24 kq3 x32 x33 x34 (W .i64 (x31 + 1))))) else (some (x28, x29, x30))) = some y6 := H
       refine OK.seq K37s0_79 K37s0_81 (by kernel_rfl) ?_
       refine OK.region 18 O37s0_79 (by kernel_rfl) ?_
       refine RL.simK (K' := [(62, .bool (decide (x31 < 12))), (1, .pointer (some ⟨gb1, 0, none⟩)), (2, .int .i64 a2), (3, .pointer (some ⟨nx0, 0, none⟩)), (6, .pointer (some ⟨nx0 + 1, 0, none⟩)), (7, .pointer (some ⟨nx0 + 2, 0, none⟩)), (8, .pointer (some ⟨nx0 + 3, 0, none⟩)), (11, .pointer (some ⟨nx2 + 1, 0, none⟩)), (12, .int .i64 x23), (13, .int .i64 x24), (14, .int .i64 x30), (61, .int .i64 x31)]) [] (RFacts.nil _ _ _) 1 [.no] (by kernel_rfl) (by kernel_rfl) ?_
       refine RL.nil (by kernel_rfl) ?_
       refine QN.then_ ?_
       refine OK.seq K37s0_82 K37s0_85 (by kernel_rfl) ?_
       refine OK.cond (.tmp 62) K37s0_83 K37s0_84 (decide (x31 < 12)) (by kernel_rfl) (by kernel_rfl) (by kernel_rfl) (fun hb => ?_) (fun hb => ?_)
       ·skip
        have hc := (of_decide_eq_true hb)
        rw [if_pos hc] at H
        clear hb
        refine OK.skip (by kernel_rfl) ?_
        refine QN.then_ ?_
        refine OK.seq K37s0_86 K37s0_115 (by kernel_rfl) ?_
        refine OK.join (fun K' I' _ L' X' => ∃ (x32 : List Int) (x33 : List Int) (x34 : Int), K' = [(1, .pointer (some ⟨gb1, 0, none⟩)), (2, .int .i64 a2), (3, .pointer (some ⟨nx0, 0, none⟩)), (6, .pointer (some ⟨nx0 + 1, 0, none⟩)), (7, .pointer (some ⟨nx0 + 2, 0, none⟩)), (8, .pointer (some ⟨nx0 + 3, 0, none⟩)), (11, .pointer (some ⟨nx2 + 1, 0, none⟩)), (12, .int .i64 x23), (13, .int .i64 x24), (14, .int .i64 x34), (61, .int .i64 x31)] ∧ L' = [⟨gb0, ((arrV (Value.int .i64) 0 12 x16) ++ ((arrV (Value.int .i64) 0 12 x17) ++ (arrV (Value.int .i64) 0 12 x18))), 58⟩, ⟨gb1, arrV (Value.int .i64) 0 144 b1, 54⟩, ⟨nx0, [.pointer (some ⟨gb0, 0, none⟩)], 64⟩, ⟨nx0 + 1, arrV (Value.int .i64) 0 12 x32, 52⟩, ⟨nx0 + 2, arrV (Value.int .i64) 0 12 x33, 56⟩, ⟨nx0 + 3, arrV Value.bool false 12 x21, 70⟩, ⟨nx2 + 1, [.slice A2 x22.length c2], 23⟩] ∧ X' = [orow 3 1 A2 x22.length c2 cs2] ∧ Imm.le I11 I' ∧ 12 ≤ x32.length ∧ 12 ≤ x33.length ∧ (assign_solution_augments0.l3 b1 x17 x18 x21 x23 x24 kq3 x32 x33 x34 (W .i64 (x31 + 1))) = some y6) ?_ ?_
        ·rintro _ I12 nx13 _ _ ⟨x32, x33, x34, rfl, rfl, rfl, hi12, hz28, hz29, H⟩
         replace H : (assign_solution_augments0.l3 b1 x17 x18 x21 x23 x24 kq3 x32 x33 x34 (W .i64 (x31 + 1))) = some y6 := H
         refine QN.then_ ?_
         refine OK.region 26 O37s0_115 (by kernel_rfl) ?_
         refine RL.simK (K' := [(61, .int .i64 (W .i64 (x31 + 1))), (1, .pointer (some ⟨gb1, 0, none⟩)), (2, .int .i64 a2), (3, .pointer (some ⟨nx0, 0, none⟩)), (6, .pointer (some ⟨nx0 + 1, 0, none⟩)), (7, .pointer (some ⟨nx0 + 2, 0, none⟩)), (8, .pointer (some ⟨nx0 + 3, 0, none⟩)), (11, .pointer (some ⟨nx2 + 1, 0, none⟩)), (12, .int .i64 x23), (13, .int .i64 x24), (14, .int .i64 x34)]) [] (RFacts.nil _ _ _) 2 [.no, .no] (by kernel_rfl) (by kernel_rfl) ?_
         refine RL.nil (by kernel_rfl) ?_
         refine QN.sub (K' := [(1, .pointer (some ⟨gb1, 0, none⟩)), (2, .int .i64 a2), (3, .pointer (some ⟨nx0, 0, none⟩)), (6, .pointer (some ⟨nx0 + 1, 0, none⟩)), (7, .pointer (some ⟨nx0 + 2, 0, none⟩)), (8, .pointer (some ⟨nx0 + 3, 0, none⟩)), (11, .pointer (some ⟨nx2 + 1, 0, none⟩)), (12, .int .i64 x23), (13, .int .i64 x24), (14, .int .i64 x34), (61, .int .i64 (W .i64 (x31 + 1)))]) (L' := [⟨gb0, ((arrV (Value.int .i64) 0 12 x16) ++ ((arrV (Value.int .i64) 0 12 x17) ++ (arrV (Value.int .i64) 0 12 x18))), 58⟩, ⟨gb1, arrV (Value.int .i64) 0 144 b1, 54⟩, ⟨nx0, [.pointer (some ⟨gb0, 0, none⟩)], 64⟩, ⟨nx0 + 1, arrV (Value.int .i64) 0 12 x32, 52⟩, ⟨nx0 + 2, arrV (Value.int .i64) 0 12 x33, 56⟩, ⟨nx0 + 3, arrV Value.bool false 12 x21, 70⟩, ⟨nx2 + 1, [.slice A2 x22.length c2], 23⟩]) (by kernel_rfl) (.cons_cons _ (.cons_cons _ (.cons_cons _ (.cons_cons _ (.cons_cons _ (.cons_cons _ (.cons_cons _ .slnil))))))) (.refl _) ?_
         exact hJ9 _ _ _ _ _ ⟨x32, x33, x34, W .i64 (x31 + 1), rfl, rfl, rfl, (Imm.le_trans hi11 hi12), hz28, hz29, H⟩
        ·intro Q_5 hJ10 hQ10
         obtain ⟨y7, H, HK7⟩ := Option.bind_eq_some_iff.mp H
         refine OK.block 7 K37s0_87 (by kernel_rfl) ?_
         refine OK.seq K37s0_88 K37s0_90 (by kernel_rfl) ?_
         refine OK.region 19 O37s0_88 (by kernel_rfl) ?_
         refine RL.simK (K' := [(15, .int .i64 x31), (1, .pointer (some ⟨gb1, 0, none⟩)), (2, .int .i64 a2), (3, .pointer (some ⟨nx0, 0, none⟩)), (6, .pointer (some ⟨nx0 + 1, 0, none⟩)), (7, .pointer (some ⟨nx0 + 2, 0, none⟩)), (8, .pointer (some ⟨nx0 + 3, 0, none⟩)), (11, .pointer (some ⟨nx2 + 1, 0, none⟩)), (12, .int .i64 x23), (13, .int .i64 x24), (14, .int .i64 x30), (61, .int .i64 x31)]) [] (RFacts.nil _ _ _) 2 [.no, .no] (by kernel_rfl) (by kernel_rfl) ?_
         refine RL.nil (by kernel_rfl) ?_
         refine QN.then_ ?_
         refine OK.seq K37s0_91 K37s0_97 (by kernel_rfl) ?_
         refine OK.seq K37s0_92 K37s0_94 (by kernel_rfl) ?_
         refine OK.region 20 O37s0_92 (by kernel_rfl) ?_
         refine RL.simK (K' := [(64, .int .i64 x31), (15, .int .i64 x31), (1, .pointer (some ⟨gb1, 0, none⟩)), (2, .int .i64 a2), (3, .pointer (some ⟨nx0, 0, none⟩)), (6, .pointer (some ⟨nx0 + 1, 0, none⟩)), (7, .pointer (some ⟨nx0 + 2, 0, none⟩)), (8, .pointer (some ⟨nx0 + 3, 0, none⟩)), (11, .pointer (some ⟨nx2 + 1, 0, none⟩)), (12, .int .i64 x23), (13, .int .i64 x24), (14, .int .i64 x30), (61, .int .i64 x31)]) [] (RFacts.nil _ _ _) 1 [.no] (by kernel_rfl) (by kernel_rfl) ?_
         by_cases hib0 : 0 ≤ x31
         case neg => rw [if_neg hib0] at H; cases H
         rw [if_pos hib0] at H
         by_cases hib1 : x31 < (12 : Int)
         case neg => rw [if_neg hib1] at H; cases H
         rw [if_pos hib1] at H
         have ha08 := hib0; have ha18 := hib1
         refine RL.idxArr (T := 70) (e := 4) 1 .i64 x31 (nx0 + 3) (0) 12 (some 65) (by kernel_rfl) (by kernel_rfl) (by kernel_rfl) (by kernel_rfl) hib0 hib1 (K' := [(65, .pointer (some ⟨nx0 + 3, 0 + (x31).toNat * 1, none⟩)), (64, .int .i64 x31), (15, .int .i64 x31), (1, .pointer (some ⟨gb1, 0, none⟩)), (2, .int .i64 a2), (3, .pointer (some ⟨nx0, 0, none⟩)), (6, .pointer (some ⟨nx0 + 1, 0, none⟩)), (7, .pointer (some ⟨nx0 + 2, 0, none⟩)), (8, .pointer (some ⟨nx0 + 3, 0, none⟩)), (11, .pointer (some ⟨nx2 + 1, 0, none⟩)), (12, .int .i64 x23), (13, .int .i64 x24), (14, .int .i64 x30), (61, .int .i64 x31)]) (by kernel_rfl) ?_
         refine RL.ldA (g := nx0 + 3) (ty := 70) (cs := arrV Value.bool false 12 x21) Value.bool false 12 x21 [] [] 0 ((x31).toNat) 5 (by kernel_rfl) (by kernel_rfl) (by kernel_rfl) (by omega) (0 + (x31).toNat * 1) (by omega) (some 66) (by kernel_rfl) (by kernel_rfl) (by kernel_rfl) (K' := [(66, .bool (x21.getD ((x31).toNat) false)), (65, .pointer (some ⟨nx0 + 3, 0 + (x31).toNat * 1, none⟩)), (64, .int .i64 x31), (15, .int .i64 x31), (1, .pointer (some ⟨gb1, 0, none⟩)), (2, .int .i64 a2), (3, .pointer (some ⟨nx0, 0, none⟩)), (6, .pointer (some ⟨nx0 + 1, 0, none⟩)), (7, .pointer (some ⟨nx0 + 2, 0, none⟩)), (8, .pointer (some ⟨nx0 + 3, 0, none⟩)), (11, .pointer (some ⟨nx2 + 1, 0, none⟩)), (12, .int .i64 x23), (13, .int .i64 x24), (14, .int .i64 x30), (61, .int .i64 x31)]) (by kernel_rfl) ?_
         refine RL.nil (by kernel_rfl) ?_
         refine QN.sub (K' := [(66, .bool (x21.getD ((x31).toNat) false)), (15, .int .i64 x31), (1, .pointer (some ⟨gb1, 0, none⟩)), (2, .int .i64 a2), (3, .pointer (some ⟨nx0, 0, none⟩)), (6, .pointer (some ⟨nx0 + 1, 0, none⟩)), (7, .pointer (some ⟨nx0 + 2, 0, none⟩)), (8, .pointer (some ⟨nx0 + 3, 0, none⟩)), (11, .pointer (some ⟨nx2 + 1, 0, none⟩)), (12, .int .i64 x23), (13, .int .i64 x24), (14, .int .i64 x30), (61, .int .i64 x31)]) (L' := [⟨gb0, ((arrV (Value.int .i64) 0 12 x16) ++ ((arrV (Value.int .i64) 0 12 x17) ++ (arrV (Value.int .i64) 0 12 x18))), 58⟩, ⟨gb1, arrV (Value.int .i64) 0 144 b1, 54⟩, ⟨nx0, [.pointer (some ⟨gb0, 0, none⟩)], 64⟩, ⟨nx0 + 1, arrV (Value.int .i64) 0 12 x28, 52⟩, ⟨nx0 + 2, arrV (Value.int .i64) 0 12 x29, 56⟩, ⟨nx0 + 3, arrV Value.bool false 12 x21, 70⟩, ⟨nx2 + 1, [.slice A2 x22.length c2], 23⟩]) (by kernel_rfl) (.cons_cons _ (.cons_cons _ (.cons_cons _ (.cons_cons _ (.cons_cons _ (.cons_cons _ (.cons_cons _ .slnil))))))) (.refl _) ?_
         refine QN.then_ ?_
         refine OK.cond (.tmp 66) K37s0_95 K37s0_96 (x21.getD ((x31).toNat) false) (by kernel_rfl) (by kernel_rfl) (by kernel_rfl) (fun hb => ?_) (fun hb => ?_)
         ·skip
          have hc := hb
          rw [if_pos hc] at H
          clear hb
          refine OK.exit 7 (by kernel_rfl) ?_
          refine QN.thenE ?_
          refine QN.blkE ?_
          obtain rfl := Option.some.inj H
          refine QN.sub (K' := [(1, .pointer (some ⟨gb1, 0, none⟩)), (2, .int .i64 a2), (3, .pointer (some ⟨nx0, 0, none⟩)), (6, .pointer (some ⟨nx0 + 1, 0, none⟩)), (7, .pointer (some ⟨nx0 + 2, 0, none⟩)), (8, .pointer (some ⟨nx0 + 3, 0, none⟩)), (11, .pointer (some ⟨nx2 + 1, 0, none⟩)), (12, .int .i64 x23), (13, .int .i64 x24), (14, .int .i64 x30), (61, .int .i64 x31)]) (L' := [⟨gb0, ((arrV (Value.int .i64) 0 12 x16) ++ ((arrV (Value.int .i64) 0 12 x17) ++ (arrV (Value.int .i64) 0 12 x18))), 58⟩, ⟨gb1, arrV (Value.int .i64) 0 144 b1, 54⟩, ⟨nx0, [.pointer (some ⟨gb0, 0, none⟩)], 64⟩, ⟨nx0 + 1, arrV (Value.int .i64) 0 12 x28, 52⟩, ⟨nx0 + 2, arrV (Value.int .i64) 0 12 x29, 56⟩, ⟨nx0 + 3, arrV Value.bool false 12 x21, 70⟩, ⟨nx2 + 1, [.slice A2 x22.length c2], 23⟩]) (by kernel_rfl) (.cons_cons _ (.cons_cons _ (.cons_cons _ (.cons_cons _ (.cons_cons _ (.cons_cons _ (.cons_cons _ .slnil))))))) (.refl _) ?_
          exact hJ10 _ _ _ _ _ ⟨x28, x29, x30, rfl, rfl, rfl, (Imm.le_refl _), hz26, hz27, HK7⟩
         ·skip
          have hc := (Bool.eq_false_iff.1 hb)
          rw [if_neg hc] at H
          clear hb
          refine OK.skip (by kernel_rfl) ?_
          refine QN.then_ ?_
          refine OK.seq K37s0_98 K37s0_108 (by kernel_rfl) ?_
          refine OK.seq K37s0_99 K37s0_101 (by kernel_rfl) ?_
          by_cases hi0_2 : 0 ≤ x24
          case neg => rw [if_neg hi0_2] at H; cases H
          rw [if_pos hi0_2] at H
          by_cases hi1_2 : x24 < (12 : Int)
          case neg => rw [if_neg hi1_2] at H; cases H
          rw [if_pos hi1_2] at H
          by_cases hi0_3 : 0 ≤ x31
          case neg => rw [if_neg hi0_3] at H; cases H
          rw [if_pos hi0_3] at H
          by_cases hi1_3 : x31 < (12 : Int)
          case neg => rw [if_neg hi1_3] at H; cases H
          rw [if_pos hi1_3] at H
          by_cases hi0_4 : 0 ≤ x24
          case neg => rw [if_neg hi0_4] at H; cases H
          rw [if_pos hi0_4] at H
          by_cases hi1_4 : x24 < (12 : Int)
          case neg => rw [if_neg hi1_4] at H; cases H
          rw [if_pos hi1_4] at H
          by_cases hi0_5 : 0 ≤ x31
          case neg => rw [if_neg hi0_5] at H; cases H
          rw [if_pos hi0_5] at H
          by_cases hi1_5 : x31 < (12 : Int)
          case neg => rw [if_neg hi1_5] at H; cases H
          rw [if_pos hi1_5] at H
          refine OK.drawnC 21 20 O37s0_99 a37s0_99n (by kernel_rfl) (by kernel_rfl) u37d2l (u37d2g gb0 gb1 x24 x31) [(⟨gb0, 12 + (x24).toNat * 1, none⟩, .int .i64 (x17.getD ((x24).toNat) 0)), (⟨gb0, 24 + (x31).toNat * 1, none⟩, .int .i64 (x18.getD ((x31).toNat) 0)), (⟨gb1, 0 + (x24).toNat * 12 + (x31).toNat * 1, none⟩, .int .i64 (b1.getD ((x24).toNat * 12 + (x31).toNat) 0))] (RI.arr (g := gb0) (ty := 58) (cs := ((arrV (Value.int .i64) 0 12 x16) ++ ((arrV (Value.int .i64) 0 12 x17) ++ (arrV (Value.int .i64) 0 12 x18)))) (Value.int .i64) 0 12 x17 (arrV (Value.int .i64) 0 12 x16) (arrV (Value.int .i64) 0 12 x18) 12 ((x24).toNat) 0 (by kernel_rfl) (by kernel_rfl) (by kernel_rfl) (by omega) (12 + (x24).toNat * 1) (by omega) (RI.arr (g := gb0) (ty := 58) (cs := ((arrV (Value.int .i64) 0 12 x16) ++ ((arrV (Value.int .i64) 0 12 x17) ++ (arrV (Value.int .i64) 0 12 x18)))) (Value.int .i64) 0 12 x18 ((arrV (Value.int .i64) 0 12 x16) ++ (arrV (Value.int .i64) 0 12 x17)) [] 24 ((x31).toNat) 0 (by kernel_rfl) (by kernel_rfl) (by kernel_rfl) (by omega) (24 + (x31).toNat * 1) (by omega) (RI.arr (g := gb1) (ty := 54) (cs := arrV (Value.int .i64) 0 144 b1) (Value.int .i64) 0 144 b1 [] [] 0 ((x24).toNat * 12 + (x31).toNat) 1 (by kernel_rfl) (by kernel_rfl) (by kernel_rfl) (by omega) (0 + (x24).toNat * 12 + (x31).toNat * 1) (by omega) (RI.nil _)))) [.l 2, .no, .no, .no, .no, .r 0, .l 2, .no, .no, .no, .no, .r 1, .no, .no, .no, .no, .no, .no, .no, .r 2] a37s0_99 a37s0_99o (by kernel_rfl) (by kernel_rfl) (u37d2s gb0 gb1 b1 x17 x18 x24 x31) (u37d2f nx0 gb0 gb1 a2 b1 nx2 x17 x18 x21 x23 x24 x30 x31 20) (u37d2v nx0 gb0 gb1 a2 b1 nx2 x16 x17 x18 x21 x22 A2 c2 x23 x24 x28 x29 x30 x31) (u37d2e nx0 gb0 gb1 a2 b1 nx2 x16 x17 x18 x21 x22 A2 c2 x23 x24 x28 x29 x30 x31) [] framesOk.nil ?_ [u37d2f nx0 gb0 gb1 a2 b1 nx2 x17 x18 x21 x23 x24 x30 x31 4, u37d2f nx0 gb0 gb1 a2 b1 nx2 x17 x18 x21 x23 x24 x30 x31 10, u37d2f nx0 gb0 gb1 a2 b1 nx2 x17 x18 x21 x23 x24 x30 x31 17, u37d2f nx0 gb0 gb1 a2 b1 nx2 x17 x18 x21 x23 x24 x30 x31 18] (framesOk.cons (fun u => rfl) (framesOk.cons (fun u => rfl) (framesOk.cons (fun u => rfl) (framesOk.cons (fun u => rfl) framesOk.nil)))) ?_ ?_
          ·refine LoudsG.nil
          ·refine Givens.cons (fun u w =>  ?_) (fun _ _ _ => rfl) (Givens.cons (fun u w =>  ?_) (fun _ _ _ => rfl) (Givens.cons (fun u w =>  ?_) (fun _ _ _ => rfl) (Givens.cons (fun u w =>  ?_) (fun _ _ _ => rfl) (Givens.nil))))
           ·exact giv_idxArr (T := 52) (e := 2) 1 .i64 x24 gb0 (12) 12 (by kernel_rfl) (by kernel_rfl) (by kernel_rfl) hi0_2 hi1_2 w
           ·exact giv_idxArr (T := 52) (e := 2) 1 .i64 x31 gb0 (24) 12 (by kernel_rfl) (by kernel_rfl) (by kernel_rfl) hi0_3 hi1_3 w
           ·exact giv_idxArr (T := 54) (e := 52) 12 .i64 x24 gb1 (0) 12 (by kernel_rfl) (by kernel_rfl) (by kernel_rfl) hi0_4 hi1_4 w
           ·exact giv_idxArr (T := 52) (e := 2) 1 .i64 x31 gb1 (0 + (x24).toNat * 12) 12 (by kernel_rfl) (by kernel_rfl) (by kernel_rfl) hi0_5 hi1_5 w
          intro u I13 nx14 hi13 hF
          clear hF
          refine RL.norm (K' := ((86, .int .i64 (b1.getD ((x24).toNat * 12 + (x31).toNat) 0)) :: (85, .pointer (some ⟨gb1, 0 + (x24).toNat * 12 + (x31).toNat * 1, none⟩)) :: (84, .pointer (some ⟨gb1, 0 + (x24).toNat * 12, none⟩)) :: (83, .pointer (some ⟨gb1, 0, none⟩)) :: (82, .int .i64 x31) :: (81, .int .i64 x24) :: (80, .pointer (some ⟨gb1, 0, none⟩)) :: (79, .int .i64 (W .i64 ((x17.getD ((x24).toNat) 0) + (x18.getD ((x31).toNat) 0)))) :: (78, .int .i64 (x18.getD ((x31).toNat) 0)) :: (77, .pointer (some ⟨gb0, 24 + (x31).toNat * 1, none⟩)) :: (76, .pointer (some ⟨gb0, 24, none⟩)) :: (75, .pointer (some ⟨gb0, 0, none⟩)) :: (74, .int .i64 x31) :: (73, .pointer (some ⟨gb0, 0, none⟩)) :: (72, .int .i64 (x17.getD ((x24).toNat) 0)) :: (71, .pointer (some ⟨gb0, 12 + (x24).toNat * 1, none⟩)) :: (70, .pointer (some ⟨gb0, 12, none⟩)) :: (69, .pointer (some ⟨gb0, 0, none⟩)) :: (68, .int .i64 x24) :: (67, .pointer (some ⟨gb0, 0, none⟩)) :: (66, .bool (x21.getD ((x31).toNat) false)) :: (15, .int .i64 x31) :: (1, .pointer (some ⟨gb1, 0, none⟩)) :: (2, .int .i64 a2) :: (3, .pointer (some ⟨nx0, 0, none⟩)) :: (6, .pointer (some ⟨nx0 + 1, 0, none⟩)) :: (7, .pointer (some ⟨nx0 + 2, 0, none⟩)) :: (8, .pointer (some ⟨nx0 + 3, 0, none⟩)) :: (11, .pointer (some ⟨nx2 + 1, 0, none⟩)) :: (12, .int .i64 x23) :: (13, .int .i64 x24) :: (14, .int .i64 x30) :: (61, .int .i64 x31) :: [])) (X' := [orow 3 1 A2 x22.length c2 cs2]) (by kernel_rfl) rfl rfl rfl ?_
          refine RL.simK (K' := [(16, .int .i64 (W .i64 ((W .i64 ((x17.getD ((x24).toNat) 0) + (x18.getD ((x31).toNat) 0))) - (b1.getD ((x24).toNat * 12 + (x31).toNat) 0)))), (15, .int .i64 x31), (1, .pointer (some ⟨gb1, 0, none⟩)), (2, .int .i64 a2), (3, .pointer (some ⟨nx0, 0, none⟩)), (6, .pointer (some ⟨nx0 + 1, 0, none⟩)), (7, .pointer (some ⟨nx0 + 2, 0, none⟩)), (8, .pointer (some ⟨nx0 + 3, 0, none⟩)), (11, .pointer (some ⟨nx2 + 1, 0, none⟩)), (12, .int .i64 x23), (13, .int .i64 x24), (14, .int .i64 x30), (61, .int .i64 x31)]) [] (RFacts.nil _ _ _) 2 [.no, .no] (by kernel_rfl) (by kernel_rfl) ?_
          refine RL.nil (by kernel_rfl) ?_
          refine QN.then_ ?_
          refine OK.seq K37s0_102 K37s0_104 (by kernel_rfl) ?_
          refine OK.region 22 O37s0_102 (by kernel_rfl) ?_
          refine RL.simK (K' := [(89, .int .i64 x31), (88, .int .i64 (W .i64 ((W .i64 ((x17.getD ((x24).toNat) 0) + (x18.getD ((x31).toNat) 0))) - (b1.getD ((x24).toNat * 12 + (x31).toNat) 0)))), (16, .int .i64 (W .i64 ((W .i64 ((x17.getD ((x24).toNat) 0) + (x18.getD ((x31).toNat) 0))) - (b1.getD ((x24).toNat * 12 + (x31).toNat) 0)))), (15, .int .i64 x31), (1, .pointer (some ⟨gb1, 0, none⟩)), (2, .int .i64 a2), (3, .pointer (some ⟨nx0, 0, none⟩)), (6, .pointer (some ⟨nx0 + 1, 0, none⟩)), (7, .pointer (some ⟨nx0 + 2, 0, none⟩)), (8, .pointer (some ⟨nx0 + 3, 0, none⟩)), (11, .pointer (some ⟨nx2 + 1, 0, none⟩)), (12, .int .i64 x23), (13, .int .i64 x24), (14, .int .i64 x30), (61, .int .i64 x31)]) [] (RFacts.nil _ _ _) 2 [.no, .no] (by kernel_rfl) (by kernel_rfl) ?_
          by_cases hib0 : 0 ≤ x31
          case neg => rw [if_neg hib0] at H; cases H
          rw [if_pos hib0] at H
          by_cases hib1 : x31 < (12 : Int)
          case neg => rw [if_neg hib1] at H; cases H
          rw [if_pos hib1] at H
          have ha09 := hib0; have ha19 := hib1
          refine RL.idxArr (T := 52) (e := 2) 1 .i64 x31 (nx0 + 1) (0) 12 (some 90) (by kernel_rfl) (by kernel_rfl) (by kernel_rfl) (by kernel_rfl) hib0 hib1 (K' := [(90, .pointer (some ⟨nx0 + 1, 0 + (x31).toNat * 1, none⟩)), (89, .int .i64 x31), (88, .int .i64 (W .i64 ((W .i64 ((x17.getD ((x24).toNat) 0) + (x18.getD ((x31).toNat) 0))) - (b1.getD ((x24).toNat * 12 + (x31).toNat) 0)))), (16, .int .i64 (W .i64 ((W .i64 ((x17.getD ((x24).toNat) 0) + (x18.getD ((x31).toNat) 0))) - (b1.getD ((x24).toNat * 12 + (x31).toNat) 0)))), (15, .int .i64 x31), (1, .pointer (some ⟨gb1, 0, none⟩)), (2, .int .i64 a2), (3, .pointer (some ⟨nx0, 0, none⟩)), (6, .pointer (some ⟨nx0 + 1, 0, none⟩)), (7, .pointer (some ⟨nx0 + 2, 0, none⟩)), (8, .pointer (some ⟨nx0 + 3, 0, none⟩)), (11, .pointer (some ⟨nx2 + 1, 0, none⟩)), (12, .int .i64 x23), (13, .int .i64 x24), (14, .int .i64 x30), (61, .int .i64 x31)]) (by kernel_rfl) ?_
          refine RL.ldA (g := nx0 + 1) (ty := 52) (cs := arrV (Value.int .i64) 0 12 x28) (Value.int .i64) 0 12 x28 [] [] 0 ((x31).toNat) 3 (by kernel_rfl) (by kernel_rfl) (by kernel_rfl) (by omega) (0 + (x31).toNat * 1) (by omega) (some 91) (by kernel_rfl) (by kernel_rfl) (by kernel_rfl) (K' := [(91, .int .i64 (x28.getD ((x31).toNat) 0)), (90, .pointer (some ⟨nx0 + 1, 0 + (x31).toNat * 1, none⟩)), (89, .int .i64 x31), (88, .int .i64 (W .i64 ((W .i64 ((x17.getD ((x24).toNat) 0) + (x18.getD ((x31).toNat) 0))) - (b1.getD ((x24).toNat * 12 + (x31).toNat) 0)))), (16, .int .i64 (W .i64 ((W .i64 ((x17.getD ((x24).toNat) 0) + (x18.getD ((x31).toNat) 0))) - (b1.getD ((x24).toNat * 12 + (x31).toNat) 0)))), (15, .int .i64 x31), (1, .pointer (some ⟨gb1, 0, none⟩)), (2, .int .i64 a2), (3, .pointer (some ⟨nx0, 0, none⟩)), (6, .pointer (some ⟨nx0 + 1, 0, none⟩)), (7, .pointer (some ⟨nx0 + 2, 0, none⟩)), (8, .pointer (some ⟨nx0 + 3, 0, none⟩)), (11, .pointer (some ⟨nx2 + 1, 0, none⟩)), (12, .int .i64 x23), (13, .int .i64 x24), (14, .int .i64 x30), (61, .int .i64 x31)]) (by kernel_rfl) ?_
          refine RL.simK (K' := [(92, .bool (decide ((W .i64 ((W .i64 ((x17.getD ((x24).toNat) 0) + (x18.getD ((x31).toNat) 0))) - (b1.getD ((x24).toNat * 12 + (x31).toNat) 0))) < (x28.getD ((x31).toNat) 0)))), (16, .int .i64 (W .i64 ((W .i64 ((x17.getD ((x24).toNat) 0) + (x18.getD ((x31).toNat) 0))) - (b1.getD ((x24).toNat * 12 + (x31).toNat) 0)))), (15, .int .i64 x31), (1, .pointer (some ⟨gb1, 0, none⟩)), (2, .int .i64 a2), (3, .pointer (some ⟨nx0, 0, none⟩)), (6, .pointer (some ⟨nx0 + 1, 0, none⟩)), (7, .pointer (some ⟨nx0 + 2, 0, none⟩)), (8, .pointer (some ⟨nx0 + 3, 0, none⟩)), (11, .pointer (some ⟨nx2 + 1, 0, none⟩)), (12, .int .i64 x23), (13, .int .i64 x24), (14, .int .i64 x30), (61, .int .i64 x31)]) [] (RFacts.nil _ _ _) 1 [.no] (by kernel_rfl) (by kernel_rfl) ?_
          refine RL.nil (by kernel_rfl) ?_
          refine QN.then_ ?_
          refine OK.join (fun K' I' _ L' X' => ∃ (x35 : List Int) (x36 : List Int), K' = [(1, .pointer (some ⟨gb1, 0, none⟩)), (2, .int .i64 a2), (3, .pointer (some ⟨nx0, 0, none⟩)), (6, .pointer (some ⟨nx0 + 1, 0, none⟩)), (7, .pointer (some ⟨nx0 + 2, 0, none⟩)), (8, .pointer (some ⟨nx0 + 3, 0, none⟩)), (11, .pointer (some ⟨nx2 + 1, 0, none⟩)), (12, .int .i64 x23), (13, .int .i64 x24), (14, .int .i64 x30), (15, .int .i64 x31), (61, .int .i64 x31)] ∧ L' = [⟨gb0, ((arrV (Value.int .i64) 0 12 x16) ++ ((arrV (Value.int .i64) 0 12 x17) ++ (arrV (Value.int .i64) 0 12 x18))), 58⟩, ⟨gb1, arrV (Value.int .i64) 0 144 b1, 54⟩, ⟨nx0, [.pointer (some ⟨gb0, 0, none⟩)], 64⟩, ⟨nx0 + 1, arrV (Value.int .i64) 0 12 x35, 52⟩, ⟨nx0 + 2, arrV (Value.int .i64) 0 12 x36, 56⟩, ⟨nx0 + 3, arrV Value.bool false 12 x21, 70⟩, ⟨nx2 + 1, [.slice A2 x22.length c2], 23⟩] ∧ X' = [orow 3 1 A2 x22.length c2 cs2] ∧ Imm.le I13 I' ∧ 12 ≤ x35.length ∧ 12 ≤ x36.length ∧ assign_solution_augments0.k8 x30 x31 (x35, x36) = some y7) ?_ ?_
          ·rintro _ I14 nx15 _ _ ⟨x35, x36, rfl, rfl, rfl, hi14, hz30, hz31, H⟩
           replace H : ((if x30 = (-1) then (some true) else (if 0 ≤ x31 then (if x31 < (12 : Int) then (if 0 ≤ x30 then (if x30 < (12 : Int) then (some (decide ((x35.getD ((x31).toNat) 0) < (x35.getD ((x30).toNat) 0)))) else none) else none) else none) else none)).bind (assign_solution_augments0.k7 x30 x31 x35 x36)) = some y7 := H
           refine QN.then_ ?_
           refine OK.seq K37s0_109 K37s0_111 (by kernel_rfl) ?_
           refine OK.join (fun K' I' _ L' X' => ∃ (x37 : Bool), K' = [(1, .pointer (some ⟨gb1, 0, none⟩)), (2, .int .i64 a2), (3, .pointer (some ⟨nx0, 0, none⟩)), (6, .pointer (some ⟨nx0 + 1, 0, none⟩)), (7, .pointer (some ⟨nx0 + 2, 0, none⟩)), (8, .pointer (some ⟨nx0 + 3, 0, none⟩)), (11, .pointer (some ⟨nx2 + 1, 0, none⟩)), (12, .int .i64 x23), (13, .int .i64 x24), (14, .int .i64 x30), (15, .int .i64 x31), (61, .int .i64 x31), (109, .bool x37)] ∧ L' = [⟨gb0, ((arrV (Value.int .i64) 0 12 x16) ++ ((arrV (Value.int .i64) 0 12 x17) ++ (arrV (Value.int .i64) 0 12 x18))), 58⟩, ⟨gb1, arrV (Value.int .i64) 0 144 b1, 54⟩, ⟨nx0, [.pointer (some ⟨gb0, 0, none⟩)], 64⟩, ⟨nx0 + 1, arrV (Value.int .i64) 0 12 x35, 52⟩, ⟨nx0 + 2, arrV (Value.int .i64) 0 12 x36, 56⟩, ⟨nx0 + 3, arrV Value.bool false 12 x21, 70⟩, ⟨nx2 + 1, [.slice A2 x22.length c2], 23⟩] ∧ X' = [orow 3 1 A2 x22.length c2 cs2] ∧ Imm.le I14 I' ∧ assign_solution_augments0.k7 x30 x31 x35 x36 x37 = some y7) ?_ ?_
           ·rintro _ I15 nx16 _ _ ⟨x37, rfl, rfl, rfl, hi15, H⟩
            replace H : ((if x37 = true then (some x31) else (some x30)).bind (assign_solution_augments0.k6 x35 x36)) = some y7 := H
            refine QN.then_ ?_
            refine OK.join (fun K' I' _ L' X' => ∃ (x38 : Int), K' = [(1, .pointer (some ⟨gb1, 0, none⟩)), (2, .int .i64 a2), (3, .pointer (some ⟨nx0, 0, none⟩)), (6, .pointer (some ⟨nx0 + 1, 0, none⟩)), (7, .pointer (some ⟨nx0 + 2, 0, none⟩)), (8, .pointer (some ⟨nx0 + 3, 0, none⟩)), (11, .pointer (some ⟨nx2 + 1, 0, none⟩)), (12, .int .i64 x23), (13, .int .i64 x24), (14, .int .i64 x38), (61, .int .i64 x31)] ∧ L' = [⟨gb0, ((arrV (Value.int .i64) 0 12 x16) ++ ((arrV (Value.int .i64) 0 12 x17) ++ (arrV (Value.int .i64) 0 12 x18))), 58⟩, ⟨gb1, arrV (Value.int .i64) 0 144 b1, 54⟩, ⟨nx0, [.pointer (some ⟨gb0, 0, none⟩)], 64⟩, ⟨nx0 + 1, arrV (Value.int .i64) 0 12 x35, 52⟩, ⟨nx0 + 2, arrV (Value.int .i64) 0 12 x36, 56⟩, ⟨nx0 + 3, arrV Value.bool false 12 x21, 70⟩, ⟨nx2 + 1, [.slice A2 x22.length c2], 23⟩] ∧ X' = [orow 3 1 A2 x22.length c2 cs2] ∧ Imm.le I15 I' ∧ assign_solution_augments0.k6 x35 x36 x38 = some y7) ?_ ?_
            ·rintro _ I16 nx17 _ _ ⟨x38, rfl, rfl, rfl, hi16, H⟩
             replace H : (some (x35, x36, x38)) = some y7 := H
             refine QN.blkN ?_
             obtain rfl := Option.some.inj H
             refine QN.sub (K' := [(1, .pointer (some ⟨gb1, 0, none⟩)), (2, .int .i64 a2), (3, .pointer (some ⟨nx0, 0, none⟩)), (6, .pointer (some ⟨nx0 + 1, 0, none⟩)), (7, .pointer (some ⟨nx0 + 2, 0, none⟩)), (8, .pointer (some ⟨nx0 + 3, 0, none⟩)), (11, .pointer (some ⟨nx2 + 1, 0, none⟩)), (12, .int .i64 x23), (13, .int .i64 x24), (14, .int .i64 x38), (61, .int .i64 x31)]) (L' := [⟨gb0, ((arrV (Value.int .i64) 0 12 x16) ++ ((arrV (Value.int .i64) 0 12 x17) ++ (arrV (Value.int .i64) 0 12 x18))), 58⟩, ⟨gb1, arrV (Value.int .i64) 0 144 b1, 54⟩, ⟨nx0, [.pointer (some ⟨gb0, 0, none⟩)], 64⟩, ⟨nx0 + 1, arrV (Value.int .i64) 0 12 x35, 52⟩, ⟨nx0 + 2, arrV (Value.int .i64) 0 12 x36, 56⟩, ⟨nx0 + 3, arrV Value.bool false 12 x21, 70⟩, ⟨nx2 + 1, [.slice A2 x22.length c2], 23⟩]) (by kernel_rfl) (.cons_cons _ (.cons_cons _ (.cons_cons _ (.cons_cons _ (.cons_cons _ (.cons_cons _ (.cons_cons _ .slnil))))))) (.refl _) ?_
             exact hJ10 _ _ _ _ _ ⟨x35, x36, x38, rfl, rfl, rfl, (Imm.le_trans (Imm.le_trans (Imm.le_trans hi13 hi14) hi15) hi16), hz30, hz31, HK7⟩
            ·intro Q_6 hJ13 hQ13
             obtain ⟨y10, H, HK10⟩ := Option.bind_eq_some_iff.mp H
             refine OK.cond (.tmp 109) K37s0_112 K37s0_114 x37 (by kernel_rfl) (by kernel_rfl) (by kernel_rfl) (fun hb => ?_) (fun hb => ?_)
             ·skip
              have hc := hb
              rw [if_pos hc] at H
              clear hb
              refine OK.region 25 O37s0_112 (by kernel_rfl) ?_
              refine RL.simK (K' := [(14, .int .i64 x31), (1, .pointer (some ⟨gb1, 0, none⟩)), (2, .int .i64 a2), (3, .pointer (some ⟨nx0, 0, none⟩)), (6, .pointer (some ⟨nx0 + 1, 0, none⟩)), (7, .pointer (some ⟨nx0 + 2, 0, none⟩)), (8, .pointer (some ⟨nx0 + 3, 0, none⟩)), (11, .pointer (some ⟨nx2 + 1, 0, none⟩)), (12, .int .i64 x23), (13, .int .i64 x24), (61, .int .i64 x31)]) [] (RFacts.nil _ _ _) 2 [.no, .no] (by kernel_rfl) (by kernel_rfl) ?_
              refine RL.nil (by kernel_rfl) ?_
              obtain rfl := Option.some.inj H
              refine QN.sub (K' := [(1, .pointer (some ⟨gb1, 0, none⟩)), (2, .int .i64 a2), (3, .pointer (some ⟨nx0, 0, none⟩)), (6, .pointer (some ⟨nx0 + 1, 0, none⟩)), (7, .pointer (some ⟨nx0 + 2, 0, none⟩)), (8, .pointer (some ⟨nx0 + 3, 0, none⟩)), (11, .pointer (some ⟨nx2 + 1, 0, none⟩)), (12, .int .i64 x23), (13, .int .i64 x24), (14, .int .i64 x31), (61, .int .i64 x31)]) (L' := [⟨gb0, ((arrV (Value.int .i64) 0 12 x16) ++ ((arrV (Value.int .i64) 0 12 x17) ++ (arrV (Value.int .i64) 0 12 x18))), 58⟩, ⟨gb1, arrV (Value.int .i64) 0 144 b1, 54⟩, ⟨nx0, [.pointer (some ⟨gb0, 0, none⟩)], 64⟩, ⟨nx0 + 1, arrV (Value.int .i64) 0 12 x35, 52⟩, ⟨nx0 + 2, arrV (Value.int .i64) 0 12 x36, 56⟩, ⟨nx0 + 3, arrV Value.bool false 12 x21, 70⟩, ⟨nx2 + 1, [.slice A2 x22.length c2], 23⟩]) (by kernel_rfl) (.cons_cons _ (.cons_cons _ (.cons_cons _ (.cons_cons _ (.cons_cons _ (.cons_cons _ (.cons_cons _ .slnil))))))) (.refl _) ?_
              exact hJ13 _ _ _ _ _ ⟨x31, rfl, rfl, rfl, (Imm.le_refl _), HK10⟩
             ·skip
              have hc := (Bool.eq_false_iff.1 hb)
              rw [if_neg hc] at H
              clear hb
              refine OK.skip (by kernel_rfl) ?_
              obtain rfl := Option.some.inj H
              refine QN.sub (K' := [(1, .pointer (some ⟨gb1, 0, none⟩)), (2, .int .i64 a2), (3, .pointer (some ⟨nx0, 0, none⟩)), (6, .pointer (some ⟨nx0 + 1, 0, none⟩)), (7, .pointer (some ⟨nx0 + 2, 0, none⟩)), (8, .pointer (some ⟨nx0 + 3, 0, none⟩)), (11, .pointer (some ⟨nx2 + 1, 0, none⟩)), (12, .int .i64 x23), (13, .int .i64 x24), (14, .int .i64 x30), (61, .int .i64 x31)]) (L' := [⟨gb0, ((arrV (Value.int .i64) 0 12 x16) ++ ((arrV (Value.int .i64) 0 12 x17) ++ (arrV (Value.int .i64) 0 12 x18))), 58⟩, ⟨gb1, arrV (Value.int .i64) 0 144 b1, 54⟩, ⟨nx0, [.pointer (some ⟨gb0, 0, none⟩)], 64⟩, ⟨nx0 + 1, arrV (Value.int .i64) 0 12 x35, 52⟩, ⟨nx0 + 2, arrV (Value.int .i64) 0 12 x36, 56⟩, ⟨nx0 + 3, arrV Value.bool false 12 x21, 70⟩, ⟨nx2 + 1, [.slice A2 x22.length c2], 23⟩]) (by kernel_rfl) (.cons_cons _ (.cons_cons _ (.cons_cons _ (.cons_cons _ (.cons_cons _ (.cons_cons _ (.cons_cons _ .slnil))))))) (.refl _) ?_
              exact hJ13 _ _ _ _ _ ⟨x30, rfl, rfl, rfl, (Imm.le_refl _), HK10⟩
           ·intro Q_7 hJ12 hQ12
            obtain ⟨y9, H, HK9⟩ := Option.bind_eq_some_iff.mp H
            refine OK.cases (x30 == (-1)) (fun hb1 => ?_) (fun hb1 => ?_)
            ·have hc1 := (beq_iff_eq.1 hb1)
             rw [if_pos hc1] at H
             refine OK.drawnC 24 9 O37s0_109 a37s0_109n (by kernel_rfl) (by kernel_rfl) u37d3l u37d3g [] (RI.nil _) [.no, .no, .no, .no, .no, .no, .no, .no, .no] a37s0_109 a37s0_109o (by kernel_rfl) (by kernel_rfl) (u37d3s x30) (u37d3f nx0 gb1 a2 nx2 x23 x24 x30 x31 9) (u37d3v nx0 gb0 gb1 a2 b1 nx2 x16 x17 x18 x21 x22 A2 c2 x23 x24 x30 x31 x35 x36) (u37d3e nx0 gb0 gb1 a2 b1 nx2 x16 x17 x18 x21 x22 A2 c2 x23 x24 x30 x31 x35 x36) [] framesOk.nil ?_ [u37d3f nx0 gb1 a2 nx2 x23 x24 x30 x31 2] (framesOk.cons (fun u => rfl) framesOk.nil) ?_ ?_
             ·refine LoudsG.nil
             ·refine Givens.cons (fun u w =>  ?_) (fun _ _ _ => rfl) (Givens.nil)
              ·exact giv_run (v := .bool (x30 == (-1))) (by kernel_rfl) (by rw [hb1]; try rfl) w
             intro u I17 nx18 hi17 hF
             clear hF
             refine RL.norm (K' := [(107, undef), (106, undef), (105, undef), (104, undef), (103, undef), (102, undef), (101, .bool true), (100, .bool (x30 == (-1))), (99, .int .i64 x30), (1, .pointer (some ⟨gb1, 0, none⟩)), (2, .int .i64 a2), (3, .pointer (some ⟨nx0, 0, none⟩)), (6, .pointer (some ⟨nx0 + 1, 0, none⟩)), (7, .pointer (some ⟨nx0 + 2, 0, none⟩)), (8, .pointer (some ⟨nx0 + 3, 0, none⟩)), (11, .pointer (some ⟨nx2 + 1, 0, none⟩)), (12, .int .i64 x23), (13, .int .i64 x24), (14, .int .i64 x30), (15, .int .i64 x31), (61, .int .i64 x31)]) (X' := [orow 3 1 A2 x22.length c2 cs2]) (by kernel_rfl) rfl rfl rfl ?_
             refine RL.simK (K' := [(109, .bool true), (1, .pointer (some ⟨gb1, 0, none⟩)), (2, .int .i64 a2), (3, .pointer (some ⟨nx0, 0, none⟩)), (6, .pointer (some ⟨nx0 + 1, 0, none⟩)), (7, .pointer (some ⟨nx0 + 2, 0, none⟩)), (8, .pointer (some ⟨nx0 + 3, 0, none⟩)), (11, .pointer (some ⟨nx2 + 1, 0, none⟩)), (12, .int .i64 x23), (13, .int .i64 x24), (14, .int .i64 x30), (15, .int .i64 x31), (61, .int .i64 x31)]) [] (RFacts.nil _ _ _) 2 [.no, .no] (by kernel_rfl) (by kernel_rfl) ?_
             refine RL.nil (by kernel_rfl) ?_
             obtain rfl := Option.some.inj H
             refine QN.sub (K' := [(1, .pointer (some ⟨gb1, 0, none⟩)), (2, .int .i64 a2), (3, .pointer (some ⟨nx0, 0, none⟩)), (6, .pointer (some ⟨nx0 + 1, 0, none⟩)), (7, .pointer (some ⟨nx0 + 2, 0, none⟩)), (8, .pointer (some ⟨nx0 + 3, 0, none⟩)), (11, .pointer (some ⟨nx2 + 1, 0, none⟩)), (12, .int .i64 x23), (13, .int .i64 x24), (14, .int .i64 x30), (15, .int .i64 x31), (61, .int .i64 x31), (109, .bool true)]) (L' := [⟨gb0, ((arrV (Value.int .i64) 0 12 x16) ++ ((arrV (Value.int .i64) 0 12 x17) ++ (arrV (Value.int .i64) 0 12 x18))), 58⟩, ⟨gb1, arrV (Value.int .i64) 0 144 b1, 54⟩, ⟨nx0, [.pointer (some ⟨gb0, 0, none⟩)], 64⟩, ⟨nx0 + 1, arrV (Value.int .i64) 0 12 x35, 52⟩, ⟨nx0 + 2, arrV (Value.int .i64) 0 12 x36, 56⟩, ⟨nx0 + 3, arrV Value.bool false 12 x21, 70⟩, ⟨nx2 + 1, [.slice A2 x22.length c2], 23⟩]) (by kernel_rfl) (.cons_cons _ (.cons_cons _ (.cons_cons _ (.cons_cons _ (.cons_cons _ (.cons_cons _ (.cons_cons _ .slnil))))))) (.refl _) ?_
             exact hJ12 _ _ _ _ _ ⟨true, rfl, rfl, rfl, hi17, HK9⟩
            ·have hc1 := (beq_eq_false_iff_ne.1 hb1)
             rw [if_neg hc1] at H
             by_cases hi0_6 : 0 ≤ x31
             case neg => rw [if_neg hi0_6] at H; cases H
             rw [if_pos hi0_6] at H
             by_cases hi1_6 : x31 < (12 : Int)
             case neg => rw [if_neg hi1_6] at H; cases H
             rw [if_pos hi1_6] at H
             by_cases hi0_7 : 0 ≤ x30
             case neg => rw [if_neg hi0_7] at H; cases H
             rw [if_pos hi0_7] at H
             by_cases hi1_7 : x30 < (12 : Int)
             case neg => rw [if_neg hi1_7] at H; cases H
             rw [if_pos hi1_7] at H
             refine OK.drawnC 24 9 O37s0_109 a37s0_109n (by kernel_rfl) (by kernel_rfl) u37d4l (u37d4g nx0 x30 x31) [(⟨nx0 + 1, 0 + (x31).toNat * 1, none⟩, .int .i64 (x35.getD ((x31).toNat) 0)), (⟨nx0 + 1, 0 + (x30).toNat * 1, none⟩, .int .i64 (x35.getD ((x30).toNat) 0))] (RI.arr (g := nx0 + 1) (ty := 52) (cs := arrV (Value.int .i64) 0 12 x35) (Value.int .i64) 0 12 x35 [] [] 0 ((x31).toNat) 3 (by kernel_rfl) (by kernel_rfl) (by kernel_rfl) (by omega) (0 + (x31).toNat * 1) (by omega) (RI.arr (g := nx0 + 1) (ty := 52) (cs := arrV (Value.int .i64) 0 12 x35) (Value.int .i64) 0 12 x35 [] [] 0 ((x30).toNat) 3 (by kernel_rfl) (by kernel_rfl) (by kernel_rfl) (by omega) (0 + (x30).toNat * 1) (by omega) (RI.nil _))) [.no, .no, .no, .no, .no, .r 0, .no, .no, .r 1] a37s0_109 a37s0_109o (by kernel_rfl) (by kernel_rfl) (u37d4s nx0 x30 x31 x35) (u37d4f nx0 gb1 a2 nx2 x23 x24 x30 x31 x35 9) (u37d4v nx0 gb0 gb1 a2 b1 nx2 x16 x17 x18 x21 x22 A2 c2 x23 x24 x30 x31 x35 x36) (u37d4e nx0 gb0 gb1 a2 b1 nx2 x16 x17 x18 x21 x22 A2 c2 x23 x24 x30 x31 x35 x36) [] framesOk.nil ?_ [u37d4f nx0 gb1 a2 nx2 x23 x24 x30 x31 x35 2, u37d4f nx0 gb1 a2 nx2 x23 x24 x30 x31 x35 4, u37d4f nx0 gb1 a2 nx2 x23 x24 x30 x31 x35 7] (framesOk.cons (fun u => rfl) (framesOk.cons (fun u => rfl) (framesOk.cons (fun u => rfl) framesOk.nil))) ?_ ?_
             ·refine LoudsG.nil
             ·refine Givens.cons (fun u w =>  ?_) (fun _ _ _ => rfl) (Givens.cons (fun u w =>  ?_) (fun _ _ _ => rfl) (Givens.cons (fun u w =>  ?_) (fun _ _ _ => rfl) (Givens.nil)))
              ·exact giv_run (v := .bool (x30 == (-1))) (by kernel_rfl) (by rw [hb1]; try rfl) w
              ·exact giv_idxArr (T := 52) (e := 2) 1 .i64 x31 (nx0 + 1) (0) 12 (by kernel_rfl) (by kernel_rfl) (by kernel_rfl) hi0_6 hi1_6 w
              ·exact giv_idxArr (T := 52) (e := 2) 1 .i64 x30 (nx0 + 1) (0) 12 (by kernel_rfl) (by kernel_rfl) (by kernel_rfl) hi0_7 hi1_7 w
             intro u I18 nx19 hi18 hF
             clear hF
             refine RL.norm (K' := [(107, .int .i64 (x35.getD ((x30).toNat) 0)), (106, .pointer (some ⟨nx0 + 1, 0 + (x30).toNat * 1, none⟩)), (105, .int .i64 x30), (104, .int .i64 (x35.getD ((x31).toNat) 0)), (103, .pointer (some ⟨nx0 + 1, 0 + (x31).toNat * 1, none⟩)), (102, .int .i64 x31), (101, .bool false), (100, .bool (x30 == (-1))), (99, .int .i64 x30), (1, .pointer (some ⟨gb1, 0, none⟩)), (2, .int .i64 a2), (3, .pointer (some ⟨nx0, 0, none⟩)), (6, .pointer (some ⟨nx0 + 1, 0, none⟩)), (7, .pointer (some ⟨nx0 + 2, 0, none⟩)), (8, .pointer (some ⟨nx0 + 3, 0, none⟩)), (11, .pointer (some ⟨nx2 + 1, 0, none⟩)), (12, .int .i64 x23), (13, .int .i64 x24), (14, .int .i64 x30), (15, .int .i64 x31), (61, .int .i64 x31)]) (X' := [orow 3 1 A2 x22.length c2 cs2]) (by kernel_rfl) rfl rfl rfl ?_
             refine RL.simK (K' := [(109, .bool (decide ((x35.getD ((x31).toNat) 0) < (x35.getD ((x30).toNat) 0)))), (1, .pointer (some ⟨gb1, 0, none⟩)), (2, .int .i64 a2), (3, .pointer (some ⟨nx0, 0, none⟩)), (6, .pointer (some ⟨nx0 + 1, 0, none⟩)), (7, .pointer (some ⟨nx0 + 2, 0, none⟩)), (8, .pointer (some ⟨nx0 + 3, 0, none⟩)), (11, .pointer (some ⟨nx2 + 1, 0, none⟩)), (12, .int .i64 x23), (13, .int .i64 x24), (14, .int .i64 x30), (15, .int .i64 x31), (61, .int .i64 x31)]) [] (RFacts.nil _ _ _) 2 [.no, .no] (by kernel_rfl) (by kernel_rfl) ?_
             refine RL.nil (by kernel_rfl) ?_
             obtain rfl := Option.some.inj H
             refine QN.sub (K' := [(1, .pointer (some ⟨gb1, 0, none⟩)), (2, .int .i64 a2), (3, .pointer (some ⟨nx0, 0, none⟩)), (6, .pointer (some ⟨nx0 + 1, 0, none⟩)), (7, .pointer (some ⟨nx0 + 2, 0, none⟩)), (8, .pointer (some ⟨nx0 + 3, 0, none⟩)), (11, .pointer (some ⟨nx2 + 1, 0, none⟩)), (12, .int .i64 x23), (13, .int .i64 x24), (14, .int .i64 x30), (15, .int .i64 x31), (61, .int .i64 x31), (109, .bool (decide ((x35.getD ((x31).toNat) 0) < (x35.getD ((x30).toNat) 0))))]) (L' := [⟨gb0, ((arrV (Value.int .i64) 0 12 x16) ++ ((arrV (Value.int .i64) 0 12 x17) ++ (arrV (Value.int .i64) 0 12 x18))), 58⟩, ⟨gb1, arrV (Value.int .i64) 0 144 b1, 54⟩, ⟨nx0, [.pointer (some ⟨gb0, 0, none⟩)], 64⟩, ⟨nx0 + 1, arrV (Value.int .i64) 0 12 x35, 52⟩, ⟨nx0 + 2, arrV (Value.int .i64) 0 12 x36, 56⟩, ⟨nx0 + 3, arrV Value.bool false 12 x21, 70⟩, ⟨nx2 + 1, [.slice A2 x22.length c2], 23⟩]) (by kernel_rfl) (.cons_cons _ (.cons_cons _ (.cons_cons _ (.cons_cons _ (.cons_cons _ (.cons_cons _ (.cons_cons _ .slnil))))))) (.refl _) ?_
             exact hJ12 _ _ _ _ _ ⟨(decide ((x35.getD ((x31).toNat) 0) < (x35.getD ((x30).toNat) 0))), rfl, rfl, rfl, hi18, HK9⟩
          ·intro Q_8 hJ11 hQ11
           obtain ⟨y8, H, HK8⟩ := Option.bind_eq_some_iff.mp H
           refine OK.cond (.tmp 92) K37s0_105 K37s0_107 (decide ((W .i64 ((W .i64 ((x17.getD ((x24).toNat) 0) + (x18.getD ((x31).toNat) 0))) - (b1.getD ((x24).toNat * 12 + (x31).toNat) 0))) < (x28.getD ((x31).toNat) 0))) (by kernel_rfl) (by kernel_rfl) (by kernel_rfl) (fun hb => ?_) (fun hb => ?_)
           ·skip
            have hc := (of_decide_eq_true hb)
            rw [if_pos hc] at H
            clear hb
            refine OK.region 23 O37s0_105 (by kernel_rfl) ?_
            refine RL.simK (K' := [(96, .int .i64 x23), (95, .int .i64 (W .i64 ((W .i64 ((x17.getD ((x24).toNat) 0) + (x18.getD ((x31).toNat) 0))) - (b1.getD ((x24).toNat * 12 + (x31).toNat) 0)))), (94, .int .i64 x31), (93, .int .i64 x31), (15, .int .i64 x31), (1, .pointer (some ⟨gb1, 0, none⟩)), (2, .int .i64 a2), (3, .pointer (some ⟨nx0, 0, none⟩)), (6, .pointer (some ⟨nx0 + 1, 0, none⟩)), (7, .pointer (some ⟨nx0 + 2, 0, none⟩)), (8, .pointer (some ⟨nx0 + 3, 0, none⟩)), (11, .pointer (some ⟨nx2 + 1, 0, none⟩)), (12, .int .i64 x23), (13, .int .i64 x24), (14, .int .i64 x30), (61, .int .i64 x31)]) [] (RFacts.nil _ _ _) 4 [.no, .no, .no, .no] (by kernel_rfl) (by kernel_rfl) ?_
            by_cases hib0 : 0 ≤ x31
            case neg => rw [if_neg hib0] at H; cases H
            rw [if_pos hib0] at H
            by_cases hib1 : x31 < (12 : Int)
            case neg => rw [if_neg hib1] at H; cases H
            rw [if_pos hib1] at H
            have ha010 := hib0; have ha110 := hib1
            refine RL.idxArr (T := 52) (e := 2) 1 .i64 x31 (nx0 + 1) (0) 12 (some 97) (by kernel_rfl) (by kernel_rfl) (by kernel_rfl) (by kernel_rfl) hib0 hib1 (K' := [(97, .pointer (some ⟨nx0 + 1, 0 + (x31).toNat * 1, none⟩)), (96, .int .i64 x23), (95, .int .i64 (W .i64 ((W .i64 ((x17.getD ((x24).toNat) 0) + (x18.getD ((x31).toNat) 0))) - (b1.getD ((x24).toNat * 12 + (x31).toNat) 0)))), (94, .int .i64 x31), (93, .int .i64 x31), (15, .int .i64 x31), (1, .pointer (some ⟨gb1, 0, none⟩)), (2, .int .i64 a2), (3, .pointer (some ⟨nx0, 0, none⟩)), (6, .pointer (some ⟨nx0 + 1, 0, none⟩)), (7, .pointer (some ⟨nx0 + 2, 0, none⟩)), (8, .pointer (some ⟨nx0 + 3, 0, none⟩)), (11, .pointer (some ⟨nx2 + 1, 0, none⟩)), (12, .int .i64 x23), (13, .int .i64 x24), (14, .int .i64 x30), (61, .int .i64 x31)]) (by kernel_rfl) ?_
            refine RL.stA (g := nx0 + 1) (ty := 52) (cs := arrV (Value.int .i64) 0 12 x28) (Value.int .i64) 0 12 x28 (W .i64 ((W .i64 ((x17.getD ((x24).toNat) 0) + (x18.getD ((x31).toNat) 0))) - (b1.getD ((x24).toNat * 12 + (x31).toNat) 0))) [] [] 0 ((x31).toNat) 3 (by kernel_rfl) (by kernel_rfl) (by kernel_rfl) (by omega) hz26 (0 + (x31).toNat * 1) (by omega) 2 (by kernel_rfl) (by kernel_rfl) (by kernel_rfl) (by rfl) (fun _ h => by cases h) (fun _ h => by cases h) (cs' := arrV (Value.int .i64) 0 12 (x28.set ((x31).toNat) (W .i64 ((W .i64 ((x17.getD ((x24).toNat) 0) + (x18.getD ((x31).toNat) 0))) - (b1.getD ((x24).toNat * 12 + (x31).toNat) 0))))) (by kernel_rfl) ?_
            by_cases hib0 : 0 ≤ x31
            case neg => rw [if_neg hib0] at H; cases H
            rw [if_pos hib0] at H
            by_cases hib1 : x31 < (12 : Int)
            case neg => rw [if_neg hib1] at H; cases H
            rw [if_pos hib1] at H
            have ha011 := hib0; have ha111 := hib1
            refine RL.idxArr (T := 56) (e := 3) 1 .i64 x31 (nx0 + 2) (0) 12 (some 98) (by kernel_rfl) (by kernel_rfl) (by kernel_rfl) (by kernel_rfl) hib0 hib1 (K' := [(98, .pointer (some ⟨nx0 + 2, 0 + (x31).toNat * 1, none⟩)), (97, .pointer (some ⟨nx0 + 1, 0 + (x31).toNat * 1, none⟩)), (96, .int .i64 x23), (95, .int .i64 (W .i64 ((W .i64 ((x17.getD ((x24).toNat) 0) + (x18.getD ((x31).toNat) 0))) - (b1.getD ((x24).toNat * 12 + (x31).toNat) 0)))), (94, .int .i64 x31), (93, .int .i64 x31), (15, .int .i64 x31), (1, .pointer (some ⟨gb1, 0, none⟩)), (2, .int .i64 a2), (3, .pointer (some ⟨nx0, 0, none⟩)), (6, .pointer (some ⟨nx0 + 1, 0, none⟩)), (7, .pointer (some ⟨nx0 + 2, 0, none⟩)), (8, .pointer (some ⟨nx0 + 3, 0, none⟩)), (11, .pointer (some ⟨nx2 + 1, 0, none⟩)), (12, .int .i64 x23), (13, .int .i64 x24), (14, .int .i64 x30), (61, .int .i64 x31)]) (by kernel_rfl) ?_
            refine RL.stA (g := nx0 + 2) (ty := 56) (cs := arrV (Value.int .i64) 0 12 x29) (Value.int .i64) 0 12 x29 x23 [] [] 0 ((x31).toNat) 4 (by kernel_rfl) (by kernel_rfl) (by kernel_rfl) (by omega) hz27 (0 + (x31).toNat * 1) (by omega) 3 (by kernel_rfl) (by kernel_rfl) (by kernel_rfl) (by rfl) (fun _ h => by cases h) (fun _ h => by cases h) (cs' := arrV (Value.int .i64) 0 12 (x29.set ((x31).toNat) x23)) (by kernel_rfl) ?_
            refine RL.nil (by kernel_rfl) ?_
            refine QN.sub (K' := [(15, .int .i64 x31), (1, .pointer (some ⟨gb1, 0, none⟩)), (2, .int .i64 a2), (3, .pointer (some ⟨nx0, 0, none⟩)), (6, .pointer (some ⟨nx0 + 1, 0, none⟩)), (7, .pointer (some ⟨nx0 + 2, 0, none⟩)), (8, .pointer (some ⟨nx0 + 3, 0, none⟩)), (11, .pointer (some ⟨nx2 + 1, 0, none⟩)), (12, .int .i64 x23), (13, .int .i64 x24), (14, .int .i64 x30), (61, .int .i64 x31)]) (L' := [⟨gb0, ((arrV (Value.int .i64) 0 12 x16) ++ ((arrV (Value.int .i64) 0 12 x17) ++ (arrV (Value.int .i64) 0 12 x18))), 58⟩, ⟨gb1, arrV (Value.int .i64) 0 144 b1, 54⟩, ⟨nx0, [.pointer (some ⟨gb0, 0, none⟩)], 64⟩, ⟨nx0 + 1, arrV (Value.int .i64) 0 12 (x28.set ((x31).toNat) (W .i64 ((W .i64 ((x17.getD ((x24).toNat) 0) + (x18.getD ((x31).toNat) 0))) - (b1.getD ((x24).toNat * 12 + (x31).toNat) 0)))), 52⟩, ⟨nx0 + 2, arrV (Value.int .i64) 0 12 (x29.set ((x31).toNat) x23), 56⟩, ⟨nx0 + 3, arrV Value.bool false 12 x21, 70⟩, ⟨nx2 + 1, [.slice A2 x22.length c2], 23⟩]) (by kernel_rfl) (.cons_cons _ (.cons_cons _ (.cons_cons _ (.cons_cons _ (.cons_cons _ (.cons_cons _ (.cons_cons _ .slnil))))))) (.refl _) ?_
            obtain rfl := Option.some.inj H
            refine QN.sub (K' := [(1, .pointer (some ⟨gb1, 0, none⟩)), (2, .int .i64 a2), (3, .pointer (some ⟨nx0, 0, none⟩)), (6, .pointer (some ⟨nx0 + 1, 0, none⟩)), (7, .pointer (some ⟨nx0 + 2, 0, none⟩)), (8, .pointer (some ⟨nx0 + 3, 0, none⟩)), (11, .pointer (some ⟨nx2 + 1, 0, none⟩)), (12, .int .i64 x23), (13, .int .i64 x24), (14, .int .i64 x30), (15, .int .i64 x31), (61, .int .i64 x31)]) (L' := [⟨gb0, ((arrV (Value.int .i64) 0 12 x16) ++ ((arrV (Value.int .i64) 0 12 x17) ++ (arrV (Value.int .i64) 0 12 x18))), 58⟩, ⟨gb1, arrV (Value.int .i64) 0 144 b1, 54⟩, ⟨nx0, [.pointer (some ⟨gb0, 0, none⟩)], 64⟩, ⟨nx0 + 1, arrV (Value.int .i64) 0 12 (x28.set ((x31).toNat) (W .i64 ((W .i64 ((x17.getD ((x24).toNat) 0) + (x18.getD ((x31).toNat) 0))) - (b1.getD ((x24).toNat * 12 + (x31).toNat) 0)))), 52⟩, ⟨nx0 + 2, arrV (Value.int .i64) 0 12 (x29.set ((x31).toNat) x23), 56⟩, ⟨nx0 + 3, arrV Value.bool false 12 x21, 70⟩, ⟨nx2 + 1, [.slice A2 x22.length c2], 23⟩]) (by kernel_rfl) (.cons_cons _ (.cons_cons _ (.cons_cons _ (.cons_cons _ (.cons_cons _ (.cons_cons _ (.cons_cons _ .slnil))))))) (.refl _) ?_
            exact hJ11 _ _ _ _ _ ⟨(x28.set ((x31).toNat) (W .i64 ((W .i64 ((x17.getD ((x24).toNat) 0) + (x18.getD ((x31).toNat) 0))) - (b1.getD ((x24).toNat * 12 + (x31).toNat) 0)))), (x29.set ((x31).toNat) x23), rfl, rfl, rfl, (Imm.le_refl _), (le_set hz26), (le_set hz27), HK8⟩
           ·skip
            have hc := (of_decide_eq_false hb)
            rw [if_neg hc] at H
            clear hb
            refine OK.skip (by kernel_rfl) ?_
            obtain rfl := Option.some.inj H
            refine QN.sub (K' := [(1, .pointer (some ⟨gb1, 0, none⟩)), (2, .int .i64 a2), (3, .pointer (some ⟨nx0, 0, none⟩)), (6, .pointer (some ⟨nx0 + 1, 0, none⟩)), (7, .pointer (some ⟨nx0 + 2, 0, none⟩)), (8, .pointer (some ⟨nx0 + 3, 0, none⟩)), (11, .pointer (some ⟨nx2 + 1, 0, none⟩)), (12, .int .i64 x23), (13, .int .i64 x24), (14, .int .i64 x30), (15, .int .i64 x31), (61, .int .i64 x31)]) (L' := [⟨gb0, ((arrV (Value.int .i64) 0 12 x16) ++ ((arrV (Value.int .i64) 0 12 x17) ++ (arrV (Value.int .i64) 0 12 x18))), 58⟩, ⟨gb1, arrV (Value.int .i64) 0 144 b1, 54⟩, ⟨nx0, [.pointer (some ⟨gb0, 0, none⟩)], 64⟩, ⟨nx0 + 1, arrV (Value.int .i64) 0 12 x28, 52⟩, ⟨nx0 + 2, arrV (Value.int .i64) 0 12 x29, 56⟩, ⟨nx0 + 3, arrV Value.bool false 12 x21, 70⟩, ⟨nx2 + 1, [.slice A2 x22.length c2], 23⟩]) (by kernel_rfl) (.cons_cons _ (.cons_cons _ (.cons_cons _ (.cons_cons _ (.cons_cons _ (.cons_cons _ (.cons_cons _ .slnil))))))) (.refl _) ?_
            exact hJ11 _ _ _ _ _ ⟨x28, x29, rfl, rfl, rfl, (Imm.le_refl _), hz26, hz27, HK8⟩
       ·skip
        have hc := (of_decide_eq_false hb)
        rw [if_neg hc] at H
        clear hb
        refine OK.exit 6 (by kernel_rfl) ?_
        refine QN.thenE ?_
        refine QN.outE hQ9 ?_
        refine QN.blkE ?_
        obtain rfl := Option.some.inj H
        refine QN.sub (K' := [(1, .pointer (some ⟨gb1, 0, none⟩)), (2, .int .i64 a2), (3, .pointer (some ⟨nx0, 0, none⟩)), (6, .pointer (some ⟨nx0 + 1, 0, none⟩)), (7, .pointer (some ⟨nx0 + 2, 0, none⟩)), (8, .pointer (some ⟨nx0 + 3, 0, none⟩)), (11, .pointer (some ⟨nx2 + 1, 0, none⟩)), (14, .int .i64 x30)]) (L' := [⟨gb0, ((arrV (Value.int .i64) 0 12 x16) ++ ((arrV (Value.int .i64) 0 12 x17) ++ (arrV (Value.int .i64) 0 12 x18))), 58⟩, ⟨gb1, arrV (Value.int .i64) 0 144 b1, 54⟩, ⟨nx0, [.pointer (some ⟨gb0, 0, none⟩)], 64⟩, ⟨nx0 + 1, arrV (Value.int .i64) 0 12 x28, 52⟩, ⟨nx0 + 2, arrV (Value.int .i64) 0 12 x29, 56⟩, ⟨nx0 + 3, arrV Value.bool false 12 x21, 70⟩, ⟨nx2 + 1, [.slice A2 x22.length c2], 23⟩]) (by kernel_rfl) (.cons_cons _ (.cons_cons _ (.cons_cons _ (.cons_cons _ (.cons_cons _ (.cons_cons _ (.cons_cons _ .slnil))))))) (.refl _) ?_
        exact hJ8 _ _ _ _ _ ⟨x28, x29, x30, rfl, rfl, rfl, hi11, hz26, hz27, HK6⟩
  ·intro Q_9 hJ2 hQ2
   obtain ⟨y2, H, HK2⟩ := Option.bind_eq_some_iff.mp H
   refine OK.block 2 K37s0_40 (by kernel_rfl) ?_
   refine OK.sub (K' := [(1, .pointer (some ⟨gb1, 0, none⟩)), (2, .int .i64 a2), (3, .pointer (some ⟨nx0, 0, none⟩)), (6, .pointer (some ⟨nx0 + 1, 0, none⟩)), (7, .pointer (some ⟨nx0 + 2, 0, none⟩)), (8, .pointer (some ⟨nx0 + 3, 0, none⟩)), (28, .int .i64 0)]) (L' := [⟨gb0, ((arrV (Value.int .i64) 0 12 b0.f0) ++ ((arrV (Value.int .i64) 0 12 b0.f1) ++ (arrV (Value.int .i64) 0 12 b0.f2))), 58⟩, ⟨gb1, arrV (Value.int .i64) 0 144 b1, 54⟩, ⟨nx0, [.pointer (some ⟨gb0, 0, none⟩)], 64⟩, ⟨nx0 + 1, arrV (Value.int .i64) 0 12 x1, 52⟩, ⟨nx0 + 2, arrV (Value.int .i64) 0 12 x2, 56⟩, ⟨nx0 + 3, arrV Value.bool false 12 (List.replicate 12 false), 70⟩]) (by kernel_rfl) (.cons_cons _ (.cons_cons _ (.cons_cons _ (.cons_cons _ (.cons_cons _ (.cons_cons _ .slnil)))))) (.refl _) ?_
   refine OK.loopInv K37s0_41 (by kernel_rfl) (fun n_ K' I' _ L' X' => ∃ (x39 : List Int) (x40 : Int), K' = [(1, .pointer (some ⟨gb1, 0, none⟩)), (2, .int .i64 a2), (3, .pointer (some ⟨nx0, 0, none⟩)), (6, .pointer (some ⟨nx0 + 1, 0, none⟩)), (7, .pointer (some ⟨nx0 + 2, 0, none⟩)), (8, .pointer (some ⟨nx0 + 3, 0, none⟩)), (28, .int .i64 x40)] ∧ L' = [⟨gb0, ((arrV (Value.int .i64) 0 12 b0.f0) ++ ((arrV (Value.int .i64) 0 12 x39) ++ (arrV (Value.int .i64) 0 12 b0.f2))), 58⟩, ⟨gb1, arrV (Value.int .i64) 0 144 b1, 54⟩, ⟨nx0, [.pointer (some ⟨gb0, 0, none⟩)], 64⟩, ⟨nx0 + 1, arrV (Value.int .i64) 0 12 x1, 52⟩, ⟨nx0 + 2, arrV (Value.int .i64) 0 12 x2, 56⟩, ⟨nx0 + 3, arrV Value.bool false 12 (List.replicate 12 false), 70⟩] ∧ X' = [] ∧ Imm.le I1 I' ∧ 12 ≤ x39.length ∧ assign_solution_augments0.l4 a2 b0 b1 n_ x39 x40 = some y2) k ⟨b0.f1, 0, rfl, rfl, rfl, (Imm.le_refl _), hzb0_1, H⟩ ?_ ?_
   ·rintro _ _ _ _ _ ⟨x39, x40, rfl, rfl, rfl, _, hz32, H⟩
    cases H
   ·rintro kq4 _ I19 nx20 _ _ ⟨x39, x40, rfl, rfl, rfl, hi19, hz32, H⟩ Q_l4 hJ14 hQ14
    replace H : (if x40 < 12 then (if 0 ≤ a2 then (if a2 < (12 : Int) then (if 0 ≤ a2 then (if a2 < (12 : Int) then (if 0 ≤ x40 then (if x40 < (12 : Int) then (if 0 ≤ x40 then (if x40 < (12 : Int) then (if 0 ≤ a2 then (if a2 < (12 : Int) then (assign_solution_augments0.l4 a2 b0 b1 kq4 (x39.set ((a2).toNat) (iMax (x39.getD ((a2).toNat) 0) (W .i64 ((b1.getD ((a2).toNat * 12 + (x40).toNat) 0) - (b0.f2.getD ((x40).toNat) 0))))) (W .i64 (x40 + 1))) else none) else none) else none) else none) else none) else none) else none) else none) else none) else none) else (some x39)) = some y2 := H
    refine OK.seq K37s0_42 K37s0_44 (by kernel_rfl) ?_
    refine OK.region 10 O37s0_42 (by kernel_rfl) ?_
    refine RL.simK (K' := [(29, .bool (decide (x40 < 12))), (1, .pointer (some ⟨gb1, 0, none⟩)), (2, .int .i64 a2), (3, .pointer (some ⟨nx0, 0, none⟩)), (6, .pointer (some ⟨nx0 + 1, 0, none⟩)), (7, .pointer (some ⟨nx0 + 2, 0, none⟩)), (8, .pointer (some ⟨nx0 + 3, 0, none⟩)), (28, .int .i64 x40)]) [] (RFacts.nil _ _ _) 1 [.no] (by kernel_rfl) (by kernel_rfl) ?_
    refine RL.nil (by kernel_rfl) ?_
    refine QN.then_ ?_
    refine OK.seq K37s0_45 K37s0_48 (by kernel_rfl) ?_
    refine OK.cond (.tmp 29) K37s0_46 K37s0_47 (decide (x40 < 12)) (by kernel_rfl) (by kernel_rfl) (by kernel_rfl) (fun hb => ?_) (fun hb => ?_)
    ·skip
     have hc := (of_decide_eq_true hb)
     rw [if_pos hc] at H
     clear hb
     refine OK.skip (by kernel_rfl) ?_
     refine QN.then_ ?_
     refine OK.seq K37s0_49 K37s0_55 (by kernel_rfl) ?_
     refine OK.block 3 K37s0_50 (by kernel_rfl) ?_
     refine OK.seq K37s0_51 K37s0_53 (by kernel_rfl) ?_
     refine OK.region 11 O37s0_51 (by kernel_rfl) ?_
     refine RL.simK (K' := [(10, .int .i64 x40), (1, .pointer (some ⟨gb1, 0, none⟩)), (2, .int .i64 a2), (3, .pointer (some ⟨nx0, 0, none⟩)), (6, .pointer (some ⟨nx0 + 1, 0, none⟩)), (7, .pointer (some ⟨nx0 + 2, 0, none⟩)), (8, .pointer (some ⟨nx0 + 3, 0, none⟩)), (28, .int .i64 x40)]) [] (RFacts.nil _ _ _) 2 [.no, .no] (by kernel_rfl) (by kernel_rfl) ?_
     refine RL.nil (by kernel_rfl) ?_
     refine QN.then_ ?_
     by_cases hi0_8 : 0 ≤ a2
     case neg => rw [if_neg hi0_8] at H; cases H
     rw [if_pos hi0_8] at H
     by_cases hi1_8 : a2 < (12 : Int)
     case neg => rw [if_neg hi1_8] at H; cases H
     rw [if_pos hi1_8] at H
     by_cases hi0_9 : 0 ≤ a2
     case neg => rw [if_neg hi0_9] at H; cases H
     rw [if_pos hi0_9] at H
     by_cases hi1_9 : a2 < (12 : Int)
     case neg => rw [if_neg hi1_9] at H; cases H
     rw [if_pos hi1_9] at H
     by_cases hi0_10 : 0 ≤ x40
     case neg => rw [if_neg hi0_10] at H; cases H
     rw [if_pos hi0_10] at H
     by_cases hi1_10 : x40 < (12 : Int)
     case neg => rw [if_neg hi1_10] at H; cases H
     rw [if_pos hi1_10] at H
     by_cases hi0_11 : 0 ≤ x40
     case neg => rw [if_neg hi0_11] at H; cases H
     rw [if_pos hi0_11] at H
     by_cases hi1_11 : x40 < (12 : Int)
     case neg => rw [if_neg hi1_11] at H; cases H
     rw [if_pos hi1_11] at H
     refine OK.drawnC 12 25 O37s0_53 a37s0_53n (by kernel_rfl) (by kernel_rfl) u37d5l (u37d5g gb0 gb1 a2 x40) [(⟨gb0, 12 + (a2).toNat * 1, none⟩, .int .i64 (x39.getD ((a2).toNat) 0)), (⟨gb1, 0 + (a2).toNat * 12 + (x40).toNat * 1, none⟩, .int .i64 (b1.getD ((a2).toNat * 12 + (x40).toNat) 0)), (⟨gb0, 24 + (x40).toNat * 1, none⟩, .int .i64 (b0.f2.getD ((x40).toNat) 0))] (RI.arr (g := gb0) (ty := 58) (cs := ((arrV (Value.int .i64) 0 12 b0.f0) ++ ((arrV (Value.int .i64) 0 12 x39) ++ (arrV (Value.int .i64) 0 12 b0.f2)))) (Value.int .i64) 0 12 x39 (arrV (Value.int .i64) 0 12 b0.f0) (arrV (Value.int .i64) 0 12 b0.f2) 12 ((a2).toNat) 0 (by kernel_rfl) (by kernel_rfl) (by kernel_rfl) (by omega) (12 + (a2).toNat * 1) (by omega) (RI.arr (g := gb1) (ty := 54) (cs := arrV (Value.int .i64) 0 144 b1) (Value.int .i64) 0 144 b1 [] [] 0 ((a2).toNat * 12 + (x40).toNat) 1 (by kernel_rfl) (by kernel_rfl) (by kernel_rfl) (by omega) (0 + (a2).toNat * 12 + (x40).toNat * 1) (by omega) (RI.arr (g := gb0) (ty := 58) (cs := ((arrV (Value.int .i64) 0 12 b0.f0) ++ ((arrV (Value.int .i64) 0 12 x39) ++ (arrV (Value.int .i64) 0 12 b0.f2)))) (Value.int .i64) 0 12 b0.f2 ((arrV (Value.int .i64) 0 12 b0.f0) ++ (arrV (Value.int .i64) 0 12 x39)) [] 24 ((x40).toNat) 0 (by kernel_rfl) (by kernel_rfl) (by kernel_rfl) (by omega) (24 + (x40).toNat * 1) (by omega) (RI.nil _)))) [.l 2, .no, .l 2, .no, .no, .no, .no, .r 0, .no, .no, .no, .no, .no, .no, .r 1, .l 2, .no, .no, .no, .no, .r 2, .no, .no, .no, .no] a37s0_53 a37s0_53o (by kernel_rfl) (by kernel_rfl) (u37d5s gb0 gb1 a2 b0 b1 x39 x40) (u37d5f nx0 gb0 gb1 a2 b0 b1 x39 x40 25) (u37d5v nx0 gb0 gb1 a2 b0 b1 x1 x2 x39 x40) (u37d5e nx0 gb0 gb1 a2 b0 b1 x1 x2 x39 x40) [] framesOk.nil ?_ [u37d5f nx0 gb0 gb1 a2 b0 b1 x39 x40 6, u37d5f nx0 gb0 gb1 a2 b0 b1 x39 x40 12, u37d5f nx0 gb0 gb1 a2 b0 b1 x39 x40 13, u37d5f nx0 gb0 gb1 a2 b0 b1 x39 x40 19] (framesOk.cons (fun u => rfl) (framesOk.cons (fun u => rfl) (framesOk.cons (fun u => rfl) (framesOk.cons (fun u => rfl) framesOk.nil)))) ?_ ?_
     ·refine LoudsG.nil
     ·refine Givens.cons (fun u w =>  ?_) (fun _ _ _ => rfl) (Givens.cons (fun u w =>  ?_) (fun _ _ _ => rfl) (Givens.cons (fun u w =>  ?_) (fun _ _ _ => rfl) (Givens.cons (fun u w =>  ?_) (fun _ _ _ => rfl) (Givens.nil))))
      ·exact giv_idxArr (T := 52) (e := 2) 1 .i64 a2 gb0 (12) 12 (by kernel_rfl) (by kernel_rfl) (by kernel_rfl) hi0_8 hi1_8 w
      ·exact giv_idxArr (T := 54) (e := 52) 12 .i64 a2 gb1 (0) 12 (by kernel_rfl) (by kernel_rfl) (by kernel_rfl) hi0_9 hi1_9 w
      ·exact giv_idxArr (T := 52) (e := 2) 1 .i64 x40 gb1 (0 + (a2).toNat * 12) 12 (by kernel_rfl) (by kernel_rfl) (by kernel_rfl) hi0_10 hi1_10 w
      ·exact giv_idxArr (T := 52) (e := 2) 1 .i64 x40 gb0 (24) 12 (by kernel_rfl) (by kernel_rfl) (by kernel_rfl) hi0_11 hi1_11 w
     intro u I20 nx21 hi20 hF
     clear hF
     refine RL.norm (K' := ((55, .pointer (some ⟨gb0, 12, none⟩)) :: (54, .pointer (some ⟨gb0, 0, none⟩)) :: (53, .int .i64 (iMax (x39.getD ((a2).toNat) 0) (W .i64 ((b1.getD ((a2).toNat * 12 + (x40).toNat) 0) - (b0.f2.getD ((x40).toNat) 0))))) :: (52, .int .i64 (W .i64 ((b1.getD ((a2).toNat * 12 + (x40).toNat) 0) - (b0.f2.getD ((x40).toNat) 0)))) :: (51, .int .i64 (b0.f2.getD ((x40).toNat) 0)) :: (50, .pointer (some ⟨gb0, 24 + (x40).toNat * 1, none⟩)) :: (49, .pointer (some ⟨gb0, 24, none⟩)) :: (48, .pointer (some ⟨gb0, 0, none⟩)) :: (47, .int .i64 x40) :: (46, .pointer (some ⟨gb0, 0, none⟩)) :: (45, .int .i64 (b1.getD ((a2).toNat * 12 + (x40).toNat) 0)) :: (44, .pointer (some ⟨gb1, 0 + (a2).toNat * 12 + (x40).toNat * 1, none⟩)) :: (43, .pointer (some ⟨gb1, 0 + (a2).toNat * 12, none⟩)) :: (42, .pointer (some ⟨gb1, 0, none⟩)) :: (41, .int .i64 x40) :: (40, .int .i64 a2) :: (39, .pointer (some ⟨gb1, 0, none⟩)) :: (38, .int .i64 (x39.getD ((a2).toNat) 0)) :: (37, .pointer (some ⟨gb0, 12 + (a2).toNat * 1, none⟩)) :: (36, .pointer (some ⟨gb0, 12, none⟩)) :: (35, .pointer (some ⟨gb0, 0, none⟩)) :: (34, .int .i64 a2) :: (33, .pointer (some ⟨gb0, 0, none⟩)) :: (32, .int .i64 a2) :: (31, .pointer (some ⟨gb0, 0, none⟩)) :: (10, .int .i64 x40) :: (1, .pointer (some ⟨gb1, 0, none⟩)) :: (2, .int .i64 a2) :: (3, .pointer (some ⟨nx0, 0, none⟩)) :: (6, .pointer (some ⟨nx0 + 1, 0, none⟩)) :: (7, .pointer (some ⟨nx0 + 2, 0, none⟩)) :: (8, .pointer (some ⟨nx0 + 3, 0, none⟩)) :: (28, .int .i64 x40) :: [])) (X' := []) (by kernel_rfl) rfl rfl rfl ?_
     by_cases hib0 : 0 ≤ a2
     case neg => rw [if_neg hib0] at H; cases H
     rw [if_pos hib0] at H
     by_cases hib1 : a2 < (12 : Int)
     case neg => rw [if_neg hib1] at H; cases H
     rw [if_pos hib1] at H
     have ha012 := hib0; have ha112 := hib1
     refine RL.idxArr (T := 52) (e := 2) 1 .i64 a2 gb0 (12) 12 (some 56) (by kernel_rfl) (by kernel_rfl) (by kernel_rfl) (by kernel_rfl) hib0 hib1 (K' := ((56, .pointer (some ⟨gb0, 12 + (a2).toNat * 1, none⟩)) :: (55, .pointer (some ⟨gb0, 12, none⟩)) :: (54, .pointer (some ⟨gb0, 0, none⟩)) :: (53, .int .i64 (iMax (x39.getD ((a2).toNat) 0) (W .i64 ((b1.getD ((a2).toNat * 12 + (x40).toNat) 0) - (b0.f2.getD ((x40).toNat) 0))))) :: (52, .int .i64 (W .i64 ((b1.getD ((a2).toNat * 12 + (x40).toNat) 0) - (b0.f2.getD ((x40).toNat) 0)))) :: (51, .int .i64 (b0.f2.getD ((x40).toNat) 0)) :: (50, .pointer (some ⟨gb0, 24 + (x40).toNat * 1, none⟩)) :: (49, .pointer (some ⟨gb0, 24, none⟩)) :: (48, .pointer (some ⟨gb0, 0, none⟩)) :: (47, .int .i64 x40) :: (46, .pointer (some ⟨gb0, 0, none⟩)) :: (45, .int .i64 (b1.getD ((a2).toNat * 12 + (x40).toNat) 0)) :: (44, .pointer (some ⟨gb1, 0 + (a2).toNat * 12 + (x40).toNat * 1, none⟩)) :: (43, .pointer (some ⟨gb1, 0 + (a2).toNat * 12, none⟩)) :: (42, .pointer (some ⟨gb1, 0, none⟩)) :: (41, .int .i64 x40) :: (40, .int .i64 a2) :: (39, .pointer (some ⟨gb1, 0, none⟩)) :: (38, .int .i64 (x39.getD ((a2).toNat) 0)) :: (37, .pointer (some ⟨gb0, 12 + (a2).toNat * 1, none⟩)) :: (36, .pointer (some ⟨gb0, 12, none⟩)) :: (35, .pointer (some ⟨gb0, 0, none⟩)) :: (34, .int .i64 a2) :: (33, .pointer (some ⟨gb0, 0, none⟩)) :: (32, .int .i64 a2) :: (31, .pointer (some ⟨gb0, 0, none⟩)) :: (10, .int .i64 x40) :: (1, .pointer (some ⟨gb1, 0, none⟩)) :: (2, .int .i64 a2) :: (3, .pointer (some ⟨nx0, 0, none⟩)) :: (6, .pointer (some ⟨nx0 + 1, 0, none⟩)) :: (7, .pointer (some ⟨nx0 + 2, 0, none⟩)) :: (8, .pointer (some ⟨nx0 + 3, 0, none⟩)) :: (28, .int .i64 x40) :: [])) (by kernel_rfl) ?_
     refine RL.stA (g := gb0) (ty := 58) (cs := ((arrV (Value.int .i64) 0 12 b0.f0) ++ ((arrV (Value.int .i64) 0 12 x39) ++ (arrV (Value.int .i64) 0 12 b0.f2)))) (Value.int .i64) 0 12 x39 (iMax (x39.getD ((a2).toNat) 0) (W .i64 ((b1.getD ((a2).toNat * 12 + (x40).toNat) 0) - (b0.f2.getD ((x40).toNat) 0)))) (arrV (Value.int .i64) 0 12 b0.f0) (arrV (Value.int .i64) 0 12 b0.f2) 12 ((a2).toNat) 0 (by kernel_rfl) (by kernel_rfl) (by kernel_rfl) (by omega) hz32 (12 + (a2).toNat * 1) (by omega) 2 (by kernel_rfl) (by kernel_rfl) (by kernel_rfl) (by rfl) (fun _ h => by cases h) (fun _ h => by cases h) (cs' := ((arrV (Value.int .i64) 0 12 b0.f0) ++ ((arrV (Value.int .i64) 0 12 (x39.set ((a2).toNat) (iMax (x39.getD ((a2).toNat) 0) (W .i64 ((b1.getD ((a2).toNat * 12 + (x40).toNat) 0) - (b0.f2.getD ((x40).toNat) 0)))))) ++ (arrV (Value.int .i64) 0 12 b0.f2)))) (by kernel_rfl) ?_
     refine RL.nil (by kernel_rfl) ?_
     refine QN.sub (K' := [(1, .pointer (some ⟨gb1, 0, none⟩)), (2, .int .i64 a2), (3, .pointer (some ⟨nx0, 0, none⟩)), (6, .pointer (some ⟨nx0 + 1, 0, none⟩)), (7, .pointer (some ⟨nx0 + 2, 0, none⟩)), (8, .pointer (some ⟨nx0 + 3, 0, none⟩)), (28, .int .i64 x40)]) (L' := [⟨gb0, ((arrV (Value.int .i64) 0 12 b0.f0) ++ ((arrV (Value.int .i64) 0 12 (x39.set ((a2).toNat) (iMax (x39.getD ((a2).toNat) 0) (W .i64 ((b1.getD ((a2).toNat * 12 + (x40).toNat) 0) - (b0.f2.getD ((x40).toNat) 0)))))) ++ (arrV (Value.int .i64) 0 12 b0.f2))), 58⟩, ⟨gb1, arrV (Value.int .i64) 0 144 b1, 54⟩, ⟨nx0, [.pointer (some ⟨gb0, 0, none⟩)], 64⟩, ⟨nx0 + 1, arrV (Value.int .i64) 0 12 x1, 52⟩, ⟨nx0 + 2, arrV (Value.int .i64) 0 12 x2, 56⟩, ⟨nx0 + 3, arrV Value.bool false 12 (List.replicate 12 false), 70⟩]) (by kernel_rfl) (.cons_cons _ (.cons_cons _ (.cons_cons _ (.cons_cons _ (.cons_cons _ (.cons_cons _ .slnil)))))) (.refl _) ?_
     refine QN.blkN ?_
     refine QN.then_ ?_
     refine OK.region 13 O37s0_55 (by kernel_rfl) ?_
     refine RL.simK (K' := [(28, .int .i64 (W .i64 (x40 + 1))), (1, .pointer (some ⟨gb1, 0, none⟩)), (2, .int .i64 a2), (3, .pointer (some ⟨nx0, 0, none⟩)), (6, .pointer (some ⟨nx0 + 1, 0, none⟩)), (7, .pointer (some ⟨nx0 + 2, 0, none⟩)), (8, .pointer (some ⟨nx0 + 3, 0, none⟩))]) [] (RFacts.nil _ _ _) 2 [.no, .no] (by kernel_rfl) (by kernel_rfl) ?_
     refine RL.nil (by kernel_rfl) ?_
     refine QN.sub (K' := [(1, .pointer (some ⟨gb1, 0, none⟩)), (2, .int .i64 a2), (3, .pointer (some ⟨nx0, 0, none⟩)), (6, .pointer (some ⟨nx0 + 1, 0, none⟩)), (7, .pointer (some ⟨nx0 + 2, 0, none⟩)), (8, .pointer (some ⟨nx0 + 3, 0, none⟩)), (28, .int .i64 (W .i64 (x40 + 1)))]) (L' := [⟨gb0, ((arrV (Value.int .i64) 0 12 b0.f0) ++ ((arrV (Value.int .i64) 0 12 (x39.set ((a2).toNat) (iMax (x39.getD ((a2).toNat) 0) (W .i64 ((b1.getD ((a2).toNat * 12 + (x40).toNat) 0) - (b0.f2.getD ((x40).toNat) 0)))))) ++ (arrV (Value.int .i64) 0 12 b0.f2))), 58⟩, ⟨gb1, arrV (Value.int .i64) 0 144 b1, 54⟩, ⟨nx0, [.pointer (some ⟨gb0, 0, none⟩)], 64⟩, ⟨nx0 + 1, arrV (Value.int .i64) 0 12 x1, 52⟩, ⟨nx0 + 2, arrV (Value.int .i64) 0 12 x2, 56⟩, ⟨nx0 + 3, arrV Value.bool false 12 (List.replicate 12 false), 70⟩]) (by kernel_rfl) (.cons_cons _ (.cons_cons _ (.cons_cons _ (.cons_cons _ (.cons_cons _ (.cons_cons _ .slnil)))))) (.refl _) ?_
     exact hJ14 _ _ _ _ _ ⟨(x39.set ((a2).toNat) (iMax (x39.getD ((a2).toNat) 0) (W .i64 ((b1.getD ((a2).toNat * 12 + (x40).toNat) 0) - (b0.f2.getD ((x40).toNat) 0))))), W .i64 (x40 + 1), rfl, rfl, rfl, (Imm.le_trans hi19 hi20), (le_set hz32), H⟩
    ·skip
     have hc := (of_decide_eq_false hb)
     rw [if_neg hc] at H
     clear hb
     refine OK.exit 2 (by kernel_rfl) ?_
     refine QN.thenE ?_
     refine QN.outE hQ14 ?_
     refine QN.blkE ?_
     obtain rfl := Option.some.inj H
     refine QN.sub (K' := [(1, .pointer (some ⟨gb1, 0, none⟩)), (2, .int .i64 a2), (3, .pointer (some ⟨nx0, 0, none⟩)), (6, .pointer (some ⟨nx0 + 1, 0, none⟩)), (7, .pointer (some ⟨nx0 + 2, 0, none⟩)), (8, .pointer (some ⟨nx0 + 3, 0, none⟩))]) (L' := [⟨gb0, ((arrV (Value.int .i64) 0 12 b0.f0) ++ ((arrV (Value.int .i64) 0 12 x39) ++ (arrV (Value.int .i64) 0 12 b0.f2))), 58⟩, ⟨gb1, arrV (Value.int .i64) 0 144 b1, 54⟩, ⟨nx0, [.pointer (some ⟨gb0, 0, none⟩)], 64⟩, ⟨nx0 + 1, arrV (Value.int .i64) 0 12 x1, 52⟩, ⟨nx0 + 2, arrV (Value.int .i64) 0 12 x2, 56⟩, ⟨nx0 + 3, arrV Value.bool false 12 (List.replicate 12 false), 70⟩]) (by kernel_rfl) (.cons_cons _ (.cons_cons _ (.cons_cons _ (.cons_cons _ (.cons_cons _ (.cons_cons _ .slnil)))))) (.refl _) ?_
     exact hJ2 _ _ _ _ _ ⟨x39, rfl, rfl, rfl, hi19, hz32, HK2⟩
 ·intro Q_10 hJ1 hQ1
  obtain ⟨y1, H, HK1⟩ := Option.bind_eq_some_iff.mp H
  refine OK.block 0 K37s0_18 (by kernel_rfl) ?_
  refine OK.sub (K' := [(1, .pointer (some ⟨gb1, 0, none⟩)), (2, .int .i64 a2), (3, .pointer (some ⟨nx0, 0, none⟩)), (6, .pointer (some ⟨nx0 + 1, 0, none⟩)), (7, .pointer (some ⟨nx0 + 2, 0, none⟩)), (8, .pointer (some ⟨nx0 + 3, 0, none⟩)), (20, .int .i64 0)]) (L' := [⟨gb0, ((arrV (Value.int .i64) 0 12 b0.f0) ++ ((arrV (Value.int .i64) 0 12 b0.f1) ++ (arrV (Value.int .i64) 0 12 b0.f2))), 58⟩, ⟨gb1, arrV (Value.int .i64) 0 144 b1, 54⟩, ⟨nx0, [.pointer (some ⟨gb0, 0, none⟩)], 64⟩, ⟨nx0 + 1, arrV (Value.int .i64) 0 12 (List.replicate 12 0), 52⟩, ⟨nx0 + 2, arrV (Value.int .i64) 0 12 (List.replicate 12 0), 56⟩, ⟨nx0 + 3, arrV Value.bool false 12 (List.replicate 12 false), 70⟩]) (by kernel_rfl) (.cons_cons _ (.cons_cons _ (.cons_cons _ (.cons_cons _ (.cons_cons _ (.cons_cons _ .slnil)))))) (.refl _) ?_
  refine OK.loopInv K37s0_19 (by kernel_rfl) (fun n_ K' I' _ L' X' => ∃ (x41 : List Int) (x42 : List Int) (x43 : Int), K' = [(1, .pointer (some ⟨gb1, 0, none⟩)), (2, .int .i64 a2), (3, .pointer (some ⟨nx0, 0, none⟩)), (6, .pointer (some ⟨nx0 + 1, 0, none⟩)), (7, .pointer (some ⟨nx0 + 2, 0, none⟩)), (8, .pointer (some ⟨nx0 + 3, 0, none⟩)), (20, .int .i64 x43)] ∧ L' = [⟨gb0, ((arrV (Value.int .i64) 0 12 b0.f0) ++ ((arrV (Value.int .i64) 0 12 b0.f1) ++ (arrV (Value.int .i64) 0 12 b0.f2))), 58⟩, ⟨gb1, arrV (Value.int .i64) 0 144 b1, 54⟩, ⟨nx0, [.pointer (some ⟨gb0, 0, none⟩)], 64⟩, ⟨nx0 + 1, arrV (Value.int .i64) 0 12 x41, 52⟩, ⟨nx0 + 2, arrV (Value.int .i64) 0 12 x42, 56⟩, ⟨nx0 + 3, arrV Value.bool false 12 (List.replicate 12 false), 70⟩] ∧ X' = [] ∧ Imm.le I0 I' ∧ 12 ≤ x41.length ∧ 12 ≤ x42.length ∧ assign_solution_augments0.l5 n_ x41 x42 x43 = some y1) k ⟨(List.replicate 12 0), (List.replicate 12 0), 0, rfl, rfl, rfl, (Imm.le_refl _), (Nat.le_of_eq List.length_replicate.symm), (Nat.le_of_eq List.length_replicate.symm), H⟩ ?_ ?_
  ·rintro _ _ _ _ _ ⟨x41, x42, x43, rfl, rfl, rfl, _, hz33, hz34, H⟩
   cases H
  ·rintro kq5 _ I21 nx22 _ _ ⟨x41, x42, x43, rfl, rfl, rfl, hi21, hz33, hz34, H⟩ Q_l5 hJ15 hQ15
   replace H : (if x43 < 12 then (if 0 ≤ x43 then (if x43 < (12 : Int) then (if 0 ≤ x43 then (if x43 < (12 : Int) then (assign_solution_augments0.l5 kq5 (x41.set ((x43).toNat) 1152921504606846976) (x42.set ((x43).toNat) (-1)) (W .i64 (x43 + 1))) else none) else none) else none) else none) else (some (x41, x42))) = some y1 := H
   refine OK.seq K37s0_20 K37s0_22 (by kernel_rfl) ?_
   refine OK.region 5 O37s0_20 (by kernel_rfl) ?_
   refine RL.simK (K' := [(21, .bool (decide (x43 < 12))), (1, .pointer (some ⟨gb1, 0, none⟩)), (2, .int .i64 a2), (3, .pointer (some ⟨nx0, 0, none⟩)), (6, .pointer (some ⟨nx0 + 1, 0, none⟩)), (7, .pointer (some ⟨nx0 + 2, 0, none⟩)), (8, .pointer (some ⟨nx0 + 3, 0, none⟩)), (20, .int .i64 x43)]) [] (RFacts.nil _ _ _) 1 [.no] (by kernel_rfl) (by kernel_rfl) ?_
   refine RL.nil (by kernel_rfl) ?_
   refine QN.then_ ?_
   refine OK.seq K37s0_23 K37s0_26 (by kernel_rfl) ?_
   refine OK.cond (.tmp 21) K37s0_24 K37s0_25 (decide (x43 < 12)) (by kernel_rfl) (by kernel_rfl) (by kernel_rfl) (fun hb => ?_) (fun hb => ?_)
   ·skip
    have hc := (of_decide_eq_true hb)
    rw [if_pos hc] at H
    clear hb
    refine OK.skip (by kernel_rfl) ?_
    refine QN.then_ ?_
    refine OK.seq K37s0_27 K37s0_33 (by kernel_rfl) ?_
    refine OK.block 1 K37s0_28 (by kernel_rfl) ?_
    refine OK.seq K37s0_29 K37s0_31 (by kernel_rfl) ?_
    refine OK.region 6 O37s0_29 (by kernel_rfl) ?_
    refine RL.simK (K' := [(9, .int .i64 x43), (1, .pointer (some ⟨gb1, 0, none⟩)), (2, .int .i64 a2), (3, .pointer (some ⟨nx0, 0, none⟩)), (6, .pointer (some ⟨nx0 + 1, 0, none⟩)), (7, .pointer (some ⟨nx0 + 2, 0, none⟩)), (8, .pointer (some ⟨nx0 + 3, 0, none⟩)), (20, .int .i64 x43)]) [] (RFacts.nil _ _ _) 2 [.no, .no] (by kernel_rfl) (by kernel_rfl) ?_
    refine RL.nil (by kernel_rfl) ?_
    refine QN.then_ ?_
    refine OK.region 7 O37s0_31 (by kernel_rfl) ?_
    refine RL.simK (K' := [(24, .int .i64 x43), (23, .int .i64 x43), (1, .pointer (some ⟨gb1, 0, none⟩)), (2, .int .i64 a2), (3, .pointer (some ⟨nx0, 0, none⟩)), (6, .pointer (some ⟨nx0 + 1, 0, none⟩)), (7, .pointer (some ⟨nx0 + 2, 0, none⟩)), (8, .pointer (some ⟨nx0 + 3, 0, none⟩)), (20, .int .i64 x43)]) [] (RFacts.nil _ _ _) 2 [.no, .no] (by kernel_rfl) (by kernel_rfl) ?_
    by_cases hib0 : 0 ≤ x43
    case neg => rw [if_neg hib0] at H; cases H
    rw [if_pos hib0] at H
    by_cases hib1 : x43 < (12 : Int)
    case neg => rw [if_neg hib1] at H; cases H
    rw [if_pos hib1] at H
    have ha013 := hib0; have ha113 := hib1
    refine RL.idxArr (T := 52) (e := 2) 1 .i64 x43 (nx0 + 1) (0) 12 (some 25) (by kernel_rfl) (by kernel_rfl) (by kernel_rfl) (by kernel_rfl) hib0 hib1 (K' := [(25, .pointer (some ⟨nx0 + 1, 0 + (x43).toNat * 1, none⟩)), (24, .int .i64 x43), (23, .int .i64 x43), (1, .pointer (some ⟨gb1, 0, none⟩)), (2, .int .i64 a2), (3, .pointer (some ⟨nx0, 0, none⟩)), (6, .pointer (some ⟨nx0 + 1, 0, none⟩)), (7, .pointer (some ⟨nx0 + 2, 0, none⟩)), (8, .pointer (some ⟨nx0 + 3, 0, none⟩)), (20, .int .i64 x43)]) (by kernel_rfl) ?_
    refine RL.stA (g := nx0 + 1) (ty := 52) (cs := arrV (Value.int .i64) 0 12 x41) (Value.int .i64) 0 12 x41 1152921504606846976 [] [] 0 ((x43).toNat) 3 (by kernel_rfl) (by kernel_rfl) (by kernel_rfl) (by omega) hz33 (0 + (x43).toNat * 1) (by omega) 2 (by kernel_rfl) (by kernel_rfl) (by kernel_rfl) (by rfl) (fun _ h => by cases h) (fun _ h => by cases h) (cs' := arrV (Value.int .i64) 0 12 (x41.set ((x43).toNat) 1152921504606846976)) (by kernel_rfl) ?_
    by_cases hib0 : 0 ≤ x43
    case neg => rw [if_neg hib0] at H; cases H
    rw [if_pos hib0] at H
    by_cases hib1 : x43 < (12 : Int)
    case neg => rw [if_neg hib1] at H; cases H
    rw [if_pos hib1] at H
    have ha014 := hib0; have ha114 := hib1
    refine RL.idxArr (T := 56) (e := 3) 1 .i64 x43 (nx0 + 2) (0) 12 (some 26) (by kernel_rfl) (by kernel_rfl) (by kernel_rfl) (by kernel_rfl) hib0 hib1 (K' := [(26, .pointer (some ⟨nx0 + 2, 0 + (x43).toNat * 1, none⟩)), (25, .pointer (some ⟨nx0 + 1, 0 + (x43).toNat * 1, none⟩)), (24, .int .i64 x43), (23, .int .i64 x43), (1, .pointer (some ⟨gb1, 0, none⟩)), (2, .int .i64 a2), (3, .pointer (some ⟨nx0, 0, none⟩)), (6, .pointer (some ⟨nx0 + 1, 0, none⟩)), (7, .pointer (some ⟨nx0 + 2, 0, none⟩)), (8, .pointer (some ⟨nx0 + 3, 0, none⟩)), (20, .int .i64 x43)]) (by kernel_rfl) ?_
    refine RL.stA (g := nx0 + 2) (ty := 56) (cs := arrV (Value.int .i64) 0 12 x42) (Value.int .i64) 0 12 x42 (-1) [] [] 0 ((x43).toNat) 4 (by kernel_rfl) (by kernel_rfl) (by kernel_rfl) (by omega) hz34 (0 + (x43).toNat * 1) (by omega) 3 (by kernel_rfl) (by kernel_rfl) (by kernel_rfl) (by rfl) (fun _ h => by cases h) (fun _ h => by cases h) (cs' := arrV (Value.int .i64) 0 12 (x42.set ((x43).toNat) (-1))) (by kernel_rfl) ?_
    refine RL.nil (by kernel_rfl) ?_
    refine QN.sub (K' := [(1, .pointer (some ⟨gb1, 0, none⟩)), (2, .int .i64 a2), (3, .pointer (some ⟨nx0, 0, none⟩)), (6, .pointer (some ⟨nx0 + 1, 0, none⟩)), (7, .pointer (some ⟨nx0 + 2, 0, none⟩)), (8, .pointer (some ⟨nx0 + 3, 0, none⟩)), (20, .int .i64 x43)]) (L' := [⟨gb0, ((arrV (Value.int .i64) 0 12 b0.f0) ++ ((arrV (Value.int .i64) 0 12 b0.f1) ++ (arrV (Value.int .i64) 0 12 b0.f2))), 58⟩, ⟨gb1, arrV (Value.int .i64) 0 144 b1, 54⟩, ⟨nx0, [.pointer (some ⟨gb0, 0, none⟩)], 64⟩, ⟨nx0 + 1, arrV (Value.int .i64) 0 12 (x41.set ((x43).toNat) 1152921504606846976), 52⟩, ⟨nx0 + 2, arrV (Value.int .i64) 0 12 (x42.set ((x43).toNat) (-1)), 56⟩, ⟨nx0 + 3, arrV Value.bool false 12 (List.replicate 12 false), 70⟩]) (by kernel_rfl) (.cons_cons _ (.cons_cons _ (.cons_cons _ (.cons_cons _ (.cons_cons _ (.cons_cons _ .slnil)))))) (.refl _) ?_
    refine QN.blkN ?_
    refine QN.then_ ?_
    refine OK.region 8 O37s0_33 (by kernel_rfl) ?_
    refine RL.simK (K' := [(20, .int .i64 (W .i64 (x43 + 1))), (1, .pointer (some ⟨gb1, 0, none⟩)), (2, .int .i64 a2), (3, .pointer (some ⟨nx0, 0, none⟩)), (6, .pointer (some ⟨nx0 + 1, 0, none⟩)), (7, .pointer (some ⟨nx0 + 2, 0, none⟩)), (8, .pointer (some ⟨nx0 + 3, 0, none⟩))]) [] (RFacts.nil _ _ _) 2 [.no, .no] (by kernel_rfl) (by kernel_rfl) ?_
    refine RL.nil (by kernel_rfl) ?_
    refine QN.sub (K' := [(1, .pointer (some ⟨gb1, 0, none⟩)), (2, .int .i64 a2), (3, .pointer (some ⟨nx0, 0, none⟩)), (6, .pointer (some ⟨nx0 + 1, 0, none⟩)), (7, .pointer (some ⟨nx0 + 2, 0, none⟩)), (8, .pointer (some ⟨nx0 + 3, 0, none⟩)), (20, .int .i64 (W .i64 (x43 + 1)))]) (L' := [⟨gb0, ((arrV (Value.int .i64) 0 12 b0.f0) ++ ((arrV (Value.int .i64) 0 12 b0.f1) ++ (arrV (Value.int .i64) 0 12 b0.f2))), 58⟩, ⟨gb1, arrV (Value.int .i64) 0 144 b1, 54⟩, ⟨nx0, [.pointer (some ⟨gb0, 0, none⟩)], 64⟩, ⟨nx0 + 1, arrV (Value.int .i64) 0 12 (x41.set ((x43).toNat) 1152921504606846976), 52⟩, ⟨nx0 + 2, arrV (Value.int .i64) 0 12 (x42.set ((x43).toNat) (-1)), 56⟩, ⟨nx0 + 3, arrV Value.bool false 12 (List.replicate 12 false), 70⟩]) (by kernel_rfl) (.cons_cons _ (.cons_cons _ (.cons_cons _ (.cons_cons _ (.cons_cons _ (.cons_cons _ .slnil)))))) (.refl _) ?_
    exact hJ15 _ _ _ _ _ ⟨(x41.set ((x43).toNat) 1152921504606846976), (x42.set ((x43).toNat) (-1)), W .i64 (x43 + 1), rfl, rfl, rfl, hi21, (le_set hz33), (le_set hz34), H⟩
   ·skip
    have hc := (of_decide_eq_false hb)
    rw [if_neg hc] at H
    clear hb
    refine OK.exit 0 (by kernel_rfl) ?_
    refine QN.thenE ?_
    refine QN.outE hQ15 ?_
    refine QN.blkE ?_
    obtain rfl := Option.some.inj H
    refine QN.sub (K' := [(1, .pointer (some ⟨gb1, 0, none⟩)), (2, .int .i64 a2), (3, .pointer (some ⟨nx0, 0, none⟩)), (6, .pointer (some ⟨nx0 + 1, 0, none⟩)), (7, .pointer (some ⟨nx0 + 2, 0, none⟩)), (8, .pointer (some ⟨nx0 + 3, 0, none⟩))]) (L' := [⟨gb0, ((arrV (Value.int .i64) 0 12 b0.f0) ++ ((arrV (Value.int .i64) 0 12 b0.f1) ++ (arrV (Value.int .i64) 0 12 b0.f2))), 58⟩, ⟨gb1, arrV (Value.int .i64) 0 144 b1, 54⟩, ⟨nx0, [.pointer (some ⟨gb0, 0, none⟩)], 64⟩, ⟨nx0 + 1, arrV (Value.int .i64) 0 12 x41, 52⟩, ⟨nx0 + 2, arrV (Value.int .i64) 0 12 x42, 56⟩, ⟨nx0 + 3, arrV Value.bool false 12 (List.replicate 12 false), 70⟩]) (by kernel_rfl) (.cons_cons _ (.cons_cons _ (.cons_cons _ (.cons_cons _ (.cons_cons _ (.cons_cons _ .slnil)))))) (.refl _) ?_
    exact hJ1 _ _ _ _ _ ⟨x41, x42, rfl, rfl, rfl, hi21, hz33, hz34, HK1⟩

end Go.Proofs.Ytdmhbcgmimfjcaa
namespace Go.Proofs.Ytdmhbcgmimfjcaa
open Go Go.Proofs.Ytdmhbcgmimfjcaa.RW
set_option linter.unusedVariables false
set_option maxRecDepth 100000
set_option maxHeartbeats 8000000

/-! ### assign_hungarians0: function 31, armillary/assign.hungarian -/
noncomputable def K31s0_0 : Code := cBody Try.f31
noncomputable def K31s0_1 : Code := cL K31s0_0
noncomputable def O31s0_1 : List Oper := cOps K31s0_1
noncomputable def K31s0_3 : Code := cR K31s0_0
noncomputable def K31s0_4 : Code := cL K31s0_3
noncomputable def O31s0_4 : List Oper := cOps K31s0_4
noncomputable def K31s0_6 : Code := cR K31s0_3
noncomputable def K31s0_7 : Code := cL K31s0_6
noncomputable def K31s0_8 : Code := cL K31s0_7
noncomputable def O31s0_8 : List Oper := cOps K31s0_8
noncomputable def K31s0_10 : Code := cR K31s0_7
noncomputable def K31s0_11 : Code := cL K31s0_10
noncomputable def K31s0_12 : Code := cL K31s0_11
noncomputable def K31s0_13 : Code := cL K31s0_12
noncomputable def O31s0_13 : List Oper := cOps K31s0_13
noncomputable def K31s0_15 : Code := cR K31s0_12
noncomputable def K31s0_16 : Code := cL K31s0_15
noncomputable def K31s0_17 : Code := cL K31s0_16
noncomputable def K31s0_18 : Code := cR K31s0_16
noncomputable def K31s0_19 : Code := cR K31s0_15
noncomputable def K31s0_20 : Code := cL K31s0_19
noncomputable def K31s0_21 : Code := cL K31s0_20
noncomputable def K31s0_22 : Code := cL K31s0_21
noncomputable def O31s0_22 : List Oper := cOps K31s0_22
noncomputable def K31s0_24 : Code := cR K31s0_21
noncomputable def O31s0_24 : List Oper := cOps K31s0_24
noncomputable def K31s0_26 : Code := cR K31s0_19
noncomputable def O31s0_26 : List Oper := cOps K31s0_26
noncomputable def K31s0_28 : Code := cR K31s0_6
noncomputable def K31s0_29 : Code := cL K31s0_28
noncomputable def K31s0_30 : Code := cL K31s0_29
noncomputable def O31s0_30 : List Oper := cOps K31s0_30
noncomputable def K31s0_32 : Code := cR K31s0_29
noncomputable def K31s0_33 : Code := cL K31s0_32
noncomputable def K31s0_34 : Code := cL K31s0_33
noncomputable def K31s0_35 : Code := cL K31s0_34
noncomputable def O31s0_35 : List Oper := cOps K31s0_35
noncomputable def K31s0_37 : Code := cR K31s0_34
noncomputable def K31s0_38 : Code := cL K31s0_37
noncomputable def K31s0_39 : Code := cL K31s0_38
noncomputable def K31s0_40 : Code := cR K31s0_38
noncomputable def K31s0_41 : Code := cR K31s0_37
noncomputable def K31s0_42 : Code := cL K31s0_41
noncomputable def K31s0_43 : Code := cL K31s0_42
noncomputable def K31s0_44 : Code := cL K31s0_43
noncomputable def O31s0_44 : List Oper := cOps K31s0_44
noncomputable def K31s0_46 : Code := cR K31s0_43
noncomputable def O31s0_46 : List Oper := cOps K31s0_46
noncomputable def K31s0_48 : Code := cR K31s0_41
noncomputable def O31s0_48 : List Oper := cOps K31s0_48
noncomputable def K31s0_50 : Code := cR K31s0_28
noncomputable def K31s0_51 : Code := cL K31s0_50
noncomputable def O31s0_51 : List Oper := cOps K31s0_51
noncomputable def K31s0_53 : Code := cR K31s0_50
def assign_hungarians0.k1  : List Int × List Int × List Int → Option (S58)
 | (x2, x3, x4) => (some (⟨x2, x3, x4⟩ : S58))
def assign_hungarians0.l1 (b0 : List Int) : Nat → (List Int) → (List Int) → (List Int) → Int → Option (List Int × List Int × List Int)
 | 0, _, _, _, _ => none
 | k + 1, x5, x6, x7, x8 => (if x8 < 12 then ((assign_solution_augments0.f k x8 (⟨x5, x6, x7⟩ : S58) b0).bind fun t1 => (assign_hungarians0.l1 b0 k t1.f0 t1.f1 t1.f2 (W .i64 (x8 + 1)))) else (some (x5, x6, x7)))
def assign_hungarians0.k2 (k : Nat) (b0 : List Int) (x1 : List Int) : Option (S58) := ((assign_hungarians0.l1 b0 k x1 (List.replicate 12 0) (List.replicate 12 0) 0).bind (assign_hungarians0.k1))
def assign_hungarians0.l2 : Nat → (List Int) → Int → Option (List Int)
 | 0, _, _ => none
 | k + 1, x9, x10 => (if x10 < 12 then (if 0 ≤ x10 then (if x10 < (12 : Int) then (assign_hungarians0.l2 k (x9.set ((x10).toNat) (-1)) (W .i64 (x10 + 1))) else none) else none) else (some x9))
def assign_hungarians0.f (k : Nat) (b0 : List Int) : Option (S58) := ((assign_hungarians0.l2 k (List.replicate 12 0) 0).bind (assign_hungarians0.k2 k b0))
def assign_hungarians0.Post (S : Nat → Prop) (gb0 : Nat) (b0 : List Int) (I : Imm) (w : World) (r : S58) (v : Value) (w' : World) : Prop :=
 ∃ (J : Imm), v = .agg (((arrV (Value.int .i64) 0 12 r.f0) ++ ((arrV (Value.int .i64) 0 12 r.f1) ++ (arrV (Value.int .i64) 0 12 r.f2)))).toArray ∧ Sat ⟨w, S, I⟩ J w'.heap.size [⟨gb0, arrV (Value.int .i64) 0 144 b0, 54⟩] [] w' ∧ 12 ≤ r.f0.length ∧ 12 ≤ r.f1.length ∧ 12 ≤ r.f2.length
theorem assign_hungarians0.calls (k : Nat) (I0 : Imm) (gb0 : Nat) (b0 : List Int) (w : World) (hs : Sat ⟨w, SM [⟨gb0, arrV (Value.int .i64) 0 144 b0, 54⟩] [], I0⟩ I0 w.heap.size [⟨gb0, arrV (Value.int .i64) 0 144 b0, 54⟩] [] w) (hzb0 : 144 ≤ b0.length) (r : S58) (h : assign_hungarians0.f k b0 = some r) :
  Calls Try.prog 31 [.pointer (some ⟨gb0, 0, none⟩)].toArray w fun e w' => ∃ v, e = .returned v ∧ assign_hungarians0.Post (SM [⟨gb0, arrV (Value.int .i64) 0 144 b0, 54⟩] []) gb0 b0 I0 w r v w' := by
 have H : ((assign_hungarians0.l2 k (List.replicate 12 0) 0).bind (assign_hungarians0.k2 k b0)) = some r := h
 clear h
 refine calls_bodyL Try.func31 (by kernel_rfl) 21 (by kernel_rfl) (by kernel_rfl) ⟨w, SM [⟨gb0, arrV (Value.int .i64) 0 144 b0, 54⟩] [], I0⟩ I0 [⟨gb0, arrV (Value.int .i64) 0 144 b0, 54⟩] [] [(0, .pointer (some ⟨gb0, 0, none⟩))] (by kernel_rfl) hs ?_
 generalize w.heap.size = nx0
 show OK _ K31s0_0 _ _ _ _ _ _ _ _
 refine OK.seq K31s0_1 K31s0_3 (by kernel_rfl) ?_
 refine OK.region 0 O31s0_1 (by kernel_rfl) ?_
 refine RL.simP (K' := [(2, .pointer (some ⟨nx0, 0, none⟩)), (0, .pointer (some ⟨gb0, 0, none⟩))]) (nx' := nx0 + 1) (L' := [⟨gb0, arrV (Value.int .i64) 0 144 b0, 54⟩, ⟨nx0, ((arrV (Value.int .i64) 0 12 (List.replicate 12 0)) ++ ((arrV (Value.int .i64) 0 12 (List.replicate 12 0)) ++ (arrV (Value.int .i64) 0 12 (List.replicate 12 0)))), 58⟩]) [] (RFacts.nil _ _ _) 1 [.no] (by kernel_rfl) (by kernel_rfl) ?_
 refine RL.nil (by kernel_rfl) ?_
 refine QN.then_ ?_
 refine OK.seq K31s0_4 K31s0_6 (by kernel_rfl) ?_
 refine OK.region 1 O31s0_4 (by kernel_rfl) ?_
 refine RL.simP (K' := [(3, .pointer (some ⟨nx0 + 1, 0, none⟩)), (2, .pointer (some ⟨nx0, 0, none⟩)), (0, .pointer (some ⟨gb0, 0, none⟩))]) (nx' := nx0 + 2) (L' := [⟨gb0, arrV (Value.int .i64) 0 144 b0, 54⟩, ⟨nx0, ((arrV (Value.int .i64) 0 12 (List.replicate 12 0)) ++ ((arrV (Value.int .i64) 0 12 (List.replicate 12 0)) ++ (arrV (Value.int .i64) 0 12 (List.replicate 12 0)))), 58⟩, ⟨nx0 + 1, ((arrV (Value.int .i64) 0 12 (List.replicate 12 0)) ++ ((arrV (Value.int .i64) 0 12 (List.replicate 12 0)) ++ (arrV (Value.int .i64) 0 12 (List.replicate 12 0)))), 58⟩]) [] (RFacts.nil _ _ _) 1 [.no] (by kernel_rfl) (by kernel_rfl) ?_
 refine RL.nil (by kernel_rfl) ?_
 refine QN.then_ ?_
 refine OK.seq K31s0_7 K31s0_28 (by kernel_rfl) ?_
 refine OK.seq K31s0_8 K31s0_10 (by kernel_rfl) ?_
 refine OK.region 2 O31s0_8 (by kernel_rfl) ?_
 refine RL.simK (K' := [(6, .int .i64 0), (3, .pointer (some ⟨nx0 + 1, 0, none⟩)), (2, .pointer (some ⟨nx0, 0, none⟩)), (0, .pointer (some ⟨gb0, 0, none⟩))]) [] (RFacts.nil _ _ _) 1 [.no] (by kernel_rfl) (by kernel_rfl) ?_
 refine RL.nil (by kernel_rfl) ?_
 refine QN.then_ ?_
 refine OK.join (fun K' I' _ L' X' => ∃ (x1 : List Int), K' = [(0, .pointer (some ⟨gb0, 0, none⟩)), (2, .pointer (some ⟨nx0, 0, none⟩)), (3, .pointer (some ⟨nx0 + 1, 0, none⟩))] ∧ L' = [⟨gb0, arrV (Value.int .i64) 0 144 b0, 54⟩, ⟨nx0, ((arrV (Value.int .i64) 0 12 (List.replicate 12 0)) ++ ((arrV (Value.int .i64) 0 12 (List.replicate 12 0)) ++ (arrV (Value.int .i64) 0 12 (List.replicate 12 0)))), 58⟩, ⟨nx0 + 1, ((arrV (Value.int .i64) 0 12 x1) ++ ((arrV (Value.int .i64) 0 12 (List.replicate 12 0)) ++ (arrV (Value.int .i64) 0 12 (List.replicate 12 0)))), 58⟩] ∧ X' = [] ∧ Imm.le I0 I' ∧ 12 ≤ x1.length ∧ assign_hungarians0.k2 k b0 x1 = some r) ?_ ?_
 ·rintro _ I1 nx1 _ _ ⟨x1, rfl, rfl, rfl, hi1, hz1, H⟩
  replace H : ((assign_hungarians0.l1 b0 k x1 (List.replicate 12 0) (List.replicate 12 0) 0).bind (assign_hungarians0.k1)) = some r := H
  refine QN.then_ ?_
  refine OK.seq K31s0_29 K31s0_50 (by kernel_rfl) ?_
  refine OK.seq K31s0_30 K31s0_32 (by kernel_rfl) ?_
  refine OK.region 7 O31s0_30 (by kernel_rfl) ?_
  refine RL.simK (K' := [(13, .int .i64 0), (0, .pointer (some ⟨gb0, 0, none⟩)), (2, .pointer (some ⟨nx0, 0, none⟩)), (3, .pointer (some ⟨nx0 + 1, 0, none⟩))]) [] (RFacts.nil _ _ _) 1 [.no] (by kernel_rfl) (by kernel_rfl) ?_
  refine RL.nil (by kernel_rfl) ?_
  refine QN.then_ ?_
  refine OK.join (fun K' I' _ L' X' => ∃ (x2 : List Int) (x3 : List Int) (x4 : List Int), K' = [(2, .pointer (some ⟨nx0, 0, none⟩)), (3, .pointer (some ⟨nx0 + 1, 0, none⟩))] ∧ L' = [⟨gb0, arrV (Value.int .i64) 0 144 b0, 54⟩, ⟨nx0, ((arrV (Value.int .i64) 0 12 (List.replicate 12 0)) ++ ((arrV (Value.int .i64) 0 12 (List.replicate 12 0)) ++ (arrV (Value.int .i64) 0 12 (List.replicate 12 0)))), 58⟩, ⟨nx0 + 1, ((arrV (Value.int .i64) 0 12 x2) ++ ((arrV (Value.int .i64) 0 12 x3) ++ (arrV (Value.int .i64) 0 12 x4))), 58⟩] ∧ X' = [] ∧ Imm.le I1 I' ∧ 12 ≤ x2.length ∧ 12 ≤ x3.length ∧ 12 ≤ x4.length ∧ assign_hungarians0.k1 (x2, x3, x4) = some r) ?_ ?_
  ·rintro _ I2 nx2 _ _ ⟨x2, x3, x4, rfl, rfl, rfl, hi2, hz2, hz3, hz4, H⟩
   replace H : (some (⟨x2, x3, x4⟩ : S58)) = some r := H
   refine QN.then_ ?_
   refine OK.seq K31s0_51 K31s0_53 (by kernel_rfl) ?_
   refine OK.region 12 O31s0_51 (by kernel_rfl) ?_
   refine RL.simP (K' := [(2, .pointer (some ⟨nx0, 0, none⟩))]) (nx' := nx2) (L' := [⟨gb0, arrV (Value.int .i64) 0 144 b0, 54⟩, ⟨nx0, ((arrV (Value.int .i64) 0 12 x2) ++ ((arrV (Value.int .i64) 0 12 x3) ++ (arrV (Value.int .i64) 0 12 x4))), 58⟩, ⟨nx0 + 1, ((arrV (Value.int .i64) 0 12 x2) ++ ((arrV (Value.int .i64) 0 12 x3) ++ (arrV (Value.int .i64) 0 12 x4))), 58⟩]) [] (RFacts.nil _ _ _) 2 [.l 2, .l 1] (by kernel_rfl) (by kernel_rfl) ?_
   refine RL.nil (by kernel_rfl) ?_
   refine QN.then_ ?_
   refine OK.ret (by kernel_rfl) ?_
   obtain rfl := Option.some.inj H
   refine QN.body rfl [] (RFacts.nil _ _ _) (.l 1) (.agg (((arrV (Value.int .i64) 0 12 x2) ++ ((arrV (Value.int .i64) 0 12 x3) ++ (arrV (Value.int .i64) 0 12 x4)))).toArray) (by kernel_rfl) (by kernel_rfl) (by kernel_rfl) ?_ _ (.inr rfl)
   exact fun w' hs' => ⟨_, rfl, I2, rfl, ((hs'.fin.selB [0] (by kernel_rfl)).sel [] (by kernel_rfl)), hz2, hz3, hz4⟩
  ·intro Q_1 hJ2 hQ2
   obtain ⟨y2, H, HK2⟩ := Option.bind_eq_some_iff.mp H
   refine OK.block 2 K31s0_33 (by kernel_rfl) ?_
   refine OK.sub (K' := [(0, .pointer (some ⟨gb0, 0, none⟩)), (2, .pointer (some ⟨nx0, 0, none⟩)), (3, .pointer (some ⟨nx0 + 1, 0, none⟩)), (13, .int .i64 0)]) (L' := [⟨gb0, arrV (Value.int .i64) 0 144 b0, 54⟩, ⟨nx0, ((arrV (Value.int .i64) 0 12 (List.replicate 12 0)) ++ ((arrV (Value.int .i64) 0 12 (List.replicate 12 0)) ++ (arrV (Value.int .i64) 0 12 (List.replicate 12 0)))), 58⟩, ⟨nx0 + 1, ((arrV (Value.int .i64) 0 12 x1) ++ ((arrV (Value.int .i64) 0 12 (List.replicate 12 0)) ++ (arrV (Value.int .i64) 0 12 (List.replicate 12 0)))), 58⟩]) (by kernel_rfl) (.cons_cons _ (.cons_cons _ (.cons_cons _ .slnil))) (.refl _) ?_
   refine OK.loopInv K31s0_34 (by kernel_rfl) (fun n_ K' I' _ L' X' => ∃ (x5 : List Int) (x6 : List Int) (x7 : List Int) (x8 : Int), K' = [(0, .pointer (some ⟨gb0, 0, none⟩)), (2, .pointer (some ⟨nx0, 0, none⟩)), (3, .pointer (some ⟨nx0 + 1, 0, none⟩)), (13, .int .i64 x8)] ∧ L' = [⟨gb0, arrV (Value.int .i64) 0 144 b0, 54⟩, ⟨nx0, ((arrV (Value.int .i64) 0 12 (List.replicate 12 0)) ++ ((arrV (Value.int .i64) 0 12 (List.replicate 12 0)) ++ (arrV (Value.int .i64) 0 12 (List.replicate 12 0)))), 58⟩, ⟨nx0 + 1, ((arrV (Value.int .i64) 0 12 x5) ++ ((arrV (Value.int .i64) 0 12 x6) ++ (arrV (Value.int .i64) 0 12 x7))), 58⟩] ∧ X' = [] ∧ Imm.le I1 I' ∧ 12 ≤ x5.length ∧ 12 ≤ x6.length ∧ 12 ≤ x7.length ∧ assign_hungarians0.l1 b0 n_ x5 x6 x7 x8 = some y2) k ⟨x1, (List.replicate 12 0), (List.replicate 12 0), 0, rfl, rfl, rfl, (Imm.le_refl _), hz1, (Nat.le_of_eq List.length_replicate.symm), (Nat.le_of_eq List.length_replicate.symm), H⟩ ?_ ?_
   ·rintro _ _ _ _ _ ⟨x5, x6, x7, x8, rfl, rfl, rfl, _, hz5, hz6, hz7, H⟩
    cases H
   ·rintro kq1 _ I3 nx3 _ _ ⟨x5, x6, x7, x8, rfl, rfl, rfl, hi3, hz5, hz6, hz7, H⟩ Q_l1 hJ3 hQ3
    replace H : (if x8 < 12 then ((assign_solution_augments0.f kq1 x8 (⟨x5, x6, x7⟩ : S58) b0).bind fun t1 => (assign_hungarians0.l1 b0 kq1 t1.f0 t1.f1 t1.f2 (W .i64 (x8 + 1)))) else (some (x5, x6, x7))) = some y2 := H
    refine OK.seq K31s0_35 K31s0_37 (by kernel_rfl) ?_
    refine OK.region 8 O31s0_35 (by kernel_rfl) ?_
    refine RL.simK (K' := [(14, .bool (decide (x8 < 12))), (0, .pointer (some ⟨gb0, 0, none⟩)), (2, .pointer (some ⟨nx0, 0, none⟩)), (3, .pointer (some ⟨nx0 + 1, 0, none⟩)), (13, .int .i64 x8)]) [] (RFacts.nil _ _ _) 1 [.no] (by kernel_rfl) (by kernel_rfl) ?_
    refine RL.nil (by kernel_rfl) ?_
    refine QN.then_ ?_
    refine OK.seq K31s0_38 K31s0_41 (by kernel_rfl) ?_
    refine OK.cond (.tmp 14) K31s0_39 K31s0_40 (decide (x8 < 12)) (by kernel_rfl) (by kernel_rfl) (by kernel_rfl) (fun hb => ?_) (fun hb => ?_)
    ·skip
     have hc := (of_decide_eq_true hb)
     rw [if_pos hc] at H
     clear hb
     refine OK.skip (by kernel_rfl) ?_
     refine QN.then_ ?_
     refine OK.seq K31s0_42 K31s0_48 (by kernel_rfl) ?_
     refine OK.block 3 K31s0_43 (by kernel_rfl) ?_
     refine OK.seq K31s0_44 K31s0_46 (by kernel_rfl) ?_
     refine OK.region 9 O31s0_44 (by kernel_rfl) ?_
     refine RL.simK (K' := [(5, .int .i64 x8), (0, .pointer (some ⟨gb0, 0, none⟩)), (2, .pointer (some ⟨nx0, 0, none⟩)), (3, .pointer (some ⟨nx0 + 1, 0, none⟩)), (13, .int .i64 x8)]) [] (RFacts.nil _ _ _) 2 [.no, .no] (by kernel_rfl) (by kernel_rfl) ?_
     refine RL.nil (by kernel_rfl) ?_
     refine QN.then_ ?_
     refine OK.region 10 O31s0_46 (by kernel_rfl) ?_
     refine RL.simK (K' := [(17, .int .i64 x8), (16, .pointer (some ⟨gb0, 0, none⟩)), (0, .pointer (some ⟨gb0, 0, none⟩)), (2, .pointer (some ⟨nx0, 0, none⟩)), (3, .pointer (some ⟨nx0 + 1, 0, none⟩)), (13, .int .i64 x8)]) [] (RFacts.nil _ _ _) 2 [.no, .no] (by kernel_rfl) (by kernel_rfl) ?_
     refine RL.arrange (L' := [⟨nx0 + 1, ((arrV (Value.int .i64) 0 12 x5) ++ ((arrV (Value.int .i64) 0 12 x6) ++ (arrV (Value.int .i64) 0 12 x7))), 58⟩, ⟨gb0, arrV (Value.int .i64) 0 144 b0, 54⟩, ⟨nx0, ((arrV (Value.int .i64) 0 12 (List.replicate 12 0)) ++ ((arrV (Value.int .i64) 0 12 (List.replicate 12 0)) ++ (arrV (Value.int .i64) 0 12 (List.replicate 12 0)))), 58⟩]) (X' := []) [2, 0, 1] [] (by kernel_rfl) (by kernel_rfl) (by kernel_rfl) (by kernel_rfl) ?_
     obtain ⟨t1, hA1, H⟩ := Option.bind_eq_some_iff.mp H
     refine RL.callM (L1 := [⟨nx0 + 1, ((arrV (Value.int .i64) 0 12 x5) ++ ((arrV (Value.int .i64) 0 12 x6) ++ (arrV (Value.int .i64) 0 12 x7))), 58⟩, ⟨gb0, arrV (Value.int .i64) 0 144 b0, 54⟩]) (L2 := [⟨nx0, ((arrV (Value.int .i64) 0 12 (List.replicate 12 0)) ++ ((arrV (Value.int .i64) 0 12 (List.replicate 12 0)) ++ (arrV (Value.int .i64) 0 12 (List.replicate 12 0)))), 58⟩]) (X1 := []) (X2 := []) rfl rfl 37 [.pointer (some ⟨nx0 + 1, 0, none⟩), .pointer (some ⟨gb0, 0, none⟩), .int .i64 x8] (some 18) (fun w => assign_solution_augments0.Post (SM [⟨nx0 + 1, ((arrV (Value.int .i64) 0 12 x5) ++ ((arrV (Value.int .i64) 0 12 x6) ++ (arrV (Value.int .i64) 0 12 x7))), 58⟩, ⟨gb0, arrV (Value.int .i64) 0 144 b0, 54⟩] []) (nx0 + 1) gb0 x8 (⟨x5, x6, x7⟩ : S58) b0 I3 w t1) (by kernel_rfl) (by kernel_rfl) (fun w hs => assign_solution_augments0.calls kq1 I3 (nx0 + 1) gb0 x8 (⟨x5, x6, x7⟩ : S58) b0 w hs hz5 hz6 hz7 hzb0 t1 hA1) ?_
     rintro w v w' hs ⟨I4, rfl, hg, hz8, hz9, hz10⟩
     have hi4 : Imm.le I3 I4 := hg.le
     refine RL.resume (L' := [⟨nx0 + 1, ((arrV (Value.int .i64) 0 12 t1.f0) ++ ((arrV (Value.int .i64) 0 12 t1.f1) ++ (arrV (Value.int .i64) 0 12 t1.f2))), 58⟩, ⟨gb0, arrV (Value.int .i64) 0 144 b0, 54⟩, ⟨nx0, ((arrV (Value.int .i64) 0 12 (List.replicate 12 0)) ++ ((arrV (Value.int .i64) 0 12 (List.replicate 12 0)) ++ (arrV (Value.int .i64) 0 12 (List.replicate 12 0)))), 58⟩]) (X' := []) rfl (hs.outof hg) ?_
     clear hs hg
     generalize w'.heap.size = nx4
     clear w w'
     refine RL.nil (by kernel_rfl) ?_
     refine QN.sub (K' := [(0, .pointer (some ⟨gb0, 0, none⟩)), (2, .pointer (some ⟨nx0, 0, none⟩)), (3, .pointer (some ⟨nx0 + 1, 0, none⟩)), (13, .int .i64 x8)]) (L' := [⟨nx0 + 1, ((arrV (Value.int .i64) 0 12 t1.f0) ++ ((arrV (Value.int .i64) 0 12 t1.f1) ++ (arrV (Value.int .i64) 0 12 t1.f2))), 58⟩, ⟨gb0, arrV (Value.int .i64) 0 144 b0, 54⟩, ⟨nx0, ((arrV (Value.int .i64) 0 12 (List.replicate 12 0)) ++ ((arrV (Value.int .i64) 0 12 (List.replicate 12 0)) ++ (arrV (Value.int .i64) 0 12 (List.replicate 12 0)))), 58⟩]) (by kernel_rfl) (.cons_cons _ (.cons_cons _ (.cons_cons _ .slnil))) (.refl _) ?_
     refine QN.blkN ?_
     refine QN.then_ ?_
     refine OK.region 11 O31s0_48 (by kernel_rfl) ?_
     refine RL.simK (K' := [(13, .int .i64 (W .i64 (x8 + 1))), (0, .pointer (some ⟨gb0, 0, none⟩)), (2, .pointer (some ⟨nx0, 0, none⟩)), (3, .pointer (some ⟨nx0 + 1, 0, none⟩))]) [] (RFacts.nil _ _ _) 2 [.no, .no] (by kernel_rfl) (by kernel_rfl) ?_
     refine RL.nil (by kernel_rfl) ?_
     refine QN.arrange (L' := [⟨gb0, arrV (Value.int .i64) 0 144 b0, 54⟩, ⟨nx0, ((arrV (Value.int .i64) 0 12 (List.replicate 12 0)) ++ ((arrV (Value.int .i64) 0 12 (List.replicate 12 0)) ++ (arrV (Value.int .i64) 0 12 (List.replicate 12 0)))), 58⟩, ⟨nx0 + 1, ((arrV (Value.int .i64) 0 12 t1.f0) ++ ((arrV (Value.int .i64) 0 12 t1.f1) ++ (arrV (Value.int .i64) 0 12 t1.f2))), 58⟩]) (X' := []) [1, 2, 0] [] (by kernel_rfl) (by kernel_rfl) (by kernel_rfl) (by kernel_rfl) ?_
     refine QN.sub (K' := [(0, .pointer (some ⟨gb0, 0, none⟩)), (2, .pointer (some ⟨nx0, 0, none⟩)), (3, .pointer (some ⟨nx0 + 1, 0, none⟩)), (13, .int .i64 (W .i64 (x8 + 1)))]) (L' := [⟨gb0, arrV (Value.int .i64) 0 144 b0, 54⟩, ⟨nx0, ((arrV (Value.int .i64) 0 12 (List.replicate 12 0)) ++ ((arrV (Value.int .i64) 0 12 (List.replicate 12 0)) ++ (arrV (Value.int .i64) 0 12 (List.replicate 12 0)))), 58⟩, ⟨nx0 + 1, ((arrV (Value.int .i64) 0 12 t1.f0) ++ ((arrV (Value.int .i64) 0 12 t1.f1) ++ (arrV (Value.int .i64) 0 12 t1.f2))), 58⟩]) (by kernel_rfl) (.cons_cons _ (.cons_cons _ (.cons_cons _ .slnil))) (.refl _) ?_
     exact hJ3 _ _ _ _ _ ⟨t1.f0, t1.f1, t1.f2, W .i64 (x8 + 1), rfl, rfl, rfl, (Imm.le_trans hi3 hi4), hz8, hz9, hz10, H⟩
    ·skip
     have hc := (of_decide_eq_false hb)
     rw [if_neg hc] at H
     clear hb
     refine OK.exit 2 (by kernel_rfl) ?_
     refine QN.thenE ?_
     refine QN.outE hQ3 ?_
     refine QN.blkE ?_
     obtain rfl := Option.some.inj H
     refine QN.sub (K' := [(2, .pointer (some ⟨nx0, 0, none⟩)), (3, .pointer (some ⟨nx0 + 1, 0, none⟩))]) (L' := [⟨gb0, arrV (Value.int .i64) 0 144 b0, 54⟩, ⟨nx0, ((arrV (Value.int .i64) 0 12 (List.replicate 12 0)) ++ ((arrV (Value.int .i64) 0 12 (List.replicate 12 0)) ++ (arrV (Value.int .i64) 0 12 (List.replicate 12 0)))), 58⟩, ⟨nx0 + 1, ((arrV (Value.int .i64) 0 12 x5) ++ ((arrV (Value.int .i64) 0 12 x6) ++ (arrV (Value.int .i64) 0 12 x7))), 58⟩]) (by kernel_rfl) (.cons_cons _ (.cons_cons _ (.cons_cons _ .slnil))) (.refl _) ?_
     exact hJ2 _ _ _ _ _ ⟨x5, x6, x7, rfl, rfl, rfl, hi3, hz5, hz6, hz7, HK2⟩
 ·intro Q_2 hJ1 hQ1
  obtain ⟨y1, H, HK1⟩ := Option.bind_eq_some_iff.mp H
  refine OK.block 0 K31s0_11 (by kernel_rfl) ?_
  refine OK.sub (K' := [(0, .pointer (some ⟨gb0, 0, none⟩)), (2, .pointer (some ⟨nx0, 0, none⟩)), (3, .pointer (some ⟨nx0 + 1, 0, none⟩)), (6, .int .i64 0)]) (L' := [⟨gb0, arrV (Value.int .i64) 0 144 b0, 54⟩, ⟨nx0, ((arrV (Value.int .i64) 0 12 (List.replicate 12 0)) ++ ((arrV (Value.int .i64) 0 12 (List.replicate 12 0)) ++ (arrV (Value.int .i64) 0 12 (List.replicate 12 0)))), 58⟩, ⟨nx0 + 1, ((arrV (Value.int .i64) 0 12 (List.replicate 12 0)) ++ ((arrV (Value.int .i64) 0 12 (List.replicate 12 0)) ++ (arrV (Value.int .i64) 0 12 (List.replicate 12 0)))), 58⟩]) (by kernel_rfl) (.cons_cons _ (.cons_cons _ (.cons_cons _ .slnil))) (.refl _) ?_
  refine OK.loopInv K31s0_12 (by kernel_rfl) (fun n_ K' I' _ L' X' => ∃ (x9 : List Int) (x10 : Int), K' = [(0, .pointer (some ⟨gb0, 0, none⟩)), (2, .pointer (some ⟨nx0, 0, none⟩)), (3, .pointer (some ⟨nx0 + 1, 0, none⟩)), (6, .int .i64 x10)] ∧ L' = [⟨gb0, arrV (Value.int .i64) 0 144 b0, 54⟩, ⟨nx0, ((arrV (Value.int .i64) 0 12 (List.replicate 12 0)) ++ ((arrV (Value.int .i64) 0 12 (List.replicate 12 0)) ++ (arrV (Value.int .i64) 0 12 (List.replicate 12 0)))), 58⟩, ⟨nx0 + 1, ((arrV (Value.int .i64) 0 12 x9) ++ ((arrV (Value.int .i64) 0 12 (List.replicate 12 0)) ++ (arrV (Value.int .i64) 0 12 (List.replicate 12 0)))), 58⟩] ∧ X' = [] ∧ Imm.le I0 I' ∧ 12 ≤ x9.length ∧ assign_hungarians0.l2 n_ x9 x10 = some y1) k ⟨(List.replicate 12 0), 0, rfl, rfl, rfl, (Imm.le_refl _), (Nat.le_of_eq List.length_replicate.symm), H⟩ ?_ ?_
  ·rintro _ _ _ _ _ ⟨x9, x10, rfl, rfl, rfl, _, hz11, H⟩
   cases H
  ·rintro kq2 _ I5 nx5 _ _ ⟨x9, x10, rfl, rfl, rfl, hi5, hz11, H⟩ Q_l2 hJ4 hQ4
   replace H : (if x10 < 12 then (if 0 ≤ x10 then (if x10 < (12 : Int) then (assign_hungarians0.l2 kq2 (x9.set ((x10).toNat) (-1)) (W .i64 (x10 + 1))) else none) else none) else (some x9)) = some y1 := H
   refine OK.seq K31s0_13 K31s0_15 (by kernel_rfl) ?_
   refine OK.region 3 O31s0_13 (by kernel_rfl) ?_
   refine RL.simK (K' := [(7, .bool (decide (x10 < 12))), (0, .pointer (some ⟨gb0, 0, none⟩)), (2, .pointer (some ⟨nx0, 0, none⟩)), (3, .pointer (some ⟨nx0 + 1, 0, none⟩)), (6, .int .i64 x10)]) [] (RFacts.nil _ _ _) 1 [.no] (by kernel_rfl) (by kernel_rfl) ?_
   refine RL.nil (by kernel_rfl) ?_
   refine QN.then_ ?_
   refine OK.seq K31s0_16 K31s0_19 (by kernel_rfl) ?_
   refine OK.cond (.tmp 7) K31s0_17 K31s0_18 (decide (x10 < 12)) (by kernel_rfl) (by kernel_rfl) (by kernel_rfl) (fun hb => ?_) (fun hb => ?_)
   ·skip
    have hc := (of_decide_eq_true hb)
    rw [if_pos hc] at H
    clear hb
    refine OK.skip (by kernel_rfl) ?_
    refine QN.then_ ?_
    refine OK.seq K31s0_20 K31s0_26 (by kernel_rfl) ?_
    refine OK.block 1 K31s0_21 (by kernel_rfl) ?_
    refine OK.seq K31s0_22 K31s0_24 (by kernel_rfl) ?_
    refine OK.region 4 O31s0_22 (by kernel_rfl) ?_
    refine RL.simK (K' := [(4, .int .i64 x10), (0, .pointer (some ⟨gb0, 0, none⟩)), (2, .pointer (some ⟨nx0, 0, none⟩)), (3, .pointer (some ⟨nx0 + 1, 0, none⟩)), (6, .int .i64 x10)]) [] (RFacts.nil _ _ _) 2 [.no, .no] (by kernel_rfl) (by kernel_rfl) ?_
    refine RL.nil (by kernel_rfl) ?_
    refine QN.then_ ?_
    refine OK.region 5 O31s0_24 (by kernel_rfl) ?_
    refine RL.simK (K' := [(10, .pointer (some ⟨nx0 + 1, 0, none⟩)), (9, .int .i64 x10), (0, .pointer (some ⟨gb0, 0, none⟩)), (2, .pointer (some ⟨nx0, 0, none⟩)), (3, .pointer (some ⟨nx0 + 1, 0, none⟩)), (6, .int .i64 x10)]) [] (RFacts.nil _ _ _) 2 [.no, .no] (by kernel_rfl) (by kernel_rfl) ?_
    by_cases hib0 : 0 ≤ x10
    case neg => rw [if_neg hib0] at H; cases H
    rw [if_pos hib0] at H
    by_cases hib1 : x10 < (12 : Int)
    case neg => rw [if_neg hib1] at H; cases H
    rw [if_pos hib1] at H
    have ha01 := hib0; have ha11 := hib1
    refine RL.idxArr (T := 56) (e := 3) 1 .i64 x10 (nx0 + 1) (0) 12 (some 11) (by kernel_rfl) (by kernel_rfl) (by kernel_rfl) (by kernel_rfl) hib0 hib1 (K' := [(11, .pointer (some ⟨nx0 + 1, 0 + (x10).toNat * 1, none⟩)), (10, .pointer (some ⟨nx0 + 1, 0, none⟩)), (9, .int .i64 x10), (0, .pointer (some ⟨gb0, 0, none⟩)), (2, .pointer (some ⟨nx0, 0, none⟩)), (3, .pointer (some ⟨nx0 + 1, 0, none⟩)), (6, .int .i64 x10)]) (by kernel_rfl) ?_
    refine RL.stA (g := nx0 + 1) (ty := 58) (cs := ((arrV (Value.int .i64) 0 12 x9) ++ ((arrV (Value.int .i64) 0 12 (List.replicate 12 0)) ++ (arrV (Value.int .i64) 0 12 (List.replicate 12 0))))) (Value.int .i64) 0 12 x9 (-1) [] ((arrV (Value.int .i64) 0 12 (List.replicate 12 0)) ++ (arrV (Value.int .i64) 0 12 (List.replicate 12 0))) 0 ((x10).toNat) 2 (by kernel_rfl) (by kernel_rfl) (by kernel_rfl) (by omega) hz11 (0 + (x10).toNat * 1) (by omega) 3 (by kernel_rfl) (by kernel_rfl) (by kernel_rfl) (by rfl) (fun _ h => by cases h) (fun _ h => by cases h) (cs' := ((arrV (Value.int .i64) 0 12 (x9.set ((x10).toNat) (-1))) ++ ((arrV (Value.int .i64) 0 12 (List.replicate 12 0)) ++ (arrV (Value.int .i64) 0 12 (List.replicate 12 0))))) (by kernel_rfl) ?_
    refine RL.nil (by kernel_rfl) ?_
    refine QN.sub (K' := [(0, .pointer (some ⟨gb0, 0, none⟩)), (2, .pointer (some ⟨nx0, 0, none⟩)), (3, .pointer (some ⟨nx0 + 1, 0, none⟩)), (6, .int .i64 x10)]) (L' := [⟨gb0, arrV (Value.int .i64) 0 144 b0, 54⟩, ⟨nx0, ((arrV (Value.int .i64) 0 12 (List.replicate 12 0)) ++ ((arrV (Value.int .i64) 0 12 (List.replicate 12 0)) ++ (arrV (Value.int .i64) 0 12 (List.replicate 12 0)))), 58⟩, ⟨nx0 + 1, ((arrV (Value.int .i64) 0 12 (x9.set ((x10).toNat) (-1))) ++ ((arrV (Value.int .i64) 0 12 (List.replicate 12 0)) ++ (arrV (Value.int .i64) 0 12 (List.replicate 12 0)))), 58⟩]) (by kernel_rfl) (.cons_cons _ (.cons_cons _ (.cons_cons _ .slnil))) (.refl _) ?_
    refine QN.blkN ?_
    refine QN.then_ ?_
    refine OK.region 6 O31s0_26 (by kernel_rfl) ?_
    refine RL.simK (K' := [(6, .int .i64 (W .i64 (x10 + 1))), (0, .pointer (some ⟨gb0, 0, none⟩)), (2, .pointer (some ⟨nx0, 0, none⟩)), (3, .pointer (some ⟨nx0 + 1, 0, none⟩))]) [] (RFacts.nil _ _ _) 2 [.no, .no] (by kernel_rfl) (by kernel_rfl) ?_
    refine RL.nil (by kernel_rfl) ?_
    refine QN.sub (K' := [(0, .pointer (some ⟨gb0, 0, none⟩)), (2, .pointer (some ⟨nx0, 0, none⟩)), (3, .pointer (some ⟨nx0 + 1, 0, none⟩)), (6, .int .i64 (W .i64 (x10 + 1)))]) (L' := [⟨gb0, arrV (Value.int .i64) 0 144 b0, 54⟩, ⟨nx0, ((arrV (Value.int .i64) 0 12 (List.replicate 12 0)) ++ ((arrV (Value.int .i64) 0 12 (List.replicate 12 0)) ++ (arrV (Value.int .i64) 0 12 (List.replicate 12 0)))), 58⟩, ⟨nx0 + 1, ((arrV (Value.int .i64) 0 12 (x9.set ((x10).toNat) (-1))) ++ ((arrV (Value.int .i64) 0 12 (List.replicate 12 0)) ++ (arrV (Value.int .i64) 0 12 (List.replicate 12 0)))), 58⟩]) (by kernel_rfl) (.cons_cons _ (.cons_cons _ (.cons_cons _ .slnil))) (.refl _) ?_
    exact hJ4 _ _ _ _ _ ⟨(x9.set ((x10).toNat) (-1)), W .i64 (x10 + 1), rfl, rfl, rfl, hi5, (le_set hz11), H⟩
   ·skip
    have hc := (of_decide_eq_false hb)
    rw [if_neg hc] at H
    clear hb
    refine OK.exit 0 (by kernel_rfl) ?_
    refine QN.thenE ?_
    refine QN.outE hQ4 ?_
    refine QN.blkE ?_
    obtain rfl := Option.some.inj H
    refine QN.sub (K' := [(0, .pointer (some ⟨gb0, 0, none⟩)), (2, .pointer (some ⟨nx0, 0, none⟩)), (3, .pointer (some ⟨nx0 + 1, 0, none⟩))]) (L' := [⟨gb0, arrV (Value.int .i64) 0 144 b0, 54⟩, ⟨nx0, ((arrV (Value.int .i64) 0 12 (List.replicate 12 0)) ++ ((arrV (Value.int .i64) 0 12 (List.replicate 12 0)) ++ (arrV (Value.int .i64) 0 12 (List.replicate 12 0)))), 58⟩, ⟨nx0 + 1, ((arrV (Value.int .i64) 0 12 x9) ++ ((arrV (Value.int .i64) 0 12 (List.replicate 12 0)) ++ (arrV (Value.int .i64) 0 12 (List.replicate 12 0)))), 58⟩]) (by kernel_rfl) (.cons_cons _ (.cons_cons _ (.cons_cons _ .slnil))) (.refl _) ?_
    exact hJ1 _ _ _ _ _ ⟨x9, rfl, rfl, rfl, hi5, hz11, HK1⟩

end Go.Proofs.Ytdmhbcgmimfjcaa
