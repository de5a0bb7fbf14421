/- Words of the walk, the functions' walks and plain laws, joined; no conditions beyond those that the theorems name. -/
import Derived.Test.YtdmhbcgmimfjcaaX32
import Derived.Test.YtdmhbcgmimfjcaaX37
import Derived.Test.YtdmhbcgmimfjcaaX35
import Derived.Test.YtdmhbcgmimfjcaaX36
import Derived.Test.YtdmhbcgmimfjcaaX34
import Derived.ChangeArms
import Derived.DataReads
import Derived.OpenShut
namespace Go.Proofs.Ytdmhbcgmimfjcaa
open Go Go.Proofs.Ytdmhbcgmimfjcaa.RW
set_option linter.unusedVariables false
set_option maxRecDepth 100000
set_option maxHeartbeats 8000000

/-! ### armillarylaw22_AssignMatchesReference: function 3, armillary/armillarylaw22.AssignMatchesReference -/
noncomputable def K3_0 : Code := cBody Try.f3
noncomputable def O3_29 : List Oper := cOps (cL (cR (cR (cR (cR (cR (cR (cR K3_0))))))))
def armillarylaw22_AssignMatchesReference.k1  (x2 : Bool) : Option (Bool) := (some x2)
def armillarylaw22_AssignMatchesReference.k2 (k : Nat) (a0 : List (List Int)) (a1 : List Int) (a2 : S26) (t1 : Bool) (x1 : Bool) : Option (Bool) := (if x1 = true then (some false) else ((armillaryref22_Made.f k a0 7 6).bind fun t2 => ((assign_Solve.f k t2).bind fun t3 => ((assign_Value.f k t2 a1).bind fun t4 => ((armillaryref22_Value.f k t2 a1).bind fun t5 => (((armillaryref22_Solve.f k t2).bind fun t6 => ((armillaryref22_Same.f k t3.1 t6).bind fun t7 => (if t7 = true then ((armillaryref22_VerifyDuals.f k t2 t3.1 t3.2).bind fun t8 => (if t8 = true then (if t4.1 = t5.1 then (if (t4.2 == t5.2) = true then ((assign_VerifyDuals.f k t2 a1 a2).bind fun t9 => ((armillaryref22_VerifyDuals.f k t2 a1 a2).bind fun t10 => (if (t9 == t10) = true then ((assign_VerifyDuals.f k t2 t3.1 a2).bind fun t11 => ((armillaryref22_VerifyDuals.f k t2 t3.1 a2).bind fun t12 => (if (t11 == t12) = true then (some t1) else (some false)))) else (some false)))) else (some false)) else (some false)) else (some false))) else (some false)))).bind (armillarylaw22_AssignMatchesReference.k1)))))))
def armillarylaw22_AssignMatchesReference.f (k : Nat) (a0 : List (List Int)) (a1 : List Int) (a2 : S26) : Option (Bool) := ((armillarylaw22_sanity.f k ).bind fun t1 => ((if (a0.length : Int) ≤ 20 then ((assign_Valid.f k a0).bind fun t13 => ((armillaryref22_Valid.f k a0).bind fun t14 => (some (!(t13 == t14))))) else (some false)).bind (armillarylaw22_AssignMatchesReference.k2 k a0 a1 a2 t1)))
def armillarylaw22_AssignMatchesReference.Post (I : Imm) (w : World) (r : Bool) (v : Value) (w' : World) : Prop :=
 ∃ (J : Imm), v = .bool r ∧ Got w w' I J []
noncomputable def a3_29n : List Nat := (0 :: 0 :: 2 :: 7 :: 15 :: 31 :: 31 :: 31 :: 255 :: 511 :: 1023 :: 2047 :: 2047 :: 8191 :: 16383 :: 32767 :: 65535 :: 65535 :: 262143 :: 524287 :: 1048575 :: 2097151 :: 2097151 :: 2097151 :: 16777215 :: 2097151 :: 2097151 :: 2097151 :: 268435455 :: 536870911 :: 1073741823 :: 2147483647 :: 4294967295 :: 4294967295 :: 4294967295 :: 34359738367 :: 4294967295 :: 4294967295 :: 4294967295 :: 549755813887 :: 1099511627775 :: 2199023255551 :: 4398046511103 :: 8796093022207 :: 17592186044415 :: 35184372088831 :: [])
theorem a3_29 : ancs O3_29 [] = a3_29n := by kernel_rfl
theorem a3_29o : drawOk O3_29 a3_29n 39 = true := by kernel_rfl
noncomputable def u3d1l (t6 : List Int) (t7 : Bool) (t8 : Bool) (t9 : Bool) (t10 : Bool) (t11 : Bool) : List Ld :=
 [⟨2, fun x => .slice ((x 0).1) t6.length ((x 0).2.1), fun x => [], fun x J => t6.length ≤ (x 0).2.1 ∧ Rd (Ty.int .i64) J (x 0).1 t6 ∧ True, fun x J J' h f => ⟨f.1, Rd.ext h f.2.1, trivial⟩⟩,
  ⟨3, fun x => .bool t7, fun x => [], fun x J => True, fun x J J' h f => trivial⟩,
  ⟨8, fun x => .bool t8, fun x => [], fun x J => True, fun x J J' h f => trivial⟩,
  ⟨24, fun x => .bool t9, fun x => [], fun x J => True, fun x J J' h f => trivial⟩,
  ⟨28, fun x => .bool t10, fun x => [], fun x J => True, fun x J J' h f => trivial⟩,
  ⟨35, fun x => .bool t11, fun x => [], fun x J => True, fun x J J' h f => trivial⟩]
noncomputable def u3d1g  : List (Nat × ((Nat → Wt) → Value)) := [(4, fun u => .bool true), (10, fun u => .bool true), (15, fun u => .bool true), (20, fun u => .bool true), (31, fun u => .bool true)]
noncomputable def u3d1q (a1 : List Int) (Ap1 : Option Addr) (cp1 : Nat) (a2 : S26) (Ap2_0 : Option Addr) (cp2_0 : Nat) (Ap2_1 : Option Addr) (cp2_1 : Nat) (nx0 : Nat) (t1 : Bool) (t2 : List (List Int)) (A1 : Option Addr) (c1 : Nat) (t3 : List Int × S26) (A2 : Option Addr) (c2 : Nat) (A3 : Option Addr) (c3 : Nat) (A4 : Option Addr) (c4 : Nat) (nx4 : Nat) (t4 : Int × Bool) (t5 : Int × Bool) (t6 : List Int) (t7 : Bool) (t8 : Bool) (t9 : Bool) (t10 : Bool) (t11 : Bool) (u : Nat → Wt) : Option (List Value × List (Nat × Value) × List (Nat × Nat)) := qSim Try.prog [] [⟨nx0, [.slice Ap2_0 a2.f0.length cp2_0, .slice Ap2_1 a2.f1.length cp2_1], 26⟩, ⟨nx4, [.slice A3 t3.2.f0.length c3, .slice A4 t3.2.f1.length c4], 26⟩] O3_29 ⟨90, []⟩ (Ld.vl (u3d1l t6 t7 t8 t9 t10 t11)) u3d1g u (.no :: .no :: .no :: .no :: .no :: .no :: .no :: .l 1 :: .no :: .no :: .no :: .no :: .no :: .no :: .no :: .no :: .no :: .no :: .no :: .no :: .no :: .no :: .no :: .l 0 :: .no :: .no :: .no :: .l 0 :: .no :: .no :: .no :: .no :: .no :: .no :: .l 0 :: .no :: .no :: .no :: .l 0 :: []) 0 (O3_29.take 39) [(14, .bool t5.2), (13, i6 t5.1), (12, .bool t4.2), (11, i6 t4.1), (9, .slice A2 t3.1.length c2), (10, pt nx4 0), (8, .slice A1 t2.length c1), (1, .slice Ap1 a1.length cp1), (5, pt nx0 0), (7, .bool t1)]
noncomputable def u3d1s (a1 : List Int) (Ap1 : Option Addr) (cp1 : Nat) (a2 : S26) (Ap2_0 : Option Addr) (cp2_0 : Nat) (Ap2_1 : Option Addr) (cp2_1 : Nat) (t2 : List (List Int)) (A1 : Option Addr) (c1 : Nat) (t3 : List Int × S26) (A2 : Option Addr) (c2 : Nat) (A3 : Option Addr) (c3 : Nat) (A4 : Option Addr) (c4 : Nat) (t4 : Int × Bool) (t5 : Int × Bool) (t6 : List Int) (t7 : Bool) (t8 : Bool) (t9 : Bool) (t10 : Bool) (t11 : Bool) (u : Nat → Wt) : List Value := (.slice A2 t3.1.length c2 :: .slice A1 t2.length c1 :: .slice ((u 2 0).1) t6.length ((u 2 0).2.1) :: .bool t7 :: .bool true :: .slice A1 t2.length c1 :: .slice A2 t3.1.length c2 :: .agg #[.slice A3 t3.2.f0.length c3, .slice A4 t3.2.f1.length c4] :: .bool t8 :: .bool t8 :: .bool true :: i6 t4.1 :: i6 t5.1 :: .bool (t4.1 == t5.1) :: .bool (t4.1 == t5.1) :: .bool true :: .bool t4.2 :: .bool t5.2 :: .bool (t4.2 == t5.2) :: .bool (t4.2 == t5.2) :: .bool true :: .slice A1 t2.length c1 :: .slice Ap1 a1.length cp1 :: .agg #[.slice Ap2_0 a2.f0.length cp2_0, .slice Ap2_1 a2.f1.length cp2_1] :: .bool t9 :: .slice A1 t2.length c1 :: .slice Ap1 a1.length cp1 :: .agg #[.slice Ap2_0 a2.f0.length cp2_0, .slice Ap2_1 a2.f1.length cp2_1] :: .bool t10 :: .bool (t9 == t10) :: .bool (t9 == t10) :: .bool true :: .slice A1 t2.length c1 :: .slice A2 t3.1.length c2 :: .agg #[.slice Ap2_0 a2.f0.length cp2_0, .slice Ap2_1 a2.f1.length cp2_1] :: .bool t11 :: .slice A1 t2.length c1 :: .slice A2 t3.1.length c2 :: .agg #[.slice Ap2_0 a2.f0.length cp2_0, .slice Ap2_1 a2.f1.length cp2_1] :: [])
noncomputable def u3d1f (a1 : List Int) (Ap1 : Option Addr) (cp1 : Nat) (a2 : S26) (Ap2_0 : Option Addr) (cp2_0 : Nat) (Ap2_1 : Option Addr) (cp2_1 : Nat) (nx0 : Nat) (t1 : Bool) (t2 : List (List Int)) (A1 : Option Addr) (c1 : Nat) (t3 : List Int × S26) (A2 : Option Addr) (c2 : Nat) (A3 : Option Addr) (c3 : Nat) (A4 : Option Addr) (c4 : Nat) (nx4 : Nat) (t4 : Int × Bool) (t5 : Int × Bool) (t6 : List Int) (t7 : Bool) (t8 : Bool) (t9 : Bool) (t10 : Bool) (t11 : Bool) (i : Nat) (u : Nat → Wt) : List (Nat × Value) := foldPut ⟨90, []⟩ [(14, .bool t5.2), (13, i6 t5.1), (12, .bool t4.2), (11, i6 t4.1), (9, .slice A2 t3.1.length c2), (10, pt nx4 0), (8, .slice A1 t2.length c1), (1, .slice Ap1 a1.length cp1), (5, pt nx0 0), (7, .bool t1)] (O3_29.take i) (((u3d1s a1 Ap1 cp1 a2 Ap2_0 cp2_0 Ap2_1 cp2_1 t2 A1 c1 t3 A2 c2 A3 c3 A4 c4 t4 t5 t6 t7 t8 t9 t10 t11) u).take i)
theorem u3d1v (a1 : List Int) (Ap1 : Option Addr) (cp1 : Nat) (a2 : S26) (Ap2_0 : Option Addr) (cp2_0 : Nat) (Ap2_1 : Option Addr) (cp2_1 : Nat) (nx0 : Nat) (t1 : Bool) (t2 : List (List Int)) (A1 : Option Addr) (c1 : Nat) (t3 : List Int × S26) (A2 : Option Addr) (c2 : Nat) (A3 : Option Addr) (c3 : Nat) (A4 : Option Addr) (c4 : Nat) (nx4 : Nat) (t4 : Int × Bool) (t5 : Int × Bool) (t6 : List Int) (t7 : Bool) (t8 : Bool) (t9 : Bool) (t10 : Bool) (t11 : Bool) (u : Nat → Wt) : (u3d1q a1 Ap1 cp1 a2 Ap2_0 cp2_0 Ap2_1 cp2_1 nx0 t1 t2 A1 c1 t3 A2 c2 A3 c3 A4 c4 nx4 t4 t5 t6 t7 t8 t9 t10 t11 u).map (fun x => (x.1, x.2.1)) = some ((u3d1s a1 Ap1 cp1 a2 Ap2_0 cp2_0 Ap2_1 cp2_1 t2 A1 c1 t3 A2 c2 A3 c3 A4 c4 t4 t5 t6 t7 t8 t9 t10 t11) u, (u3d1f a1 Ap1 cp1 a2 Ap2_0 cp2_0 Ap2_1 cp2_1 nx0 t1 t2 A1 c1 t3 A2 c2 A3 c3 A4 c4 nx4 t4 t5 t6 t7 t8 t9 t10 t11 39) u) := by kernel_rfl
theorem u3d1e (a1 : List Int) (Ap1 : Option Addr) (cp1 : Nat) (a2 : S26) (Ap2_0 : Option Addr) (cp2_0 : Nat) (Ap2_1 : Option Addr) (cp2_1 : Nat) (nx0 : Nat) (t1 : Bool) (t2 : List (List Int)) (A1 : Option Addr) (c1 : Nat) (t3 : List Int × S26) (A2 : Option Addr) (c2 : Nat) (A3 : Option Addr) (c3 : Nat) (A4 : Option Addr) (c4 : Nat) (nx4 : Nat) (t4 : Int × Bool) (t5 : Int × Bool) (t6 : List Int) (t7 : Bool) (t8 : Bool) (t9 : Bool) (t10 : Bool) (t11 : Bool) (u : Nat → Wt) : (u3d1q a1 Ap1 cp1 a2 Ap2_0 cp2_0 Ap2_1 cp2_1 nx0 t1 t2 A1 c1 t3 A2 c2 A3 c3 A4 c4 nx4 t4 t5 t6 t7 t8 t9 t10 t11 u).map (fun x => x.2.2.map (·.1)) = (u3d1q a1 Ap1 cp1 a2 Ap2_0 cp2_0 Ap2_1 cp2_1 nx0 t1 t2 A1 c1 t3 A2 c2 A3 c3 A4 c4 nx4 t4 t5 t6 t7 t8 t9 t10 t11 u).map (fun x => x.2.2.map (·.2)) := by kernel_rfl
noncomputable def u3d2l (t6 : List Int) (t7 : Bool) (t8 : Bool) (t9 : Bool) (t10 : Bool) : List Ld :=
 [⟨2, fun x => .slice ((x 0).1) t6.length ((x 0).2.1), fun x => [], fun x J => t6.length ≤ (x 0).2.1 ∧ Rd (Ty.int .i64) J (x 0).1 t6 ∧ True, fun x J J' h f => ⟨f.1, Rd.ext h f.2.1, trivial⟩⟩,
  ⟨3, fun x => .bool t7, fun x => [], fun x J => True, fun x J J' h f => trivial⟩,
  ⟨8, fun x => .bool t8, fun x => [], fun x J => True, fun x J J' h f => trivial⟩,
  ⟨24, fun x => .bool t9, fun x => [], fun x J => True, fun x J J' h f => trivial⟩,
  ⟨28, fun x => .bool t10, fun x => [], fun x J => True, fun x J J' h f => trivial⟩]
noncomputable def u3d2g  : List (Nat × ((Nat → Wt) → Value)) := [(4, fun u => .bool true), (10, fun u => .bool true), (15, fun u => .bool true), (20, fun u => .bool true), (31, fun u => .bool false)]
noncomputable def u3d2q (a1 : List Int) (Ap1 : Option Addr) (cp1 : Nat) (a2 : S26) (Ap2_0 : Option Addr) (cp2_0 : Nat) (Ap2_1 : Option Addr) (cp2_1 : Nat) (nx0 : Nat) (t1 : Bool) (t2 : List (List Int)) (A1 : Option Addr) (c1 : Nat) (t3 : List Int × S26) (A2 : Option Addr) (c2 : Nat) (A3 : Option Addr) (c3 : Nat) (A4 : Option Addr) (c4 : Nat) (nx4 : Nat) (t4 : Int × Bool) (t5 : Int × Bool) (t6 : List Int) (t7 : Bool) (t8 : Bool) (t9 : Bool) (t10 : Bool) (u : Nat → Wt) : Option (List Value × List (Nat × Value) × List (Nat × Nat)) := qSim Try.prog [] [⟨nx0, [.slice Ap2_0 a2.f0.length cp2_0, .slice Ap2_1 a2.f1.length cp2_1], 26⟩, ⟨nx4, [.slice A3 t3.2.f0.length c3, .slice A4 t3.2.f1.length c4], 26⟩] O3_29 ⟨90, []⟩ (Ld.vl (u3d2l t6 t7 t8 t9 t10)) u3d2g u (.no :: .no :: .no :: .no :: .no :: .no :: .no :: .l 1 :: .no :: .no :: .no :: .no :: .no :: .no :: .no :: .no :: .no :: .no :: .no :: .no :: .no :: .no :: .no :: .l 0 :: .no :: .no :: .no :: .l 0 :: .no :: .no :: .no :: .no :: .no :: .no :: .no :: .no :: .no :: .no :: .no :: []) 0 (O3_29.take 39) [(14, .bool t5.2), (13, i6 t5.1), (12, .bool t4.2), (11, i6 t4.1), (9, .slice A2 t3.1.length c2), (10, pt nx4 0), (8, .slice A1 t2.length c1), (1, .slice Ap1 a1.length cp1), (5, pt nx0 0), (7, .bool t1)]
noncomputable def u3d2s (a1 : List Int) (Ap1 : Option Addr) (cp1 : Nat) (a2 : S26) (Ap2_0 : Option Addr) (cp2_0 : Nat) (Ap2_1 : Option Addr) (cp2_1 : Nat) (t2 : List (List Int)) (A1 : Option Addr) (c1 : Nat) (t3 : List Int × S26) (A2 : Option Addr) (c2 : Nat) (A3 : Option Addr) (c3 : Nat) (A4 : Option Addr) (c4 : Nat) (t4 : Int × Bool) (t5 : Int × Bool) (t6 : List Int) (t7 : Bool) (t8 : Bool) (t9 : Bool) (t10 : Bool) (u : Nat → Wt) : List Value := (.slice A2 t3.1.length c2 :: .slice A1 t2.length c1 :: .slice ((u 2 0).1) t6.length ((u 2 0).2.1) :: .bool t7 :: .bool true :: .slice A1 t2.length c1 :: .slice A2 t3.1.length c2 :: .agg #[.slice A3 t3.2.f0.length c3, .slice A4 t3.2.f1.length c4] :: .bool t8 :: .bool t8 :: .bool true :: i6 t4.1 :: i6 t5.1 :: .bool (t4.1 == t5.1) :: .bool (t4.1 == t5.1) :: .bool true :: .bool t4.2 :: .bool t5.2 :: .bool (t4.2 == t5.2) :: .bool (t4.2 == t5.2) :: .bool true :: .slice A1 t2.length c1 :: .slice Ap1 a1.length cp1 :: .agg #[.slice Ap2_0 a2.f0.length cp2_0, .slice Ap2_1 a2.f1.length cp2_1] :: .bool t9 :: .slice A1 t2.length c1 :: .slice Ap1 a1.length cp1 :: .agg #[.slice Ap2_0 a2.f0.length cp2_0, .slice Ap2_1 a2.f1.length cp2_1] :: .bool t10 :: .bool (t9 == t10) :: .bool (t9 == t10) :: .bool false :: undef :: undef :: undef :: undef :: undef :: undef :: undef :: [])
noncomputable def u3d2f (a1 : List Int) (Ap1 : Option Addr) (cp1 : Nat) (a2 : S26) (Ap2_0 : Option Addr) (cp2_0 : Nat) (Ap2_1 : Option Addr) (cp2_1 : Nat) (nx0 : Nat) (t1 : Bool) (t2 : List (List Int)) (A1 : Option Addr) (c1 : Nat) (t3 : List Int × S26) (A2 : Option Addr) (c2 : Nat) (A3 : Option Addr) (c3 : Nat) (A4 : Option Addr) (c4 : Nat) (nx4 : Nat) (t4 : Int × Bool) (t5 : Int × Bool) (t6 : List Int) (t7 : Bool) (t8 : Bool) (t9 : Bool) (t10 : Bool) (i : Nat) (u : Nat → Wt) : List (Nat × Value) := foldPut ⟨90, []⟩ [(14, .bool t5.2), (13, i6 t5.1), (12, .bool t4.2), (11, i6 t4.1), (9, .slice A2 t3.1.length c2), (10, pt nx4 0), (8, .slice A1 t2.length c1), (1, .slice Ap1 a1.length cp1), (5, pt nx0 0), (7, .bool t1)] (O3_29.take i) (((u3d2s a1 Ap1 cp1 a2 Ap2_0 cp2_0 Ap2_1 cp2_1 t2 A1 c1 t3 A2 c2 A3 c3 A4 c4 t4 t5 t6 t7 t8 t9 t10) u).take i)
theorem u3d2v (a1 : List Int) (Ap1 : Option Addr) (cp1 : Nat) (a2 : S26) (Ap2_0 : Option Addr) (cp2_0 : Nat) (Ap2_1 : Option Addr) (cp2_1 : Nat) (nx0 : Nat) (t1 : Bool) (t2 : List (List Int)) (A1 : Option Addr) (c1 : Nat) (t3 : List Int × S26) (A2 : Option Addr) (c2 : Nat) (A3 : Option Addr) (c3 : Nat) (A4 : Option Addr) (c4 : Nat) (nx4 : Nat) (t4 : Int × Bool) (t5 : Int × Bool) (t6 : List Int) (t7 : Bool) (t8 : Bool) (t9 : Bool) (t10 : Bool) (u : Nat → Wt) : (u3d2q a1 Ap1 cp1 a2 Ap2_0 cp2_0 Ap2_1 cp2_1 nx0 t1 t2 A1 c1 t3 A2 c2 A3 c3 A4 c4 nx4 t4 t5 t6 t7 t8 t9 t10 u).map (fun x => (x.1, x.2.1)) = some ((u3d2s a1 Ap1 cp1 a2 Ap2_0 cp2_0 Ap2_1 cp2_1 t2 A1 c1 t3 A2 c2 A3 c3 A4 c4 t4 t5 t6 t7 t8 t9 t10) u, (u3d2f a1 Ap1 cp1 a2 Ap2_0 cp2_0 Ap2_1 cp2_1 nx0 t1 t2 A1 c1 t3 A2 c2 A3 c3 A4 c4 nx4 t4 t5 t6 t7 t8 t9 t10 39) u) := by kernel_rfl
theorem u3d2e (a1 : List Int) (Ap1 : Option Addr) (cp1 : Nat) (a2 : S26) (Ap2_0 : Option Addr) (cp2_0 : Nat) (Ap2_1 : Option Addr) (cp2_1 : Nat) (nx0 : Nat) (t1 : Bool) (t2 : List (List Int)) (A1 : Option Addr) (c1 : Nat) (t3 : List Int × S26) (A2 : Option Addr) (c2 : Nat) (A3 : Option Addr) (c3 : Nat) (A4 : Option Addr) (c4 : Nat) (nx4 : Nat) (t4 : Int × Bool) (t5 : Int × Bool) (t6 : List Int) (t7 : Bool) (t8 : Bool) (t9 : Bool) (t10 : Bool) (u : Nat → Wt) : (u3d2q a1 Ap1 cp1 a2 Ap2_0 cp2_0 Ap2_1 cp2_1 nx0 t1 t2 A1 c1 t3 A2 c2 A3 c3 A4 c4 nx4 t4 t5 t6 t7 t8 t9 t10 u).map (fun x => x.2.2.map (·.1)) = (u3d2q a1 Ap1 cp1 a2 Ap2_0 cp2_0 Ap2_1 cp2_1 nx0 t1 t2 A1 c1 t3 A2 c2 A3 c3 A4 c4 nx4 t4 t5 t6 t7 t8 t9 t10 u).map (fun x => x.2.2.map (·.2)) := by kernel_rfl
noncomputable def u3d3l (t6 : List Int) (t7 : Bool) (t8 : Bool) : List Ld :=
 [⟨2, fun x => .slice ((x 0).1) t6.length ((x 0).2.1), fun x => [], fun x J => t6.length ≤ (x 0).2.1 ∧ Rd (Ty.int .i64) J (x 0).1 t6 ∧ True, fun x J J' h f => ⟨f.1, Rd.ext h f.2.1, trivial⟩⟩,
  ⟨3, fun x => .bool t7, fun x => [], fun x J => True, fun x J J' h f => trivial⟩,
  ⟨8, fun x => .bool t8, fun x => [], fun x J => True, fun x J J' h f => trivial⟩]
noncomputable def u3d3g  : List (Nat × ((Nat → Wt) → Value)) := [(4, fun u => .bool true), (10, fun u => .bool true), (15, fun u => .bool true), (20, fun u => .bool false)]
noncomputable def u3d3q (a1 : List Int) (Ap1 : Option Addr) (cp1 : Nat) (a2 : S26) (Ap2_0 : Option Addr) (cp2_0 : Nat) (Ap2_1 : Option Addr) (cp2_1 : Nat) (nx0 : Nat) (t1 : Bool) (t2 : List (List Int)) (A1 : Option Addr) (c1 : Nat) (t3 : List Int × S26) (A2 : Option Addr) (c2 : Nat) (A3 : Option Addr) (c3 : Nat) (A4 : Option Addr) (c4 : Nat) (nx4 : Nat) (t4 : Int × Bool) (t5 : Int × Bool) (t6 : List Int) (t7 : Bool) (t8 : Bool) (u : Nat → Wt) : Option (List Value × List (Nat × Value) × List (Nat × Nat)) := qSim Try.prog [] [⟨nx0, [.slice Ap2_0 a2.f0.length cp2_0, .slice Ap2_1 a2.f1.length cp2_1], 26⟩, ⟨nx4, [.slice A3 t3.2.f0.length c3, .slice A4 t3.2.f1.length c4], 26⟩] O3_29 ⟨90, []⟩ (Ld.vl (u3d3l t6 t7 t8)) u3d3g u (.no :: .no :: .no :: .no :: .no :: .no :: .no :: .l 1 :: .no :: .no :: .no :: .no :: .no :: .no :: .no :: .no :: .no :: .no :: .no :: .no :: .no :: .no :: .no :: .no :: .no :: .no :: .no :: .no :: .no :: .no :: .no :: .no :: .no :: .no :: .no :: .no :: .no :: .no :: .no :: []) 0 (O3_29.take 39) [(14, .bool t5.2), (13, i6 t5.1), (12, .bool t4.2), (11, i6 t4.1), (9, .slice A2 t3.1.length c2), (10, pt nx4 0), (8, .slice A1 t2.length c1), (1, .slice Ap1 a1.length cp1), (5, pt nx0 0), (7, .bool t1)]
noncomputable def u3d3s (t2 : List (List Int)) (A1 : Option Addr) (c1 : Nat) (t3 : List Int × S26) (A2 : Option Addr) (c2 : Nat) (A3 : Option Addr) (c3 : Nat) (A4 : Option Addr) (c4 : Nat) (t4 : Int × Bool) (t5 : Int × Bool) (t6 : List Int) (t7 : Bool) (t8 : Bool) (u : Nat → Wt) : List Value := (.slice A2 t3.1.length c2 :: .slice A1 t2.length c1 :: .slice ((u 2 0).1) t6.length ((u 2 0).2.1) :: .bool t7 :: .bool true :: .slice A1 t2.length c1 :: .slice A2 t3.1.length c2 :: .agg #[.slice A3 t3.2.f0.length c3, .slice A4 t3.2.f1.length c4] :: .bool t8 :: .bool t8 :: .bool true :: i6 t4.1 :: i6 t5.1 :: .bool (t4.1 == t5.1) :: .bool (t4.1 == t5.1) :: .bool true :: .bool t4.2 :: .bool t5.2 :: .bool (t4.2 == t5.2) :: .bool (t4.2 == t5.2) :: .bool false :: undef :: undef :: undef :: undef :: undef :: undef :: undef :: undef :: undef :: .bool false :: .bool false :: undef :: undef :: undef :: undef :: undef :: undef :: undef :: [])
noncomputable def u3d3f (a1 : List Int) (Ap1 : Option Addr) (cp1 : Nat) (nx0 : Nat) (t1 : Bool) (t2 : List (List Int)) (A1 : Option Addr) (c1 : Nat) (t3 : List Int × S26) (A2 : Option Addr) (c2 : Nat) (A3 : Option Addr) (c3 : Nat) (A4 : Option Addr) (c4 : Nat) (nx4 : Nat) (t4 : Int × Bool) (t5 : Int × Bool) (t6 : List Int) (t7 : Bool) (t8 : Bool) (i : Nat) (u : Nat → Wt) : List (Nat × Value) := foldPut ⟨90, []⟩ [(14, .bool t5.2), (13, i6 t5.1), (12, .bool t4.2), (11, i6 t4.1), (9, .slice A2 t3.1.length c2), (10, pt nx4 0), (8, .slice A1 t2.length c1), (1, .slice Ap1 a1.length cp1), (5, pt nx0 0), (7, .bool t1)] (O3_29.take i) (((u3d3s t2 A1 c1 t3 A2 c2 A3 c3 A4 c4 t4 t5 t6 t7 t8) u).take i)
theorem u3d3v (a1 : List Int) (Ap1 : Option Addr) (cp1 : Nat) (a2 : S26) (Ap2_0 : Option Addr) (cp2_0 : Nat) (Ap2_1 : Option Addr) (cp2_1 : Nat) (nx0 : Nat) (t1 : Bool) (t2 : List (List Int)) (A1 : Option Addr) (c1 : Nat) (t3 : List Int × S26) (A2 : Option Addr) (c2 : Nat) (A3 : Option Addr) (c3 : Nat) (A4 : Option Addr) (c4 : Nat) (nx4 : Nat) (t4 : Int × Bool) (t5 : Int × Bool) (t6 : List Int) (t7 : Bool) (t8 : Bool) (u : Nat → Wt) : (u3d3q a1 Ap1 cp1 a2 Ap2_0 cp2_0 Ap2_1 cp2_1 nx0 t1 t2 A1 c1 t3 A2 c2 A3 c3 A4 c4 nx4 t4 t5 t6 t7 t8 u).map (fun x => (x.1, x.2.1)) = some ((u3d3s t2 A1 c1 t3 A2 c2 A3 c3 A4 c4 t4 t5 t6 t7 t8) u, (u3d3f a1 Ap1 cp1 nx0 t1 t2 A1 c1 t3 A2 c2 A3 c3 A4 c4 nx4 t4 t5 t6 t7 t8 39) u) := by kernel_rfl
theorem u3d3e (a1 : List Int) (Ap1 : Option Addr) (cp1 : Nat) (a2 : S26) (Ap2_0 : Option Addr) (cp2_0 : Nat) (Ap2_1 : Option Addr) (cp2_1 : Nat) (nx0 : Nat) (t1 : Bool) (t2 : List (List Int)) (A1 : Option Addr) (c1 : Nat) (t3 : List Int × S26) (A2 : Option Addr) (c2 : Nat) (A3 : Option Addr) (c3 : Nat) (A4 : Option Addr) (c4 : Nat) (nx4 : Nat) (t4 : Int × Bool) (t5 : Int × Bool) (t6 : List Int) (t7 : Bool) (t8 : Bool) (u : Nat → Wt) : (u3d3q a1 Ap1 cp1 a2 Ap2_0 cp2_0 Ap2_1 cp2_1 nx0 t1 t2 A1 c1 t3 A2 c2 A3 c3 A4 c4 nx4 t4 t5 t6 t7 t8 u).map (fun x => x.2.2.map (·.1)) = (u3d3q a1 Ap1 cp1 a2 Ap2_0 cp2_0 Ap2_1 cp2_1 nx0 t1 t2 A1 c1 t3 A2 c2 A3 c3 A4 c4 nx4 t4 t5 t6 t7 t8 u).map (fun x => x.2.2.map (·.2)) := by kernel_rfl
noncomputable def u3d4l (t6 : List Int) (t7 : Bool) (t8 : Bool) : List Ld :=
 [⟨2, fun x => .slice ((x 0).1) t6.length ((x 0).2.1), fun x => [], fun x J => t6.length ≤ (x 0).2.1 ∧ Rd (Ty.int .i64) J (x 0).1 t6 ∧ True, fun x J J' h f => ⟨f.1, Rd.ext h f.2.1, trivial⟩⟩,
  ⟨3, fun x => .bool t7, fun x => [], fun x J => True, fun x J J' h f => trivial⟩,
  ⟨8, fun x => .bool t8, fun x => [], fun x J => True, fun x J J' h f => trivial⟩]
noncomputable def u3d4g  : List (Nat × ((Nat → Wt) → Value)) := [(4, fun u => .bool true), (10, fun u => .bool true), (15, fun u => .bool false)]
noncomputable def u3d4q (a1 : List Int) (Ap1 : Option Addr) (cp1 : Nat) (a2 : S26) (Ap2_0 : Option Addr) (cp2_0 : Nat) (Ap2_1 : Option Addr) (cp2_1 : Nat) (nx0 : Nat) (t1 : Bool) (t2 : List (List Int)) (A1 : Option Addr) (c1 : Nat) (t3 : List Int × S26) (A2 : Option Addr) (c2 : Nat) (A3 : Option Addr) (c3 : Nat) (A4 : Option Addr) (c4 : Nat) (nx4 : Nat) (t4 : Int × Bool) (t5 : Int × Bool) (t6 : List Int) (t7 : Bool) (t8 : Bool) (u : Nat → Wt) : Option (List Value × List (Nat × Value) × List (Nat × Nat)) := qSim Try.prog [] [⟨nx0, [.slice Ap2_0 a2.f0.length cp2_0, .slice Ap2_1 a2.f1.length cp2_1], 26⟩, ⟨nx4, [.slice A3 t3.2.f0.length c3, .slice A4 t3.2.f1.length c4], 26⟩] O3_29 ⟨90, []⟩ (Ld.vl (u3d4l t6 t7 t8)) u3d4g u (.no :: .no :: .no :: .no :: .no :: .no :: .no :: .l 1 :: .no :: .no :: .no :: .no :: .no :: .no :: .no :: .no :: .no :: .no :: .no :: .no :: .no :: .no :: .no :: .no :: .no :: .no :: .no :: .no :: .no :: .no :: .no :: .no :: .no :: .no :: .no :: .no :: .no :: .no :: .no :: []) 0 (O3_29.take 39) [(14, .bool t5.2), (13, i6 t5.1), (12, .bool t4.2), (11, i6 t4.1), (9, .slice A2 t3.1.length c2), (10, pt nx4 0), (8, .slice A1 t2.length c1), (1, .slice Ap1 a1.length cp1), (5, pt nx0 0), (7, .bool t1)]
noncomputable def u3d4s (t2 : List (List Int)) (A1 : Option Addr) (c1 : Nat) (t3 : List Int × S26) (A2 : Option Addr) (c2 : Nat) (A3 : Option Addr) (c3 : Nat) (A4 : Option Addr) (c4 : Nat) (t4 : Int × Bool) (t5 : Int × Bool) (t6 : List Int) (t7 : Bool) (t8 : Bool) (u : Nat → Wt) : List Value := (.slice A2 t3.1.length c2 :: .slice A1 t2.length c1 :: .slice ((u 2 0).1) t6.length ((u 2 0).2.1) :: .bool t7 :: .bool true :: .slice A1 t2.length c1 :: .slice A2 t3.1.length c2 :: .agg #[.slice A3 t3.2.f0.length c3, .slice A4 t3.2.f1.length c4] :: .bool t8 :: .bool t8 :: .bool true :: i6 t4.1 :: i6 t5.1 :: .bool (t4.1 == t5.1) :: .bool (t4.1 == t5.1) :: .bool false :: undef :: undef :: undef :: .bool false :: .bool false :: undef :: undef :: undef :: undef :: undef :: undef :: undef :: undef :: undef :: .bool false :: .bool false :: undef :: undef :: undef :: undef :: undef :: undef :: undef :: [])
noncomputable def u3d4f (a1 : List Int) (Ap1 : Option Addr) (cp1 : Nat) (nx0 : Nat) (t1 : Bool) (t2 : List (List Int)) (A1 : Option Addr) (c1 : Nat) (t3 : List Int × S26) (A2 : Option Addr) (c2 : Nat) (A3 : Option Addr) (c3 : Nat) (A4 : Option Addr) (c4 : Nat) (nx4 : Nat) (t4 : Int × Bool) (t5 : Int × Bool) (t6 : List Int) (t7 : Bool) (t8 : Bool) (i : Nat) (u : Nat → Wt) : List (Nat × Value) := foldPut ⟨90, []⟩ [(14, .bool t5.2), (13, i6 t5.1), (12, .bool t4.2), (11, i6 t4.1), (9, .slice A2 t3.1.length c2), (10, pt nx4 0), (8, .slice A1 t2.length c1), (1, .slice Ap1 a1.length cp1), (5, pt nx0 0), (7, .bool t1)] (O3_29.take i) (((u3d4s t2 A1 c1 t3 A2 c2 A3 c3 A4 c4 t4 t5 t6 t7 t8) u).take i)
theorem u3d4v (a1 : List Int) (Ap1 : Option Addr) (cp1 : Nat) (a2 : S26) (Ap2_0 : Option Addr) (cp2_0 : Nat) (Ap2_1 : Option Addr) (cp2_1 : Nat) (nx0 : Nat) (t1 : Bool) (t2 : List (List Int)) (A1 : Option Addr) (c1 : Nat) (t3 : List Int × S26) (A2 : Option Addr) (c2 : Nat) (A3 : Option Addr) (c3 : Nat) (A4 : Option Addr) (c4 : Nat) (nx4 : Nat) (t4 : Int × Bool) (t5 : Int × Bool) (t6 : List Int) (t7 : Bool) (t8 : Bool) (u : Nat → Wt) : (u3d4q a1 Ap1 cp1 a2 Ap2_0 cp2_0 Ap2_1 cp2_1 nx0 t1 t2 A1 c1 t3 A2 c2 A3 c3 A4 c4 nx4 t4 t5 t6 t7 t8 u).map (fun x => (x.1, x.2.1)) = some ((u3d4s t2 A1 c1 t3 A2 c2 A3 c3 A4 c4 t4 t5 t6 t7 t8) u, (u3d4f a1 Ap1 cp1 nx0 t1 t2 A1 c1 t3 A2 c2 A3 c3 A4 c4 nx4 t4 t5 t6 t7 t8 39) u) := by kernel_rfl
theorem u3d4e (a1 : List Int) (Ap1 : Option Addr) (cp1 : Nat) (a2 : S26) (Ap2_0 : Option Addr) (cp2_0 : Nat) (Ap2_1 : Option Addr) (cp2_1 : Nat) (nx0 : Nat) (t1 : Bool) (t2 : List (List Int)) (A1 : Option Addr) (c1 : Nat) (t3 : List Int × S26) (A2 : Option Addr) (c2 : Nat) (A3 : Option Addr) (c3 : Nat) (A4 : Option Addr) (c4 : Nat) (nx4 : Nat) (t4 : Int × Bool) (t5 : Int × Bool) (t6 : List Int) (t7 : Bool) (t8 : Bool) (u : Nat → Wt) : (u3d4q a1 Ap1 cp1 a2 Ap2_0 cp2_0 Ap2_1 cp2_1 nx0 t1 t2 A1 c1 t3 A2 c2 A3 c3 A4 c4 nx4 t4 t5 t6 t7 t8 u).map (fun x => x.2.2.map (·.1)) = (u3d4q a1 Ap1 cp1 a2 Ap2_0 cp2_0 Ap2_1 cp2_1 nx0 t1 t2 A1 c1 t3 A2 c2 A3 c3 A4 c4 nx4 t4 t5 t6 t7 t8 u).map (fun x => x.2.2.map (·.2)) := by kernel_rfl
noncomputable def u3d5l (t6 : List Int) (t7 : Bool) (t8 : Bool) : List Ld :=
 [⟨2, fun x => .slice ((x 0).1) t6.length ((x 0).2.1), fun x => [], fun x J => t6.length ≤ (x 0).2.1 ∧ Rd (Ty.int .i64) J (x 0).1 t6 ∧ True, fun x J J' h f => ⟨f.1, Rd.ext h f.2.1, trivial⟩⟩,
  ⟨3, fun x => .bool t7, fun x => [], fun x J => True, fun x J J' h f => trivial⟩,
  ⟨8, fun x => .bool t8, fun x => [], fun x J => True, fun x J J' h f => trivial⟩]
noncomputable def u3d5g  : List (Nat × ((Nat → Wt) → Value)) := [(4, fun u => .bool true), (10, fun u => .bool false)]
noncomputable def u3d5q (a1 : List Int) (Ap1 : Option Addr) (cp1 : Nat) (a2 : S26) (Ap2_0 : Option Addr) (cp2_0 : Nat) (Ap2_1 : Option Addr) (cp2_1 : Nat) (nx0 : Nat) (t1 : Bool) (t2 : List (List Int)) (A1 : Option Addr) (c1 : Nat) (t3 : List Int × S26) (A2 : Option Addr) (c2 : Nat) (A3 : Option Addr) (c3 : Nat) (A4 : Option Addr) (c4 : Nat) (nx4 : Nat) (t4 : Int × Bool) (t5 : Int × Bool) (t6 : List Int) (t7 : Bool) (t8 : Bool) (u : Nat → Wt) : Option (List Value × List (Nat × Value) × List (Nat × Nat)) := qSim Try.prog [] [⟨nx0, [.slice Ap2_0 a2.f0.length cp2_0, .slice Ap2_1 a2.f1.length cp2_1], 26⟩, ⟨nx4, [.slice A3 t3.2.f0.length c3, .slice A4 t3.2.f1.length c4], 26⟩] O3_29 ⟨90, []⟩ (Ld.vl (u3d5l t6 t7 t8)) u3d5g u (.no :: .no :: .no :: .no :: .no :: .no :: .no :: .l 1 :: .no :: .no :: .no :: .no :: .no :: .no :: .no :: .no :: .no :: .no :: .no :: .no :: .no :: .no :: .no :: .no :: .no :: .no :: .no :: .no :: .no :: .no :: .no :: .no :: .no :: .no :: .no :: .no :: .no :: .no :: .no :: []) 0 (O3_29.take 39) [(14, .bool t5.2), (13, i6 t5.1), (12, .bool t4.2), (11, i6 t4.1), (9, .slice A2 t3.1.length c2), (10, pt nx4 0), (8, .slice A1 t2.length c1), (1, .slice Ap1 a1.length cp1), (5, pt nx0 0), (7, .bool t1)]
noncomputable def u3d5s (t2 : List (List Int)) (A1 : Option Addr) (c1 : Nat) (t3 : List Int × S26) (A2 : Option Addr) (c2 : Nat) (A3 : Option Addr) (c3 : Nat) (A4 : Option Addr) (c4 : Nat) (t6 : List Int) (t7 : Bool) (t8 : Bool) (u : Nat → Wt) : List Value := (.slice A2 t3.1.length c2 :: .slice A1 t2.length c1 :: .slice ((u 2 0).1) t6.length ((u 2 0).2.1) :: .bool t7 :: .bool true :: .slice A1 t2.length c1 :: .slice A2 t3.1.length c2 :: .agg #[.slice A3 t3.2.f0.length c3, .slice A4 t3.2.f1.length c4] :: .bool t8 :: .bool t8 :: .bool false :: undef :: undef :: undef :: .bool false :: .bool false :: undef :: undef :: undef :: .bool false :: .bool false :: undef :: undef :: undef :: undef :: undef :: undef :: undef :: undef :: undef :: .bool false :: .bool false :: undef :: undef :: undef :: undef :: undef :: undef :: undef :: [])
noncomputable def u3d5f (a1 : List Int) (Ap1 : Option Addr) (cp1 : Nat) (nx0 : Nat) (t1 : Bool) (t2 : List (List Int)) (A1 : Option Addr) (c1 : Nat) (t3 : List Int × S26) (A2 : Option Addr) (c2 : Nat) (A3 : Option Addr) (c3 : Nat) (A4 : Option Addr) (c4 : Nat) (nx4 : Nat) (t4 : Int × Bool) (t5 : Int × Bool) (t6 : List Int) (t7 : Bool) (t8 : Bool) (i : Nat) (u : Nat → Wt) : List (Nat × Value) := foldPut ⟨90, []⟩ [(14, .bool t5.2), (13, i6 t5.1), (12, .bool t4.2), (11, i6 t4.1), (9, .slice A2 t3.1.length c2), (10, pt nx4 0), (8, .slice A1 t2.length c1), (1, .slice Ap1 a1.length cp1), (5, pt nx0 0), (7, .bool t1)] (O3_29.take i) (((u3d5s t2 A1 c1 t3 A2 c2 A3 c3 A4 c4 t6 t7 t8) u).take i)
theorem u3d5v (a1 : List Int) (Ap1 : Option Addr) (cp1 : Nat) (a2 : S26) (Ap2_0 : Option Addr) (cp2_0 : Nat) (Ap2_1 : Option Addr) (cp2_1 : Nat) (nx0 : Nat) (t1 : Bool) (t2 : List (List Int)) (A1 : Option Addr) (c1 : Nat) (t3 : List Int × S26) (A2 : Option Addr) (c2 : Nat) (A3 : Option Addr) (c3 : Nat) (A4 : Option Addr) (c4 : Nat) (nx4 : Nat) (t4 : Int × Bool) (t5 : Int × Bool) (t6 : List Int) (t7 : Bool) (t8 : Bool) (u : Nat → Wt) : (u3d5q a1 Ap1 cp1 a2 Ap2_0 cp2_0 Ap2_1 cp2_1 nx0 t1 t2 A1 c1 t3 A2 c2 A3 c3 A4 c4 nx4 t4 t5 t6 t7 t8 u).map (fun x => (x.1, x.2.1)) = some ((u3d5s t2 A1 c1 t3 A2 c2 A3 c3 A4 c4 t6 t7 t8) u, (u3d5f a1 Ap1 cp1 nx0 t1 t2 A1 c1 t3 A2 c2 A3 c3 A4 c4 nx4 t4 t5 t6 t7 t8 39) u) := by kernel_rfl
theorem u3d5e (a1 : List Int) (Ap1 : Option Addr) (cp1 : Nat) (a2 : S26) (Ap2_0 : Option Addr) (cp2_0 : Nat) (Ap2_1 : Option Addr) (cp2_1 : Nat) (nx0 : Nat) (t1 : Bool) (t2 : List (List Int)) (A1 : Option Addr) (c1 : Nat) (t3 : List Int × S26) (A2 : Option Addr) (c2 : Nat) (A3 : Option Addr) (c3 : Nat) (A4 : Option Addr) (c4 : Nat) (nx4 : Nat) (t4 : Int × Bool) (t5 : Int × Bool) (t6 : List Int) (t7 : Bool) (t8 : Bool) (u : Nat → Wt) : (u3d5q a1 Ap1 cp1 a2 Ap2_0 cp2_0 Ap2_1 cp2_1 nx0 t1 t2 A1 c1 t3 A2 c2 A3 c3 A4 c4 nx4 t4 t5 t6 t7 t8 u).map (fun x => x.2.2.map (·.1)) = (u3d5q a1 Ap1 cp1 a2 Ap2_0 cp2_0 Ap2_1 cp2_1 nx0 t1 t2 A1 c1 t3 A2 c2 A3 c3 A4 c4 nx4 t4 t5 t6 t7 t8 u).map (fun x => x.2.2.map (·.2)) := by kernel_rfl
noncomputable def u3d6l (t6 : List Int) (t7 : Bool) : List Ld :=
 [⟨2, fun x => .slice ((x 0).1) t6.length ((x 0).2.1), fun x => [], fun x J => t6.length ≤ (x 0).2.1 ∧ Rd (Ty.int .i64) J (x 0).1 t6 ∧ True, fun x J J' h f => ⟨f.1, Rd.ext h f.2.1, trivial⟩⟩,
  ⟨3, fun x => .bool t7, fun x => [], fun x J => True, fun x J J' h f => trivial⟩]
noncomputable def u3d6g  : List (Nat × ((Nat → Wt) → Value)) := [(4, fun u => .bool false)]
noncomputable def u3d6q (a1 : List Int) (Ap1 : Option Addr) (cp1 : Nat) (a2 : S26) (Ap2_0 : Option Addr) (cp2_0 : Nat) (Ap2_1 : Option Addr) (cp2_1 : Nat) (nx0 : Nat) (t1 : Bool) (t2 : List (List Int)) (A1 : Option Addr) (c1 : Nat) (t3 : List Int × S26) (A2 : Option Addr) (c2 : Nat) (A3 : Option Addr) (c3 : Nat) (A4 : Option Addr) (c4 : Nat) (nx4 : Nat) (t4 : Int × Bool) (t5 : Int × Bool) (t6 : List Int) (t7 : Bool) (u : Nat → Wt) : Option (List Value × List (Nat × Value) × List (Nat × Nat)) := qSim Try.prog [] [⟨nx0, [.slice Ap2_0 a2.f0.length cp2_0, .slice Ap2_1 a2.f1.length cp2_1], 26⟩, ⟨nx4, [.slice A3 t3.2.f0.length c3, .slice A4 t3.2.f1.length c4], 26⟩] O3_29 ⟨90, []⟩ (Ld.vl (u3d6l t6 t7)) u3d6g u (.no :: .no :: .no :: .no :: .no :: .no :: .no :: .no :: .no :: .no :: .no :: .no :: .no :: .no :: .no :: .no :: .no :: .no :: .no :: .no :: .no :: .no :: .no :: .no :: .no :: .no :: .no :: .no :: .no :: .no :: .no :: .no :: .no :: .no :: .no :: .no :: .no :: .no :: .no :: []) 0 (O3_29.take 39) [(14, .bool t5.2), (13, i6 t5.1), (12, .bool t4.2), (11, i6 t4.1), (9, .slice A2 t3.1.length c2), (10, pt nx4 0), (8, .slice A1 t2.length c1), (1, .slice Ap1 a1.length cp1), (5, pt nx0 0), (7, .bool t1)]
noncomputable def u3d6s (t2 : List (List Int)) (A1 : Option Addr) (c1 : Nat) (t3 : List Int × S26) (A2 : Option Addr) (c2 : Nat) (t6 : List Int) (t7 : Bool) (u : Nat → Wt) : List Value := (.slice A2 t3.1.length c2 :: .slice A1 t2.length c1 :: .slice ((u 2 0).1) t6.length ((u 2 0).2.1) :: .bool t7 :: .bool false :: undef :: undef :: undef :: undef :: .bool false :: .bool false :: undef :: undef :: undef :: .bool false :: .bool false :: undef :: undef :: undef :: .bool false :: .bool false :: undef :: undef :: undef :: undef :: undef :: undef :: undef :: undef :: undef :: .bool false :: .bool false :: undef :: undef :: undef :: undef :: undef :: undef :: undef :: [])
noncomputable def u3d6f (a1 : List Int) (Ap1 : Option Addr) (cp1 : Nat) (nx0 : Nat) (t1 : Bool) (t2 : List (List Int)) (A1 : Option Addr) (c1 : Nat) (t3 : List Int × S26) (A2 : Option Addr) (c2 : Nat) (nx4 : Nat) (t4 : Int × Bool) (t5 : Int × Bool) (t6 : List Int) (t7 : Bool) (i : Nat) (u : Nat → Wt) : List (Nat × Value) := foldPut ⟨90, []⟩ [(14, .bool t5.2), (13, i6 t5.1), (12, .bool t4.2), (11, i6 t4.1), (9, .slice A2 t3.1.length c2), (10, pt nx4 0), (8, .slice A1 t2.length c1), (1, .slice Ap1 a1.length cp1), (5, pt nx0 0), (7, .bool t1)] (O3_29.take i) (((u3d6s t2 A1 c1 t3 A2 c2 t6 t7) u).take i)
theorem u3d6v (a1 : List Int) (Ap1 : Option Addr) (cp1 : Nat) (a2 : S26) (Ap2_0 : Option Addr) (cp2_0 : Nat) (Ap2_1 : Option Addr) (cp2_1 : Nat) (nx0 : Nat) (t1 : Bool) (t2 : List (List Int)) (A1 : Option Addr) (c1 : Nat) (t3 : List Int × S26) (A2 : Option Addr) (c2 : Nat) (A3 : Option Addr) (c3 : Nat) (A4 : Option Addr) (c4 : Nat) (nx4 : Nat) (t4 : Int × Bool) (t5 : Int × Bool) (t6 : List Int) (t7 : Bool) (u : Nat → Wt) : (u3d6q a1 Ap1 cp1 a2 Ap2_0 cp2_0 Ap2_1 cp2_1 nx0 t1 t2 A1 c1 t3 A2 c2 A3 c3 A4 c4 nx4 t4 t5 t6 t7 u).map (fun x => (x.1, x.2.1)) = some ((u3d6s t2 A1 c1 t3 A2 c2 t6 t7) u, (u3d6f a1 Ap1 cp1 nx0 t1 t2 A1 c1 t3 A2 c2 nx4 t4 t5 t6 t7 39) u) := by kernel_rfl
theorem u3d6e (a1 : List Int) (Ap1 : Option Addr) (cp1 : Nat) (a2 : S26) (Ap2_0 : Option Addr) (cp2_0 : Nat) (Ap2_1 : Option Addr) (cp2_1 : Nat) (nx0 : Nat) (t1 : Bool) (t2 : List (List Int)) (A1 : Option Addr) (c1 : Nat) (t3 : List Int × S26) (A2 : Option Addr) (c2 : Nat) (A3 : Option Addr) (c3 : Nat) (A4 : Option Addr) (c4 : Nat) (nx4 : Nat) (t4 : Int × Bool) (t5 : Int × Bool) (t6 : List Int) (t7 : Bool) (u : Nat → Wt) : (u3d6q a1 Ap1 cp1 a2 Ap2_0 cp2_0 Ap2_1 cp2_1 nx0 t1 t2 A1 c1 t3 A2 c2 A3 c3 A4 c4 nx4 t4 t5 t6 t7 u).map (fun x => x.2.2.map (·.1)) = (u3d6q a1 Ap1 cp1 a2 Ap2_0 cp2_0 Ap2_1 cp2_1 nx0 t1 t2 A1 c1 t3 A2 c2 A3 c3 A4 c4 nx4 t4 t5 t6 t7 u).map (fun x => x.2.2.map (·.2)) := by kernel_rfl
theorem armillarylaw22_AssignMatchesReference.calls (k : Nat) (I0 : Imm) (a0 : List (List Int)) (Ap0 : Option Addr) (cp0 : Nat) (a1 : List Int) (Ap1 : Option Addr) (cp1 : Nat) (a2 : S26) (Ap2_0 : Option Addr) (cp2_0 : Nat) (Ap2_1 : Option Addr) (cp2_1 : Nat) (w : World) (hI : I0.at_ w) (hlp0 : a0.length ≤ cp0) (hrp0 : Rd (Ty.slice (Ty.int .i64)) I0 Ap0 a0) (hlp1 : a1.length ≤ cp1) (hrp1 : Rd (Ty.int .i64) I0 Ap1 a1) (hlp2_0 : a2.f0.length ≤ cp2_0) (hrp2_0 : Rd (Ty.int .i64) I0 Ap2_0 a2.f0) (hlp2_1 : a2.f1.length ≤ cp2_1) (hrp2_1 : Rd (Ty.int .i64) I0 Ap2_1 a2.f1) (r : Bool) (h : armillarylaw22_AssignMatchesReference.f k a0 a1 a2 = some r) :
  Calls Try.prog 3 [.slice Ap0 a0.length cp0, .slice Ap1 a1.length cp1, .agg #[.slice Ap2_0 a2.f0.length cp2_0, .slice Ap2_1 a2.f1.length cp2_1]].toArray w fun e w' => ∃ v, e = .returned v ∧ armillarylaw22_AssignMatchesReference.Post I0 w r v w' := by
 have H : ((armillarylaw22_sanity.f k ).bind fun t1 => ((if (a0.length : Int) ≤ 20 then ((assign_Valid.f k a0).bind fun t13 => ((armillaryref22_Valid.f k a0).bind fun t14 => (some (!(t13 == t14))))) else (some false)).bind (armillarylaw22_AssignMatchesReference.k2 k a0 a1 a2 t1))) = some r := h
 clear h
 refine calls_body Try.func3 (by kernel_rfl) 90 (by kernel_rfl) (by kernel_rfl) ⟨w, fun _ => False, I0⟩ I0 [] [(0, .slice Ap0 a0.length cp0), (1, .slice Ap1 a1.length cp1), (2, .agg #[.slice Ap2_0 a2.f0.length cp2_0, .slice Ap2_1 a2.f1.length cp2_1])] (by kernel_rfl) (Sat.start w _ I0 hI) ?_
 generalize w.heap.size = nx0
 show OK _ K3_0 _ _ _ _ _ _ _ _
 refine OK.sr ?_
 refine RL.spt 2 [(5, pt nx0 0), (0, .slice Ap0 a0.length cp0), (1, .slice Ap1 a1.length cp1)] (nx0 + 1) [⟨nx0, [.slice Ap2_0 a2.f0.length cp2_0, .slice Ap2_1 a2.f1.length cp2_1], 26⟩] ?_
 refine OK.sr ?_
 obtain ⟨t1, hA1, H⟩ := bnd H
 refine RL.callP 10 [] (some 15) (fun w => armillarylaw22_sanity.Post I0 w t1) (by kernel_rfl) (by kernel_rfl) (fun w hs => armillarylaw22_sanity.calls k I0  w hs.im  t1 hA1) ?_
 rintro w v w' hs ⟨I1, rfl, hg⟩
 have hi1 := hg.le
 refine RL.resume (X' := []) rfl (hs.call hg) ?_
 clear hs hg
 generalize w'.heap.size = nx1
 clear w w'
 refine RL.st 1 [(7, .bool t1), (5, pt nx0 0), (0, .slice Ap0 a0.length cp0), (1, .slice Ap1 a1.length cp1)] ?_
 refine OK.sq ?_
 refine OK.sq ?_
 refine OK.join (fun K' I' _ L' X' => ∃ (x1 : Bool), K' = [(0, .slice Ap0 a0.length cp0), (1, .slice Ap1 a1.length cp1), (5, pt nx0 0), (7, .bool t1), (25, .bool x1)] ∧ L' = [⟨nx0, [.slice Ap2_0 a2.f0.length cp2_0, .slice Ap2_1 a2.f1.length cp2_1], 26⟩] ∧ X' = [] ∧ Imm.le I1 I' ∧ armillarylaw22_AssignMatchesReference.k2 k a0 a1 a2 t1 x1 = some r) ?_ ?_
 ·rintro _ I2 nx2 _ _ ⟨x1, rfl, rfl, rfl, hi2, H⟩
  rw [armillarylaw22_AssignMatchesReference.k2] at H
  refine QN.then_ ?_
  refine OK.cd x1 (fun hb => ?_) (fun hb => ?_)
  ·skip
   have hc := hb
   rw [if_pos hc] at H
   clear hb
   refine OK.sr ?_
   refine RL.st 1 [(6, .bool false)] ?_
   refine OK.re ?_
   refine QN.thenR ?_
   obtain rfl := Option.some.inj H
   refine QN.body rfl [] (RFacts.nil _ _ _) (.no) (.bool false) (by kernel_rfl) (by kernel_rfl) (by kernel_rfl) ?_ _ (.inr rfl)
   exact fun w' hs' => ⟨_, rfl, I2, rfl, hs'.got _ .slnil⟩
  ·skip
   have hc := (Bool.eq_false_iff.1 hb)
   rw [if_neg hc] at H
   clear hb
   refine OK.skt ?_
   refine OK.sr ?_
   refine RL.s 1 [(26, .slice Ap0 a0.length cp0), (1, .slice Ap1 a1.length cp1), (5, pt nx0 0), (7, .bool t1)] ?_
   obtain ⟨t2, hA2, H⟩ := bnd H
   refine RL.callP 13 [.slice Ap0 a0.length cp0, i6 7, i6 6] (some 27) (fun w => armillaryref22_Made.Post I2 w t2) (by kernel_rfl) (by kernel_rfl) (fun w hs => armillaryref22_Made.calls k I2 a0 Ap0 cp0 7 6 w hs.im hlp0 (Rd.ext (Imm.le_trans hi1 hi2) hrp0) t2 hA2) ?_
   rintro w v w' hs ⟨I3, A1, c1, cs1, rfl, hg, hp1⟩
   have hi3 := hg.le
   refine RL.resume (X' := [orow 24 1 A1 t2.length c1 cs1]) rfl (hs.call hg) ?_
   clear hs hg
   generalize w'.heap.size = nx3
   clear w w'
   refine RL.st 1 [(8, .slice A1 t2.length c1), (1, .slice Ap1 a1.length cp1), (5, pt nx0 0), (7, .bool t1)] ?_
   refine OK.sr ?_
   refine RL.s 1 [(29, .slice A1 t2.length c1), (8, .slice A1 t2.length c1), (1, .slice Ap1 a1.length cp1), (5, pt nx0 0), (7, .bool t1)] ?_
   refine RL.freeze (e := 24) (sz := 1) (S := A1) (n := t2.length) (cap := c1) 0 (by kernel_rfl) hp1 rfl (fun I4 hi4 hl1 hr1 => ?_)
   skip
   obtain ⟨t3, hA3, H⟩ := bnd H
   refine RL.callP 14 [.slice A1 t2.length c1] (some 30) (fun w => assign_Solve.Post I4 w t3) (by kernel_rfl) (by kernel_rfl) (fun w hs => assign_Solve.calls k I4 t2 A1 c1 w hs.im hl1 hr1 t3 hA3) ?_
   rintro w v w' hs ⟨I5, A2, c2, cs2, A3, c3, cs3, A4, c4, cs4, rfl, hg, hp2, hp3, hp4⟩
   have hi5 := hg.le
   refine RL.resume (X' := [orow 3 1 A2 t3.1.length c2 cs2, orow 2 1 A3 t3.2.f0.length c3 cs3, orow 2 1 A4 t3.2.f1.length c4 cs4]) rfl (hs.call hg) ?_
   clear hs hg
   generalize w'.heap.size = nx4
   clear w w'
   refine RL.freeze (e := 2) (sz := 1) (S := A3) (n := t3.2.f0.length) (cap := c3) 1 (by kernel_rfl) hp3 rfl (fun I6 hi6 hl2 hr2 => ?_)
   skip
   refine RL.freeze (e := 2) (sz := 1) (S := A4) (n := t3.2.f1.length) (cap := c4) 1 (by kernel_rfl) (Reps.ext hi6 hp4) rfl (fun I7 hi7 hl3 hr3 => ?_)
   skip
   refine RL.simP (K' := [(9, .slice A2 t3.1.length c2), (10, pt nx4 0), (8, .slice A1 t2.length c1), (1, .slice Ap1 a1.length cp1), (5, pt nx0 0), (7, .bool t1)]) (nx' := nx4 + 1) (L' := [⟨nx0, [.slice Ap2_0 a2.f0.length cp2_0, .slice Ap2_1 a2.f1.length cp2_1], 26⟩, ⟨nx4, [.slice A3 t3.2.f0.length c3, .slice A4 t3.2.f1.length c4], 26⟩]) [] (RFacts.nil _ _ _) 6 [.no, .no, .no, .no, .no, .l 1] (by kernel_rfl) (by kernel_rfl) ?_
   refine RL.nt ?_
   refine OK.sr ?_
   refine RL.s 2 [(35, .slice Ap1 a1.length cp1), (34, .slice A1 t2.length c1), (9, .slice A2 t3.1.length c2), (10, pt nx4 0), (8, .slice A1 t2.length c1), (1, .slice Ap1 a1.length cp1), (5, pt nx0 0), (7, .bool t1)] ?_
   obtain ⟨t4, hA4, H⟩ := bnd H
   refine RL.callP 15 [.slice A1 t2.length c1, .slice Ap1 a1.length cp1] (some 36) (fun w => assign_Value.Post I7 w t4) (by kernel_rfl) (by kernel_rfl) (fun w hs => assign_Value.calls k I7 t2 A1 c1 a1 Ap1 cp1 w hs.im hl1 (Rd.ext (Imm.le_trans (Imm.le_trans hi5 hi6) hi7) hr1) hlp1 (Rd.ext (Imm.le_trans (Imm.le_trans (Imm.le_trans (Imm.le_trans (Imm.le_trans (Imm.le_trans hi1 hi2) hi3) hi4) hi5) hi6) hi7) hrp1) t4 hA4) ?_
   rintro w v w' hs ⟨I8, rfl, hg⟩
   have hi8 := hg.le
   refine RL.resume (X' := [orow 3 1 A2 t3.1.length c2 cs2]) rfl (hs.call hg) ?_
   clear hs hg
   generalize w'.heap.size = nx5
   clear w w'
   refine RL.st 5 [(12, .bool t4.2), (11, i6 t4.1), (9, .slice A2 t3.1.length c2), (10, pt nx4 0), (8, .slice A1 t2.length c1), (1, .slice Ap1 a1.length cp1), (5, pt nx0 0), (7, .bool t1)] ?_
   refine OK.sr ?_
   refine RL.s 2 [(41, .slice Ap1 a1.length cp1), (40, .slice A1 t2.length c1), (12, .bool t4.2), (11, i6 t4.1), (9, .slice A2 t3.1.length c2), (10, pt nx4 0), (8, .slice A1 t2.length c1), (1, .slice Ap1 a1.length cp1), (5, pt nx0 0), (7, .bool t1)] ?_
   obtain ⟨t5, hA5, H⟩ := bnd H
   refine RL.callP 16 [.slice A1 t2.length c1, .slice Ap1 a1.length cp1] (some 42) (fun w => armillaryref22_Value.Post I8 w t5) (by kernel_rfl) (by kernel_rfl) (fun w hs => armillaryref22_Value.calls k I8 t2 A1 c1 a1 Ap1 cp1 w hs.im hl1 (Rd.ext (Imm.le_trans (Imm.le_trans (Imm.le_trans hi5 hi6) hi7) hi8) hr1) hlp1 (Rd.ext (Imm.le_trans (Imm.le_trans (Imm.le_trans (Imm.le_trans (Imm.le_trans (Imm.le_trans (Imm.le_trans hi1 hi2) hi3) hi4) hi5) hi6) hi7) hi8) hrp1) t5 hA5) ?_
   rintro w v w' hs ⟨I9, rfl, hg⟩
   have hi9 := hg.le
   refine RL.resume (X' := [orow 3 1 A2 t3.1.length c2 cs2]) rfl (hs.call hg) ?_
   clear hs hg
   generalize w'.heap.size = nx6
   clear w w'
   refine RL.st 5 [(14, .bool t5.2), (13, i6 t5.1), (12, .bool t4.2), (11, i6 t4.1), (9, .slice A2 t3.1.length c2), (10, pt nx4 0), (8, .slice A1 t2.length c1), (1, .slice Ap1 a1.length cp1), (5, pt nx0 0), (7, .bool t1)] ?_
   refine OK.sq ?_
   refine OK.join (fun K' I' _ L' X' => ∃ (x2 : Bool), K' = [(6, .bool x2)] ∧ L' = [⟨nx0, [.slice Ap2_0 a2.f0.length cp2_0, .slice Ap2_1 a2.f1.length cp2_1], 26⟩, ⟨nx4, [.slice A3 t3.2.f0.length c3, .slice A4 t3.2.f1.length c4], 26⟩] ∧ X' = [] ∧ Imm.le I9 I' ∧ armillarylaw22_AssignMatchesReference.k1 x2 = some r) ?_ ?_
   ·rintro _ I10 nx7 _ _ ⟨x2, rfl, rfl, rfl, hi10, H⟩
    rw [armillarylaw22_AssignMatchesReference.k1] at H
    refine QN.then_ ?_
    refine OK.re ?_
    obtain rfl := Option.some.inj H
    refine QN.body rfl [] (RFacts.nil _ _ _) (.no) (.bool x2) (by kernel_rfl) (by kernel_rfl) (by kernel_rfl) ?_ _ (.inr rfl)
    exact fun w' hs' => ⟨_, rfl, I10, rfl, hs'.got _ .slnil⟩
   ·intro Q_1 hJ2 hQ2
    obtain ⟨y2, H, HK2⟩ := bnd H
    obtain ⟨t6, hA6, H⟩ := bnd H
    refine OK.freeze (e := 3) (sz := 1) (S := A2) (n := t3.1.length) (cap := c2) 0 (by kernel_rfl) (Reps.ext (Imm.le_trans (Imm.le_trans (Imm.le_trans hi6 hi7) hi8) hi9) hp2) rfl (fun I11 hi11 hl4 hr4 => ?_)
    skip
    obtain ⟨t7, hA7, H⟩ := bnd H
    refine OK.cases t7 (fun hb1 => ?_) (fun hb1 => ?_)
    ·have hc1 := hb1
     rw [if_pos hc1] at H
     obtain ⟨t8, hA8, H⟩ := bnd H
     refine OK.cases t8 (fun hb2 => ?_) (fun hb2 => ?_)
     ·have hc2 := hb2
      rw [if_pos hc2] at H
      refine OK.cases (t4.1 == t5.1) (fun hb3 => ?_) (fun hb3 => ?_)
      ·have hc3 := (beq_iff_eq.1 hb3)
       rw [if_pos hc3] at H
       refine OK.cases (t4.2 == t5.2) (fun hb4 => ?_) (fun hb4 => ?_)
       ·have hc4 := hb4
        rw [if_pos hc4] at H
        obtain ⟨t9, hA9, H⟩ := bnd H
        obtain ⟨t10, hA10, H⟩ := bnd H
        refine OK.cases (t9 == t10) (fun hb5 => ?_) (fun hb5 => ?_)
        ·have hc5 := hb5
         rw [if_pos hc5] at H
         obtain ⟨t11, hA11, H⟩ := bnd H
         refine OK.drawnC 8 39 O3_29 a3_29n (by kernel_rfl) (by kernel_rfl) (u3d1l t6 t7 t8 t9 t10 t11) u3d1g [] (RI.nil _) (.no :: .no :: .no :: .no :: .no :: .no :: .no :: .l 1 :: .no :: .no :: .no :: .no :: .no :: .no :: .no :: .no :: .no :: .no :: .no :: .no :: .no :: .no :: .no :: .l 0 :: .no :: .no :: .no :: .l 0 :: .no :: .no :: .no :: .no :: .no :: .no :: .l 0 :: .no :: .no :: .no :: .l 0 :: []) a3_29 a3_29o (by kernel_rfl) (by kernel_rfl) (u3d1s a1 Ap1 cp1 a2 Ap2_0 cp2_0 Ap2_1 cp2_1 t2 A1 c1 t3 A2 c2 A3 c3 A4 c4 t4 t5 t6 t7 t8 t9 t10 t11) (u3d1f a1 Ap1 cp1 a2 Ap2_0 cp2_0 Ap2_1 cp2_1 nx0 t1 t2 A1 c1 t3 A2 c2 A3 c3 A4 c4 nx4 t4 t5 t6 t7 t8 t9 t10 t11 39) (u3d1v a1 Ap1 cp1 a2 Ap2_0 cp2_0 Ap2_1 cp2_1 nx0 t1 t2 A1 c1 t3 A2 c2 A3 c3 A4 c4 nx4 t4 t5 t6 t7 t8 t9 t10 t11) (u3d1e a1 Ap1 cp1 a2 Ap2_0 cp2_0 Ap2_1 cp2_1 nx0 t1 t2 A1 c1 t3 A2 c2 A3 c3 A4 c4 nx4 t4 t5 t6 t7 t8 t9 t10 t11) [u3d1f a1 Ap1 cp1 a2 Ap2_0 cp2_0 Ap2_1 cp2_1 nx0 t1 t2 A1 c1 t3 A2 c2 A3 c3 A4 c4 nx4 t4 t5 t6 t7 t8 t9 t10 t11 2, u3d1f a1 Ap1 cp1 a2 Ap2_0 cp2_0 Ap2_1 cp2_1 nx0 t1 t2 A1 c1 t3 A2 c2 A3 c3 A4 c4 nx4 t4 t5 t6 t7 t8 t9 t10 t11 3, u3d1f a1 Ap1 cp1 a2 Ap2_0 cp2_0 Ap2_1 cp2_1 nx0 t1 t2 A1 c1 t3 A2 c2 A3 c3 A4 c4 nx4 t4 t5 t6 t7 t8 t9 t10 t11 8, u3d1f a1 Ap1 cp1 a2 Ap2_0 cp2_0 Ap2_1 cp2_1 nx0 t1 t2 A1 c1 t3 A2 c2 A3 c3 A4 c4 nx4 t4 t5 t6 t7 t8 t9 t10 t11 24, u3d1f a1 Ap1 cp1 a2 Ap2_0 cp2_0 Ap2_1 cp2_1 nx0 t1 t2 A1 c1 t3 A2 c2 A3 c3 A4 c4 nx4 t4 t5 t6 t7 t8 t9 t10 t11 28, u3d1f a1 Ap1 cp1 a2 Ap2_0 cp2_0 Ap2_1 cp2_1 nx0 t1 t2 A1 c1 t3 A2 c2 A3 c3 A4 c4 nx4 t4 t5 t6 t7 t8 t9 t10 t11 35] (framesOk.cons (fun u => rfl) (framesOk.cons (fun u => rfl) (framesOk.cons (fun u => rfl) (framesOk.cons (fun u => rfl) (framesOk.cons (fun u => rfl) (framesOk.cons (fun u => rfl) framesOk.nil)))))) ?_ [u3d1f a1 Ap1 cp1 a2 Ap2_0 cp2_0 Ap2_1 cp2_1 nx0 t1 t2 A1 c1 t3 A2 c2 A3 c3 A4 c4 nx4 t4 t5 t6 t7 t8 t9 t10 t11 4, u3d1f a1 Ap1 cp1 a2 Ap2_0 cp2_0 Ap2_1 cp2_1 nx0 t1 t2 A1 c1 t3 A2 c2 A3 c3 A4 c4 nx4 t4 t5 t6 t7 t8 t9 t10 t11 10, u3d1f a1 Ap1 cp1 a2 Ap2_0 cp2_0 Ap2_1 cp2_1 nx0 t1 t2 A1 c1 t3 A2 c2 A3 c3 A4 c4 nx4 t4 t5 t6 t7 t8 t9 t10 t11 15, u3d1f a1 Ap1 cp1 a2 Ap2_0 cp2_0 Ap2_1 cp2_1 nx0 t1 t2 A1 c1 t3 A2 c2 A3 c3 A4 c4 nx4 t4 t5 t6 t7 t8 t9 t10 t11 20, u3d1f a1 Ap1 cp1 a2 Ap2_0 cp2_0 Ap2_1 cp2_1 nx0 t1 t2 A1 c1 t3 A2 c2 A3 c3 A4 c4 nx4 t4 t5 t6 t7 t8 t9 t10 t11 31] (framesOk.cons (fun u => rfl) (framesOk.cons (fun u => rfl) (framesOk.cons (fun u => rfl) (framesOk.cons (fun u => rfl) (framesOk.cons (fun u => rfl) framesOk.nil))))) ?_ ?_
         ·refine LoudsG.cons ?_ (LoudsG.cons ?_ (LoudsG.cons ?_ (LoudsG.cons ?_ (LoudsG.cons ?_ (LoudsG.cons ?_ (LoudsG.nil))))))
          ·intro D u J w hp hJ hs hF
           refine Does.call 18 [.slice A1 t2.length c1] (by kernel_rfl) ((armillaryref22_Solve.calls k J t2 A1 c1 w hs.im hl1 (Rd.ext (Imm.le_trans (Imm.le_trans (Imm.le_trans (Imm.le_trans (Imm.le_trans (Imm.le_trans hi5 hi6) hi7) hi8) hi9) hi11) hJ) hr1) t6 hA6).mono ?_)
           rintro e w' ⟨v, rfl, J2, A0_, c0_, cs0_, rfl, hg, hp0_⟩
           obtain ⟨J2', hj0_, hg', hl0_, hr0_⟩ := hg.freeze 0 rfl hp0_ rfl
           exact ⟨_, rfl, fun _ => (A0_, c0_, cs0_), J2', rfl, hg', hl0_, hr0_, trivial⟩
          ·intro D u J w hp hJ hs hF
           refine Does.call 17 [.slice A2 t3.1.length c2, .slice ((u 2 0).1) t6.length ((u 2 0).2.1)] (by kernel_rfl) ((armillaryref22_Same.calls k J t3.1 A2 c2 t6 ((u 2 0).1) ((u 2 0).2.1) w hs.im hl4 (Rd.ext hJ hr4) ((hF.1 (hp 2 (by kernel_rfl) (by kernel_rfl))).1) ((hF.1 (hp 2 (by kernel_rfl) (by kernel_rfl))).2.1) t7 hA7).mono ?_)
           rintro e w' ⟨v, rfl, J2, rfl, hg⟩
           exact ⟨_, rfl, fun _ => (none, 0, []), J2, rfl, hg, trivial⟩
          ·intro D u J w hp hJ hs hF
           refine Does.call 19 [.slice A1 t2.length c1, .slice A2 t3.1.length c2, .agg #[.slice A3 t3.2.f0.length c3, .slice A4 t3.2.f1.length c4]] (by kernel_rfl) ((armillaryref22_VerifyDuals.calls k J t2 A1 c1 t3.1 A2 c2 t3.2 A3 c3 A4 c4 w hs.im hl1 (Rd.ext (Imm.le_trans (Imm.le_trans (Imm.le_trans (Imm.le_trans (Imm.le_trans (Imm.le_trans hi5 hi6) hi7) hi8) hi9) hi11) hJ) hr1) hl4 (Rd.ext hJ hr4) hl2 (Rd.ext (Imm.le_trans (Imm.le_trans (Imm.le_trans (Imm.le_trans hi7 hi8) hi9) hi11) hJ) hr2) hl3 (Rd.ext (Imm.le_trans (Imm.le_trans (Imm.le_trans hi8 hi9) hi11) hJ) hr3) t8 hA8).mono ?_)
           rintro e w' ⟨v, rfl, J2, rfl, hg⟩
           exact ⟨_, rfl, fun _ => (none, 0, []), J2, rfl, hg, trivial⟩
          ·intro D u J w hp hJ hs hF
           refine Does.call 20 [.slice A1 t2.length c1, .slice Ap1 a1.length cp1, .agg #[.slice Ap2_0 a2.f0.length cp2_0, .slice Ap2_1 a2.f1.length cp2_1]] (by kernel_rfl) ((assign_VerifyDuals.calls k J t2 A1 c1 a1 Ap1 cp1 a2 Ap2_0 cp2_0 Ap2_1 cp2_1 w hs.im hl1 (Rd.ext (Imm.le_trans (Imm.le_trans (Imm.le_trans (Imm.le_trans (Imm.le_trans (Imm.le_trans hi5 hi6) hi7) hi8) hi9) hi11) hJ) hr1) hlp1 (Rd.ext (Imm.le_trans (Imm.le_trans (Imm.le_trans (Imm.le_trans (Imm.le_trans (Imm.le_trans (Imm.le_trans (Imm.le_trans (Imm.le_trans (Imm.le_trans hi1 hi2) hi3) hi4) hi5) hi6) hi7) hi8) hi9) hi11) hJ) hrp1) hlp2_0 (Rd.ext (Imm.le_trans (Imm.le_trans (Imm.le_trans (Imm.le_trans (Imm.le_trans (Imm.le_trans (Imm.le_trans (Imm.le_trans (Imm.le_trans (Imm.le_trans hi1 hi2) hi3) hi4) hi5) hi6) hi7) hi8) hi9) hi11) hJ) hrp2_0) hlp2_1 (Rd.ext (Imm.le_trans (Imm.le_trans (Imm.le_trans (Imm.le_trans (Imm.le_trans (Imm.le_trans (Imm.le_trans (Imm.le_trans (Imm.le_trans (Imm.le_trans hi1 hi2) hi3) hi4) hi5) hi6) hi7) hi8) hi9) hi11) hJ) hrp2_1) t9 hA9).mono ?_)
           rintro e w' ⟨v, rfl, J2, rfl, hg⟩
           exact ⟨_, rfl, fun _ => (none, 0, []), J2, rfl, hg, trivial⟩
          ·intro D u J w hp hJ hs hF
           refine Does.call 19 [.slice A1 t2.length c1, .slice Ap1 a1.length cp1, .agg #[.slice Ap2_0 a2.f0.length cp2_0, .slice Ap2_1 a2.f1.length cp2_1]] (by kernel_rfl) ((armillaryref22_VerifyDuals.calls k J t2 A1 c1 a1 Ap1 cp1 a2 Ap2_0 cp2_0 Ap2_1 cp2_1 w hs.im hl1 (Rd.ext (Imm.le_trans (Imm.le_trans (Imm.le_trans (Imm.le_trans (Imm.le_trans (Imm.le_trans hi5 hi6) hi7) hi8) hi9) hi11) hJ) hr1) hlp1 (Rd.ext (Imm.le_trans (Imm.le_trans (Imm.le_trans (Imm.le_trans (Imm.le_trans (Imm.le_trans (Imm.le_trans (Imm.le_trans (Imm.le_trans (Imm.le_trans hi1 hi2) hi3) hi4) hi5) hi6) hi7) hi8) hi9) hi11) hJ) hrp1) hlp2_0 (Rd.ext (Imm.le_trans (Imm.le_trans (Imm.le_trans (Imm.le_trans (Imm.le_trans (Imm.le_trans (Imm.le_trans (Imm.le_trans (Imm.le_trans (Imm.le_trans hi1 hi2) hi3) hi4) hi5) hi6) hi7) hi8) hi9) hi11) hJ) hrp2_0) hlp2_1 (Rd.ext (Imm.le_trans (Imm.le_trans (Imm.le_trans (Imm.le_trans (Imm.le_trans (Imm.le_trans (Imm.le_trans (Imm.le_trans (Imm.le_trans (Imm.le_trans hi1 hi2) hi3) hi4) hi5) hi6) hi7) hi8) hi9) hi11) hJ) hrp2_1) t10 hA10).mono ?_)
           rintro e w' ⟨v, rfl, J2, rfl, hg⟩
           exact ⟨_, rfl, fun _ => (none, 0, []), J2, rfl, hg, trivial⟩
          ·intro D u J w hp hJ hs hF
           refine Does.call 20 [.slice A1 t2.length c1, .slice A2 t3.1.length c2, .agg #[.slice Ap2_0 a2.f0.length cp2_0, .slice Ap2_1 a2.f1.length cp2_1]] (by kernel_rfl) ((assign_VerifyDuals.calls k J t2 A1 c1 t3.1 A2 c2 a2 Ap2_0 cp2_0 Ap2_1 cp2_1 w hs.im hl1 (Rd.ext (Imm.le_trans (Imm.le_trans (Imm.le_trans (Imm.le_trans (Imm.le_trans (Imm.le_trans hi5 hi6) hi7) hi8) hi9) hi11) hJ) hr1) hl4 (Rd.ext hJ hr4) hlp2_0 (Rd.ext (Imm.le_trans (Imm.le_trans (Imm.le_trans (Imm.le_trans (Imm.le_trans (Imm.le_trans (Imm.le_trans (Imm.le_trans (Imm.le_trans (Imm.le_trans hi1 hi2) hi3) hi4) hi5) hi6) hi7) hi8) hi9) hi11) hJ) hrp2_0) hlp2_1 (Rd.ext (Imm.le_trans (Imm.le_trans (Imm.le_trans (Imm.le_trans (Imm.le_trans (Imm.le_trans (Imm.le_trans (Imm.le_trans (Imm.le_trans (Imm.le_trans hi1 hi2) hi3) hi4) hi5) hi6) hi7) hi8) hi9) hi11) hJ) hrp2_1) t11 hA11).mono ?_)
           rintro e w' ⟨v, rfl, J2, rfl, hg⟩
           exact ⟨_, rfl, fun _ => (none, 0, []), J2, rfl, hg, trivial⟩
         ·refine Givens.cons (fun u w =>  ?_) (fun _ _ _ => rfl) (Givens.cons (fun u w =>  ?_) (fun _ _ _ => rfl) (Givens.cons (fun u w =>  ?_) (fun _ _ _ => rfl) (Givens.cons (fun u w =>  ?_) (fun _ _ _ => rfl) (Givens.cons (fun u w =>  ?_) (fun _ _ _ => rfl) (Givens.nil)))))
          ·exact giv_run (v := .bool t7) (by kernel_rfl) (by rw [hb1]; try rfl) w
          ·exact giv_run (v := .bool t8) (by kernel_rfl) (by rw [hb2]; try rfl) w
          ·exact giv_run (v := .bool (t4.1 == t5.1)) (by kernel_rfl) (by rw [hb3]; try rfl) w
          ·exact giv_run (v := .bool (t4.2 == t5.2)) (by kernel_rfl) (by rw [hb4]; try rfl) w
          ·exact giv_run (v := .bool (t9 == t10)) (by kernel_rfl) (by rw [hb5]; try rfl) w
         intro u I12 nx8 hi12 hF
         have hf1 := ((hF.1 rfl).1)
         have hf2 := ((hF.1 rfl).2.1)
         clear hF
         refine RL.norm (K' := ((83, .agg #[.slice Ap2_0 a2.f0.length cp2_0, .slice Ap2_1 a2.f1.length cp2_1]) :: (82, .slice A2 t3.1.length c2) :: (81, .slice A1 t2.length c1) :: (80, .bool t11) :: (79, .agg #[.slice Ap2_0 a2.f0.length cp2_0, .slice Ap2_1 a2.f1.length cp2_1]) :: (78, .slice A2 t3.1.length c2) :: (77, .slice A1 t2.length c1) :: (76, .bool true) :: (75, .bool (t9 == t10)) :: (74, .bool (t9 == t10)) :: (73, .bool t10) :: (72, .agg #[.slice Ap2_0 a2.f0.length cp2_0, .slice Ap2_1 a2.f1.length cp2_1]) :: (71, .slice Ap1 a1.length cp1) :: (70, .slice A1 t2.length c1) :: (69, .bool t9) :: (68, .agg #[.slice Ap2_0 a2.f0.length cp2_0, .slice Ap2_1 a2.f1.length cp2_1]) :: (67, .slice Ap1 a1.length cp1) :: (66, .slice A1 t2.length c1) :: (65, .bool true) :: (64, .bool (t4.2 == t5.2)) :: (63, .bool (t4.2 == t5.2)) :: (62, .bool t5.2) :: (61, .bool t4.2) :: (60, .bool true) :: (59, .bool (t4.1 == t5.1)) :: (58, .bool (t4.1 == t5.1)) :: (57, i6 t5.1) :: (56, i6 t4.1) :: (55, .bool true) :: (54, .bool t8) :: (53, .bool t8) :: (52, .agg #[.slice A3 t3.2.f0.length c3, .slice A4 t3.2.f1.length c4]) :: (51, .slice A2 t3.1.length c2) :: (50, .slice A1 t2.length c1) :: (49, .bool true) :: (48, .bool t7) :: (47, .slice ((u 2 0).1) t6.length ((u 2 0).2.1)) :: (46, .slice A1 t2.length c1) :: (45, .slice A2 t3.1.length c2) :: (14, .bool t5.2) :: (13, i6 t5.1) :: (12, .bool t4.2) :: (11, i6 t4.1) :: (9, .slice A2 t3.1.length c2) :: (10, pt nx4 0) :: (8, .slice A1 t2.length c1) :: (1, .slice Ap1 a1.length cp1) :: (5, pt nx0 0) :: (7, .bool t1) :: [])) (X' := []) (by kernel_rfl) rfl rfl rfl ?_
         revert hf1 hf2
         generalize (u 2 0).1 = A5
         generalize (u 2 0).2.1 = c5
         generalize (u 2 0).2.2 = cs5
         intro hf1 hf2
         clear u
         obtain ⟨t12, hA12, H⟩ := bnd H
         refine RL.callP 19 [.slice A1 t2.length c1, .slice A2 t3.1.length c2, .agg #[.slice Ap2_0 a2.f0.length cp2_0, .slice Ap2_1 a2.f1.length cp2_1]] (some 84) (fun w => armillaryref22_VerifyDuals.Post I12 w t12) (by kernel_rfl) (by kernel_rfl) (fun w hs => armillaryref22_VerifyDuals.calls k I12 t2 A1 c1 t3.1 A2 c2 a2 Ap2_0 cp2_0 Ap2_1 cp2_1 w hs.im hl1 (Rd.ext (Imm.le_trans (Imm.le_trans (Imm.le_trans (Imm.le_trans (Imm.le_trans (Imm.le_trans hi5 hi6) hi7) hi8) hi9) hi11) hi12) hr1) hl4 (Rd.ext hi12 hr4) hlp2_0 (Rd.ext (Imm.le_trans (Imm.le_trans (Imm.le_trans (Imm.le_trans (Imm.le_trans (Imm.le_trans (Imm.le_trans (Imm.le_trans (Imm.le_trans (Imm.le_trans hi1 hi2) hi3) hi4) hi5) hi6) hi7) hi8) hi9) hi11) hi12) hrp2_0) hlp2_1 (Rd.ext (Imm.le_trans (Imm.le_trans (Imm.le_trans (Imm.le_trans (Imm.le_trans (Imm.le_trans (Imm.le_trans (Imm.le_trans (Imm.le_trans (Imm.le_trans hi1 hi2) hi3) hi4) hi5) hi6) hi7) hi8) hi9) hi11) hi12) hrp2_1) t12 hA12) ?_
         rintro w v w' hs ⟨I13, rfl, hg⟩
         have hi13 := hg.le
         refine RL.resume (X' := []) rfl (hs.call hg) ?_
         clear hs hg
         generalize w'.heap.size = nx9
         clear w w'
         refine RL.s 3 [(87, .bool (t11 == t12)), (7, .bool t1)] ?_
         refine RL.cases (t11 == t12) (fun hb => ?_) (fun hb => ?_)
         ·have hc := hb
          rw [hb]
          rw [if_pos hc] at H; clear hb
          refine RL.s 3 [(6, .bool t1)] ?_
          refine RL.nil (by kernel_rfl) ?_
          obtain rfl := Option.some.inj H
          exact QN.sb (hJ2 _ _ _ _ _ ⟨t1, rfl, rfl, rfl, (Imm.le_trans (Imm.le_trans hi11 hi12) hi13), HK2⟩) (.cons_cons _ (.cons_cons _ .slnil)) (.refl _)
         ·have hc := (Bool.eq_false_iff.1 hb)
          rw [hb]
          rw [if_neg hc] at H; clear hb
          refine RL.s 3 [(6, .bool false)] ?_
          refine RL.nil (by kernel_rfl) ?_
          obtain rfl := Option.some.inj H
          exact QN.sb (hJ2 _ _ _ _ _ ⟨false, rfl, rfl, rfl, (Imm.le_trans (Imm.le_trans hi11 hi12) hi13), HK2⟩) (.cons_cons _ (.cons_cons _ .slnil)) (.refl _)
        ·have hc5 := (Bool.eq_false_iff.1 hb5)
         rw [if_neg hc5] at H
         refine OK.drawnC 8 39 O3_29 a3_29n (by kernel_rfl) (by kernel_rfl) (u3d2l t6 t7 t8 t9 t10) u3d2g [] (RI.nil _) (.no :: .no :: .no :: .no :: .no :: .no :: .no :: .l 1 :: .no :: .no :: .no :: .no :: .no :: .no :: .no :: .no :: .no :: .no :: .no :: .no :: .no :: .no :: .no :: .l 0 :: .no :: .no :: .no :: .l 0 :: .no :: .no :: .no :: .no :: .no :: .no :: .no :: .no :: .no :: .no :: .no :: []) a3_29 a3_29o (by kernel_rfl) (by kernel_rfl) (u3d2s a1 Ap1 cp1 a2 Ap2_0 cp2_0 Ap2_1 cp2_1 t2 A1 c1 t3 A2 c2 A3 c3 A4 c4 t4 t5 t6 t7 t8 t9 t10) (u3d2f a1 Ap1 cp1 a2 Ap2_0 cp2_0 Ap2_1 cp2_1 nx0 t1 t2 A1 c1 t3 A2 c2 A3 c3 A4 c4 nx4 t4 t5 t6 t7 t8 t9 t10 39) (u3d2v a1 Ap1 cp1 a2 Ap2_0 cp2_0 Ap2_1 cp2_1 nx0 t1 t2 A1 c1 t3 A2 c2 A3 c3 A4 c4 nx4 t4 t5 t6 t7 t8 t9 t10) (u3d2e a1 Ap1 cp1 a2 Ap2_0 cp2_0 Ap2_1 cp2_1 nx0 t1 t2 A1 c1 t3 A2 c2 A3 c3 A4 c4 nx4 t4 t5 t6 t7 t8 t9 t10) [u3d2f a1 Ap1 cp1 a2 Ap2_0 cp2_0 Ap2_1 cp2_1 nx0 t1 t2 A1 c1 t3 A2 c2 A3 c3 A4 c4 nx4 t4 t5 t6 t7 t8 t9 t10 2, u3d2f a1 Ap1 cp1 a2 Ap2_0 cp2_0 Ap2_1 cp2_1 nx0 t1 t2 A1 c1 t3 A2 c2 A3 c3 A4 c4 nx4 t4 t5 t6 t7 t8 t9 t10 3, u3d2f a1 Ap1 cp1 a2 Ap2_0 cp2_0 Ap2_1 cp2_1 nx0 t1 t2 A1 c1 t3 A2 c2 A3 c3 A4 c4 nx4 t4 t5 t6 t7 t8 t9 t10 8, u3d2f a1 Ap1 cp1 a2 Ap2_0 cp2_0 Ap2_1 cp2_1 nx0 t1 t2 A1 c1 t3 A2 c2 A3 c3 A4 c4 nx4 t4 t5 t6 t7 t8 t9 t10 24, u3d2f a1 Ap1 cp1 a2 Ap2_0 cp2_0 Ap2_1 cp2_1 nx0 t1 t2 A1 c1 t3 A2 c2 A3 c3 A4 c4 nx4 t4 t5 t6 t7 t8 t9 t10 28] (framesOk.cons (fun u => rfl) (framesOk.cons (fun u => rfl) (framesOk.cons (fun u => rfl) (framesOk.cons (fun u => rfl) (framesOk.cons (fun u => rfl) framesOk.nil))))) ?_ [u3d2f a1 Ap1 cp1 a2 Ap2_0 cp2_0 Ap2_1 cp2_1 nx0 t1 t2 A1 c1 t3 A2 c2 A3 c3 A4 c4 nx4 t4 t5 t6 t7 t8 t9 t10 4, u3d2f a1 Ap1 cp1 a2 Ap2_0 cp2_0 Ap2_1 cp2_1 nx0 t1 t2 A1 c1 t3 A2 c2 A3 c3 A4 c4 nx4 t4 t5 t6 t7 t8 t9 t10 10, u3d2f a1 Ap1 cp1 a2 Ap2_0 cp2_0 Ap2_1 cp2_1 nx0 t1 t2 A1 c1 t3 A2 c2 A3 c3 A4 c4 nx4 t4 t5 t6 t7 t8 t9 t10 15, u3d2f a1 Ap1 cp1 a2 Ap2_0 cp2_0 Ap2_1 cp2_1 nx0 t1 t2 A1 c1 t3 A2 c2 A3 c3 A4 c4 nx4 t4 t5 t6 t7 t8 t9 t10 20, u3d2f a1 Ap1 cp1 a2 Ap2_0 cp2_0 Ap2_1 cp2_1 nx0 t1 t2 A1 c1 t3 A2 c2 A3 c3 A4 c4 nx4 t4 t5 t6 t7 t8 t9 t10 31] (framesOk.cons (fun u => rfl) (framesOk.cons (fun u => rfl) (framesOk.cons (fun u => rfl) (framesOk.cons (fun u => rfl) (framesOk.cons (fun u => rfl) framesOk.nil))))) ?_ ?_
         ·refine LoudsG.cons ?_ (LoudsG.cons ?_ (LoudsG.cons ?_ (LoudsG.cons ?_ (LoudsG.cons ?_ (LoudsG.nil)))))
          ·intro D u J w hp hJ hs hF
           refine Does.call 18 [.slice A1 t2.length c1] (by kernel_rfl) ((armillaryref22_Solve.calls k J t2 A1 c1 w hs.im hl1 (Rd.ext (Imm.le_trans (Imm.le_trans (Imm.le_trans (Imm.le_trans (Imm.le_trans (Imm.le_trans hi5 hi6) hi7) hi8) hi9) hi11) hJ) hr1) t6 hA6).mono ?_)
           rintro e w' ⟨v, rfl, J2, A0_, c0_, cs0_, rfl, hg, hp0_⟩
           obtain ⟨J2', hj0_, hg', hl0_, hr0_⟩ := hg.freeze 0 rfl hp0_ rfl
           exact ⟨_, rfl, fun _ => (A0_, c0_, cs0_), J2', rfl, hg', hl0_, hr0_, trivial⟩
          ·intro D u J w hp hJ hs hF
           refine Does.call 17 [.slice A2 t3.1.length c2, .slice ((u 2 0).1) t6.length ((u 2 0).2.1)] (by kernel_rfl) ((armillaryref22_Same.calls k J t3.1 A2 c2 t6 ((u 2 0).1) ((u 2 0).2.1) w hs.im hl4 (Rd.ext hJ hr4) ((hF.1 (hp 2 (by kernel_rfl) (by kernel_rfl))).1) ((hF.1 (hp 2 (by kernel_rfl) (by kernel_rfl))).2.1) t7 hA7).mono ?_)
           rintro e w' ⟨v, rfl, J2, rfl, hg⟩
           exact ⟨_, rfl, fun _ => (none, 0, []), J2, rfl, hg, trivial⟩
          ·intro D u J w hp hJ hs hF
           refine Does.call 19 [.slice A1 t2.length c1, .slice A2 t3.1.length c2, .agg #[.slice A3 t3.2.f0.length c3, .slice A4 t3.2.f1.length c4]] (by kernel_rfl) ((armillaryref22_VerifyDuals.calls k J t2 A1 c1 t3.1 A2 c2 t3.2 A3 c3 A4 c4 w hs.im hl1 (Rd.ext (Imm.le_trans (Imm.le_trans (Imm.le_trans (Imm.le_trans (Imm.le_trans (Imm.le_trans hi5 hi6) hi7) hi8) hi9) hi11) hJ) hr1) hl4 (Rd.ext hJ hr4) hl2 (Rd.ext (Imm.le_trans (Imm.le_trans (Imm.le_trans (Imm.le_trans hi7 hi8) hi9) hi11) hJ) hr2) hl3 (Rd.ext (Imm.le_trans (Imm.le_trans (Imm.le_trans hi8 hi9) hi11) hJ) hr3) t8 hA8).mono ?_)
           rintro e w' ⟨v, rfl, J2, rfl, hg⟩
           exact ⟨_, rfl, fun _ => (none, 0, []), J2, rfl, hg, trivial⟩
          ·intro D u J w hp hJ hs hF
           refine Does.call 20 [.slice A1 t2.length c1, .slice Ap1 a1.length cp1, .agg #[.slice Ap2_0 a2.f0.length cp2_0, .slice Ap2_1 a2.f1.length cp2_1]] (by kernel_rfl) ((assign_VerifyDuals.calls k J t2 A1 c1 a1 Ap1 cp1 a2 Ap2_0 cp2_0 Ap2_1 cp2_1 w hs.im hl1 (Rd.ext (Imm.le_trans (Imm.le_trans (Imm.le_trans (Imm.le_trans (Imm.le_trans (Imm.le_trans hi5 hi6) hi7) hi8) hi9) hi11) hJ) hr1) hlp1 (Rd.ext (Imm.le_trans (Imm.le_trans (Imm.le_trans (Imm.le_trans (Imm.le_trans (Imm.le_trans (Imm.le_trans (Imm.le_trans (Imm.le_trans (Imm.le_trans hi1 hi2) hi3) hi4) hi5) hi6) hi7) hi8) hi9) hi11) hJ) hrp1) hlp2_0 (Rd.ext (Imm.le_trans (Imm.le_trans (Imm.le_trans (Imm.le_trans (Imm.le_trans (Imm.le_trans (Imm.le_trans (Imm.le_trans (Imm.le_trans (Imm.le_trans hi1 hi2) hi3) hi4) hi5) hi6) hi7) hi8) hi9) hi11) hJ) hrp2_0) hlp2_1 (Rd.ext (Imm.le_trans (Imm.le_trans (Imm.le_trans (Imm.le_trans (Imm.le_trans (Imm.le_trans (Imm.le_trans (Imm.le_trans (Imm.le_trans (Imm.le_trans hi1 hi2) hi3) hi4) hi5) hi6) hi7) hi8) hi9) hi11) hJ) hrp2_1) t9 hA9).mono ?_)
           rintro e w' ⟨v, rfl, J2, rfl, hg⟩
           exact ⟨_, rfl, fun _ => (none, 0, []), J2, rfl, hg, trivial⟩
          ·intro D u J w hp hJ hs hF
           refine Does.call 19 [.slice A1 t2.length c1, .slice Ap1 a1.length cp1, .agg #[.slice Ap2_0 a2.f0.length cp2_0, .slice Ap2_1 a2.f1.length cp2_1]] (by kernel_rfl) ((armillaryref22_VerifyDuals.calls k J t2 A1 c1 a1 Ap1 cp1 a2 Ap2_0 cp2_0 Ap2_1 cp2_1 w hs.im hl1 (Rd.ext (Imm.le_trans (Imm.le_trans (Imm.le_trans (Imm.le_trans (Imm.le_trans (Imm.le_trans hi5 hi6) hi7) hi8) hi9) hi11) hJ) hr1) hlp1 (Rd.ext (Imm.le_trans (Imm.le_trans (Imm.le_trans (Imm.le_trans (Imm.le_trans (Imm.le_trans (Imm.le_trans (Imm.le_trans (Imm.le_trans (Imm.le_trans hi1 hi2) hi3) hi4) hi5) hi6) hi7) hi8) hi9) hi11) hJ) hrp1) hlp2_0 (Rd.ext (Imm.le_trans (Imm.le_trans (Imm.le_trans (Imm.le_trans (Imm.le_trans (Imm.le_trans (Imm.le_trans (Imm.le_trans (Imm.le_trans (Imm.le_trans hi1 hi2) hi3) hi4) hi5) hi6) hi7) hi8) hi9) hi11) hJ) hrp2_0) hlp2_1 (Rd.ext (Imm.le_trans (Imm.le_trans (Imm.le_trans (Imm.le_trans (Imm.le_trans (Imm.le_trans (Imm.le_trans (Imm.le_trans (Imm.le_trans (Imm.le_trans hi1 hi2) hi3) hi4) hi5) hi6) hi7) hi8) hi9) hi11) hJ) hrp2_1) t10 hA10).mono ?_)
           rintro e w' ⟨v, rfl, J2, rfl, hg⟩
           exact ⟨_, rfl, fun _ => (none, 0, []), J2, rfl, hg, trivial⟩
         ·refine Givens.cons (fun u w =>  ?_) (fun _ _ _ => rfl) (Givens.cons (fun u w =>  ?_) (fun _ _ _ => rfl) (Givens.cons (fun u w =>  ?_) (fun _ _ _ => rfl) (Givens.cons (fun u w =>  ?_) (fun _ _ _ => rfl) (Givens.cons (fun u w =>  ?_) (fun _ _ _ => rfl) (Givens.nil)))))
          ·exact giv_run (v := .bool t7) (by kernel_rfl) (by rw [hb1]; try rfl) w
          ·exact giv_run (v := .bool t8) (by kernel_rfl) (by rw [hb2]; try rfl) w
          ·exact giv_run (v := .bool (t4.1 == t5.1)) (by kernel_rfl) (by rw [hb3]; try rfl) w
          ·exact giv_run (v := .bool (t4.2 == t5.2)) (by kernel_rfl) (by rw [hb4]; try rfl) w
          ·exact giv_run (v := .bool (t9 == t10)) (by kernel_rfl) (by rw [hb5]; try rfl) w
         intro u I14 nx10 hi14 hF
         have hf3 := ((hF.1 rfl).1)
         have hf4 := ((hF.1 rfl).2.1)
         clear hF
         refine RL.norm (K' := ((83, undef) :: (82, undef) :: (81, undef) :: (80, undef) :: (79, undef) :: (78, undef) :: (77, undef) :: (76, .bool false) :: (75, .bool (t9 == t10)) :: (74, .bool (t9 == t10)) :: (73, .bool t10) :: (72, .agg #[.slice Ap2_0 a2.f0.length cp2_0, .slice Ap2_1 a2.f1.length cp2_1]) :: (71, .slice Ap1 a1.length cp1) :: (70, .slice A1 t2.length c1) :: (69, .bool t9) :: (68, .agg #[.slice Ap2_0 a2.f0.length cp2_0, .slice Ap2_1 a2.f1.length cp2_1]) :: (67, .slice Ap1 a1.length cp1) :: (66, .slice A1 t2.length c1) :: (65, .bool true) :: (64, .bool (t4.2 == t5.2)) :: (63, .bool (t4.2 == t5.2)) :: (62, .bool t5.2) :: (61, .bool t4.2) :: (60, .bool true) :: (59, .bool (t4.1 == t5.1)) :: (58, .bool (t4.1 == t5.1)) :: (57, i6 t5.1) :: (56, i6 t4.1) :: (55, .bool true) :: (54, .bool t8) :: (53, .bool t8) :: (52, .agg #[.slice A3 t3.2.f0.length c3, .slice A4 t3.2.f1.length c4]) :: (51, .slice A2 t3.1.length c2) :: (50, .slice A1 t2.length c1) :: (49, .bool true) :: (48, .bool t7) :: (47, .slice ((u 2 0).1) t6.length ((u 2 0).2.1)) :: (46, .slice A1 t2.length c1) :: (45, .slice A2 t3.1.length c2) :: (14, .bool t5.2) :: (13, i6 t5.1) :: (12, .bool t4.2) :: (11, i6 t4.1) :: (9, .slice A2 t3.1.length c2) :: (10, pt nx4 0) :: (8, .slice A1 t2.length c1) :: (1, .slice Ap1 a1.length cp1) :: (5, pt nx0 0) :: (7, .bool t1) :: [])) (X' := []) (by kernel_rfl) rfl rfl rfl ?_
         revert hf3 hf4
         generalize (u 2 0).1 = A6
         generalize (u 2 0).2.1 = c6
         generalize (u 2 0).2.2 = cs6
         intro hf3 hf4
         clear u
         refine RL.s 7 [(6, .bool false)] ?_
         refine RL.nil (by kernel_rfl) ?_
         obtain rfl := Option.some.inj H
         exact QN.sb (hJ2 _ _ _ _ _ ⟨false, rfl, rfl, rfl, (Imm.le_trans hi11 hi14), HK2⟩) (.cons_cons _ (.cons_cons _ .slnil)) (.refl _)
       ·have hc4 := (Bool.eq_false_iff.1 hb4)
        rw [if_neg hc4] at H
        refine OK.drawnC 8 39 O3_29 a3_29n (by kernel_rfl) (by kernel_rfl) (u3d3l t6 t7 t8) u3d3g [] (RI.nil _) (.no :: .no :: .no :: .no :: .no :: .no :: .no :: .l 1 :: .no :: .no :: .no :: .no :: .no :: .no :: .no :: .no :: .no :: .no :: .no :: .no :: .no :: .no :: .no :: .no :: .no :: .no :: .no :: .no :: .no :: .no :: .no :: .no :: .no :: .no :: .no :: .no :: .no :: .no :: .no :: []) a3_29 a3_29o (by kernel_rfl) (by kernel_rfl) (u3d3s t2 A1 c1 t3 A2 c2 A3 c3 A4 c4 t4 t5 t6 t7 t8) (u3d3f a1 Ap1 cp1 nx0 t1 t2 A1 c1 t3 A2 c2 A3 c3 A4 c4 nx4 t4 t5 t6 t7 t8 39) (u3d3v a1 Ap1 cp1 a2 Ap2_0 cp2_0 Ap2_1 cp2_1 nx0 t1 t2 A1 c1 t3 A2 c2 A3 c3 A4 c4 nx4 t4 t5 t6 t7 t8) (u3d3e a1 Ap1 cp1 a2 Ap2_0 cp2_0 Ap2_1 cp2_1 nx0 t1 t2 A1 c1 t3 A2 c2 A3 c3 A4 c4 nx4 t4 t5 t6 t7 t8) [u3d3f a1 Ap1 cp1 nx0 t1 t2 A1 c1 t3 A2 c2 A3 c3 A4 c4 nx4 t4 t5 t6 t7 t8 2, u3d3f a1 Ap1 cp1 nx0 t1 t2 A1 c1 t3 A2 c2 A3 c3 A4 c4 nx4 t4 t5 t6 t7 t8 3, u3d3f a1 Ap1 cp1 nx0 t1 t2 A1 c1 t3 A2 c2 A3 c3 A4 c4 nx4 t4 t5 t6 t7 t8 8] (framesOk.cons (fun u => rfl) (framesOk.cons (fun u => rfl) (framesOk.cons (fun u => rfl) framesOk.nil))) ?_ [u3d3f a1 Ap1 cp1 nx0 t1 t2 A1 c1 t3 A2 c2 A3 c3 A4 c4 nx4 t4 t5 t6 t7 t8 4, u3d3f a1 Ap1 cp1 nx0 t1 t2 A1 c1 t3 A2 c2 A3 c3 A4 c4 nx4 t4 t5 t6 t7 t8 10, u3d3f a1 Ap1 cp1 nx0 t1 t2 A1 c1 t3 A2 c2 A3 c3 A4 c4 nx4 t4 t5 t6 t7 t8 15, u3d3f a1 Ap1 cp1 nx0 t1 t2 A1 c1 t3 A2 c2 A3 c3 A4 c4 nx4 t4 t5 t6 t7 t8 20] (framesOk.cons (fun u => rfl) (framesOk.cons (fun u => rfl) (framesOk.cons (fun u => rfl) (framesOk.cons (fun u => rfl) framesOk.nil)))) ?_ ?_
        ·refine LoudsG.cons ?_ (LoudsG.cons ?_ (LoudsG.cons ?_ (LoudsG.nil)))
         ·intro D u J w hp hJ hs hF
          refine Does.call 18 [.slice A1 t2.length c1] (by kernel_rfl) ((armillaryref22_Solve.calls k J t2 A1 c1 w hs.im hl1 (Rd.ext (Imm.le_trans (Imm.le_trans (Imm.le_trans (Imm.le_trans (Imm.le_trans (Imm.le_trans hi5 hi6) hi7) hi8) hi9) hi11) hJ) hr1) t6 hA6).mono ?_)
          rintro e w' ⟨v, rfl, J2, A0_, c0_, cs0_, rfl, hg, hp0_⟩
          obtain ⟨J2', hj0_, hg', hl0_, hr0_⟩ := hg.freeze 0 rfl hp0_ rfl
          exact ⟨_, rfl, fun _ => (A0_, c0_, cs0_), J2', rfl, hg', hl0_, hr0_, trivial⟩
         ·intro D u J w hp hJ hs hF
          refine Does.call 17 [.slice A2 t3.1.length c2, .slice ((u 2 0).1) t6.length ((u 2 0).2.1)] (by kernel_rfl) ((armillaryref22_Same.calls k J t3.1 A2 c2 t6 ((u 2 0).1) ((u 2 0).2.1) w hs.im hl4 (Rd.ext hJ hr4) ((hF.1 (hp 2 (by kernel_rfl) (by kernel_rfl))).1) ((hF.1 (hp 2 (by kernel_rfl) (by kernel_rfl))).2.1) t7 hA7).mono ?_)
          rintro e w' ⟨v, rfl, J2, rfl, hg⟩
          exact ⟨_, rfl, fun _ => (none, 0, []), J2, rfl, hg, trivial⟩
         ·intro D u J w hp hJ hs hF
          refine Does.call 19 [.slice A1 t2.length c1, .slice A2 t3.1.length c2, .agg #[.slice A3 t3.2.f0.length c3, .slice A4 t3.2.f1.length c4]] (by kernel_rfl) ((armillaryref22_VerifyDuals.calls k J t2 A1 c1 t3.1 A2 c2 t3.2 A3 c3 A4 c4 w hs.im hl1 (Rd.ext (Imm.le_trans (Imm.le_trans (Imm.le_trans (Imm.le_trans (Imm.le_trans (Imm.le_trans hi5 hi6) hi7) hi8) hi9) hi11) hJ) hr1) hl4 (Rd.ext hJ hr4) hl2 (Rd.ext (Imm.le_trans (Imm.le_trans (Imm.le_trans (Imm.le_trans hi7 hi8) hi9) hi11) hJ) hr2) hl3 (Rd.ext (Imm.le_trans (Imm.le_trans (Imm.le_trans hi8 hi9) hi11) hJ) hr3) t8 hA8).mono ?_)
          rintro e w' ⟨v, rfl, J2, rfl, hg⟩
          exact ⟨_, rfl, fun _ => (none, 0, []), J2, rfl, hg, trivial⟩
        ·refine Givens.cons (fun u w =>  ?_) (fun _ _ _ => rfl) (Givens.cons (fun u w =>  ?_) (fun _ _ _ => rfl) (Givens.cons (fun u w =>  ?_) (fun _ _ _ => rfl) (Givens.cons (fun u w =>  ?_) (fun _ _ _ => rfl) (Givens.nil))))
         ·exact giv_run (v := .bool t7) (by kernel_rfl) (by rw [hb1]; try rfl) w
         ·exact giv_run (v := .bool t8) (by kernel_rfl) (by rw [hb2]; try rfl) w
         ·exact giv_run (v := .bool (t4.1 == t5.1)) (by kernel_rfl) (by rw [hb3]; try rfl) w
         ·exact giv_run (v := .bool (t4.2 == t5.2)) (by kernel_rfl) (by rw [hb4]; try rfl) w
        intro u I15 nx11 hi15 hF
        have hf5 := ((hF.1 rfl).1)
        have hf6 := ((hF.1 rfl).2.1)
        clear hF
        refine RL.norm (K' := ((83, undef) :: (82, undef) :: (81, undef) :: (80, undef) :: (79, undef) :: (78, undef) :: (77, undef) :: (76, .bool false) :: (75, .bool false) :: (74, undef) :: (73, undef) :: (72, undef) :: (71, undef) :: (70, undef) :: (69, undef) :: (68, undef) :: (67, undef) :: (66, undef) :: (65, .bool false) :: (64, .bool (t4.2 == t5.2)) :: (63, .bool (t4.2 == t5.2)) :: (62, .bool t5.2) :: (61, .bool t4.2) :: (60, .bool true) :: (59, .bool (t4.1 == t5.1)) :: (58, .bool (t4.1 == t5.1)) :: (57, i6 t5.1) :: (56, i6 t4.1) :: (55, .bool true) :: (54, .bool t8) :: (53, .bool t8) :: (52, .agg #[.slice A3 t3.2.f0.length c3, .slice A4 t3.2.f1.length c4]) :: (51, .slice A2 t3.1.length c2) :: (50, .slice A1 t2.length c1) :: (49, .bool true) :: (48, .bool t7) :: (47, .slice ((u 2 0).1) t6.length ((u 2 0).2.1)) :: (46, .slice A1 t2.length c1) :: (45, .slice A2 t3.1.length c2) :: (14, .bool t5.2) :: (13, i6 t5.1) :: (12, .bool t4.2) :: (11, i6 t4.1) :: (9, .slice A2 t3.1.length c2) :: (10, pt nx4 0) :: (8, .slice A1 t2.length c1) :: (1, .slice Ap1 a1.length cp1) :: (5, pt nx0 0) :: (7, .bool t1) :: [])) (X' := []) (by kernel_rfl) rfl rfl rfl ?_
        revert hf5 hf6
        generalize (u 2 0).1 = A7
        generalize (u 2 0).2.1 = c7
        generalize (u 2 0).2.2 = cs7
        intro hf5 hf6
        clear u
        refine RL.s 7 [(6, .bool false)] ?_
        refine RL.nil (by kernel_rfl) ?_
        obtain rfl := Option.some.inj H
        exact QN.sb (hJ2 _ _ _ _ _ ⟨false, rfl, rfl, rfl, (Imm.le_trans hi11 hi15), HK2⟩) (.cons_cons _ (.cons_cons _ .slnil)) (.refl _)
      ·have hc3 := (beq_eq_false_iff_ne.1 hb3)
       rw [if_neg hc3] at H
       refine OK.drawnC 8 39 O3_29 a3_29n (by kernel_rfl) (by kernel_rfl) (u3d4l t6 t7 t8) u3d4g [] (RI.nil _) (.no :: .no :: .no :: .no :: .no :: .no :: .no :: .l 1 :: .no :: .no :: .no :: .no :: .no :: .no :: .no :: .no :: .no :: .no :: .no :: .no :: .no :: .no :: .no :: .no :: .no :: .no :: .no :: .no :: .no :: .no :: .no :: .no :: .no :: .no :: .no :: .no :: .no :: .no :: .no :: []) a3_29 a3_29o (by kernel_rfl) (by kernel_rfl) (u3d4s t2 A1 c1 t3 A2 c2 A3 c3 A4 c4 t4 t5 t6 t7 t8) (u3d4f a1 Ap1 cp1 nx0 t1 t2 A1 c1 t3 A2 c2 A3 c3 A4 c4 nx4 t4 t5 t6 t7 t8 39) (u3d4v a1 Ap1 cp1 a2 Ap2_0 cp2_0 Ap2_1 cp2_1 nx0 t1 t2 A1 c1 t3 A2 c2 A3 c3 A4 c4 nx4 t4 t5 t6 t7 t8) (u3d4e a1 Ap1 cp1 a2 Ap2_0 cp2_0 Ap2_1 cp2_1 nx0 t1 t2 A1 c1 t3 A2 c2 A3 c3 A4 c4 nx4 t4 t5 t6 t7 t8) [u3d4f a1 Ap1 cp1 nx0 t1 t2 A1 c1 t3 A2 c2 A3 c3 A4 c4 nx4 t4 t5 t6 t7 t8 2, u3d4f a1 Ap1 cp1 nx0 t1 t2 A1 c1 t3 A2 c2 A3 c3 A4 c4 nx4 t4 t5 t6 t7 t8 3, u3d4f a1 Ap1 cp1 nx0 t1 t2 A1 c1 t3 A2 c2 A3 c3 A4 c4 nx4 t4 t5 t6 t7 t8 8] (framesOk.cons (fun u => rfl) (framesOk.cons (fun u => rfl) (framesOk.cons (fun u => rfl) framesOk.nil))) ?_ [u3d4f a1 Ap1 cp1 nx0 t1 t2 A1 c1 t3 A2 c2 A3 c3 A4 c4 nx4 t4 t5 t6 t7 t8 4, u3d4f a1 Ap1 cp1 nx0 t1 t2 A1 c1 t3 A2 c2 A3 c3 A4 c4 nx4 t4 t5 t6 t7 t8 10, u3d4f a1 Ap1 cp1 nx0 t1 t2 A1 c1 t3 A2 c2 A3 c3 A4 c4 nx4 t4 t5 t6 t7 t8 15] (framesOk.cons (fun u => rfl) (framesOk.cons (fun u => rfl) (framesOk.cons (fun u => rfl) framesOk.nil))) ?_ ?_
       ·refine LoudsG.cons ?_ (LoudsG.cons ?_ (LoudsG.cons ?_ (LoudsG.nil)))
        ·intro D u J w hp hJ hs hF
         refine Does.call 18 [.slice A1 t2.length c1] (by kernel_rfl) ((armillaryref22_Solve.calls k J t2 A1 c1 w hs.im hl1 (Rd.ext (Imm.le_trans (Imm.le_trans (Imm.le_trans (Imm.le_trans (Imm.le_trans (Imm.le_trans hi5 hi6) hi7) hi8) hi9) hi11) hJ) hr1) t6 hA6).mono ?_)
         rintro e w' ⟨v, rfl, J2, A0_, c0_, cs0_, rfl, hg, hp0_⟩
         obtain ⟨J2', hj0_, hg', hl0_, hr0_⟩ := hg.freeze 0 rfl hp0_ rfl
         exact ⟨_, rfl, fun _ => (A0_, c0_, cs0_), J2', rfl, hg', hl0_, hr0_, trivial⟩
        ·intro D u J w hp hJ hs hF
         refine Does.call 17 [.slice A2 t3.1.length c2, .slice ((u 2 0).1) t6.length ((u 2 0).2.1)] (by kernel_rfl) ((armillaryref22_Same.calls k J t3.1 A2 c2 t6 ((u 2 0).1) ((u 2 0).2.1) w hs.im hl4 (Rd.ext hJ hr4) ((hF.1 (hp 2 (by kernel_rfl) (by kernel_rfl))).1) ((hF.1 (hp 2 (by kernel_rfl) (by kernel_rfl))).2.1) t7 hA7).mono ?_)
         rintro e w' ⟨v, rfl, J2, rfl, hg⟩
         exact ⟨_, rfl, fun _ => (none, 0, []), J2, rfl, hg, trivial⟩
        ·intro D u J w hp hJ hs hF
         refine Does.call 19 [.slice A1 t2.length c1, .slice A2 t3.1.length c2, .agg #[.slice A3 t3.2.f0.length c3, .slice A4 t3.2.f1.length c4]] (by kernel_rfl) ((armillaryref22_VerifyDuals.calls k J t2 A1 c1 t3.1 A2 c2 t3.2 A3 c3 A4 c4 w hs.im hl1 (Rd.ext (Imm.le_trans (Imm.le_trans (Imm.le_trans (Imm.le_trans (Imm.le_trans (Imm.le_trans hi5 hi6) hi7) hi8) hi9) hi11) hJ) hr1) hl4 (Rd.ext hJ hr4) hl2 (Rd.ext (Imm.le_trans (Imm.le_trans (Imm.le_trans (Imm.le_trans hi7 hi8) hi9) hi11) hJ) hr2) hl3 (Rd.ext (Imm.le_trans (Imm.le_trans (Imm.le_trans hi8 hi9) hi11) hJ) hr3) t8 hA8).mono ?_)
         rintro e w' ⟨v, rfl, J2, rfl, hg⟩
         exact ⟨_, rfl, fun _ => (none, 0, []), J2, rfl, hg, trivial⟩
       ·refine Givens.cons (fun u w =>  ?_) (fun _ _ _ => rfl) (Givens.cons (fun u w =>  ?_) (fun _ _ _ => rfl) (Givens.cons (fun u w =>  ?_) (fun _ _ _ => rfl) (Givens.nil)))
        ·exact giv_run (v := .bool t7) (by kernel_rfl) (by rw [hb1]; try rfl) w
        ·exact giv_run (v := .bool t8) (by kernel_rfl) (by rw [hb2]; try rfl) w
        ·exact giv_run (v := .bool (t4.1 == t5.1)) (by kernel_rfl) (by rw [hb3]; try rfl) w
       intro u I16 nx12 hi16 hF
       have hf7 := ((hF.1 rfl).1)
       have hf8 := ((hF.1 rfl).2.1)
       clear hF
       refine RL.norm (K' := ((83, undef) :: (82, undef) :: (81, undef) :: (80, undef) :: (79, undef) :: (78, undef) :: (77, undef) :: (76, .bool false) :: (75, .bool false) :: (74, undef) :: (73, undef) :: (72, undef) :: (71, undef) :: (70, undef) :: (69, undef) :: (68, undef) :: (67, undef) :: (66, undef) :: (65, .bool false) :: (64, .bool false) :: (63, undef) :: (62, undef) :: (61, undef) :: (60, .bool false) :: (59, .bool (t4.1 == t5.1)) :: (58, .bool (t4.1 == t5.1)) :: (57, i6 t5.1) :: (56, i6 t4.1) :: (55, .bool true) :: (54, .bool t8) :: (53, .bool t8) :: (52, .agg #[.slice A3 t3.2.f0.length c3, .slice A4 t3.2.f1.length c4]) :: (51, .slice A2 t3.1.length c2) :: (50, .slice A1 t2.length c1) :: (49, .bool true) :: (48, .bool t7) :: (47, .slice ((u 2 0).1) t6.length ((u 2 0).2.1)) :: (46, .slice A1 t2.length c1) :: (45, .slice A2 t3.1.length c2) :: (14, .bool t5.2) :: (13, i6 t5.1) :: (12, .bool t4.2) :: (11, i6 t4.1) :: (9, .slice A2 t3.1.length c2) :: (10, pt nx4 0) :: (8, .slice A1 t2.length c1) :: (1, .slice Ap1 a1.length cp1) :: (5, pt nx0 0) :: (7, .bool t1) :: [])) (X' := []) (by kernel_rfl) rfl rfl rfl ?_
       revert hf7 hf8
       generalize (u 2 0).1 = A8
       generalize (u 2 0).2.1 = c8
       generalize (u 2 0).2.2 = cs8
       intro hf7 hf8
       clear u
       refine RL.s 7 [(6, .bool false)] ?_
       refine RL.nil (by kernel_rfl) ?_
       obtain rfl := Option.some.inj H
       exact QN.sb (hJ2 _ _ _ _ _ ⟨false, rfl, rfl, rfl, (Imm.le_trans hi11 hi16), HK2⟩) (.cons_cons _ (.cons_cons _ .slnil)) (.refl _)
     ·have hc2 := (Bool.eq_false_iff.1 hb2)
      rw [if_neg hc2] at H
      refine OK.drawnC 8 39 O3_29 a3_29n (by kernel_rfl) (by kernel_rfl) (u3d5l t6 t7 t8) u3d5g [] (RI.nil _) (.no :: .no :: .no :: .no :: .no :: .no :: .no :: .l 1 :: .no :: .no :: .no :: .no :: .no :: .no :: .no :: .no :: .no :: .no :: .no :: .no :: .no :: .no :: .no :: .no :: .no :: .no :: .no :: .no :: .no :: .no :: .no :: .no :: .no :: .no :: .no :: .no :: .no :: .no :: .no :: []) a3_29 a3_29o (by kernel_rfl) (by kernel_rfl) (u3d5s t2 A1 c1 t3 A2 c2 A3 c3 A4 c4 t6 t7 t8) (u3d5f a1 Ap1 cp1 nx0 t1 t2 A1 c1 t3 A2 c2 A3 c3 A4 c4 nx4 t4 t5 t6 t7 t8 39) (u3d5v a1 Ap1 cp1 a2 Ap2_0 cp2_0 Ap2_1 cp2_1 nx0 t1 t2 A1 c1 t3 A2 c2 A3 c3 A4 c4 nx4 t4 t5 t6 t7 t8) (u3d5e a1 Ap1 cp1 a2 Ap2_0 cp2_0 Ap2_1 cp2_1 nx0 t1 t2 A1 c1 t3 A2 c2 A3 c3 A4 c4 nx4 t4 t5 t6 t7 t8) [u3d5f a1 Ap1 cp1 nx0 t1 t2 A1 c1 t3 A2 c2 A3 c3 A4 c4 nx4 t4 t5 t6 t7 t8 2, u3d5f a1 Ap1 cp1 nx0 t1 t2 A1 c1 t3 A2 c2 A3 c3 A4 c4 nx4 t4 t5 t6 t7 t8 3, u3d5f a1 Ap1 cp1 nx0 t1 t2 A1 c1 t3 A2 c2 A3 c3 A4 c4 nx4 t4 t5 t6 t7 t8 8] (framesOk.cons (fun u => rfl) (framesOk.cons (fun u => rfl) (framesOk.cons (fun u => rfl) framesOk.nil))) ?_ [u3d5f a1 Ap1 cp1 nx0 t1 t2 A1 c1 t3 A2 c2 A3 c3 A4 c4 nx4 t4 t5 t6 t7 t8 4, u3d5f a1 Ap1 cp1 nx0 t1 t2 A1 c1 t3 A2 c2 A3 c3 A4 c4 nx4 t4 t5 t6 t7 t8 10] (framesOk.cons (fun u => rfl) (framesOk.cons (fun u => rfl) framesOk.nil)) ?_ ?_
      ·refine LoudsG.cons ?_ (LoudsG.cons ?_ (LoudsG.cons ?_ (LoudsG.nil)))
       ·intro D u J w hp hJ hs hF
        refine Does.call 18 [.slice A1 t2.length c1] (by kernel_rfl) ((armillaryref22_Solve.calls k J t2 A1 c1 w hs.im hl1 (Rd.ext (Imm.le_trans (Imm.le_trans (Imm.le_trans (Imm.le_trans (Imm.le_trans (Imm.le_trans hi5 hi6) hi7) hi8) hi9) hi11) hJ) hr1) t6 hA6).mono ?_)
        rintro e w' ⟨v, rfl, J2, A0_, c0_, cs0_, rfl, hg, hp0_⟩
        obtain ⟨J2', hj0_, hg', hl0_, hr0_⟩ := hg.freeze 0 rfl hp0_ rfl
        exact ⟨_, rfl, fun _ => (A0_, c0_, cs0_), J2', rfl, hg', hl0_, hr0_, trivial⟩
       ·intro D u J w hp hJ hs hF
        refine Does.call 17 [.slice A2 t3.1.length c2, .slice ((u 2 0).1) t6.length ((u 2 0).2.1)] (by kernel_rfl) ((armillaryref22_Same.calls k J t3.1 A2 c2 t6 ((u 2 0).1) ((u 2 0).2.1) w hs.im hl4 (Rd.ext hJ hr4) ((hF.1 (hp 2 (by kernel_rfl) (by kernel_rfl))).1) ((hF.1 (hp 2 (by kernel_rfl) (by kernel_rfl))).2.1) t7 hA7).mono ?_)
        rintro e w' ⟨v, rfl, J2, rfl, hg⟩
        exact ⟨_, rfl, fun _ => (none, 0, []), J2, rfl, hg, trivial⟩
       ·intro D u J w hp hJ hs hF
        refine Does.call 19 [.slice A1 t2.length c1, .slice A2 t3.1.length c2, .agg #[.slice A3 t3.2.f0.length c3, .slice A4 t3.2.f1.length c4]] (by kernel_rfl) ((armillaryref22_VerifyDuals.calls k J t2 A1 c1 t3.1 A2 c2 t3.2 A3 c3 A4 c4 w hs.im hl1 (Rd.ext (Imm.le_trans (Imm.le_trans (Imm.le_trans (Imm.le_trans (Imm.le_trans (Imm.le_trans hi5 hi6) hi7) hi8) hi9) hi11) hJ) hr1) hl4 (Rd.ext hJ hr4) hl2 (Rd.ext (Imm.le_trans (Imm.le_trans (Imm.le_trans (Imm.le_trans hi7 hi8) hi9) hi11) hJ) hr2) hl3 (Rd.ext (Imm.le_trans (Imm.le_trans (Imm.le_trans hi8 hi9) hi11) hJ) hr3) t8 hA8).mono ?_)
        rintro e w' ⟨v, rfl, J2, rfl, hg⟩
        exact ⟨_, rfl, fun _ => (none, 0, []), J2, rfl, hg, trivial⟩
      ·refine Givens.cons (fun u w =>  ?_) (fun _ _ _ => rfl) (Givens.cons (fun u w =>  ?_) (fun _ _ _ => rfl) (Givens.nil))
       ·exact giv_run (v := .bool t7) (by kernel_rfl) (by rw [hb1]; try rfl) w
       ·exact giv_run (v := .bool t8) (by kernel_rfl) (by rw [hb2]; try rfl) w
      intro u I17 nx13 hi17 hF
      have hf9 := ((hF.1 rfl).1)
      have hf10 := ((hF.1 rfl).2.1)
      clear hF
      refine RL.norm (K' := ((83, undef) :: (82, undef) :: (81, undef) :: (80, undef) :: (79, undef) :: (78, undef) :: (77, undef) :: (76, .bool false) :: (75, .bool false) :: (74, undef) :: (73, undef) :: (72, undef) :: (71, undef) :: (70, undef) :: (69, undef) :: (68, undef) :: (67, undef) :: (66, undef) :: (65, .bool false) :: (64, .bool false) :: (63, undef) :: (62, undef) :: (61, undef) :: (60, .bool false) :: (59, .bool false) :: (58, undef) :: (57, undef) :: (56, undef) :: (55, .bool false) :: (54, .bool t8) :: (53, .bool t8) :: (52, .agg #[.slice A3 t3.2.f0.length c3, .slice A4 t3.2.f1.length c4]) :: (51, .slice A2 t3.1.length c2) :: (50, .slice A1 t2.length c1) :: (49, .bool true) :: (48, .bool t7) :: (47, .slice ((u 2 0).1) t6.length ((u 2 0).2.1)) :: (46, .slice A1 t2.length c1) :: (45, .slice A2 t3.1.length c2) :: (14, .bool t5.2) :: (13, i6 t5.1) :: (12, .bool t4.2) :: (11, i6 t4.1) :: (9, .slice A2 t3.1.length c2) :: (10, pt nx4 0) :: (8, .slice A1 t2.length c1) :: (1, .slice Ap1 a1.length cp1) :: (5, pt nx0 0) :: (7, .bool t1) :: [])) (X' := []) (by kernel_rfl) rfl rfl rfl ?_
      revert hf9 hf10
      generalize (u 2 0).1 = A9
      generalize (u 2 0).2.1 = c9
      generalize (u 2 0).2.2 = cs9
      intro hf9 hf10
      clear u
      refine RL.s 7 [(6, .bool false)] ?_
      refine RL.nil (by kernel_rfl) ?_
      obtain rfl := Option.some.inj H
      exact QN.sb (hJ2 _ _ _ _ _ ⟨false, rfl, rfl, rfl, (Imm.le_trans hi11 hi17), HK2⟩) (.cons_cons _ (.cons_cons _ .slnil)) (.refl _)
    ·have hc1 := (Bool.eq_false_iff.1 hb1)
     rw [if_neg hc1] at H
     refine OK.drawnC 8 39 O3_29 a3_29n (by kernel_rfl) (by kernel_rfl) (u3d6l t6 t7) u3d6g [] (RI.nil _) (.no :: .no :: .no :: .no :: .no :: .no :: .no :: .no :: .no :: .no :: .no :: .no :: .no :: .no :: .no :: .no :: .no :: .no :: .no :: .no :: .no :: .no :: .no :: .no :: .no :: .no :: .no :: .no :: .no :: .no :: .no :: .no :: .no :: .no :: .no :: .no :: .no :: .no :: .no :: []) a3_29 a3_29o (by kernel_rfl) (by kernel_rfl) (u3d6s t2 A1 c1 t3 A2 c2 t6 t7) (u3d6f a1 Ap1 cp1 nx0 t1 t2 A1 c1 t3 A2 c2 nx4 t4 t5 t6 t7 39) (u3d6v a1 Ap1 cp1 a2 Ap2_0 cp2_0 Ap2_1 cp2_1 nx0 t1 t2 A1 c1 t3 A2 c2 A3 c3 A4 c4 nx4 t4 t5 t6 t7) (u3d6e a1 Ap1 cp1 a2 Ap2_0 cp2_0 Ap2_1 cp2_1 nx0 t1 t2 A1 c1 t3 A2 c2 A3 c3 A4 c4 nx4 t4 t5 t6 t7) [u3d6f a1 Ap1 cp1 nx0 t1 t2 A1 c1 t3 A2 c2 nx4 t4 t5 t6 t7 2, u3d6f a1 Ap1 cp1 nx0 t1 t2 A1 c1 t3 A2 c2 nx4 t4 t5 t6 t7 3] (framesOk.cons (fun u => rfl) (framesOk.cons (fun u => rfl) framesOk.nil)) ?_ [u3d6f a1 Ap1 cp1 nx0 t1 t2 A1 c1 t3 A2 c2 nx4 t4 t5 t6 t7 4] (framesOk.cons (fun u => rfl) framesOk.nil) ?_ ?_
     ·refine LoudsG.cons ?_ (LoudsG.cons ?_ (LoudsG.nil))
      ·intro D u J w hp hJ hs hF
       refine Does.call 18 [.slice A1 t2.length c1] (by kernel_rfl) ((armillaryref22_Solve.calls k J t2 A1 c1 w hs.im hl1 (Rd.ext (Imm.le_trans (Imm.le_trans (Imm.le_trans (Imm.le_trans (Imm.le_trans (Imm.le_trans hi5 hi6) hi7) hi8) hi9) hi11) hJ) hr1) t6 hA6).mono ?_)
       rintro e w' ⟨v, rfl, J2, A0_, c0_, cs0_, rfl, hg, hp0_⟩
       obtain ⟨J2', hj0_, hg', hl0_, hr0_⟩ := hg.freeze 0 rfl hp0_ rfl
       exact ⟨_, rfl, fun _ => (A0_, c0_, cs0_), J2', rfl, hg', hl0_, hr0_, trivial⟩
      ·intro D u J w hp hJ hs hF
       refine Does.call 17 [.slice A2 t3.1.length c2, .slice ((u 2 0).1) t6.length ((u 2 0).2.1)] (by kernel_rfl) ((armillaryref22_Same.calls k J t3.1 A2 c2 t6 ((u 2 0).1) ((u 2 0).2.1) w hs.im hl4 (Rd.ext hJ hr4) ((hF.1 (hp 2 (by kernel_rfl) (by kernel_rfl))).1) ((hF.1 (hp 2 (by kernel_rfl) (by kernel_rfl))).2.1) t7 hA7).mono ?_)
       rintro e w' ⟨v, rfl, J2, rfl, hg⟩
       exact ⟨_, rfl, fun _ => (none, 0, []), J2, rfl, hg, trivial⟩
     ·refine Givens.cons (fun u w =>  ?_) (fun _ _ _ => rfl) (Givens.nil)
      ·exact giv_run (v := .bool t7) (by kernel_rfl) (by rw [hb1]; try rfl) w
     intro u I18 nx14 hi18 hF
     have hf11 := ((hF.1 rfl).1)
     have hf12 := ((hF.1 rfl).2.1)
     clear hF
     refine RL.norm (K' := ((83, undef) :: (82, undef) :: (81, undef) :: (80, undef) :: (79, undef) :: (78, undef) :: (77, undef) :: (76, .bool false) :: (75, .bool false) :: (74, undef) :: (73, undef) :: (72, undef) :: (71, undef) :: (70, undef) :: (69, undef) :: (68, undef) :: (67, undef) :: (66, undef) :: (65, .bool false) :: (64, .bool false) :: (63, undef) :: (62, undef) :: (61, undef) :: (60, .bool false) :: (59, .bool false) :: (58, undef) :: (57, undef) :: (56, undef) :: (55, .bool false) :: (54, .bool false) :: (53, undef) :: (52, undef) :: (51, undef) :: (50, undef) :: (49, .bool false) :: (48, .bool t7) :: (47, .slice ((u 2 0).1) t6.length ((u 2 0).2.1)) :: (46, .slice A1 t2.length c1) :: (45, .slice A2 t3.1.length c2) :: (14, .bool t5.2) :: (13, i6 t5.1) :: (12, .bool t4.2) :: (11, i6 t4.1) :: (9, .slice A2 t3.1.length c2) :: (10, pt nx4 0) :: (8, .slice A1 t2.length c1) :: (1, .slice Ap1 a1.length cp1) :: (5, pt nx0 0) :: (7, .bool t1) :: [])) (X' := []) (by kernel_rfl) rfl rfl rfl ?_
     revert hf11 hf12
     generalize (u 2 0).1 = A10
     generalize (u 2 0).2.1 = c10
     generalize (u 2 0).2.2 = cs10
     intro hf11 hf12
     clear u
     refine RL.s 7 [(6, .bool false)] ?_
     refine RL.nil (by kernel_rfl) ?_
     obtain rfl := Option.some.inj H
     exact QN.sb (hJ2 _ _ _ _ _ ⟨false, rfl, rfl, rfl, (Imm.le_trans hi11 hi18), HK2⟩) (.cons_cons _ (.cons_cons _ .slnil)) (.refl _)
 ·intro Q_2 hJ1 hQ1
  obtain ⟨y1, H, HK1⟩ := bnd H
  refine OK.rg ?_
  refine RL.s 4 [(19, .bool (decide ((a0.length : Int) ≤ 20))), (7, .bool t1), (5, pt nx0 0), (0, .slice Ap0 a0.length cp0), (1, .slice Ap1 a1.length cp1)] ?_
  refine RL.cases (decide ((a0.length : Int) ≤ 20)) (fun hb => ?_) (fun hb => ?_)
  ·have hc := (of_decide_eq_true hb)
   rw [hb]
   rw [if_pos hc] at H; clear hb
   refine RL.s 1 [(20, .slice Ap0 a0.length cp0), (19, .bool true), (7, .bool t1), (5, pt nx0 0), (0, .slice Ap0 a0.length cp0), (1, .slice Ap1 a1.length cp1)] ?_
   obtain ⟨t13, hA13, H⟩ := bnd H
   refine RL.callP 11 [.slice Ap0 a0.length cp0] (some 21) (fun w => assign_Valid.Post I1 w t13) (by kernel_rfl) (by kernel_rfl) (fun w hs => assign_Valid.calls k I1 a0 Ap0 cp0 w hs.im hlp0 (Rd.ext hi1 hrp0) t13 hA13) ?_
   rintro w v w' hs ⟨I19, rfl, hg⟩
   have hi19 := hg.le
   refine RL.resume (X' := []) rfl (hs.call hg) ?_
   clear hs hg
   generalize w'.heap.size = nx15
   clear w w'
   refine RL.s 1 [(22, .slice Ap0 a0.length cp0), (21, .bool t13), (19, .bool true), (7, .bool t1), (5, pt nx0 0), (0, .slice Ap0 a0.length cp0), (1, .slice Ap1 a1.length cp1)] ?_
   obtain ⟨t14, hA14, H⟩ := bnd H
   refine RL.callP 12 [.slice Ap0 a0.length cp0] (some 23) (fun w => armillaryref22_Valid.Post I19 w t14) (by kernel_rfl) (by kernel_rfl) (fun w hs => armillaryref22_Valid.calls k I19 a0 Ap0 cp0 w hs.im hlp0 (Rd.ext (Imm.le_trans hi1 hi19) hrp0) t14 hA14) ?_
   rintro w v w' hs ⟨I20, rfl, hg⟩
   have hi20 := hg.le
   refine RL.resume (X' := []) rfl (hs.call hg) ?_
   clear hs hg
   generalize w'.heap.size = nx16
   clear w w'
   refine RL.s 2 [(25, .bool (!(t13 == t14))), (7, .bool t1), (5, pt nx0 0), (0, .slice Ap0 a0.length cp0), (1, .slice Ap1 a1.length cp1)] ?_
   refine RL.nil (by kernel_rfl) ?_
   obtain rfl := Option.some.inj H
   exact QN.sb (hJ1 _ _ _ _ _ ⟨(!(t13 == t14)), rfl, rfl, rfl, (Imm.le_trans hi19 hi20), HK1⟩) (.cons_cons _ .slnil) (.refl _)
  ·have hc := (of_decide_eq_false hb)
   rw [hb]
   rw [if_neg hc] at H; clear hb
   refine RL.s 6 [(25, .bool false), (7, .bool t1), (5, pt nx0 0), (0, .slice Ap0 a0.length cp0), (1, .slice Ap1 a1.length cp1)] ?_
   refine RL.nil (by kernel_rfl) ?_
   obtain rfl := Option.some.inj H
   exact QN.sb (hJ1 _ _ _ _ _ ⟨false, rfl, rfl, rfl, (Imm.le_refl _), HK1⟩) (.cons_cons _ .slnil) (.refl _)

end Go.Proofs.Ytdmhbcgmimfjcaa
namespace Go.Proofs.Ytdmhbcgmimfjcaa.RW
open Go Go.RowKit

/-- The whole memory, as cells that never turn. -/
def wImm (W : World) : Imm := look W
theorem wImm_at (W : World) : (wImm W).at_ W := fun _ _ h => h
/-- What reads as a datum of type t is told by d, with p. -/
def Opens (P : Program) {α : Type} (d : Ty α) (t : TypeId) (p : α → Prop) : Prop :=
 ∀ {H : Type} {enc : TypeId × Value → H} (W : World) (base : Nat) (sp : Nat → Bool) (held : Bool) (fuel : Nat) (cs : List Value) (x : DataW H × List MemPlace), DataW.trod enc P W base sp held fuel t cs = some x → ∃ a, d.K (wImm W) a cs ∧ p a

section
variable {P : Program} {α β : Type} {d : Ty α} {t e : TypeId} {p : α → Prop}
theorem opens_int {k : IntKind} (ht : P.underlying t = some (.int k)) : Opens P (Ty.int k) t (fun n => (Lit.int k n).wf = true) := by
 intro H enc W base sp held fuel cs x h
 obtain ⟨n, rfl, _, hw⟩ := DataW.trod_int ht h
 exact ⟨n, rfl, hw⟩
theorem opens_bool (ht : P.underlying t = some .bool) : Opens P Ty.bool t (fun _ => True) := by
 intro H enc W base sp held fuel cs x h
 obtain ⟨b, rfl, _⟩ := DataW.trod_bool ht h
 exact ⟨b, rfl, trivial⟩
theorem opens_string (ht : P.underlying t = some .string) : Opens P Ty.string t (fun s => s.size ≤ maxLen) := by
 intro H enc W base sp held fuel cs x h
 obtain ⟨s, rfl, _, hs⟩ := DataW.trod_string ht h
 exact ⟨s, rfl, hs⟩
theorem add_add {a : Addr} (h : a.spot = none) (n m : Nat) : (a.add n).add m = ⟨a.block, a.off + n + m, none⟩ := by
 obtain ⟨b, o, s⟩ := a
 obtain rfl : s = none := h
 unfold Addr.add
 split <;> split <;> simp_all
theorem opens_slice (ho : Opens P d e p) (ht : P.underlying t = some (.slice e)) (hsz : P.cellsOf e = d.sz) (hpos : 0 < d.sz) : Opens P (Ty.slice d) t (fun l => ∀ x ∈ l, p x) := by
 intro H enc W base sp held fuel cs x h
 rcases DataW.trod_slice ht h with ⟨rfl, _⟩ | ⟨a, len, cap, elems, rest, n, _, rfl, _, hb, hl, hm, hlen, hel, _, _⟩
 ·exact ⟨[], ⟨none, 0, rfl, Nat.le_refl _, Rd.nil _ _ _⟩, fun x hx => by cases hx⟩
 ·have hsp0 : 0 < len → a.spot = none := by
   intro hi
   have h1 := hel 0 hi
   rw [List.getElem?_eq_getElem (by rw [hlen]; exact hi), Option.bind_eq_some_iff] at h1
   obtain ⟨c, hc, hy⟩ := h1
   obtain ⟨_, hcl, hcell⟩ := World.cells?_some hc
   have h2 := hcell 0 (by rw [hsz]; exact hpos)
   have hlt : 0 < c.length := by rw [hcl, hsz]; exact hpos
   rw [List.getElem?_eq_getElem hlt, show (a.add (0 * P.cellsOf e)).add 0 = a from by simp [Addr.add]] at h2
   cases hsp : a.spot with
   | none => rfl
   | some s =>
    exfalso
    unfold World.cell? at h2
    split at h2
    ·rw [hsp] at h2; simp at h2
    ·cases h2
  have each : ∀ i, i < len → ∃ v c, d.K (wImm W) v c ∧ p v ∧ a.spot = none ∧ ∀ q u, c[q]? = some u → wImm W ⟨a.block, a.off + i * d.sz + q, none⟩ = some u := by
   intro i hi
   have h1 := hel i hi
   rw [List.getElem?_eq_getElem (by rw [hlen]; exact hi), Option.bind_eq_some_iff] at h1
   obtain ⟨c, hc, hy⟩ := h1
   obtain ⟨v, hk, hp⟩ := ho W base sp held n c _ hy
   obtain ⟨_, hcl, hcell⟩ := World.cells?_some hc
   have hspot := hsp0 (by omega)
   refine ⟨v, c, hk, hp, hspot, fun q u hu => ?_⟩
   have hql : q < c.length := (List.getElem?_eq_some_iff.1 hu).1
   have h2 := hcell q (by rw [← hcl]; exact hql)
   rw [add_add hspot, hsz, hu] at h2
   exact h2
  have build : ∀ n, n ≤ len → ∃ l : List α, l.length = n ∧ (∀ x ∈ l, p x) ∧ ∀ (j : Nat) (v : α), l[j]? = some v → ∃ c, d.K (wImm W) v c ∧ a.spot = none ∧ ∀ q u, c[q]? = some u → wImm W ⟨a.block, a.off + j * d.sz + q, none⟩ = some u := by
   intro n
   induction n with
   | zero => intro _; exact ⟨[], rfl, (fun x hx => by cases hx), fun j v hj => by cases hj⟩
   | succ n ih =>
    intro hn
    obtain ⟨l, hl1, hl2, hl3⟩ := ih (by omega)
    obtain ⟨v, c, hk, hp, hs, hc⟩ := each n (by omega)
    refine ⟨l ++ [v], by simp [hl1], fun x hx => ?_, fun j w hj => ?_⟩
    ·rcases List.mem_append.1 hx with hx | hx
     ·exact hl2 x hx
     ·rw [List.mem_singleton.1 hx]; exact hp
    ·rcases Nat.lt_or_ge j l.length with hlt | hge
     ·rw [List.getElem?_append_left hlt] at hj
      exact hl3 j w hj
     ·rw [List.getElem?_append_right hge] at hj
      have hj0 : j - l.length = 0 := by
       rcases Nat.eq_zero_or_pos (j - l.length) with h0 | h0
       ·exact h0
       ·rw [List.getElem?_eq_none (by simp; omega)] at hj; cases hj
      rw [hj0] at hj
      simp only [List.getElem?_cons_zero, Option.some.injEq] at hj
      subst hj
      obtain rfl : j = n := by omega
      exact ⟨c, hk, hs, hc⟩
  obtain ⟨l, hl1, hl2, hl3⟩ := build len (Nat.le_refl _)
  refine ⟨l, ⟨some a, cap, by rw [hl1], by omega, ⟨by unfold maxLen at hm; omega, fun hne => ?_⟩⟩, hl2⟩
  have h0 : 0 < l.length := List.length_pos_iff.2 hne
  obtain ⟨_, _, hs, _⟩ := hl3 0 _ (List.getElem?_eq_getElem h0)
  refine ⟨a.block, a.off, by obtain ⟨b, o, s⟩ := a; simp_all, fun j v hj => ?_⟩
  obtain ⟨c, hk, _, hc⟩ := hl3 j v hj
  exact ⟨c, hk, hc⟩

/-- The fields of a struct, from cell 'off' on. -/
def offs : Nat → List (TypeId × Nat) → List (TypeId × Nat × Nat)
 | _, [] => []
 | o, (t, n) :: r => (t, o, n) :: offs (o + n) r
def total : List (TypeId × Nat) → Nat
 | [] => 0
 | (_, n) :: r => n + total r
def OpensF (P : Program) {α : Type} (d : Ty α) (fl : List (TypeId × Nat)) (p : α → Prop) : Prop :=
 ∀ {H : Type} {enc : TypeId × Value → H} (W : World) (base : Nat) (sp : Nat → Bool) (held : Bool) (fuel off : Nat) (cs : List Value),
  (∀ q ∈ offs off fl, ∃ x, DataW.trod enc P W base sp held fuel q.1 ((cs.drop q.2.1).take q.2.2) = some x) → cs.length = off + total fl → ∃ a, d.K (wImm W) a (cs.drop off) ∧ p a
theorem opensF_one (ho : Opens P d t p) (n : Nat) : OpensF P d [(t, n)] p := by
 intro H enc W base sp held fuel off cs h hl
 obtain ⟨x, hx⟩ := h _ List.mem_cons_self
 simp only [total, Nat.add_zero] at hl
 have e : (cs.drop off).take n = cs.drop off := List.take_of_length_le (by rw [List.length_drop]; omega)
 simp only at hx
 rw [e] at hx
 exact ho W base sp held fuel _ x hx
theorem opensF_cons {d2 : Ty β} {fl : List (TypeId × Nat)} {q : β → Prop} (n : Nat) (ho : Opens P d t p) (hr : OpensF P d2 fl q) : OpensF P (Ty.pair d d2) ((t, n) :: fl) (fun x => p x.1 ∧ q x.2) := by
 intro H enc W base sp held fuel off cs h hl
 simp only [total] at hl
 obtain ⟨x, hx⟩ := h _ List.mem_cons_self
 obtain ⟨a, hk, hp⟩ := ho W base sp held fuel _ x hx
 obtain ⟨b, hk2, hp2⟩ := hr (enc := enc) W base sp held fuel (off + n) cs (fun q hq => h q (List.mem_cons_of_mem _ hq)) (by omega)
 refine ⟨(a, b), ⟨_, _, ?_, hk, hk2⟩, hp, hp2⟩
 simp only
 rw [← List.drop_drop, List.take_append_drop]
theorem opens_struct {fl : List (TypeId × Nat)} (ho : OpensF P d fl p) (ht : P.underlying t = some (.struct (P.fieldsOf t))) (hf : (P.fieldsOf t).toList.map (fun f => (f.type, f.offset, P.cellsOf f.type)) = offs 0 fl) (hc : P.cellsOf t = total fl)
  (f : β → α) (g : α → β) (hg : ∀ y, f (g y) = y) : Opens P (Ty.iso d f) t (fun x => p (f x)) := by
 intro H enc W base sp held fuel cs x h
 obtain ⟨xs, n, _, _, hcl, hxl, hx⟩ := DataW.trod_struct ht h
 have hseg : ∀ q ∈ offs 0 fl, ∃ x, DataW.trod enc P W base sp held n q.1 ((cs.drop q.2.1).take q.2.2) = some x := by
  intro q hq
  rw [← hf] at hq
  obtain ⟨f, hfm, rfl⟩ := List.mem_map.1 hq
  obtain ⟨i, hi, hif⟩ := List.getElem_of_mem hfm
  have h1 := hx i f (by rw [← Array.getElem?_toList, List.getElem?_eq_getElem hi, hif])
  have h2 : i < xs.length := by rw [hxl]; simpa using hi
  rw [List.getElem?_eq_getElem h2] at h1
  exact ⟨_, h1⟩
 obtain ⟨a, hk, hp⟩ := ho W base sp held n 0 cs hseg (by rw [hcl, hc, Nat.zero_add])
 refine ⟨g a, ?_, by show p (f (g a)); rw [hg]; exact hp⟩
 show d.K (wImm W) (f (g a)) cs
 rw [hg]
 exact hk
theorem opens_array {n : Nat} {fl : List (TypeId × Nat)} (ho : OpensF P d fl p) (ht : P.underlying t = some (.array n e)) (hf : (List.range n).map (fun i => (e, i * P.cellsOf e, P.cellsOf e)) = offs 0 fl) (hc : P.cellsOf t = total fl)
  (f : β → α) (g : α → β) (hg : ∀ y, f (g y) = y) : Opens P (Ty.iso d f) t (fun x => p (f x)) := by
 intro H enc W base sp held fuel cs x h
 obtain ⟨xs, m, _, _, hcl, hxl, hx⟩ := DataW.trod_array ht h
 have hseg : ∀ q ∈ offs 0 fl, ∃ x, DataW.trod enc P W base sp held m q.1 ((cs.drop q.2.1).take q.2.2) = some x := by
  intro q hq
  rw [← hf] at hq
  obtain ⟨i, hi, rfl⟩ := List.mem_map.1 hq
  have hi' := List.mem_range.1 hi
  have h1 := hx i hi'
  rw [List.getElem?_eq_getElem (show i < xs.length by omega)] at h1
  exact ⟨_, h1⟩
 obtain ⟨a, hk, hp⟩ := ho W base sp held m 0 cs hseg (by rw [hcl, hc, Nat.zero_add])
 refine ⟨g a, ?_, by show p (f (g a)); rw [hg]; exact hp⟩
 show d.K (wImm W) (f (g a)) cs
 rw [hg]
 exact hk
end
end Go.Proofs.Ytdmhbcgmimfjcaa.RW
namespace Go.Proofs.Ytdmhbcgmimfjcaa
open Go Go.Proofs.Ytdmhbcgmimfjcaa.RW
set_option linter.unusedVariables false
set_option maxRecDepth 100000
set_option maxHeartbeats 8000000

-- p58: no reading of the kind array
def p26 (x : S26) : Prop := (fun l => ∀ x ∈ l, (fun n => (Lit.int .i64 n).wf = true) x) x.f0 ∧ (fun l => ∀ x ∈ l, (fun n => (Lit.int .i64 n).wf = true) x) x.f1
theorem o26 : Opens Try.prog t26 26 p26 :=
 opens_struct (fl := [(24, 1), (24, 1)]) (opensF_cons 1 (opens_slice (e := 2) (opens_int (by kernel_rfl)) (by kernel_rfl) (by kernel_rfl) (Nat.le_of_ble_eq_true (by kernel_rfl))) (opensF_one (opens_slice (e := 2) (opens_int (by kernel_rfl)) (by kernel_rfl) (by kernel_rfl) (Nat.le_of_ble_eq_true (by kernel_rfl))) 1)) (by kernel_rfl) (by kernel_rfl) (by kernel_rfl) (fun (x : S26) => (x.f0, x.f1)) (fun y => ⟨y.1, y.2⟩) (fun _ => rfl)
def p39 (x : S39) : Prop := (fun n => (Lit.int .i32 n).wf = true) x.f0 ∧ (fun n => (Lit.int .i32 n).wf = true) x.f1
theorem o39 : Opens Try.prog t39 39 p39 :=
 opens_array (n := 2) (e := 21) (fl := [(21, 1), (21, 1)]) (opensF_cons 1 (opens_int (by kernel_rfl)) (opensF_one (opens_int (by kernel_rfl)) 1)) (by kernel_rfl) (by kernel_rfl) (by kernel_rfl) (fun (x : S39) => (x.f0, x.f1)) (fun y => ⟨y.1, y.2⟩) (fun _ => rfl)

end Go.Proofs.Ytdmhbcgmimfjcaa
namespace Go.Proofs.Ytdmhbcgmimfjcaa
open Go Go.Proofs.Ytdmhbcgmimfjcaa.RW hun
set_option linter.unusedVariables false
set_option maxRecDepth 100000
set_option maxHeartbeats 4000000
theorem bool_same {a b : Bool} {p : Prop} (h1 : a = true ↔ p) (h2 : b = true ↔ p) : a = b := by
  cases a <;> cases b <;> simp_all
theorem armillarylaw22_AssignMatchesReference_main (a0 : List (List Int)) (a1 : List Int) (a2 : S26) (hl : a0.length ≤ 9223372036854775807) : ∃ k, armillarylaw22_AssignMatchesReference.f k a0 a1 a2 = some true := by
  refine ⟨a0.length + 2000, ?_⟩
  obtain ⟨w, m, e1, h, _, hm6⟩ := made a0 7 6 (by omega) (by omega) hl (k := a0.length + 2000) (by omega)
  obtain ⟨l, d, V, e2, s⟩ := solve h (k := a0.length + 2000) (by omega)
  have hn := h.nr
  obtain ⟨bv, e3, hbv⟩ := valid_spec a0 (k := a0.length + 2000) (by omega)
  obtain ⟨br, e4, hbr⟩ := validR a0 (k := a0.length + 2000) (by omega)
  have hval : ∃ v, assign_Value.f (a0.length + 2000) w a1 = some v ∧ armillaryref22_Value.f (a0.length + 2000) w a1 = some v := by
    by_cases hv : valid w m a1
    · exact ⟨_, value_ok h hv (by omega), rvalue_ok h hv (by omega)⟩
    · exact ⟨_, value_bad h hv (by omega), rvalue_bad h hv (by omega)⟩
  obtain ⟨v, e5, e6⟩ := hval
  have hver : ∀ (l' : List Int) (d' : S26), ∃ b, assign_VerifyDuals.f (a0.length + 2000) w l' d' = some b ∧ armillaryref22_VerifyDuals.f (a0.length + 2000) w l' d' = some b := fun l' d' => by
    have h1 := verify h l' d' (k := a0.length + 2000) (by omega)
    obtain ⟨b, h2, h3⟩ := verifyR h l' d' (k := a0.length + 2000) (by omega)
    refine ⟨b, ?_, h2⟩
    by_cases hd : VD w m l' d'
    · rw [h1.1 hd, h3.2 hd]
    · cases b with
      | true => exact absurd (h3.1 rfl) hd
      | false => exact h1.2 hd
  obtain ⟨b1, e7, e8⟩ := hver a1 a2
  obtain ⟨b2, e9, e10⟩ := hver l a2
  obtain ⟨b3, e11, hb3⟩ := verifyR h l d (k := a0.length + 2000) (by omega)
  have hb3t := hb3.2 (s.vd h)
  subst hb3t
  have e12 := rsolve h hm6 s (k := a0.length + 2000) (by omega)
  have e13 := same l (by rw [s.ll]; omega) (k := a0.length + 2000) (by omega)
  have hfin : armillarylaw22_AssignMatchesReference.k2 (a0.length + 2000) a0 a1 a2 true false = some true := by
    unfold armillarylaw22_AssignMatchesReference.k2
    rw [if_neg (by decide), show armillaryref22_Made.f (a0.length + 2000) a0 7 6 = some w from e1, Option.bind_some, e2, Option.bind_some, e5, Option.bind_some, e6, Option.bind_some, e12, Option.bind_some, e13, Option.bind_some, if_pos rfl, e11, Option.bind_some, if_pos rfl, if_pos rfl, if_pos (beq_self_eq_true _), e7, Option.bind_some, e8, Option.bind_some, if_pos (beq_self_eq_true _), e9, Option.bind_some, e10, Option.bind_some, if_pos (beq_self_eq_true _)]
    rfl
  unfold armillarylaw22_AssignMatchesReference.f
  rw [show armillarylaw22_sanity.f (a0.length + 2000) = some true from sane (a0.length + 1940), Option.bind_some]
  by_cases h20 : (a0.length : Int) ≤ 20
  · rw [if_pos h20, e3, Option.bind_some, e4, Option.bind_some, bool_same hbv hbr, beq_self_eq_true, Option.bind_some]
    exact hfin
  · rw [if_neg h20, Option.bind_some]
    exact hfin
theorem armillarylaw22_AssignMatchesReference_holds {p1 : Int → Prop} {q1 : Prop} {q2 : Prop} (a0 : List (List Int)) (a1 : List Int) (a2 : S26) (hp0 : ∀ x ∈ a0, (fun l => ∀ y ∈ l, (fun n => (Lit.int .i64 n).wf = true) y) x) (hl : a0.length ≤ 9223372036854775807) (hp1 : ∀ x ∈ a1, p1 x) (hl1 : q1) (hp2 : q2) : ∃ k, armillarylaw22_AssignMatchesReference.f k a0 a1 a2 = some true :=
  armillarylaw22_AssignMatchesReference_main a0 a1 a2 hl
end Go.Proofs.Ytdmhbcgmimfjcaa
