/- What a function of the program computes, and the walk that shows it; made by a program of the session's out of the translation; no conditions beyond those that the theorems name. -/
import Derived.Test.YtieakigoinebdaaRWH
namespace Go.Proofs.Ytieakigoinebdaa
open Go Go.Proofs.Ytieakigoinebdaa.RW
set_option linter.unusedVariables false
set_option maxRecDepth 100000
set_option maxHeartbeats 8000000

structure S30 where
  f0 : Int
  f1 : ByteArray
  f2 : List Int
def z30 : S30 := ⟨0, (⟨#[]⟩ : ByteArray), []⟩
def t30 : Ty S30 := Ty.iso (Ty.pair (Ty.int .i64) (Ty.pair Ty.string (Ty.slice (Ty.int .u8)))) (fun x => (x.f0, x.f1, x.f2))
theorem t30_open {I : Imm} {x : S30} {cs : List Value} (h : t30.K I x cs) : ∃ (A_2 : Option Addr) (c_2 : Nat), cs = [.int .i64 x.f0, .string x.f1, .slice A_2 x.f2.length c_2] ∧ x.f2.length ≤ c_2 ∧ Rd (Ty.int .u8) I A_2 x.f2 := by
  obtain ⟨_, _, rfl, rfl, ⟨_, _, rfl, rfl, ⟨A_2, c_2, rfl, l_2, r_2⟩⟩⟩ := h
  exact ⟨A_2, c_2, rfl, l_2, r_2⟩
theorem t30_mk (I : Imm) (x : S30) {A_2 : Option Addr} {c_2 : Nat} (l_2 : x.f2.length ≤ c_2) (r_2 : Rd (Ty.int .u8) I A_2 x.f2) : t30.K I x [.int .i64 x.f0, .string x.f1, .slice A_2 x.f2.length c_2] := ⟨_, _, rfl, rfl, ⟨_, _, rfl, rfl, ⟨A_2, c_2, rfl, l_2, r_2⟩⟩⟩
theorem t30_at {I : Imm} {A : Option Addr} {xs : List S30} (h : Rd t30 I A xs) (i : Int) (h0 : 0 ≤ i) (h1 : i < (xs.length : Int)) : ∃ g o, A = some ⟨g, o, none⟩ ∧ ∃ (A_2 : Option Addr) (c_2 : Nat), ((xs.getD i.toNat z30).f2).length ≤ c_2 ∧ Rd (Ty.int .u8) I A_2 ((xs.getD i.toNat z30).f2) ∧  (∀ j u, [.int .i64 (xs.getD i.toNat z30).f0, .string (xs.getD i.toNat z30).f1, .slice A_2 (xs.getD i.toNat z30).f2.length c_2][j]? = some u → I ⟨g, o + i.toNat * 3 + j, none⟩ = some u) := by
  obtain ⟨g, o, c, e, hk, hc⟩ := h.get z30 i h0 h1
  obtain ⟨A_2, c_2, rfl, l_2, r_2⟩ := t30_open hk
  exact ⟨g, o, e, A_2, c_2, l_2, r_2, hc⟩
theorem t30_own {I : Imm} {cs : List Value} {xs : List S30} (h : Reps t30 I xs cs) (i : Int) (h0 : 0 ≤ i) (h1 : i < (xs.length : Int)) : ∃ (A_2 : Option Addr) (c_2 : Nat), ((xs.getD i.toNat z30).f2).length ≤ c_2 ∧ Rd (Ty.int .u8) I A_2 ((xs.getD i.toNat z30).f2) ∧ (∀ j u, [.int .i64 (xs.getD i.toNat z30).f0, .string (xs.getD i.toNat z30).f1, .slice A_2 (xs.getD i.toNat z30).f2.length c_2][j]? = some u → cs[i.toNat * 3 + j]? = some u) := by
  obtain ⟨c, hk, hc⟩ := h.getE z30 i h0 h1
  obtain ⟨A_2, c_2, rfl, l_2, r_2⟩ := t30_open hk
  exact ⟨A_2, c_2, l_2, r_2, hc⟩
theorem t30_at' {I : Imm} {g o : Nat} {xs : List S30} (h : Rd t30 I (some ⟨g, o, none⟩) xs) (i : Int) (h0 : 0 ≤ i) (h1 : i < (xs.length : Int)) : ∃ (A_2 : Option Addr) (c_2 : Nat), ((xs.getD i.toNat z30).f2).length ≤ c_2 ∧ Rd (Ty.int .u8) I A_2 ((xs.getD i.toNat z30).f2) ∧  (∀ j u, [.int .i64 (xs.getD i.toNat z30).f0, .string (xs.getD i.toNat z30).f1, .slice A_2 (xs.getD i.toNat z30).f2.length c_2][j]? = some u → I ⟨g, o + i.toNat * 3 + j, none⟩ = some u) := by
  obtain ⟨g', o', e, r⟩ := t30_at h i h0 h1
  injection e with e
  injection e with e1 e2
  subst e1; subst e2
  exact r
structure S32 where
  f0 : Int
  f1 : Int
  f2 : Int
  f3 : Int
  f4 : Int
  f5 : S30
def z32 : S32 := ⟨0, 0, 0, 0, 0, z30⟩
def t32 : Ty S32 := Ty.iso (Ty.pair (Ty.int .i64) (Ty.pair (Ty.int .i64) (Ty.pair (Ty.int .i64) (Ty.pair (Ty.int .i64) (Ty.pair (Ty.int .u32) t30))))) (fun x => (x.f0, x.f1, x.f2, x.f3, x.f4, x.f5))
theorem t32_open {I : Imm} {x : S32} {cs : List Value} (h : t32.K I x cs) : ∃ (A_5_2 : Option Addr) (c_5_2 : Nat), cs = [.int .i64 x.f0, .int .i64 x.f1, .int .i64 x.f2, .int .i64 x.f3, .int .u32 x.f4, .int .i64 x.f5.f0, .string x.f5.f1, .slice A_5_2 x.f5.f2.length c_5_2] ∧ x.f5.f2.length ≤ c_5_2 ∧ Rd (Ty.int .u8) I A_5_2 x.f5.f2 := by
  obtain ⟨_, _, rfl, rfl, ⟨_, _, rfl, rfl, ⟨_, _, rfl, rfl, ⟨_, _, rfl, rfl, ⟨_, _, rfl, rfl, ⟨_, _, rfl, rfl, ⟨_, _, rfl, rfl, ⟨A_5_2, c_5_2, rfl, l_5_2, r_5_2⟩⟩⟩⟩⟩⟩⟩⟩ := h
  exact ⟨A_5_2, c_5_2, rfl, l_5_2, r_5_2⟩
theorem t32_mk (I : Imm) (x : S32) {A_5_2 : Option Addr} {c_5_2 : Nat} (l_5_2 : x.f5.f2.length ≤ c_5_2) (r_5_2 : Rd (Ty.int .u8) I A_5_2 x.f5.f2) : t32.K I x [.int .i64 x.f0, .int .i64 x.f1, .int .i64 x.f2, .int .i64 x.f3, .int .u32 x.f4, .int .i64 x.f5.f0, .string x.f5.f1, .slice A_5_2 x.f5.f2.length c_5_2] := ⟨_, _, rfl, rfl, ⟨_, _, rfl, rfl, ⟨_, _, rfl, rfl, ⟨_, _, rfl, rfl, ⟨_, _, rfl, rfl, ⟨_, _, rfl, rfl, ⟨_, _, rfl, rfl, ⟨A_5_2, c_5_2, rfl, l_5_2, r_5_2⟩⟩⟩⟩⟩⟩⟩⟩
theorem t32_at {I : Imm} {A : Option Addr} {xs : List S32} (h : Rd t32 I A xs) (i : Int) (h0 : 0 ≤ i) (h1 : i < (xs.length : Int)) : ∃ g o, A = some ⟨g, o, none⟩ ∧ ∃ (A_5_2 : Option Addr) (c_5_2 : Nat), ((xs.getD i.toNat z32).f5.f2).length ≤ c_5_2 ∧ Rd (Ty.int .u8) I A_5_2 ((xs.getD i.toNat z32).f5.f2) ∧  (∀ j u, [.int .i64 (xs.getD i.toNat z32).f0, .int .i64 (xs.getD i.toNat z32).f1, .int .i64 (xs.getD i.toNat z32).f2, .int .i64 (xs.getD i.toNat z32).f3, .int .u32 (xs.getD i.toNat z32).f4, .int .i64 (xs.getD i.toNat z32).f5.f0, .string (xs.getD i.toNat z32).f5.f1, .slice A_5_2 (xs.getD i.toNat z32).f5.f2.length c_5_2][j]? = some u → I ⟨g, o + i.toNat * 8 + j, none⟩ = some u) := by
  obtain ⟨g, o, c, e, hk, hc⟩ := h.get z32 i h0 h1
  obtain ⟨A_5_2, c_5_2, rfl, l_5_2, r_5_2⟩ := t32_open hk
  exact ⟨g, o, e, A_5_2, c_5_2, l_5_2, r_5_2, hc⟩
theorem t32_own {I : Imm} {cs : List Value} {xs : List S32} (h : Reps t32 I xs cs) (i : Int) (h0 : 0 ≤ i) (h1 : i < (xs.length : Int)) : ∃ (A_5_2 : Option Addr) (c_5_2 : Nat), ((xs.getD i.toNat z32).f5.f2).length ≤ c_5_2 ∧ Rd (Ty.int .u8) I A_5_2 ((xs.getD i.toNat z32).f5.f2) ∧ (∀ j u, [.int .i64 (xs.getD i.toNat z32).f0, .int .i64 (xs.getD i.toNat z32).f1, .int .i64 (xs.getD i.toNat z32).f2, .int .i64 (xs.getD i.toNat z32).f3, .int .u32 (xs.getD i.toNat z32).f4, .int .i64 (xs.getD i.toNat z32).f5.f0, .string (xs.getD i.toNat z32).f5.f1, .slice A_5_2 (xs.getD i.toNat z32).f5.f2.length c_5_2][j]? = some u → cs[i.toNat * 8 + j]? = some u) := by
  obtain ⟨c, hk, hc⟩ := h.getE z32 i h0 h1
  obtain ⟨A_5_2, c_5_2, rfl, l_5_2, r_5_2⟩ := t32_open hk
  exact ⟨A_5_2, c_5_2, l_5_2, r_5_2, hc⟩
theorem t32_at' {I : Imm} {g o : Nat} {xs : List S32} (h : Rd t32 I (some ⟨g, o, none⟩) xs) (i : Int) (h0 : 0 ≤ i) (h1 : i < (xs.length : Int)) : ∃ (A_5_2 : Option Addr) (c_5_2 : Nat), ((xs.getD i.toNat z32).f5.f2).length ≤ c_5_2 ∧ Rd (Ty.int .u8) I A_5_2 ((xs.getD i.toNat z32).f5.f2) ∧  (∀ j u, [.int .i64 (xs.getD i.toNat z32).f0, .int .i64 (xs.getD i.toNat z32).f1, .int .i64 (xs.getD i.toNat z32).f2, .int .i64 (xs.getD i.toNat z32).f3, .int .u32 (xs.getD i.toNat z32).f4, .int .i64 (xs.getD i.toNat z32).f5.f0, .string (xs.getD i.toNat z32).f5.f1, .slice A_5_2 (xs.getD i.toNat z32).f5.f2.length c_5_2][j]? = some u → I ⟨g, o + i.toNat * 8 + j, none⟩ = some u) := by
  obtain ⟨g', o', e, r⟩ := t32_at h i h0 h1
  injection e with e
  injection e with e1 e2
  subst e1; subst e2
  exact r
structure S24 where
  f0 : Int
  f1 : Int
def z24 : S24 := ⟨0, 0⟩
def t24 : Ty S24 := Ty.iso (Ty.pair (Ty.int .i64) (Ty.int .i64)) (fun x => (x.f0, x.f1))
theorem t24_open {I : Imm} {x : S24} {cs : List Value} (h : t24.K I x cs) : ∃ (_ : Unit), cs = [.int .i64 x.f0, .int .i64 x.f1] := by
  obtain ⟨_, _, rfl, rfl, rfl⟩ := h
  exact ⟨(), rfl⟩
theorem t24_mk (I : Imm) (x : S24) : t24.K I x [.int .i64 x.f0, .int .i64 x.f1] := ⟨_, _, rfl, rfl, rfl⟩
theorem t24_at {I : Imm} {A : Option Addr} {xs : List S24} (h : Rd t24 I A xs) (i : Int) (h0 : 0 ≤ i) (h1 : i < (xs.length : Int)) : ∃ g o, A = some ⟨g, o, none⟩ ∧  (∀ j u, [.int .i64 (xs.getD i.toNat z24).f0, .int .i64 (xs.getD i.toNat z24).f1][j]? = some u → I ⟨g, o + i.toNat * 2 + j, none⟩ = some u) := by
  obtain ⟨g, o, c, e, hk, hc⟩ := h.get z24 i h0 h1
  obtain ⟨_, rfl⟩ := t24_open hk
  exact ⟨g, o, e, hc⟩
theorem t24_own {I : Imm} {cs : List Value} {xs : List S24} (h : Reps t24 I xs cs) (i : Int) (h0 : 0 ≤ i) (h1 : i < (xs.length : Int)) : (∀ j u, [.int .i64 (xs.getD i.toNat z24).f0, .int .i64 (xs.getD i.toNat z24).f1][j]? = some u → cs[i.toNat * 2 + j]? = some u) := by
  obtain ⟨c, hk, hc⟩ := h.getE z24 i h0 h1
  obtain ⟨_, rfl⟩ := t24_open hk
  exact hc
theorem t24_at' {I : Imm} {g o : Nat} {xs : List S24} (h : Rd t24 I (some ⟨g, o, none⟩) xs) (i : Int) (h0 : 0 ≤ i) (h1 : i < (xs.length : Int)) :  (∀ j u, [.int .i64 (xs.getD i.toNat z24).f0, .int .i64 (xs.getD i.toNat z24).f1][j]? = some u → I ⟨g, o + i.toNat * 2 + j, none⟩ = some u) := by
  obtain ⟨g', o', e, r⟩ := t24_at h i h0 h1
  injection e with e
  injection e with e1 e2
  subst e1; subst e2
  exact r
structure S72 where
  f0 : Int
  f1 : Int
  f2 : S24
def z72 : S72 := ⟨0, 0, z24⟩
def t72 : Ty S72 := Ty.iso (Ty.pair (Ty.int .i64) (Ty.pair (Ty.int .i64) t24)) (fun x => (x.f0, x.f1, x.f2))
theorem t72_open {I : Imm} {x : S72} {cs : List Value} (h : t72.K I x cs) : ∃ (_ : Unit), cs = [.int .i64 x.f0, .int .i64 x.f1, .int .i64 x.f2.f0, .int .i64 x.f2.f1] := by
  obtain ⟨_, _, rfl, rfl, ⟨_, _, rfl, rfl, ⟨_, _, rfl, rfl, rfl⟩⟩⟩ := h
  exact ⟨(), rfl⟩
theorem t72_mk (I : Imm) (x : S72) : t72.K I x [.int .i64 x.f0, .int .i64 x.f1, .int .i64 x.f2.f0, .int .i64 x.f2.f1] := ⟨_, _, rfl, rfl, ⟨_, _, rfl, rfl, ⟨_, _, rfl, rfl, rfl⟩⟩⟩
theorem t72_at {I : Imm} {A : Option Addr} {xs : List S72} (h : Rd t72 I A xs) (i : Int) (h0 : 0 ≤ i) (h1 : i < (xs.length : Int)) : ∃ g o, A = some ⟨g, o, none⟩ ∧  (∀ j u, [.int .i64 (xs.getD i.toNat z72).f0, .int .i64 (xs.getD i.toNat z72).f1, .int .i64 (xs.getD i.toNat z72).f2.f0, .int .i64 (xs.getD i.toNat z72).f2.f1][j]? = some u → I ⟨g, o + i.toNat * 4 + j, none⟩ = some u) := by
  obtain ⟨g, o, c, e, hk, hc⟩ := h.get z72 i h0 h1
  obtain ⟨_, rfl⟩ := t72_open hk
  exact ⟨g, o, e, hc⟩
theorem t72_own {I : Imm} {cs : List Value} {xs : List S72} (h : Reps t72 I xs cs) (i : Int) (h0 : 0 ≤ i) (h1 : i < (xs.length : Int)) : (∀ j u, [.int .i64 (xs.getD i.toNat z72).f0, .int .i64 (xs.getD i.toNat z72).f1, .int .i64 (xs.getD i.toNat z72).f2.f0, .int .i64 (xs.getD i.toNat z72).f2.f1][j]? = some u → cs[i.toNat * 4 + j]? = some u) := by
  obtain ⟨c, hk, hc⟩ := h.getE z72 i h0 h1
  obtain ⟨_, rfl⟩ := t72_open hk
  exact hc
theorem t72_at' {I : Imm} {g o : Nat} {xs : List S72} (h : Rd t72 I (some ⟨g, o, none⟩) xs) (i : Int) (h0 : 0 ≤ i) (h1 : i < (xs.length : Int)) :  (∀ j u, [.int .i64 (xs.getD i.toNat z72).f0, .int .i64 (xs.getD i.toNat z72).f1, .int .i64 (xs.getD i.toNat z72).f2.f0, .int .i64 (xs.getD i.toNat z72).f2.f1][j]? = some u → I ⟨g, o + i.toNat * 4 + j, none⟩ = some u) := by
  obtain ⟨g', o', e, r⟩ := t72_at h i h0 h1
  injection e with e
  injection e with e1 e2
  subst e1; subst e2
  exact r
structure S26 where
  f0 : List S32
  f1 : Int
  f2 : S24
def z26 : S26 := ⟨[], 0, z24⟩
def t26 : Ty S26 := Ty.iso (Ty.pair (Ty.slice t32) (Ty.pair (Ty.int .u8) t24)) (fun x => (x.f0, x.f1, x.f2))
theorem t26_open {I : Imm} {x : S26} {cs : List Value} (h : t26.K I x cs) : ∃ (A_0 : Option Addr) (c_0 : Nat), cs = [.slice A_0 x.f0.length c_0, .int .u8 x.f1, .int .i64 x.f2.f0, .int .i64 x.f2.f1] ∧ x.f0.length ≤ c_0 ∧ Rd t32 I A_0 x.f0 := by
  obtain ⟨_, _, rfl, ⟨A_0, c_0, rfl, l_0, r_0⟩, ⟨_, _, rfl, rfl, ⟨_, _, rfl, rfl, rfl⟩⟩⟩ := h
  exact ⟨A_0, c_0, rfl, l_0, r_0⟩
theorem t26_mk (I : Imm) (x : S26) {A_0 : Option Addr} {c_0 : Nat} (l_0 : x.f0.length ≤ c_0) (r_0 : Rd t32 I A_0 x.f0) : t26.K I x [.slice A_0 x.f0.length c_0, .int .u8 x.f1, .int .i64 x.f2.f0, .int .i64 x.f2.f1] := ⟨_, _, rfl, ⟨A_0, c_0, rfl, l_0, r_0⟩, ⟨_, _, rfl, rfl, ⟨_, _, rfl, rfl, rfl⟩⟩⟩
theorem t26_at {I : Imm} {A : Option Addr} {xs : List S26} (h : Rd t26 I A xs) (i : Int) (h0 : 0 ≤ i) (h1 : i < (xs.length : Int)) : ∃ g o, A = some ⟨g, o, none⟩ ∧ ∃ (A_0 : Option Addr) (c_0 : Nat), ((xs.getD i.toNat z26).f0).length ≤ c_0 ∧ Rd t32 I A_0 ((xs.getD i.toNat z26).f0) ∧  (∀ j u, [.slice A_0 (xs.getD i.toNat z26).f0.length c_0, .int .u8 (xs.getD i.toNat z26).f1, .int .i64 (xs.getD i.toNat z26).f2.f0, .int .i64 (xs.getD i.toNat z26).f2.f1][j]? = some u → I ⟨g, o + i.toNat * 4 + j, none⟩ = some u) := by
  obtain ⟨g, o, c, e, hk, hc⟩ := h.get z26 i h0 h1
  obtain ⟨A_0, c_0, rfl, l_0, r_0⟩ := t26_open hk
  exact ⟨g, o, e, A_0, c_0, l_0, r_0, hc⟩
theorem t26_own {I : Imm} {cs : List Value} {xs : List S26} (h : Reps t26 I xs cs) (i : Int) (h0 : 0 ≤ i) (h1 : i < (xs.length : Int)) : ∃ (A_0 : Option Addr) (c_0 : Nat), ((xs.getD i.toNat z26).f0).length ≤ c_0 ∧ Rd t32 I A_0 ((xs.getD i.toNat z26).f0) ∧ (∀ j u, [.slice A_0 (xs.getD i.toNat z26).f0.length c_0, .int .u8 (xs.getD i.toNat z26).f1, .int .i64 (xs.getD i.toNat z26).f2.f0, .int .i64 (xs.getD i.toNat z26).f2.f1][j]? = some u → cs[i.toNat * 4 + j]? = some u) := by
  obtain ⟨c, hk, hc⟩ := h.getE z26 i h0 h1
  obtain ⟨A_0, c_0, rfl, l_0, r_0⟩ := t26_open hk
  exact ⟨A_0, c_0, l_0, r_0, hc⟩
theorem t26_at' {I : Imm} {g o : Nat} {xs : List S26} (h : Rd t26 I (some ⟨g, o, none⟩) xs) (i : Int) (h0 : 0 ≤ i) (h1 : i < (xs.length : Int)) : ∃ (A_0 : Option Addr) (c_0 : Nat), ((xs.getD i.toNat z26).f0).length ≤ c_0 ∧ Rd t32 I A_0 ((xs.getD i.toNat z26).f0) ∧  (∀ j u, [.slice A_0 (xs.getD i.toNat z26).f0.length c_0, .int .u8 (xs.getD i.toNat z26).f1, .int .i64 (xs.getD i.toNat z26).f2.f0, .int .i64 (xs.getD i.toNat z26).f2.f1][j]? = some u → I ⟨g, o + i.toNat * 4 + j, none⟩ = some u) := by
  obtain ⟨g', o', e, r⟩ := t26_at h i h0 h1
  injection e with e
  injection e with e1 e2
  subst e1; subst e2
  exact r
structure S34 where
  f0 : S32
  f1 : Int
  f2 : Int
def z34 : S34 := ⟨z32, 0, 0⟩
def t34 : Ty S34 := Ty.iso (Ty.pair t32 (Ty.pair (Ty.int .i64) (Ty.int .i64))) (fun x => (x.f0, x.f1, x.f2))
theorem t34_open {I : Imm} {x : S34} {cs : List Value} (h : t34.K I x cs) : ∃ (A_0_5_2 : Option Addr) (c_0_5_2 : Nat), cs = [.int .i64 x.f0.f0, .int .i64 x.f0.f1, .int .i64 x.f0.f2, .int .i64 x.f0.f3, .int .u32 x.f0.f4, .int .i64 x.f0.f5.f0, .string x.f0.f5.f1, .slice A_0_5_2 x.f0.f5.f2.length c_0_5_2, .int .i64 x.f1, .int .i64 x.f2] ∧ x.f0.f5.f2.length ≤ c_0_5_2 ∧ Rd (Ty.int .u8) I A_0_5_2 x.f0.f5.f2 := by
  obtain ⟨_, _, rfl, ⟨_, _, rfl, rfl, ⟨_, _, rfl, rfl, ⟨_, _, rfl, rfl, ⟨_, _, rfl, rfl, ⟨_, _, rfl, rfl, ⟨_, _, rfl, rfl, ⟨_, _, rfl, rfl, ⟨A_0_5_2, c_0_5_2, rfl, l_0_5_2, r_0_5_2⟩⟩⟩⟩⟩⟩⟩⟩, ⟨_, _, rfl, rfl, rfl⟩⟩ := h
  exact ⟨A_0_5_2, c_0_5_2, rfl, l_0_5_2, r_0_5_2⟩
theorem t34_mk (I : Imm) (x : S34) {A_0_5_2 : Option Addr} {c_0_5_2 : Nat} (l_0_5_2 : x.f0.f5.f2.length ≤ c_0_5_2) (r_0_5_2 : Rd (Ty.int .u8) I A_0_5_2 x.f0.f5.f2) : t34.K I x [.int .i64 x.f0.f0, .int .i64 x.f0.f1, .int .i64 x.f0.f2, .int .i64 x.f0.f3, .int .u32 x.f0.f4, .int .i64 x.f0.f5.f0, .string x.f0.f5.f1, .slice A_0_5_2 x.f0.f5.f2.length c_0_5_2, .int .i64 x.f1, .int .i64 x.f2] := ⟨_, _, rfl, ⟨_, _, rfl, rfl, ⟨_, _, rfl, rfl, ⟨_, _, rfl, rfl, ⟨_, _, rfl, rfl, ⟨_, _, rfl, rfl, ⟨_, _, rfl, rfl, ⟨_, _, rfl, rfl, ⟨A_0_5_2, c_0_5_2, rfl, l_0_5_2, r_0_5_2⟩⟩⟩⟩⟩⟩⟩⟩, ⟨_, _, rfl, rfl, rfl⟩⟩
theorem t34_at {I : Imm} {A : Option Addr} {xs : List S34} (h : Rd t34 I A xs) (i : Int) (h0 : 0 ≤ i) (h1 : i < (xs.length : Int)) : ∃ g o, A = some ⟨g, o, none⟩ ∧ ∃ (A_0_5_2 : Option Addr) (c_0_5_2 : Nat), ((xs.getD i.toNat z34).f0.f5.f2).length ≤ c_0_5_2 ∧ Rd (Ty.int .u8) I A_0_5_2 ((xs.getD i.toNat z34).f0.f5.f2) ∧  (∀ j u, [.int .i64 (xs.getD i.toNat z34).f0.f0, .int .i64 (xs.getD i.toNat z34).f0.f1, .int .i64 (xs.getD i.toNat z34).f0.f2, .int .i64 (xs.getD i.toNat z34).f0.f3, .int .u32 (xs.getD i.toNat z34).f0.f4, .int .i64 (xs.getD i.toNat z34).f0.f5.f0, .string (xs.getD i.toNat z34).f0.f5.f1, .slice A_0_5_2 (xs.getD i.toNat z34).f0.f5.f2.length c_0_5_2, .int .i64 (xs.getD i.toNat z34).f1, .int .i64 (xs.getD i.toNat z34).f2][j]? = some u → I ⟨g, o + i.toNat * 10 + j, none⟩ = some u) := by
  obtain ⟨g, o, c, e, hk, hc⟩ := h.get z34 i h0 h1
  obtain ⟨A_0_5_2, c_0_5_2, rfl, l_0_5_2, r_0_5_2⟩ := t34_open hk
  exact ⟨g, o, e, A_0_5_2, c_0_5_2, l_0_5_2, r_0_5_2, hc⟩
theorem t34_own {I : Imm} {cs : List Value} {xs : List S34} (h : Reps t34 I xs cs) (i : Int) (h0 : 0 ≤ i) (h1 : i < (xs.length : Int)) : ∃ (A_0_5_2 : Option Addr) (c_0_5_2 : Nat), ((xs.getD i.toNat z34).f0.f5.f2).length ≤ c_0_5_2 ∧ Rd (Ty.int .u8) I A_0_5_2 ((xs.getD i.toNat z34).f0.f5.f2) ∧ (∀ j u, [.int .i64 (xs.getD i.toNat z34).f0.f0, .int .i64 (xs.getD i.toNat z34).f0.f1, .int .i64 (xs.getD i.toNat z34).f0.f2, .int .i64 (xs.getD i.toNat z34).f0.f3, .int .u32 (xs.getD i.toNat z34).f0.f4, .int .i64 (xs.getD i.toNat z34).f0.f5.f0, .string (xs.getD i.toNat z34).f0.f5.f1, .slice A_0_5_2 (xs.getD i.toNat z34).f0.f5.f2.length c_0_5_2, .int .i64 (xs.getD i.toNat z34).f1, .int .i64 (xs.getD i.toNat z34).f2][j]? = some u → cs[i.toNat * 10 + j]? = some u) := by
  obtain ⟨c, hk, hc⟩ := h.getE z34 i h0 h1
  obtain ⟨A_0_5_2, c_0_5_2, rfl, l_0_5_2, r_0_5_2⟩ := t34_open hk
  exact ⟨A_0_5_2, c_0_5_2, l_0_5_2, r_0_5_2, hc⟩
theorem t34_at' {I : Imm} {g o : Nat} {xs : List S34} (h : Rd t34 I (some ⟨g, o, none⟩) xs) (i : Int) (h0 : 0 ≤ i) (h1 : i < (xs.length : Int)) : ∃ (A_0_5_2 : Option Addr) (c_0_5_2 : Nat), ((xs.getD i.toNat z34).f0.f5.f2).length ≤ c_0_5_2 ∧ Rd (Ty.int .u8) I A_0_5_2 ((xs.getD i.toNat z34).f0.f5.f2) ∧  (∀ j u, [.int .i64 (xs.getD i.toNat z34).f0.f0, .int .i64 (xs.getD i.toNat z34).f0.f1, .int .i64 (xs.getD i.toNat z34).f0.f2, .int .i64 (xs.getD i.toNat z34).f0.f3, .int .u32 (xs.getD i.toNat z34).f0.f4, .int .i64 (xs.getD i.toNat z34).f0.f5.f0, .string (xs.getD i.toNat z34).f0.f5.f1, .slice A_0_5_2 (xs.getD i.toNat z34).f0.f5.f2.length c_0_5_2, .int .i64 (xs.getD i.toNat z34).f1, .int .i64 (xs.getD i.toNat z34).f2][j]? = some u → I ⟨g, o + i.toNat * 10 + j, none⟩ = some u) := by
  obtain ⟨g', o', e, r⟩ := t34_at h i h0 h1
  injection e with e
  injection e with e1 e2
  subst e1; subst e2
  exact r
structure S51 where
  f0 : Int
  f1 : Int
def z51 : S51 := ⟨0, 0⟩
def t51 : Ty S51 := Ty.iso (Ty.pair (Ty.int .u64) (Ty.int .u64)) (fun x => (x.f0, x.f1))
theorem t51_open {I : Imm} {x : S51} {cs : List Value} (h : t51.K I x cs) : ∃ (_ : Unit), cs = [.int .u64 x.f0, .int .u64 x.f1] := by
  obtain ⟨_, _, rfl, rfl, rfl⟩ := h
  exact ⟨(), rfl⟩
theorem t51_mk (I : Imm) (x : S51) : t51.K I x [.int .u64 x.f0, .int .u64 x.f1] := ⟨_, _, rfl, rfl, rfl⟩
theorem t51_at {I : Imm} {A : Option Addr} {xs : List S51} (h : Rd t51 I A xs) (i : Int) (h0 : 0 ≤ i) (h1 : i < (xs.length : Int)) : ∃ g o, A = some ⟨g, o, none⟩ ∧  (∀ j u, [.int .u64 (xs.getD i.toNat z51).f0, .int .u64 (xs.getD i.toNat z51).f1][j]? = some u → I ⟨g, o + i.toNat * 2 + j, none⟩ = some u) := by
  obtain ⟨g, o, c, e, hk, hc⟩ := h.get z51 i h0 h1
  obtain ⟨_, rfl⟩ := t51_open hk
  exact ⟨g, o, e, hc⟩
theorem t51_own {I : Imm} {cs : List Value} {xs : List S51} (h : Reps t51 I xs cs) (i : Int) (h0 : 0 ≤ i) (h1 : i < (xs.length : Int)) : (∀ j u, [.int .u64 (xs.getD i.toNat z51).f0, .int .u64 (xs.getD i.toNat z51).f1][j]? = some u → cs[i.toNat * 2 + j]? = some u) := by
  obtain ⟨c, hk, hc⟩ := h.getE z51 i h0 h1
  obtain ⟨_, rfl⟩ := t51_open hk
  exact hc
theorem t51_at' {I : Imm} {g o : Nat} {xs : List S51} (h : Rd t51 I (some ⟨g, o, none⟩) xs) (i : Int) (h0 : 0 ≤ i) (h1 : i < (xs.length : Int)) :  (∀ j u, [.int .u64 (xs.getD i.toNat z51).f0, .int .u64 (xs.getD i.toNat z51).f1][j]? = some u → I ⟨g, o + i.toNat * 2 + j, none⟩ = some u) := by
  obtain ⟨g', o', e, r⟩ := t51_at h i h0 h1
  injection e with e
  injection e with e1 e2
  subst e1; subst e2
  exact r
structure S59 where
  f0 : Int
  f1 : Int
  f2 : Bool
  f3 : Int
  f4 : Int
def z59 : S59 := ⟨0, 0, false, 0, 0⟩
def t59 : Ty S59 := Ty.iso (Ty.pair (Ty.int .u8) (Ty.pair (Ty.int .u8) (Ty.pair Ty.bool (Ty.pair (Ty.int .u32) (Ty.int .u32))))) (fun x => (x.f0, x.f1, x.f2, x.f3, x.f4))
theorem t59_open {I : Imm} {x : S59} {cs : List Value} (h : t59.K I x cs) : ∃ (_ : Unit), cs = [.int .u8 x.f0, .int .u8 x.f1, .bool x.f2, .int .u32 x.f3, .int .u32 x.f4] := by
  obtain ⟨_, _, rfl, rfl, ⟨_, _, rfl, rfl, ⟨_, _, rfl, rfl, ⟨_, _, rfl, rfl, rfl⟩⟩⟩⟩ := h
  exact ⟨(), rfl⟩
theorem t59_mk (I : Imm) (x : S59) : t59.K I x [.int .u8 x.f0, .int .u8 x.f1, .bool x.f2, .int .u32 x.f3, .int .u32 x.f4] := ⟨_, _, rfl, rfl, ⟨_, _, rfl, rfl, ⟨_, _, rfl, rfl, ⟨_, _, rfl, rfl, rfl⟩⟩⟩⟩
theorem t59_at {I : Imm} {A : Option Addr} {xs : List S59} (h : Rd t59 I A xs) (i : Int) (h0 : 0 ≤ i) (h1 : i < (xs.length : Int)) : ∃ g o, A = some ⟨g, o, none⟩ ∧  (∀ j u, [.int .u8 (xs.getD i.toNat z59).f0, .int .u8 (xs.getD i.toNat z59).f1, .bool (xs.getD i.toNat z59).f2, .int .u32 (xs.getD i.toNat z59).f3, .int .u32 (xs.getD i.toNat z59).f4][j]? = some u → I ⟨g, o + i.toNat * 5 + j, none⟩ = some u) := by
  obtain ⟨g, o, c, e, hk, hc⟩ := h.get z59 i h0 h1
  obtain ⟨_, rfl⟩ := t59_open hk
  exact ⟨g, o, e, hc⟩
theorem t59_own {I : Imm} {cs : List Value} {xs : List S59} (h : Reps t59 I xs cs) (i : Int) (h0 : 0 ≤ i) (h1 : i < (xs.length : Int)) : (∀ j u, [.int .u8 (xs.getD i.toNat z59).f0, .int .u8 (xs.getD i.toNat z59).f1, .bool (xs.getD i.toNat z59).f2, .int .u32 (xs.getD i.toNat z59).f3, .int .u32 (xs.getD i.toNat z59).f4][j]? = some u → cs[i.toNat * 5 + j]? = some u) := by
  obtain ⟨c, hk, hc⟩ := h.getE z59 i h0 h1
  obtain ⟨_, rfl⟩ := t59_open hk
  exact hc
theorem t59_at' {I : Imm} {g o : Nat} {xs : List S59} (h : Rd t59 I (some ⟨g, o, none⟩) xs) (i : Int) (h0 : 0 ≤ i) (h1 : i < (xs.length : Int)) :  (∀ j u, [.int .u8 (xs.getD i.toNat z59).f0, .int .u8 (xs.getD i.toNat z59).f1, .bool (xs.getD i.toNat z59).f2, .int .u32 (xs.getD i.toNat z59).f3, .int .u32 (xs.getD i.toNat z59).f4][j]? = some u → I ⟨g, o + i.toNat * 5 + j, none⟩ = some u) := by
  obtain ⟨g', o', e, r⟩ := t59_at h i h0 h1
  injection e with e
  injection e with e1 e2
  subst e1; subst e2
  exact r

end Go.Proofs.Ytieakigoinebdaa
