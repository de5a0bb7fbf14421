/- What a function of the program computes, and the walk that shows it; made by a program of the session's out of the translation; no conditions beyond those that the theorems name. -/
import Derived.Test.YtieakigoinebdaaS
import Derived.Test.YtieakigoinebdaaRWR
namespace Go.Proofs.Ytieakigoinebdaa
open Go Go.Proofs.Ytieakigoinebdaa.RW
set_option linter.unusedVariables false
set_option maxRecDepth 100000
set_option maxHeartbeats 8000000

def p30 (x : S30) : Prop := (fun n => (Lit.int .i64 n).wf = true) x.f0 ∧ (fun s => s.size ≤ maxLen) x.f1 ∧ (fun l => ∀ x ∈ l, (fun n => (Lit.int .u8 n).wf = true) x) x.f2
theorem o30 : Opens Try.prog t30 30 p30 :=
  opens_struct (fl := [(3, 1), (9, 1), (28, 1)]) (opensF_cons 1 (opens_int (by kernel_rfl)) (opensF_cons 1 (opens_string (by kernel_rfl)) (opensF_one (opens_slice (e := 5) (opens_int (by kernel_rfl)) (by kernel_rfl) (by kernel_rfl) (Nat.le_of_ble_eq_true (by kernel_rfl))) 1))) (by kernel_rfl) (by kernel_rfl) (by kernel_rfl) (fun (x : S30) => (x.f0, x.f1, x.f2)) (fun y => ⟨y.1, y.2.1, y.2.2⟩) (fun _ => rfl)
def p32 (x : S32) : Prop := (fun n => (Lit.int .i64 n).wf = true) x.f0 ∧ (fun n => (Lit.int .i64 n).wf = true) x.f1 ∧ (fun n => (Lit.int .i64 n).wf = true) x.f2 ∧ (fun n => (Lit.int .i64 n).wf = true) x.f3 ∧ (fun n => (Lit.int .u32 n).wf = true) x.f4 ∧ p30 x.f5
theorem o32 : Opens Try.prog t32 32 p32 :=
  opens_struct (fl := [(3, 1), (3, 1), (3, 1), (3, 1), (27, 1), (30, 3)]) (opensF_cons 1 (opens_int (by kernel_rfl)) (opensF_cons 1 (opens_int (by kernel_rfl)) (opensF_cons 1 (opens_int (by kernel_rfl)) (opensF_cons 1 (opens_int (by kernel_rfl)) (opensF_cons 1 (opens_int (by kernel_rfl)) (opensF_one o30 3)))))) (by kernel_rfl) (by kernel_rfl) (by kernel_rfl) (fun (x : S32) => (x.f0, x.f1, x.f2, x.f3, x.f4, x.f5)) (fun y => ⟨y.1, y.2.1, y.2.2.1, y.2.2.2.1, y.2.2.2.2.1, y.2.2.2.2.2⟩) (fun _ => rfl)
def p24 (x : S24) : Prop := (fun n => (Lit.int .i64 n).wf = true) x.f0 ∧ (fun n => (Lit.int .i64 n).wf = true) x.f1
theorem o24 : Opens Try.prog t24 24 p24 :=
  opens_struct (fl := [(3, 1), (3, 1)]) (opensF_cons 1 (opens_int (by kernel_rfl)) (opensF_one (opens_int (by kernel_rfl)) 1)) (by kernel_rfl) (by kernel_rfl) (by kernel_rfl) (fun (x : S24) => (x.f0, x.f1)) (fun y => ⟨y.1, y.2⟩) (fun _ => rfl)
def p72 (x : S72) : Prop := (fun n => (Lit.int .i64 n).wf = true) x.f0 ∧ (fun n => (Lit.int .i64 n).wf = true) x.f1 ∧ p24 x.f2
theorem o72 : Opens Try.prog t72 72 p72 :=
  opens_struct (fl := [(3, 1), (3, 1), (24, 2)]) (opensF_cons 1 (opens_int (by kernel_rfl)) (opensF_cons 1 (opens_int (by kernel_rfl)) (opensF_one o24 2))) (by kernel_rfl) (by kernel_rfl) (by kernel_rfl) (fun (x : S72) => (x.f0, x.f1, x.f2)) (fun y => ⟨y.1, y.2.1, y.2.2⟩) (fun _ => rfl)
def p26 (x : S26) : Prop := (fun l => ∀ x ∈ l, p32 x) x.f0 ∧ (fun n => (Lit.int .u8 n).wf = true) x.f1 ∧ p24 x.f2
theorem o26 : Opens Try.prog t26 26 p26 :=
  opens_struct (fl := [(22, 1), (5, 1), (24, 2)]) (opensF_cons 1 (opens_slice (e := 32) o32 (by kernel_rfl) (by kernel_rfl) (Nat.le_of_ble_eq_true (by kernel_rfl))) (opensF_cons 1 (opens_int (by kernel_rfl)) (opensF_one o24 2))) (by kernel_rfl) (by kernel_rfl) (by kernel_rfl) (fun (x : S26) => (x.f0, x.f1, x.f2)) (fun y => ⟨y.1, y.2.1, y.2.2⟩) (fun _ => rfl)
def p34 (x : S34) : Prop := p32 x.f0 ∧ (fun n => (Lit.int .i64 n).wf = true) x.f1 ∧ (fun n => (Lit.int .i64 n).wf = true) x.f2
theorem o34 : Opens Try.prog t34 34 p34 :=
  opens_struct (fl := [(32, 8), (3, 1), (3, 1)]) (opensF_cons 8 o32 (opensF_cons 1 (opens_int (by kernel_rfl)) (opensF_one (opens_int (by kernel_rfl)) 1))) (by kernel_rfl) (by kernel_rfl) (by kernel_rfl) (fun (x : S34) => (x.f0, x.f1, x.f2)) (fun y => ⟨y.1, y.2.1, y.2.2⟩) (fun _ => rfl)
def p51 (x : S51) : Prop := (fun n => (Lit.int .u64 n).wf = true) x.f0 ∧ (fun n => (Lit.int .u64 n).wf = true) x.f1
theorem o51 : Opens Try.prog t51 51 p51 :=
  opens_array (n := 2) (e := 50) (fl := [(50, 1), (50, 1)]) (opensF_cons 1 (opens_int (by kernel_rfl)) (opensF_one (opens_int (by kernel_rfl)) 1)) (by kernel_rfl) (by kernel_rfl) (by kernel_rfl) (fun (x : S51) => (x.f0, x.f1)) (fun y => ⟨y.1, y.2⟩) (fun _ => rfl)
def p59 (x : S59) : Prop := (fun n => (Lit.int .u8 n).wf = true) x.f0 ∧ (fun n => (Lit.int .u8 n).wf = true) x.f1 ∧ (fun _ => True) x.f2 ∧ (fun n => (Lit.int .u32 n).wf = true) x.f3 ∧ (fun n => (Lit.int .u32 n).wf = true) x.f4
theorem o59 : Opens Try.prog t59 59 p59 :=
  opens_struct (fl := [(5, 1), (5, 1), (4, 1), (27, 1), (27, 1)]) (opensF_cons 1 (opens_int (by kernel_rfl)) (opensF_cons 1 (opens_int (by kernel_rfl)) (opensF_cons 1 (opens_bool (by kernel_rfl)) (opensF_cons 1 (opens_int (by kernel_rfl)) (opensF_one (opens_int (by kernel_rfl)) 1))))) (by kernel_rfl) (by kernel_rfl) (by kernel_rfl) (fun (x : S59) => (x.f0, x.f1, x.f2, x.f3, x.f4)) (fun y => ⟨y.1, y.2.1, y.2.2.1, y.2.2.2.1, y.2.2.2.2⟩) (fun _ => rfl)

end Go.Proofs.Ytieakigoinebdaa
