/- Words of the walk, the functions' walks and plain laws, joined; no conditions beyond those that the theorems name. -/
import Derived.Test.YtijhdekfbjafgaaGreatX5
import Derived.Test.YtijhdekfbjafgaaGreatX3
import Derived.Laws.Strings
set_option linter.unusedVariables false
namespace Go.Proofs.YtijhdekfbjafgaaGreat
open Go Go.RowKit Go.Proofs.YtijhdekfbjafgaaGreat.RW Go.Proofs.YtijhdekfbjafgaaGreat.AM
namespace armillaryref29_decided
noncomputable abbrev K := cBody Tryz.f82
noncomputable abbrev F (n : Nat) : List (Nat × FragD) := [(27, armillaryref29_Valid.d n), (94, armillaryref29_counts.d n), (95, armillaryref29_Size.d)]
theorem Fok (n : Nat) : AllF Tryz.prog (F n) := ⟨armillaryref29_Valid.ok n, armillaryref29_counts.ok n, armillaryref29_Size.ok, trivial⟩
noncomputable def j0 (n : Nat) (t0 : List S28) (t1 : Int) (t3 : Int) (t10 : Int) (o0 : S65) : Option (Unit ⊕ Unit) :=
ck (inb t10 t0.length) <|
bif (((t0.getD t10.toNat z28).1) != t3) then
some (.inr ())
else
ck (inb t10 t0.length) <|
bif (((((t0.getD t10.toNat z28).2).2).1) != o0.1) then
some (.inr ())
else
ck (inb t10 t0.length) <|
bif ((((((t0.getD t10.toNat z28).2).2).2).1) != o0.2) then
some (.inr ())
else
ck (inb t10 t0.length) <|
(armillaryref29_Valid n ((t0.getD t10.toNat z28).1, ((t0.getD t10.toNat z28).2).1, (((t0.getD t10.toNat z28).2).2).1, ((((t0.getD t10.toNat z28).2).2).2).1, (((((t0.getD t10.toNat z28).2).2).2).2).1, ((((((t0.getD t10.toNat z28).2).2).2).2).2).1, (((((((t0.getD t10.toNat z28).2).2).2).2).2).2)) t1).bind fun z5 =>
bif !z5 then
some (.inr ())
else
some (.inl ())
noncomputable def D0 (n : Nat) : FragD := ⟨⟨[(0, ph (.row c28)), (1, pi), (3, pi), (6, pp 0), (10, pi)], [.stb 65 c65]⟩, [⟨0, ⟨[], [.same]⟩, Unit, fun _ => (), fun _ => ((), ((), ())), fun _ => rfl⟩, ⟨3, ⟨[], [.same]⟩, Unit, fun _ => (), fun _ => ((), ((), ())), fun _ => rfl⟩], fun x => j0 n x.1.1 x.1.2.1 x.1.2.2.1 x.1.2.2.2.2.1 x.2.1⟩
theorem T0 (n : Nat) : FragOK Tryz.prog 118 (atN K 400 840) (D0 n) := fragR ⟨Tryz.prog, 118, F n, [], [], []⟩ (Fok n) trivial noL 840 (by kernel_rfl) (fun x => by kernel_rfl)
noncomputable abbrev r0 (n : Nat) : List (Nat × FragD) := (840, D0 n) :: []
theorem R0 (n : Nat) : AllFr Tryz.prog 118 K (r0 n) := ⟨T0 n, trivial⟩
noncomputable def j1 (n : Nat) (t0 : List S28) (t1 : Int) (t3 : Int) (t10 : Int) (t12 : Int) (o0 : S65) : Option Bool :=
ck (inb t12 t0.length) <|
bif (((t0.getD t12.toNat z28).1) == t3) then
ck (inb t12 t0.length) <|
bif (((((t0.getD t12.toNat z28).2).2).1) == o0.1) then
ck (inb t12 t0.length) <|
bif ((((((t0.getD t12.toNat z28).2).2).2).1) == o0.2) then
ck (inb t12 t0.length) <|
ck (inb t10 t0.length) <|
bif (((((((t0.getD t12.toNat z28).2).2).2).2).1) == ((((((t0.getD t10.toNat z28).2).2).2).2).1)) then
(armillaryref29_counts n t0 t1 t12).bind fun z14 =>
some z14
else
some false
else
some false
else
some false
else
some false
noncomputable def D1 (n : Nat) : FragD := ⟨⟨[(0, ph (.row c28)), (1, pi), (3, pi), (6, pp 0), (10, pi), (12, pi)], [.stb 65 c65]⟩, [⟨0, ⟨[(106, pb)], [.same]⟩, Bool, fun x => x.1.1, fun r => ((r, ()), ((), ())), fun _ => rfl⟩], fun x => j1 n x.1.1 x.1.2.1 x.1.2.2.1 x.1.2.2.2.2.1 x.1.2.2.2.2.2.1 x.2.1⟩
theorem T1 (n : Nat) : FragOK Tryz.prog 118 (atN K 400 430920) (D1 n) := fragR ⟨Tryz.prog, 118, F n, (r0 n), [], []⟩ (Fok n) (R0 n) noL 430920 (by kernel_rfl) (fun x => by kernel_rfl)
noncomputable abbrev r1 (n : Nat) : List (Nat × FragD) := (430920, D1 n) :: (r0 n)
theorem R1 (n : Nat) : AllFr Tryz.prog 118 K (r1 n) := ⟨T1 n, R0 n⟩
noncomputable def j2 (n : Nat) (t0 : List S28) (t1 : Int) (t3 : Int) (t10 : Int) (t11 : Int) (t12 : Int) (o0 : S65) : Option Int :=
(j1 n t0 t1 t3 t10 t12 o0).bind fun z15 =>
bif z15 then
some (W .i64 (t11 + 1))
else
some t11
noncomputable def D2 (n : Nat) : FragD := ⟨⟨[(0, ph (.row c28)), (1, pi), (3, pi), (6, pp 0), (10, pi), (11, pi), (12, pi)], [.stb 65 c65]⟩, [⟨0, ⟨[(11, pi)], [.same]⟩, Int, fun x => x.1.1, fun r => ((r, ()), ((), ())), fun _ => rfl⟩], fun x => j2 n x.1.1 x.1.2.1 x.1.2.2.1 x.1.2.2.2.2.1 x.1.2.2.2.2.2.1 x.1.2.2.2.2.2.2.1 x.2.1⟩
theorem T2 (n : Nat) : FragOK Tryz.prog 118 (atN K 400 107730) (D2 n) := fragR ⟨Tryz.prog, 118, F n, (r1 n), [], []⟩ (Fok n) (R1 n) noL 107730 (by kernel_rfl) (fun x => by kernel_rfl)
noncomputable abbrev r2 (n : Nat) : List (Nat × FragD) := (107730, D2 n) :: (r1 n)
theorem R2 (n : Nat) : AllFr Tryz.prog 118 K (r2 n) := ⟨T2 n, R1 n⟩
noncomputable def s3 (n : Nat) (t11 : Int) (t12 : Int) (t0 : List S28) (t1 : Int) (t3 : Int) (t10 : Int) (o0 : S65) : Option ((Int × Int × S65) ⊕ (Int × S65)) :=
bif (decide (t12 < (t0.length : Int))) then
(j2 n t0 t1 t3 t10 t11 t12 o0).bind fun z16 =>
some (.inl (z16, W .i64 (t12 + 1), o0))
else
some (.inr (t11, o0))
noncomputable def l3 (n : Nat) : Nat → Int → Int → List S28 → Int → Int → Int → S65 → Option (Int × S65)
| 0, _, _, _, _, _, _, _ => none
| k + 1, t11, t12, t0, t1, t3, t10, o0 => (s3 n t11 t12 t0 t1 t3 t10 o0).bind fun z => sm z (fun z => l3 n k z.1 z.2.1 t0 t1 t3 t10 z.2.2) some
noncomputable def L3 (n : Nat) : LoopD := ⟨[(6, pp 0), (11, pi), (12, pi)], [(0, ph (.row c28)), (1, pi), (3, pi), (10, pi)], [.stb 65 c65], Int × Int × S65, fun x => (x.1.2.1, x.1.2.2.1, x.2.1), fun r => (((), r.1, r.2.1, ()), (r.2.2, ())), fun _ => rfl, ⟨4, ⟨[(11, pi)], [.stb 65 c65]⟩, Int × S65, fun x => (x.1.1, x.2.1), fun r => ((r.1, ()), (r.2, ())), fun _ => rfl⟩, [], fun x => s3 n x.1.2.1 x.1.2.2.1 x.1.2.2.2.1 x.1.2.2.2.2.1 x.1.2.2.2.2.2.1 x.1.2.2.2.2.2.2.1 x.2.1, [0]⟩
theorem T3 (n : Nat) : FragOK Tryz.prog 118 (atN K 400 13466) ((L3 n).loopD fun x => l3 n n x.1.2.1 x.1.2.2.1 x.1.2.2.2.1 x.1.2.2.2.2.1 x.1.2.2.2.2.2.1 x.1.2.2.2.2.2.2.1 x.2.1) := loopR (L3 n) 13466 (by kernel_rfl) (by kernel_rfl) (fragK ⟨Tryz.prog, 118, F n, (r2 n), [], []⟩ (Fok n) (R2 n) noL 26932 (by kernel_rfl) (fun x => by kernel_rfl)) (fun k x => l3 n k x.1.2.1 x.1.2.2.1 x.1.2.2.2.1 x.1.2.2.2.2.1 x.1.2.2.2.2.2.1 x.1.2.2.2.2.2.2.1 x.2.1) (fun x => by kernel_rfl) (fun k x => by kernel_rfl) n
noncomputable abbrev r3 (n : Nat) : List (Nat × FragD) := (13466, ((L3 n).loopD fun x => l3 n n x.1.2.1 x.1.2.2.1 x.1.2.2.2.1 x.1.2.2.2.2.1 x.1.2.2.2.2.2.1 x.1.2.2.2.2.2.2.1 x.2.1)) :: (r2 n)
theorem R3 (n : Nat) : AllFr Tryz.prog 118 K (r3 n) := ⟨T3 n, R2 n⟩
noncomputable def j4 (n : Nat) (t0 : List S28) (t1 : Int) (t3 : Int) (t10 : Int) (o0 : S65) : Option (S65 ⊕ (Int × Bool × S65)) :=
(j0 n t0 t1 t3 t10 o0).bind fun z6 =>
sm z6 (fun z7 =>
(l3 n n 0 0 t0 t1 t3 t10 o0).bind fun z17 =>
(armillaryref29_Size t1).bind fun z18 =>
bif decide (z17.1 ≥ z18) then
ck (inb t10 t0.length) <|
some (.inr ((((((t0.getD t10.toNat z28).2).2).2).2).1, true, z17.2))
else
some (.inl z17.2)) fun z8 =>
some (.inl o0)
noncomputable def D4 (n : Nat) : FragD := ⟨⟨[(0, ph (.row c28)), (1, pi), (3, pi), (6, pp 0), (10, pi)], [.stb 65 c65]⟩, [⟨0, ⟨[], [.stb 65 c65]⟩, S65, fun x => x.2.1, fun r => ((), (r, ())), fun _ => rfl⟩, ⟨1, ⟨[(8, ph (.int .u32)), (9, pb)], [.stb 65 c65]⟩, Int × Bool × S65, fun x => (x.1.1, x.1.2.1, x.2.1), fun r => ((r.1, r.2.1, ()), (r.2.2, ())), fun _ => rfl⟩], fun x => j4 n x.1.1 x.1.2.1 x.1.2.2.1 x.1.2.2.2.2.1 x.2.1⟩
theorem T4 (n : Nat) : FragOK Tryz.prog 118 (atN K 400 210) (D4 n) := fragR ⟨Tryz.prog, 118, F n, (r3 n), [], []⟩ (Fok n) (R3 n) noL 210 (by kernel_rfl) (fun x => by kernel_rfl)
noncomputable abbrev r4 (n : Nat) : List (Nat × FragD) := (210, D4 n) :: (r3 n)
theorem R4 (n : Nat) : AllFr Tryz.prog 118 K (r4 n) := ⟨T4 n, R3 n⟩
noncomputable def s5 (n : Nat) (t10 : Int) (t0 : List S28) (t1 : Int) (t3 : Int) (o0 : S65) : Option ((Int × S65) ⊕ ((Int × Bool × S65) ⊕ S65)) :=
bif (decide (t10 < (t0.length : Int))) then
(j4 n t0 t1 t3 t10 o0).bind fun z19 =>
sm z19 (fun z20 =>
some (.inl (W .i64 (t10 + 1), z20))) fun z21 =>
some (.inr (.inl (z21.1, z21.2.1, z21.2.2)))
else
some (.inr (.inr o0))
noncomputable def l5 (n : Nat) : Nat → Int → List S28 → Int → Int → S65 → Option ((Int × Bool × S65) ⊕ S65)
| 0, _, _, _, _, _ => none
| k + 1, t10, t0, t1, t3, o0 => (s5 n t10 t0 t1 t3 o0).bind fun z => sm z (fun z => l5 n k z.1 t0 t1 t3 z.2) some
noncomputable def L5 (n : Nat) : LoopD := ⟨[(6, pp 0), (10, pi)], [(0, ph (.row c28)), (1, pi), (3, pi)], [.stb 65 c65], Int × S65, fun x => (x.1.2.1, x.2.1), fun r => (((), r.1, ()), (r.2, ())), fun _ => rfl, ⟨1, ⟨[(8, ph (.int .u32)), (9, pb)], [.stb 65 c65]⟩, Int × Bool × S65, fun x => (x.1.1, x.1.2.1, x.2.1), fun r => ((r.1, r.2.1, ()), (r.2.2, ())), fun _ => rfl⟩, [⟨2, ⟨[], [.stb 65 c65]⟩, S65, fun x => x.2.1, fun r => ((), (r, ())), fun _ => rfl⟩], fun x => s5 n x.1.2.1 x.1.2.2.1 x.1.2.2.2.1 x.1.2.2.2.2.1 x.2.1, [0]⟩
theorem T5 (n : Nat) : FragOK Tryz.prog 118 (atN K 400 26) ((L5 n).loopD fun x => l5 n n x.1.2.1 x.1.2.2.1 x.1.2.2.2.1 x.1.2.2.2.2.1 x.2.1) := loopR (L5 n) 26 (by kernel_rfl) (by kernel_rfl) (fragK ⟨Tryz.prog, 118, F n, (r4 n), [], []⟩ (Fok n) (R4 n) noL 52 (by kernel_rfl) (fun x => by kernel_rfl)) (fun k x => l5 n k x.1.2.1 x.1.2.2.1 x.1.2.2.2.1 x.1.2.2.2.2.1 x.2.1) (fun x => by kernel_rfl) (fun k x => by kernel_rfl) n
noncomputable abbrev r5 (n : Nat) : List (Nat × FragD) := (26, ((L5 n).loopD fun x => l5 n n x.1.2.1 x.1.2.2.1 x.1.2.2.2.1 x.1.2.2.2.2.1 x.2.1)) :: (r4 n)
theorem R5 (n : Nat) : AllFr Tryz.prog 118 K (r5 n) := ⟨T5 n, R4 n⟩
end armillaryref29_decided
open armillaryref29_decided in
noncomputable def armillaryref29_decided (n : Nat) (t0 : List S28) (t1 : Int) (t2 : S65) (t3 : Int) : Option (Int × Bool) :=
(l5 n n 0 t0 t1 t3 t2).bind fun z22 =>
sm z22 (fun z23 =>
some (z23.1, z23.2.1)) fun z24 =>
some (0, false)
noncomputable def armillaryref29_decided.d (n : Nat) : FragD := ⟨⟨[(0, ph (.row c28)), (1, pi), (2, pst c65), (3, pi)], []⟩, [⟨1, ⟨[(0, .tup [.c (.h (.int .u32)), .c (.h .bool)])], []⟩, Int × Bool, fun x => (x.1.1.1, x.1.1.2.1), fun r => (((r.1, r.2, ()), ()), ()), fun _ => rfl⟩], fun x => armillaryref29_decided n x.1.1 x.1.2.1 x.1.2.2.1 x.1.2.2.2.1⟩
open armillaryref29_decided in
theorem armillaryref29_decided.ok (n : Nat) : FunOK Tryz.prog 82 (armillaryref29_decided.d n) := funR ⟨Tryz.prog, 118, F n, (r5 n), [], []⟩ Tryz.f82 (by kernel_rfl) (by kernel_rfl) (by kernel_rfl) (Fok n) (R5 n) noL (by kernel_rfl) (fun x => by kernel_rfl)

namespace armillaryref29_Prepared
noncomputable abbrev K := cBody Tryz.f67
noncomputable abbrev F (n : Nat) : List (Nat × FragD) := [(82, armillaryref29_decided.d n)]
theorem Fok (n : Nat) : AllF Tryz.prog (F n) := ⟨armillaryref29_decided.ok n, trivial⟩
end armillaryref29_Prepared
open armillaryref29_Prepared in
noncomputable def armillaryref29_Prepared (n : Nat) (t0 : List S28) (t1 : Int) (t2 : S65) : Option (Int × Bool) :=
(armillaryref29_decided n t0 t1 t2 2).bind fun z1 =>
some (z1.1, z1.2)
noncomputable def armillaryref29_Prepared.d (n : Nat) : FragD := ⟨⟨[(0, ph (.row c28)), (1, pi), (2, pst c65)], []⟩, [⟨1, ⟨[(0, .tup [.c (.h (.int .u32)), .c (.h .bool)])], []⟩, Int × Bool, fun x => (x.1.1.1, x.1.1.2.1), fun r => (((r.1, r.2, ()), ()), ()), fun _ => rfl⟩], fun x => armillaryref29_Prepared n x.1.1 x.1.2.1 x.1.2.2.1⟩
open armillaryref29_Prepared in
theorem armillaryref29_Prepared.ok (n : Nat) : FunOK Tryz.prog 67 (armillaryref29_Prepared.d n) := funR ⟨Tryz.prog, 19, F n, [], [], []⟩ Tryz.f67 (by kernel_rfl) (by kernel_rfl) (by kernel_rfl) (Fok n) trivial noL (by kernel_rfl) (fun x => by kernel_rfl)

namespace armillaryref29_HighestPrepared
noncomputable abbrev K := cBody Tryz.f40
noncomputable abbrev F (n : Nat) : List (Nat × FragD) := [(27, armillaryref29_Valid.d n), (67, armillaryref29_Prepared.d n)]
theorem Fok (n : Nat) : AllF Tryz.prog (F n) := ⟨armillaryref29_Valid.ok n, armillaryref29_Prepared.ok n, trivial⟩
noncomputable def j0 (n : Nat) (t1 : Int) (t8 : Int) (o0 : S65) (o1 : S28) : Option (Unit ⊕ Unit) :=
bif o1.1 != 1 then
some (.inr ())
else
bif o1.2.2.2.1 != o0.2 then
some (.inr ())
else
bif decide (o1.2.2.1 ≥ o0.1) then
some (.inr ())
else
bif decide (o1.2.2.1 ≤ t8) then
some (.inr ())
else
(armillaryref29_Valid n o1 t1).bind fun z2 =>
bif !z2 then
some (.inr ())
else
some (.inl ())
noncomputable def D0 (n : Nat) : FragD := ⟨⟨[(1, pi), (5, pp 0), (8, pi), (11, pp 1)], [.stb 65 c65, .stb 28 c28]⟩, [⟨0, ⟨[], [.same, .same]⟩, Unit, fun _ => (), fun _ => ((), ((), (), ())), fun _ => rfl⟩, ⟨3, ⟨[], [.same, .same]⟩, Unit, fun _ => (), fun _ => ((), ((), (), ())), fun _ => rfl⟩], fun x => j0 n x.1.1 x.1.2.2.1 x.2.1 x.2.2.1⟩
theorem T0 (n : Nat) : FragOK Tryz.prog 79 (atN K 400 3730) (D0 n) := fragR ⟨Tryz.prog, 79, F n, [], [], []⟩ (Fok n) trivial noL 3730 (by kernel_rfl) (fun x => by kernel_rfl)
noncomputable abbrev r0 (n : Nat) : List (Nat × FragD) := (3730, D0 n) :: []
theorem R0 (n : Nat) : AllFr Tryz.prog 79 K (r0 n) := ⟨T0 n, trivial⟩
noncomputable def j1 (n : Nat) (t0 : List S28) (t1 : Int) (t8 : Int) (t10 : Int) (o0 : S65) (o1 : S26) : Option (Int × S26) :=
ck (inb t10 t0.length) <|
(j0 n t1 t8 o0 ((t0.getD t10.toNat z28).1, ((t0.getD t10.toNat z28).2).1, (((t0.getD t10.toNat z28).2).2).1, ((((t0.getD t10.toNat z28).2).2).2).1, (((((t0.getD t10.toNat z28).2).2).2).2).1, ((((((t0.getD t10.toNat z28).2).2).2).2).2).1, (((((((t0.getD t10.toNat z28).2).2).2).2).2).2))).bind fun z3 =>
sm z3 (fun z4 =>
(armillaryref29_Prepared n t0 t1 ((((t0.getD t10.toNat z28).2).2).1, ((((t0.getD t10.toNat z28).2).2).2).1)).bind fun z6 =>
bif z6.2 then
bif (z6.1 == ((((((t0.getD t10.toNat z28).2).2).2).2).1)) then
some ((((t0.getD t10.toNat z28).2).2).1, (((((((t0.getD t10.toNat z28).2).2).2).2).2).1, (((((((t0.getD t10.toNat z28).2).2).2).2).2).2)))
else
some (t8, o1)
else
some (t8, o1)) fun z5 =>
some (t8, o1)
noncomputable def D1 (n : Nat) : FragD := ⟨⟨[(0, ph (.row c28)), (1, pi), (5, pp 0), (8, pi), (9, pp 1), (10, pi)], [.stb 65 c65, .stb 26 c26]⟩, [⟨0, ⟨[(8, pi)], [.same, .stb 26 c26]⟩, Int × S26, fun x => (x.1.1, x.2.2.1), fun r => ((r.1, ()), ((), r.2, ())), fun _ => rfl⟩], fun x => j1 n x.1.1 x.1.2.1 x.1.2.2.2.1 x.1.2.2.2.2.2.1 x.2.1 x.2.2.1⟩
theorem T1 (n : Nat) : FragOK Tryz.prog 79 (atN K 400 466) (D1 n) := fragR ⟨Tryz.prog, 79, F n, (r0 n), [], []⟩ (Fok n) (R0 n) noL 466 (by kernel_rfl) (fun x => by kernel_rfl)
noncomputable abbrev r1 (n : Nat) : List (Nat × FragD) := (466, D1 n) :: (r0 n)
theorem R1 (n : Nat) : AllFr Tryz.prog 79 K (r1 n) := ⟨T1 n, R0 n⟩
noncomputable def s2 (n : Nat) (t8 : Int) (t10 : Int) (t0 : List S28) (t1 : Int) (o0 : S65) (o1 : S26) : Option ((Int × Int × S65 × S26) ⊕ (Int × S65 × S26)) :=
bif (decide (t10 < (t0.length : Int))) then
(j1 n t0 t1 t8 t10 o0 o1).bind fun z8 =>
some (.inl (z8.1, W .i64 (t10 + 1), o0, z8.2))
else
some (.inr (t8, o0, o1))
noncomputable def l2 (n : Nat) : Nat → Int → Int → List S28 → Int → S65 → S26 → Option (Int × S65 × S26)
| 0, _, _, _, _, _, _ => none
| k + 1, t8, t10, t0, t1, o0, o1 => (s2 n t8 t10 t0 t1 o0 o1).bind fun z => sm z (fun z => l2 n k z.1 z.2.1 t0 t1 z.2.2.1 z.2.2.2) some
noncomputable def L2 (n : Nat) : LoopD := ⟨[(5, pp 0), (8, pi), (9, pp 1), (10, pi)], [(0, ph (.row c28)), (1, pi)], [.stb 65 c65, .stb 26 c26], Int × Int × S65 × S26, fun x => (x.1.2.1, x.1.2.2.2.1, x.2.1, x.2.2.1), fun r => (((), r.1, (), r.2.1, ()), (r.2.2.1, r.2.2.2, ())), fun _ => rfl, ⟨2, ⟨[(8, pi)], [.stb 65 c65, .stb 26 c26]⟩, Int × S65 × S26, fun x => (x.1.1, x.2.1, x.2.2.1), fun r => ((r.1, ()), (r.2.1, r.2.2, ())), fun _ => rfl⟩, [], fun x => s2 n x.1.2.1 x.1.2.2.2.1 x.1.2.2.2.2.1 x.1.2.2.2.2.2.1 x.2.1 x.2.2.1, [0, 1]⟩
theorem T2 (n : Nat) : FragOK Tryz.prog 79 (atN K 400 58) ((L2 n).loopD fun x => l2 n n x.1.2.1 x.1.2.2.2.1 x.1.2.2.2.2.1 x.1.2.2.2.2.2.1 x.2.1 x.2.2.1) := loopR (L2 n) 58 (by kernel_rfl) (by kernel_rfl) (fragK ⟨Tryz.prog, 79, F n, (r1 n), [], []⟩ (Fok n) (R1 n) noL 116 (by kernel_rfl) (fun x => by kernel_rfl)) (fun k x => l2 n k x.1.2.1 x.1.2.2.2.1 x.1.2.2.2.2.1 x.1.2.2.2.2.2.1 x.2.1 x.2.2.1) (fun x => by kernel_rfl) (fun k x => by kernel_rfl) n
noncomputable abbrev r2 (n : Nat) : List (Nat × FragD) := (58, ((L2 n).loopD fun x => l2 n n x.1.2.1 x.1.2.2.2.1 x.1.2.2.2.2.1 x.1.2.2.2.2.2.1 x.2.1 x.2.2.1)) :: (r1 n)
theorem R2 (n : Nat) : AllFr Tryz.prog 79 K (r2 n) := ⟨T2 n, R1 n⟩
end armillaryref29_HighestPrepared
open armillaryref29_HighestPrepared in
noncomputable def armillaryref29_HighestPrepared (n : Nat) (t0 : List S28) (t1 : Int) (t2 : S65) : Option (S26 × Bool) :=
(l2 n n (-1) 0 t0 t1 t2 (0, (⟨#[]⟩ : ByteArray), ([] : List Int))).bind fun z9 =>
some (z9.2.2, decide (z9.1 ≥ 0))
noncomputable def armillaryref29_HighestPrepared.d (n : Nat) : FragD := ⟨⟨[(0, ph (.row c28)), (1, pi), (2, pst c65)], []⟩, [⟨1, ⟨[(0, .tup [.st c26, .c (.h .bool)])], []⟩, S26 × Bool, fun x => (x.1.1.1, x.1.1.2.1), fun r => (((r.1, r.2, ()), ()), ()), fun _ => rfl⟩], fun x => armillaryref29_HighestPrepared n x.1.1 x.1.2.1 x.1.2.2.1⟩
open armillaryref29_HighestPrepared in
theorem armillaryref29_HighestPrepared.ok (n : Nat) : FunOK Tryz.prog 40 (armillaryref29_HighestPrepared.d n) := funR ⟨Tryz.prog, 79, F n, (r2 n), [], []⟩ Tryz.f40 (by kernel_rfl) (by kernel_rfl) (by kernel_rfl) (Fok n) (R2 n) noL (by kernel_rfl) (fun x => by kernel_rfl)

namespace armillaryref30_send
noncomputable abbrev K := cBody Tryz.f42
noncomputable abbrev F : List (Nat × FragD) := []
theorem Fok : AllF Tryz.prog (F) := trivial
end armillaryref30_send
open armillaryref30_send in
noncomputable def armillaryref30_send (t0 : S33) (t1 : S28) : Option (Int × Int × Int × List S28 × List S26 × List S28) :=
ck (room (0 + t0.2.2.2.2.1.length) 88) <|
let v1 := ([] : List S28) ++ t0.2.2.2.2.1;
ck (room (v1.length + 1) 88) <|
some (t0.1, t0.2.1, t0.2.2.1, t0.2.2.2.1, t0.2.2.2.2.2, (v1 ++ [(t1.1, t0.1, t1.2.2)]))
noncomputable def armillaryref30_send.d : FragD := ⟨⟨[(0, pst c33), (1, pst c28)], []⟩, [⟨1, ⟨[(0, .w (.agg [.h (.int .i64), .h (.int .i64), .h (.int .i64), .h (.row c28), .sl 0, .h (.row c26)]))], [.row 28 c28]⟩, Int × Int × Int × List S28 × List S26 × List S28, fun x => (x.1.1.1, x.1.1.2.1, x.1.1.2.2.1, x.1.1.2.2.2.1, x.1.1.2.2.2.2.2.1, x.2.1), fun r => (((r.1, r.2.1, r.2.2.1, r.2.2.2.1, (), r.2.2.2.2.1, ()), ()), (r.2.2.2.2.2, ())), fun _ => rfl⟩], fun x => armillaryref30_send x.1.1 x.1.2.1⟩
open armillaryref30_send in
theorem armillaryref30_send.ok : FunOK Tryz.prog 42 (armillaryref30_send.d) := funR ⟨Tryz.prog, 19, F, [], [], []⟩ Tryz.f42 (by kernel_rfl) (by kernel_rfl) (by kernel_rfl) (Fok) trivial noL (by kernel_rfl) (fun x => by kernel_rfl)

namespace armillaryref30_Propose
noncomputable abbrev K := cBody Tryz.f11
noncomputable abbrev F (n : Nat) : List (Nat × FragD) := [(37, armillaryref29_Leader.d), (38, armillaryref27_ValidEntry.d), (39, armillaryref30_said.d n), (40, armillaryref29_HighestPrepared.d n), (41, armillaryref27_EncodeEntry.d n), (43, armillaryref27_Checksum.d n), (42, armillaryref30_send.d)]
theorem Fok (n : Nat) : AllF Tryz.prog (F n) := ⟨armillaryref29_Leader.ok, armillaryref27_ValidEntry.ok, armillaryref30_said.ok n, armillaryref29_HighestPrepared.ok n, armillaryref27_EncodeEntry.ok n, armillaryref27_Checksum.ok n, armillaryref30_send.ok, trivial⟩
noncomputable def j0 (n : Nat) (t9 : Bool) (o0 : S26) (o1 : S26) : Option S26 :=
bif !t9 then
some o0
else
some o1
noncomputable def D0 (n : Nat) : FragD := ⟨⟨[(3, pp 0), (8, pp 1), (9, pb)], [.stb 26 c26, .stb 26 c26]⟩, [⟨0, ⟨[], [.same, .stb 26 c26]⟩, S26, fun x => x.2.2.1, fun r => ((), ((), r, ())), fun _ => rfl⟩], fun x => j0 n x.1.2.2.1 x.2.1 x.2.2.1⟩
theorem T0 (n : Nat) : FragOK Tryz.prog 74 (atN K 400 510) (D0 n) := fragR ⟨Tryz.prog, 74, F n, [], [], []⟩ (Fok n) trivial noL 510 (by kernel_rfl) (fun x => by kernel_rfl)
noncomputable abbrev r0 (n : Nat) : List (Nat × FragD) := (510, D0 n) :: []
theorem R0 (n : Nat) : AllFr Tryz.prog 74 K (r0 n) := ⟨T0 n, trivial⟩
end armillaryref30_Propose
open armillaryref30_Propose in
noncomputable def armillaryref30_Propose (n : Nat) (t0 : S33) (t1 : S26) : Option (Int × Int × Int × List S28 × List S28 × List S26 × List S28 × Int) :=
(armillaryref29_Leader t0.2.1 t0.2.2.1).bind fun z1 =>
bif z1 != t0.1 then
some (t0.1, t0.2.1, t0.2.2.1, t0.2.2.2.1, t0.2.2.2.2.1, t0.2.2.2.2.2, ([] : List S28), 290)
else
bif (decide ((t0.2.2.2.2.2.length : Int) ≥ 1000)) then
some (t0.1, t0.2.1, t0.2.2.1, t0.2.2.2.1, t0.2.2.2.2.1, t0.2.2.2.2.2, ([] : List S28), 2)
else
(armillaryref27_ValidEntry t1).bind fun z3 =>
bif !z3 then
some (t0.1, t0.2.1, t0.2.2.1, t0.2.2.2.1, t0.2.2.2.2.1, t0.2.2.2.2.2, ([] : List S28), 1)
else
(armillaryref30_said n t0 1 t0.2.2.1 (t0.2.2.2.2.2.length : Int)).bind fun z4 =>
bif z4 then
some (t0.1, t0.2.1, t0.2.2.1, t0.2.2.2.1, t0.2.2.2.2.1, t0.2.2.2.2.2, ([] : List S28), 321)
else
(armillaryref29_HighestPrepared n t0.2.2.2.1 t0.2.1 (t0.2.2.1, (t0.2.2.2.2.2.length : Int))).bind fun z5 =>
(j0 n z5.2 t1 z5.1).bind fun z6 =>
(armillaryref27_EncodeEntry n z6).bind fun z7 =>
(armillaryref27_Checksum n z7.2).bind fun z8 =>
(armillaryref30_send t0 (1, 0, t0.2.2.1, (t0.2.2.2.2.2.length : Int), z8, z6)).bind fun z9 =>
ck (inb (t0.2.2.2.2.1.length : Int) (z9.2.2.2.2.2.length + 1)) <|
some (z9.1, z9.2.1, z9.2.2.1, z9.2.2.2.1, z9.2.2.2.2.2, z9.2.2.2.2.1, (z9.2.2.2.2.2.drop (t0.2.2.2.2.1.length : Int).toNat), 0)
noncomputable def armillaryref30_Propose.d (n : Nat) : FragD := ⟨⟨[(0, pst c33), (1, pst c26)], []⟩, [⟨1, ⟨[(0, .tup [.agg [.h (.int .i64), .h (.int .i64), .h (.int .i64), .h (.row c28), .h (.row c28), .h (.row c26)], .c (.h (.row c28)), .c (.h (.int .i64))])], []⟩, Int × Int × Int × List S28 × List S28 × List S26 × List S28 × Int, fun x => (x.1.1.1.1, x.1.1.1.2.1, x.1.1.1.2.2.1, x.1.1.1.2.2.2.1, x.1.1.1.2.2.2.2.1, x.1.1.1.2.2.2.2.2.1, x.1.1.2.1, x.1.1.2.2.1), fun r => ((((r.1, r.2.1, r.2.2.1, r.2.2.2.1, r.2.2.2.2.1, r.2.2.2.2.2.1, ()), r.2.2.2.2.2.2.1, r.2.2.2.2.2.2.2, ()), ()), ()), fun _ => rfl⟩], fun x => armillaryref30_Propose n x.1.1 x.1.2.1⟩
open armillaryref30_Propose in
theorem armillaryref30_Propose.ok (n : Nat) : FunOK Tryz.prog 11 (armillaryref30_Propose.d n) := funR ⟨Tryz.prog, 74, F n, (r0 n), [], []⟩ Tryz.f11 (by kernel_rfl) (by kernel_rfl) (by kernel_rfl) (Fok n) (R0 n) noL (by kernel_rfl) (fun x => by kernel_rfl)

namespace armillaryref29_Committed
noncomputable abbrev K := cBody Tryz.f75
noncomputable abbrev F (n : Nat) : List (Nat × FragD) := [(82, armillaryref29_decided.d n)]
theorem Fok (n : Nat) : AllF Tryz.prog (F n) := ⟨armillaryref29_decided.ok n, trivial⟩
end armillaryref29_Committed
open armillaryref29_Committed in
noncomputable def armillaryref29_Committed (n : Nat) (t0 : List S28) (t1 : Int) (t2 : S65) : Option (Int × Bool) :=
(armillaryref29_decided n t0 t1 t2 3).bind fun z1 =>
some (z1.1, z1.2)
noncomputable def armillaryref29_Committed.d (n : Nat) : FragD := ⟨⟨[(0, ph (.row c28)), (1, pi), (2, pst c65)], []⟩, [⟨1, ⟨[(0, .tup [.c (.h (.int .u32)), .c (.h .bool)])], []⟩, Int × Bool, fun x => (x.1.1.1, x.1.1.2.1), fun r => (((r.1, r.2, ()), ()), ()), fun _ => rfl⟩], fun x => armillaryref29_Committed n x.1.1 x.1.2.1 x.1.2.2.1⟩
open armillaryref29_Committed in
theorem armillaryref29_Committed.ok (n : Nat) : FunOK Tryz.prog 75 (armillaryref29_Committed.d n) := funR ⟨Tryz.prog, 19, F n, [], [], []⟩ Tryz.f75 (by kernel_rfl) (by kernel_rfl) (by kernel_rfl) (Fok n) trivial noL (by kernel_rfl) (fun x => by kernel_rfl)

namespace armillaryref30_proposal
noncomputable abbrev K := cBody Tryz.f76
noncomputable abbrev F (n : Nat) : List (Nat × FragD) := []
theorem Fok (n : Nat) : AllF Tryz.prog (F n) := trivial
noncomputable def j0 (n : Nat) (t1 : Int) (t2 : Int) (t3 : Int) (t4 : Bool) (o0 : S28) : Option Bool :=
bif o0.1 == 1 then
bif o0.2.2.2.1 == t1 then
bif decide (t2 < 0) then
bif t4 then
some true
else
some (o0.2.2.2.2.1 == t3)
else
bif o0.2.2.1 == t2 then
bif t4 then
some true
else
some (o0.2.2.2.2.1 == t3)
else
some false
else
some false
else
some false
noncomputable def D0 (n : Nat) : FragD := ⟨⟨[(1, pi), (2, pi), (3, ph (.int .u32)), (4, pb), (13, pp 0)], [.stb 28 c28]⟩, [⟨0, ⟨[(53, pb)], [.same]⟩, Bool, fun x => x.1.1, fun r => ((r, ()), ((), ())), fun _ => rfl⟩], fun x => j0 n x.1.1 x.1.2.1 x.1.2.2.1 x.1.2.2.2.1 x.2.1⟩
theorem T0 (n : Nat) : FragOK Tryz.prog 56 (atN K 400 1682) (D0 n) := fragR ⟨Tryz.prog, 56, F n, [], [], []⟩ (Fok n) trivial noL 1682 (by kernel_rfl) (fun x => by kernel_rfl)
noncomputable abbrev r0 (n : Nat) : List (Nat × FragD) := (1682, D0 n) :: []
theorem R0 (n : Nat) : AllFr Tryz.prog 56 K (r0 n) := ⟨T0 n, trivial⟩
noncomputable def j1 (n : Nat) (t1 : Int) (t2 : Int) (t3 : Int) (t4 : Bool) (t12 : Int) (o0 : S33) (o1 : S28) : Option (Unit ⊕ (Bool × S28)) :=
ck (inb t12 o0.2.2.2.1.length) <|
let v2 := o0.2.2.2.1.getD t12.toNat z28;
(j0 n t1 t2 t3 t4 v2).bind fun z3 =>
bif z3 then
some (.inr (true, v2))
else
some (.inl ())
noncomputable def D1 (n : Nat) : FragD := ⟨⟨[(1, pi), (2, pi), (3, ph (.int .u32)), (4, pb), (5, pp 0), (10, pp 1), (12, pi)], [.stb 33 c33, .stb 28 c28]⟩, [⟨0, ⟨[], [.same, .same]⟩, Unit, fun _ => (), fun _ => ((), ((), (), ())), fun _ => rfl⟩, ⟨1, ⟨[(11, pb)], [.same, .stb 28 c28]⟩, Bool × S28, fun x => (x.1.1, x.2.2.1), fun r => ((r.1, ()), ((), r.2, ())), fun _ => rfl⟩], fun x => j1 n x.1.1 x.1.2.1 x.1.2.2.1 x.1.2.2.2.1 x.1.2.2.2.2.2.2.1 x.2.1 x.2.2.1⟩
theorem T1 (n : Nat) : FragOK Tryz.prog 56 (atN K 400 210) (D1 n) := fragR ⟨Tryz.prog, 56, F n, (r0 n), [], []⟩ (Fok n) (R0 n) noL 210 (by kernel_rfl) (fun x => by kernel_rfl)
noncomputable abbrev r1 (n : Nat) : List (Nat × FragD) := (210, D1 n) :: (r0 n)
theorem R1 (n : Nat) : AllFr Tryz.prog 56 K (r1 n) := ⟨T1 n, R0 n⟩
noncomputable def s2 (n : Nat) (t12 : Int) (t1 : Int) (t2 : Int) (t3 : Int) (t4 : Bool) (o0 : S33) (o1 : S28) : Option ((Int × S33 × S28) ⊕ ((Bool × S33 × S28) ⊕ (S33 × S28))) :=
bif (decide (t12 < (o0.2.2.2.1.length : Int))) then
(j1 n t1 t2 t3 t4 t12 o0 o1).bind fun z4 =>
sm z4 (fun z5 =>
some (.inl (W .i64 (t12 + 1), o0, o1))) fun z6 =>
some (.inr (.inl (z6.1, o0, z6.2)))
else
some (.inr (.inr (o0, o1)))
noncomputable def l2 (n : Nat) : Nat → Int → Int → Int → Int → Bool → S33 → S28 → Option ((Bool × S33 × S28) ⊕ (S33 × S28))
| 0, _, _, _, _, _, _, _ => none
| k + 1, t12, t1, t2, t3, t4, o0, o1 => (s2 n t12 t1 t2 t3 t4 o0 o1).bind fun z => sm z (fun z => l2 n k z.1 t1 t2 t3 t4 z.2.1 z.2.2) some
noncomputable def L2 (n : Nat) : LoopD := ⟨[(5, pp 0), (10, pp 1), (12, pi)], [(1, pi), (2, pi), (3, ph (.int .u32)), (4, pb)], [.stb 33 c33, .stb 28 c28], Int × S33 × S28, fun x => (x.1.2.2.1, x.2.1, x.2.2.1), fun r => (((), (), r.1, ()), (r.2.1, r.2.2, ())), fun _ => rfl, ⟨1, ⟨[(11, pb)], [.stb 33 c33, .stb 28 c28]⟩, Bool × S33 × S28, fun x => (x.1.1, x.2.1, x.2.2.1), fun r => ((r.1, ()), (r.2.1, r.2.2, ())), fun _ => rfl⟩, [⟨2, ⟨[], [.stb 33 c33, .stb 28 c28]⟩, S33 × S28, fun x => (x.2.1, x.2.2.1), fun r => ((), (r.1, r.2, ())), fun _ => rfl⟩], fun x => s2 n x.1.2.2.1 x.1.2.2.2.1 x.1.2.2.2.2.1 x.1.2.2.2.2.2.1 x.1.2.2.2.2.2.2.1 x.2.1 x.2.2.1, [0, 1]⟩
theorem T2 (n : Nat) : FragOK Tryz.prog 56 (atN K 400 26) ((L2 n).loopD fun x => l2 n n x.1.2.2.1 x.1.2.2.2.1 x.1.2.2.2.2.1 x.1.2.2.2.2.2.1 x.1.2.2.2.2.2.2.1 x.2.1 x.2.2.1) := loopR (L2 n) 26 (by kernel_rfl) (by kernel_rfl) (fragK ⟨Tryz.prog, 56, F n, (r1 n), [], []⟩ (Fok n) (R1 n) noL 52 (by kernel_rfl) (fun x => by kernel_rfl)) (fun k x => l2 n k x.1.2.2.1 x.1.2.2.2.1 x.1.2.2.2.2.1 x.1.2.2.2.2.2.1 x.1.2.2.2.2.2.2.1 x.2.1 x.2.2.1) (fun x => by kernel_rfl) (fun k x => by kernel_rfl) n
noncomputable abbrev r2 (n : Nat) : List (Nat × FragD) := (26, ((L2 n).loopD fun x => l2 n n x.1.2.2.1 x.1.2.2.2.1 x.1.2.2.2.2.1 x.1.2.2.2.2.2.1 x.1.2.2.2.2.2.2.1 x.2.1 x.2.2.1)) :: (r1 n)
theorem R2 (n : Nat) : AllFr Tryz.prog 56 K (r2 n) := ⟨T2 n, R1 n⟩
end armillaryref30_proposal
open armillaryref30_proposal in
noncomputable def armillaryref30_proposal (n : Nat) (t0 : S33) (t1 : Int) (t2 : Int) (t3 : Int) (t4 : Bool) : Option (S28 × Bool) :=
(l2 n n 0 t1 t2 t3 t4 t0 (0, 0, 0, 0, 0, 0, (⟨#[]⟩ : ByteArray), ([] : List Int))).bind fun z7 =>
sm z7 (fun z8 =>
some (z8.2.2, z8.1)) fun z9 =>
some ((0, 0, 0, 0, 0, 0, (⟨#[]⟩ : ByteArray), ([] : List Int)), false)
noncomputable def armillaryref30_proposal.d (n : Nat) : FragD := ⟨⟨[(0, pst c33), (1, pi), (2, pi), (3, ph (.int .u32)), (4, pb)], []⟩, [⟨1, ⟨[(0, .tup [.st c28, .c (.h .bool)])], []⟩, S28 × Bool, fun x => (x.1.1.1, x.1.1.2.1), fun r => (((r.1, r.2, ()), ()), ()), fun _ => rfl⟩], fun x => armillaryref30_proposal n x.1.1 x.1.2.1 x.1.2.2.1 x.1.2.2.2.1 x.1.2.2.2.2.1⟩
open armillaryref30_proposal in
theorem armillaryref30_proposal.ok (n : Nat) : FunOK Tryz.prog 76 (armillaryref30_proposal.d n) := funR ⟨Tryz.prog, 56, F n, (r2 n), [], []⟩ Tryz.f76 (by kernel_rfl) (by kernel_rfl) (by kernel_rfl) (Fok n) (R2 n) noL (by kernel_rfl) (fun x => by kernel_rfl)

namespace armillaryref30_commit
noncomputable abbrev K := cBody Tryz.f56
noncomputable abbrev F (n : Nat) : List (Nat × FragD) := [(75, armillaryref29_Committed.d n), (76, armillaryref30_proposal.d n)]
theorem Fok (n : Nat) : AllF Tryz.prog (F n) := ⟨armillaryref29_Committed.ok n, armillaryref30_proposal.ok n, trivial⟩
noncomputable def j0 (n : Nat) (t4 : Int) (t5 : Int) (o0 : S28) : Option (Unit ⊕ Unit) :=
bif o0.1 != 3 then
some (.inr ())
else
bif o0.2.2.2.1 != t4 then
some (.inr ())
else
bif decide (t5 ≥ 0) then
bif decide (o0.2.2.1 ≥ t5) then
some (.inr ())
else
some (.inl ())
else
some (.inl ())
noncomputable def D0 (n : Nat) : FragD := ⟨⟨[(4, pi), (5, pi), (8, pp 0)], [.stb 28 c28]⟩, [⟨0, ⟨[], [.same]⟩, Unit, fun _ => (), fun _ => ((), ((), ())), fun _ => rfl⟩, ⟨3, ⟨[], [.same]⟩, Unit, fun _ => (), fun _ => ((), ((), ())), fun _ => rfl⟩], fun x => j0 n x.1.1 x.1.2.1 x.2.1⟩
theorem T0 (n : Nat) : FragOK Tryz.prog 89 (atN K 400 16018) (D0 n) := fragR ⟨Tryz.prog, 89, F n, [], [], []⟩ (Fok n) trivial noL 16018 (by kernel_rfl) (fun x => by kernel_rfl)
noncomputable abbrev r0 (n : Nat) : List (Nat × FragD) := (16018, D0 n) :: []
theorem R0 (n : Nat) : AllFr Tryz.prog 89 K (r0 n) := ⟨T0 n, trivial⟩
noncomputable def j1 (n : Nat) (t4 : Int) (t5 : Int) (t7 : Int) (o0 : S33) (o1 : S26) : Option (Int × S26) :=
ck (inb t7 o0.2.2.2.1.length) <|
let v2 := o0.2.2.2.1.getD t7.toNat z28;
(j0 n t4 t5 v2).bind fun z3 =>
sm z3 (fun z4 =>
(armillaryref29_Committed n o0.2.2.2.1 o0.2.1 (v2.2.2.1, t4)).bind fun z6 =>
(armillaryref30_proposal n o0 t4 (-1) z6.1 false).bind fun z7 =>
bif z6.2 then
bif z7.2 then
some (v2.2.2.1, z7.1.2.2.2.2.2)
else
some (t5, o1)
else
some (t5, o1)) fun z5 =>
some (t5, o1)
noncomputable def D1 (n : Nat) : FragD := ⟨⟨[(1, pp 0), (4, pi), (5, pi), (6, pp 1), (7, pi)], [.stb 33 c33, .stb 26 c26]⟩, [⟨0, ⟨[(5, pi)], [.same, .stb 26 c26]⟩, Int × S26, fun x => (x.1.1, x.2.2.1), fun r => ((r.1, ()), ((), r.2, ())), fun _ => rfl⟩], fun x => j1 n x.1.2.1 x.1.2.2.1 x.1.2.2.2.2.1 x.2.1 x.2.2.1⟩
theorem T1 (n : Nat) : FragOK Tryz.prog 89 (atN K 400 2002) (D1 n) := fragR ⟨Tryz.prog, 89, F n, (r0 n), [], []⟩ (Fok n) (R0 n) noL 2002 (by kernel_rfl) (fun x => by kernel_rfl)
noncomputable abbrev r1 (n : Nat) : List (Nat × FragD) := (2002, D1 n) :: (r0 n)
theorem R1 (n : Nat) : AllFr Tryz.prog 89 K (r1 n) := ⟨T1 n, R0 n⟩
noncomputable def s2 (n : Nat) (t5 : Int) (t7 : Int) (t4 : Int) (o0 : S33) (o1 : S26) : Option ((Int × Int × S33 × S26) ⊕ (Int × S33 × S26)) :=
bif (decide (t7 < (o0.2.2.2.1.length : Int))) then
(j1 n t4 t5 t7 o0 o1).bind fun z8 =>
some (.inl (z8.1, W .i64 (t7 + 1), o0, z8.2))
else
some (.inr (t5, o0, o1))
noncomputable def l2 (n : Nat) : Nat → Int → Int → Int → S33 → S26 → Option (Int × S33 × S26)
| 0, _, _, _, _, _ => none
| k + 1, t5, t7, t4, o0, o1 => (s2 n t5 t7 t4 o0 o1).bind fun z => sm z (fun z => l2 n k z.1 z.2.1 t4 z.2.2.1 z.2.2.2) some
noncomputable def L2 (n : Nat) : LoopD := ⟨[(1, pp 0), (5, pi), (6, pp 1), (7, pi)], [(4, pi)], [.stb 33 c33, .stb 26 c26], Int × Int × S33 × S26, fun x => (x.1.2.1, x.1.2.2.2.1, x.2.1, x.2.2.1), fun r => (((), r.1, (), r.2.1, ()), (r.2.2.1, r.2.2.2, ())), fun _ => rfl, ⟨2, ⟨[(5, pi)], [.stb 33 c33, .stb 26 c26]⟩, Int × S33 × S26, fun x => (x.1.1, x.2.1, x.2.2.1), fun r => ((r.1, ()), (r.2.1, r.2.2, ())), fun _ => rfl⟩, [], fun x => s2 n x.1.2.1 x.1.2.2.2.1 x.1.2.2.2.2.1 x.2.1 x.2.2.1, [0, 1]⟩
theorem T2 (n : Nat) : FragOK Tryz.prog 89 (atN K 400 250) ((L2 n).loopD fun x => l2 n n x.1.2.1 x.1.2.2.2.1 x.1.2.2.2.2.1 x.2.1 x.2.2.1) := loopR (L2 n) 250 (by kernel_rfl) (by kernel_rfl) (fragK ⟨Tryz.prog, 89, F n, (r1 n), [], []⟩ (Fok n) (R1 n) noL 500 (by kernel_rfl) (fun x => by kernel_rfl)) (fun k x => l2 n k x.1.2.1 x.1.2.2.2.1 x.1.2.2.2.2.1 x.2.1 x.2.2.1) (fun x => by kernel_rfl) (fun k x => by kernel_rfl) n
noncomputable abbrev r2 (n : Nat) : List (Nat × FragD) := (250, ((L2 n).loopD fun x => l2 n n x.1.2.1 x.1.2.2.2.1 x.1.2.2.2.2.1 x.2.1 x.2.2.1)) :: (r1 n)
theorem R2 (n : Nat) : AllFr Tryz.prog 89 K (r2 n) := ⟨T2 n, R1 n⟩
end armillaryref30_commit
open armillaryref30_commit in
noncomputable def armillaryref30_commit (n : Nat) (t0 : S33) : Option (Int × Int × Int × List S28 × List S28 × List S26 × Bool) :=
(l2 n n (-1) 0 (t0.2.2.2.2.2.length : Int) t0 (0, (⟨#[]⟩ : ByteArray), ([] : List Int))).bind fun z9 =>
bif decide (z9.1 < 0) then
some (z9.2.1.1, z9.2.1.2.1, z9.2.1.2.2.1, z9.2.1.2.2.2.1, z9.2.1.2.2.2.2.1, z9.2.1.2.2.2.2.2, false)
else
ck (room (0 + z9.2.1.2.2.2.2.2.length) 48) <|
let v10 := ([] : List S26) ++ z9.2.1.2.2.2.2.2;
ck (room (v10.length + 1) 48) <|
some (z9.2.1.1, z9.2.1.2.1, z9.2.1.2.2.1, z9.2.1.2.2.2.1, z9.2.1.2.2.2.2.1, v10 ++ [z9.2.2], true)
noncomputable def armillaryref30_commit.d (n : Nat) : FragD := ⟨⟨[(0, pst c33)], []⟩, [⟨1, ⟨[(0, .tup [.agg [.h (.int .i64), .h (.int .i64), .h (.int .i64), .h (.row c28), .h (.row c28), .h (.row c26)], .c (.h .bool)])], []⟩, Int × Int × Int × List S28 × List S28 × List S26 × Bool, fun x => (x.1.1.1.1, x.1.1.1.2.1, x.1.1.1.2.2.1, x.1.1.1.2.2.2.1, x.1.1.1.2.2.2.2.1, x.1.1.1.2.2.2.2.2.1, x.1.1.2.1), fun r => ((((r.1, r.2.1, r.2.2.1, r.2.2.2.1, r.2.2.2.2.1, r.2.2.2.2.2.1, ()), r.2.2.2.2.2.2, ()), ()), ()), fun _ => rfl⟩], fun x => armillaryref30_commit n x.1.1⟩
open armillaryref30_commit in
theorem armillaryref30_commit.ok (n : Nat) : FunOK Tryz.prog 56 (armillaryref30_commit.d n) := funR ⟨Tryz.prog, 89, F n, (r2 n), [], []⟩ Tryz.f56 (by kernel_rfl) (by kernel_rfl) (by kernel_rfl) (Fok n) (R2 n) noL (by kernel_rfl) (fun x => by kernel_rfl)

namespace armillaryref30_join
noncomputable abbrev K := cBody Tryz.f57
noncomputable abbrev F (n : Nat) : List (Nat × FragD) := [(77, armillaryref29_MaxFaulty.d), (42, armillaryref30_send.d)]
theorem Fok (n : Nat) : AllF Tryz.prog (F n) := ⟨armillaryref29_MaxFaulty.ok, armillaryref30_send.ok, trivial⟩
noncomputable def s0 (n : Nat) (t5 : Int) (o0 : S33) (o1 : List Int) : Option ((Int × S33 × List Int) ⊕ (S33 × List Int)) :=
bif (decide (t5 < (o0.2.2.2.1.length : Int))) then
ck (inb t5 o0.2.2.2.1.length) <|
let v3 := o0.2.2.2.1.getD t5.toNat z28;
bif v3.1 == 4 then
ck (inb v3.2.1 o1.length) <|
ck (inb v3.2.1 o1.length) <|
some (.inl (W .i64 (t5 + 1), o0, o1.set v3.2.1.toNat (iMax (o1.getD v3.2.1.toNat 0) v3.2.2.1)))
else
some (.inl (W .i64 (t5 + 1), o0, o1))
else
some (.inr (o0, o1))
noncomputable def l0 (n : Nat) : Nat → Int → S33 → List Int → Option (S33 × List Int)
| 0, _, _, _ => none
| k + 1, t5, o0, o1 => (s0 n t5 o0 o1).bind fun z => sm z (fun z => l0 n k z.1 z.2.1 z.2.2) some
noncomputable def L0 (n : Nat) : LoopD := ⟨[(1, pp 0), (4, po 1), (5, pi)], [], [.stb 33 c33, .row 3 (.int .i64)], Int × S33 × List Int, fun x => (x.1.2.2.1, x.2.1, x.2.2.1), fun r => (((), (), r.1, ()), (r.2.1, r.2.2, ())), fun _ => rfl, ⟨2, ⟨[], [.stb 33 c33, .row 3 (.int .i64)]⟩, S33 × List Int, fun x => (x.2.1, x.2.2.1), fun r => ((), (r.1, r.2, ())), fun _ => rfl⟩, [], fun x => s0 n x.1.2.2.1 x.2.1 x.2.2.1, [0, 1]⟩
theorem T0 (n : Nat) : FragOK Tryz.prog 86 (atN K 400 58) ((L0 n).loopD fun x => l0 n n x.1.2.2.1 x.2.1 x.2.2.1) := loopR (L0 n) 58 (by kernel_rfl) (by kernel_rfl) (fragK ⟨Tryz.prog, 86, F n, [], [], []⟩ (Fok n) trivial noL 116 (by kernel_rfl) (fun x => by kernel_rfl)) (fun k x => l0 n k x.1.2.2.1 x.2.1 x.2.2.1) (fun x => by kernel_rfl) (fun k x => by kernel_rfl) n
noncomputable abbrev r0 (n : Nat) : List (Nat × FragD) := (58, ((L0 n).loopD fun x => l0 n n x.1.2.2.1 x.2.1 x.2.2.1)) :: []
theorem R0 (n : Nat) : AllFr Tryz.prog 86 K (r0 n) := ⟨T0 n, trivial⟩
noncomputable def s1 (n : Nat) (t9 : Int) (t10 : Int) (t8 : Int) (o0 : S33) (o1 : List Int) : Option ((Int × Int × S33 × List Int) ⊕ (Int × S33 × List Int)) :=
bif decide (t10 < o0.2.1) then
ck (inb t10 o1.length) <|
ck (inb t8 o1.length) <|
bif (decide ((o1.getD t10.toNat 0) ≥ (o1.getD t8.toNat 0))) then
some (.inl (W .i64 (t9 + 1), W .i64 (t10 + 1), o0, o1))
else
some (.inl (t9, W .i64 (t10 + 1), o0, o1))
else
some (.inr (t9, o0, o1))
noncomputable def l1 (n : Nat) : Nat → Int → Int → Int → S33 → List Int → Option (Int × S33 × List Int)
| 0, _, _, _, _, _ => none
| k + 1, t9, t10, t8, o0, o1 => (s1 n t9 t10 t8 o0 o1).bind fun z => sm z (fun z => l1 n k z.1 z.2.1 t8 z.2.2.1 z.2.2.2) some
noncomputable def L1 (n : Nat) : LoopD := ⟨[(1, pp 0), (4, po 1), (9, pi), (10, pi)], [(8, pi)], [.stb 33 c33, .row 3 (.int .i64)], Int × Int × S33 × List Int, fun x => (x.1.2.2.1, x.1.2.2.2.1, x.2.1, x.2.2.1), fun r => (((), (), r.1, r.2.1, ()), (r.2.2.1, r.2.2.2, ())), fun _ => rfl, ⟨6, ⟨[(9, pi)], [.stb 33 c33, .row 3 (.int .i64)]⟩, Int × S33 × List Int, fun x => (x.1.1, x.2.1, x.2.2.1), fun r => ((r.1, ()), (r.2.1, r.2.2, ())), fun _ => rfl⟩, [], fun x => s1 n x.1.2.2.1 x.1.2.2.2.1 x.1.2.2.2.2.1 x.2.1 x.2.2.1, [0, 1]⟩
theorem T1 (n : Nat) : FragOK Tryz.prog 86 (atN K 400 64074) ((L1 n).loopD fun x => l1 n n x.1.2.2.1 x.1.2.2.2.1 x.1.2.2.2.2.1 x.2.1 x.2.2.1) := loopR (L1 n) 64074 (by kernel_rfl) (by kernel_rfl) (fragK ⟨Tryz.prog, 86, F n, (r0 n), [], []⟩ (Fok n) (R0 n) noL 128148 (by kernel_rfl) (fun x => by kernel_rfl)) (fun k x => l1 n k x.1.2.2.1 x.1.2.2.2.1 x.1.2.2.2.2.1 x.2.1 x.2.2.1) (fun x => by kernel_rfl) (fun k x => by kernel_rfl) n
noncomputable abbrev r1 (n : Nat) : List (Nat × FragD) := (64074, ((L1 n).loopD fun x => l1 n n x.1.2.2.1 x.1.2.2.2.1 x.1.2.2.2.2.1 x.2.1 x.2.2.1)) :: (r0 n)
theorem R1 (n : Nat) : AllFr Tryz.prog 86 K (r1 n) := ⟨T1 n, R0 n⟩
noncomputable def s2 (n : Nat) (t7 : Int) (t8 : Int) (o0 : S33) (o1 : List Int) : Option ((Int × Int × S33 × List Int) ⊕ (Int × S33 × List Int)) :=
bif decide (t8 < o0.2.1) then
(l1 n n 0 0 t8 o0 o1).bind fun z7 =>
(armillaryref29_MaxFaulty z7.2.1.2.1).bind fun z8 =>
bif decide (z7.1 > z8) then
ck (inb t8 z7.2.2.length) <|
some (.inl ((iMax t7 (z7.2.2.getD t8.toNat 0)), W .i64 (t8 + 1), z7.2.1, z7.2.2))
else
some (.inl (t7, W .i64 (t8 + 1), z7.2.1, z7.2.2))
else
some (.inr (t7, o0, o1))
noncomputable def l2 (n : Nat) : Nat → Int → Int → S33 → List Int → Option (Int × S33 × List Int)
| 0, _, _, _, _ => none
| k + 1, t7, t8, o0, o1 => (s2 n t7 t8 o0 o1).bind fun z => sm z (fun z => l2 n k z.1 z.2.1 z.2.2.1 z.2.2.2) some
noncomputable def L2 (n : Nat) : LoopD := ⟨[(1, pp 0), (4, po 1), (7, pi), (8, pi)], [], [.stb 33 c33, .row 3 (.int .i64)], Int × Int × S33 × List Int, fun x => (x.1.2.2.1, x.1.2.2.2.1, x.2.1, x.2.2.1), fun r => (((), (), r.1, r.2.1, ()), (r.2.2.1, r.2.2.2, ())), fun _ => rfl, ⟨4, ⟨[(7, pi)], [.stb 33 c33, .row 3 (.int .i64)]⟩, Int × S33 × List Int, fun x => (x.1.1, x.2.1, x.2.2.1), fun r => ((r.1, ()), (r.2.1, r.2.2, ())), fun _ => rfl⟩, [], fun x => s2 n x.1.2.2.1 x.1.2.2.2.1 x.2.1 x.2.2.1, [0, 1]⟩
theorem T2 (n : Nat) : FragOK Tryz.prog 86 (atN K 400 250) ((L2 n).loopD fun x => l2 n n x.1.2.2.1 x.1.2.2.2.1 x.2.1 x.2.2.1) := loopR (L2 n) 250 (by kernel_rfl) (by kernel_rfl) (fragK ⟨Tryz.prog, 86, F n, (r1 n), [], []⟩ (Fok n) (R1 n) noL 500 (by kernel_rfl) (fun x => by kernel_rfl)) (fun k x => l2 n k x.1.2.2.1 x.1.2.2.2.1 x.2.1 x.2.2.1) (fun x => by kernel_rfl) (fun k x => by kernel_rfl) n
noncomputable abbrev r2 (n : Nat) : List (Nat × FragD) := (250, ((L2 n).loopD fun x => l2 n n x.1.2.2.1 x.1.2.2.2.1 x.2.1 x.2.2.1)) :: (r1 n)
theorem R2 (n : Nat) : AllFr Tryz.prog 86 K (r2 n) := ⟨T2 n, R1 n⟩
end armillaryref30_join
open armillaryref30_join in
noncomputable def armillaryref30_join (n : Nat) (t0 : S33) : Option (Int × Int × Int × List S28 × List S28 × List S26 × Bool) :=
ck (decide (0 ≤ t0.2.1 ∧ t0.2.1 ≤ t0.2.1)) <|
ck (room t0.2.1.toNat 8) <|
(l0 n n 0 t0 (List.replicate t0.2.1.toNat 0)).bind fun z5 =>
(l2 n n 0 0 z5.1 z5.2).bind fun z10 =>
bif (decide (z10.1 ≤ z10.2.1.2.2.1)) then
some (z10.2.1.1, z10.2.1.2.1, z10.2.1.2.2.1, z10.2.1.2.2.2.1, z10.2.1.2.2.2.2.1, z10.2.1.2.2.2.2.2, false)
else
(armillaryref30_send (z10.2.1.1, z10.2.1.2.1, z10.1, z10.2.1.2.2.2) (4, 0, z10.1, 0, 0, 0, (⟨#[]⟩ : ByteArray), ([] : List Int))).bind fun z12 =>
some (z12.1, z12.2.1, z12.2.2.1, z12.2.2.2.1, z12.2.2.2.2.2, z12.2.2.2.2.1, true)
noncomputable def armillaryref30_join.d (n : Nat) : FragD := ⟨⟨[(0, pst c33)], []⟩, [⟨1, ⟨[(0, .tup [.agg [.h (.int .i64), .h (.int .i64), .h (.int .i64), .h (.row c28), .h (.row c28), .h (.row c26)], .c (.h .bool)])], []⟩, Int × Int × Int × List S28 × List S28 × List S26 × Bool, fun x => (x.1.1.1.1, x.1.1.1.2.1, x.1.1.1.2.2.1, x.1.1.1.2.2.2.1, x.1.1.1.2.2.2.2.1, x.1.1.1.2.2.2.2.2.1, x.1.1.2.1), fun r => ((((r.1, r.2.1, r.2.2.1, r.2.2.2.1, r.2.2.2.2.1, r.2.2.2.2.2.1, ()), r.2.2.2.2.2.2, ()), ()), ()), fun _ => rfl⟩], fun x => armillaryref30_join n x.1.1⟩
open armillaryref30_join in
theorem armillaryref30_join.ok (n : Nat) : FunOK Tryz.prog 57 (armillaryref30_join.d n) := funR ⟨Tryz.prog, 86, F n, (r2 n), [], []⟩ Tryz.f57 (by kernel_rfl) (by kernel_rfl) (by kernel_rfl) (Fok n) (R2 n) noL (by kernel_rfl) (fun x => by kernel_rfl)

namespace armillaryref30_acceptable
noncomputable abbrev K := cBody Tryz.f78
noncomputable abbrev F (n : Nat) : List (Nat × FragD) := [(67, armillaryref29_Prepared.d n)]
theorem Fok (n : Nat) : AllF Tryz.prog (F n) := ⟨armillaryref29_Prepared.ok n, trivial⟩
noncomputable def j0 (n : Nat) (t5 : Int) (t7 : Int) (o0 : S33) (o1 : S28) : Option S28 :=
ck (inb t7 o0.2.2.2.2.1.length) <|
let v2 := o0.2.2.2.2.1.getD t7.toNat z28;
bif v2.1 == 3 then
bif v2.2.2.2.1 == t5 then
bif (decide (v2.2.2.1 > o1.2.2.1)) then
some v2
else
some o1
else
some o1
else
some o1
noncomputable def D0 (n : Nat) : FragD := ⟨⟨[(2, pp 0), (5, pi), (6, pp 1), (7, pi)], [.stb 33 c33, .stb 28 c28]⟩, [⟨0, ⟨[], [.same, .stb 28 c28]⟩, S28, fun x => x.2.2.1, fun r => ((), ((), r, ())), fun _ => rfl⟩], fun x => j0 n x.1.2.1 x.1.2.2.2.1 x.2.1 x.2.2.1⟩
theorem T0 (n : Nat) : FragOK Tryz.prog 108 (atN K 400 978) (D0 n) := fragR ⟨Tryz.prog, 108, F n, [], [], []⟩ (Fok n) trivial noL 978 (by kernel_rfl) (fun x => by kernel_rfl)
noncomputable abbrev r0 (n : Nat) : List (Nat × FragD) := (978, D0 n) :: []
theorem R0 (n : Nat) : AllFr Tryz.prog 108 K (r0 n) := ⟨T0 n, trivial⟩
noncomputable def s1 (n : Nat) (t7 : Int) (t5 : Int) (o0 : S33) (o1 : S28) : Option ((Int × S33 × S28) ⊕ (S33 × S28)) :=
bif (decide (t7 < (o0.2.2.2.2.1.length : Int))) then
(j0 n t5 t7 o0 o1).bind fun z4 =>
some (.inl (W .i64 (t7 + 1), o0, z4))
else
some (.inr (o0, o1))
noncomputable def l1 (n : Nat) : Nat → Int → Int → S33 → S28 → Option (S33 × S28)
| 0, _, _, _, _ => none
| k + 1, t7, t5, o0, o1 => (s1 n t7 t5 o0 o1).bind fun z => sm z (fun z => l1 n k z.1 t5 z.2.1 z.2.2) some
noncomputable def L1 (n : Nat) : LoopD := ⟨[(2, pp 0), (6, pp 1), (7, pi)], [(5, pi)], [.stb 33 c33, .stb 28 c28], Int × S33 × S28, fun x => (x.1.2.2.1, x.2.1, x.2.2.1), fun r => (((), (), r.1, ()), (r.2.1, r.2.2, ())), fun _ => rfl, ⟨2, ⟨[], [.stb 33 c33, .stb 28 c28]⟩, S33 × S28, fun x => (x.2.1, x.2.2.1), fun r => ((), (r.1, r.2, ())), fun _ => rfl⟩, [], fun x => s1 n x.1.2.2.1 x.1.2.2.2.1 x.2.1 x.2.2.1, [0, 1]⟩
theorem T1 (n : Nat) : FragOK Tryz.prog 108 (atN K 400 122) ((L1 n).loopD fun x => l1 n n x.1.2.2.1 x.1.2.2.2.1 x.2.1 x.2.2.1) := loopR (L1 n) 122 (by kernel_rfl) (by kernel_rfl) (fragK ⟨Tryz.prog, 108, F n, (r0 n), [], []⟩ (Fok n) (R0 n) noL 244 (by kernel_rfl) (fun x => by kernel_rfl)) (fun k x => l1 n k x.1.2.2.1 x.1.2.2.2.1 x.2.1 x.2.2.1) (fun x => by kernel_rfl) (fun k x => by kernel_rfl) n
noncomputable abbrev r1 (n : Nat) : List (Nat × FragD) := (122, ((L1 n).loopD fun x => l1 n n x.1.2.2.1 x.1.2.2.2.1 x.2.1 x.2.2.1)) :: (r0 n)
theorem R1 (n : Nat) : AllFr Tryz.prog 108 K (r1 n) := ⟨T1 n, R0 n⟩
noncomputable def j2 (n : Nat) (t1 : Int) (o0 : S28) : Option (Unit ⊕ Bool) :=
bif decide (o0.2.2.1 < 0) then
some (.inr true)
else
bif o0.2.2.2.2.1 == t1 then
some (.inr true)
else
some (.inl ())
noncomputable def D2 (n : Nat) : FragD := ⟨⟨[(1, ph (.int .u32)), (6, pp 0)], [.stb 28 c28]⟩, [⟨0, ⟨[], [.same]⟩, Unit, fun _ => (), fun _ => ((), ((), ())), fun _ => rfl⟩, ⟨1, ⟨[(4, pb)], [.same]⟩, Bool, fun x => x.1.1, fun r => ((r, ()), ((), ())), fun _ => rfl⟩], fun x => j2 n x.1.1 x.2.1⟩
theorem T2 (n : Nat) : FragOK Tryz.prog 108 (atN K 400 62) (D2 n) := fragR ⟨Tryz.prog, 108, F n, (r1 n), [], []⟩ (Fok n) (R1 n) noL 62 (by kernel_rfl) (fun x => by kernel_rfl)
noncomputable abbrev r2 (n : Nat) : List (Nat × FragD) := (62, D2 n) :: (r1 n)
theorem R2 (n : Nat) : AllFr Tryz.prog 108 K (r2 n) := ⟨T2 n, R1 n⟩
noncomputable def j3 (n : Nat) (t5 : Int) (o0 : S33) (o1 : S28) (o2 : S28) : Option Bool :=
bif o2.1 == 2 then
bif o2.2.2.2.1 == t5 then
bif (decide (o2.2.2.1 > o1.2.2.1)) then
some (decide (o2.2.2.1 < o0.2.2.1))
else
some false
else
some false
else
some false
noncomputable def D3 (n : Nat) : FragD := ⟨⟨[(2, pp 0), (5, pi), (6, pp 1), (10, pp 2)], [.stb 33 c33, .stb 28 c28, .stb 28 c28]⟩, [⟨0, ⟨[(89, pb)], [.same, .same, .same]⟩, Bool, fun x => x.1.1, fun r => ((r, ()), ((), (), (), ())), fun _ => rfl⟩], fun x => j3 n x.1.2.1 x.2.1 x.2.2.1 x.2.2.2.1⟩
theorem T3 (n : Nat) : FragOK Tryz.prog 108 (atN K 400 32402) (D3 n) := fragR ⟨Tryz.prog, 108, F n, (r2 n), [], []⟩ (Fok n) (R2 n) noL 32402 (by kernel_rfl) (fun x => by kernel_rfl)
noncomputable abbrev r3 (n : Nat) : List (Nat × FragD) := (32402, D3 n) :: (r2 n)
theorem R3 (n : Nat) : AllFr Tryz.prog 108 K (r3 n) := ⟨T3 n, R2 n⟩
noncomputable def j4 (n : Nat) (t1 : Int) (t5 : Int) (t9 : Int) (o0 : S33) (o1 : S28) : Option (Unit ⊕ Bool) :=
ck (inb t9 o0.2.2.2.1.length) <|
let v10 := o0.2.2.2.1.getD t9.toNat z28;
(j3 n t5 o0 o1 v10).bind fun z13 =>
bif z13 then
(armillaryref29_Prepared n o0.2.2.2.1 o0.2.1 (v10.2.2.1, t5)).bind fun z14 =>
bif z14.2 then
bif z14.1 == t1 then
some (.inr true)
else
some (.inl ())
else
some (.inl ())
else
some (.inl ())
noncomputable def D4 (n : Nat) : FragD := ⟨⟨[(1, ph (.int .u32)), (2, pp 0), (5, pi), (6, pp 1), (9, pi)], [.stb 33 c33, .stb 28 c28]⟩, [⟨0, ⟨[], [.same, .same]⟩, Unit, fun _ => (), fun _ => ((), ((), (), ())), fun _ => rfl⟩, ⟨1, ⟨[(4, pb)], [.same, .same]⟩, Bool, fun x => x.1.1, fun r => ((r, ()), ((), (), ())), fun _ => rfl⟩], fun x => j4 n x.1.1 x.1.2.2.1 x.1.2.2.2.2.1 x.2.1 x.2.2.1⟩
theorem T4 (n : Nat) : FragOK Tryz.prog 108 (atN K 400 4050) (D4 n) := fragR ⟨Tryz.prog, 108, F n, (r3 n), [], []⟩ (Fok n) (R3 n) noL 4050 (by kernel_rfl) (fun x => by kernel_rfl)
noncomputable abbrev r4 (n : Nat) : List (Nat × FragD) := (4050, D4 n) :: (r3 n)
theorem R4 (n : Nat) : AllFr Tryz.prog 108 K (r4 n) := ⟨T4 n, R3 n⟩
noncomputable def s5 (n : Nat) (t9 : Int) (t1 : Int) (t5 : Int) (o0 : S33) (o1 : S28) : Option ((Int × S33 × S28) ⊕ ((Bool × S33 × S28) ⊕ (S33 × S28))) :=
bif (decide (t9 < (o0.2.2.2.1.length : Int))) then
(j4 n t1 t5 t9 o0 o1).bind fun z15 =>
sm z15 (fun z16 =>
some (.inl (W .i64 (t9 + 1), o0, o1))) fun z17 =>
some (.inr (.inl (z17, o0, o1)))
else
some (.inr (.inr (o0, o1)))
noncomputable def l5 (n : Nat) : Nat → Int → Int → Int → S33 → S28 → Option ((Bool × S33 × S28) ⊕ (S33 × S28))
| 0, _, _, _, _, _ => none
| k + 1, t9, t1, t5, o0, o1 => (s5 n t9 t1 t5 o0 o1).bind fun z => sm z (fun z => l5 n k z.1 t1 t5 z.2.1 z.2.2) some
noncomputable def L5 (n : Nat) : LoopD := ⟨[(2, pp 0), (6, pp 1), (9, pi)], [(1, ph (.int .u32)), (5, pi)], [.stb 33 c33, .stb 28 c28], Int × S33 × S28, fun x => (x.1.2.2.1, x.2.1, x.2.2.1), fun r => (((), (), r.1, ()), (r.2.1, r.2.2, ())), fun _ => rfl, ⟨1, ⟨[(4, pb)], [.stb 33 c33, .stb 28 c28]⟩, Bool × S33 × S28, fun x => (x.1.1, x.2.1, x.2.2.1), fun r => ((r.1, ()), (r.2.1, r.2.2, ())), fun _ => rfl⟩, [⟨4, ⟨[], [.stb 33 c33, .stb 28 c28]⟩, S33 × S28, fun x => (x.2.1, x.2.2.1), fun r => ((), (r.1, r.2, ())), fun _ => rfl⟩], fun x => s5 n x.1.2.2.1 x.1.2.2.2.1 x.1.2.2.2.2.1 x.2.1 x.2.2.1, [0, 1]⟩
theorem T5 (n : Nat) : FragOK Tryz.prog 108 (atN K 400 506) ((L5 n).loopD fun x => l5 n n x.1.2.2.1 x.1.2.2.2.1 x.1.2.2.2.2.1 x.2.1 x.2.2.1) := loopR (L5 n) 506 (by kernel_rfl) (by kernel_rfl) (fragK ⟨Tryz.prog, 108, F n, (r4 n), [], []⟩ (Fok n) (R4 n) noL 1012 (by kernel_rfl) (fun x => by kernel_rfl)) (fun k x => l5 n k x.1.2.2.1 x.1.2.2.2.1 x.1.2.2.2.2.1 x.2.1 x.2.2.1) (fun x => by kernel_rfl) (fun k x => by kernel_rfl) n
noncomputable abbrev r5 (n : Nat) : List (Nat × FragD) := (506, ((L5 n).loopD fun x => l5 n n x.1.2.2.1 x.1.2.2.2.1 x.1.2.2.2.2.1 x.2.1 x.2.2.1)) :: (r4 n)
theorem R5 (n : Nat) : AllFr Tryz.prog 108 K (r5 n) := ⟨T5 n, R4 n⟩
end armillaryref30_acceptable
open armillaryref30_acceptable in
noncomputable def armillaryref30_acceptable (n : Nat) (t0 : S33) (t1 : Int) : Option Bool :=
(l1 n n 0 (t0.2.2.2.2.2.length : Int) t0 (0, 0, (-1), 0, 0, 0, (⟨#[]⟩ : ByteArray), ([] : List Int))).bind fun z5 =>
(j2 n t1 z5.2).bind fun z6 =>
sm z6 (fun z7 =>
(l5 n n 0 t1 (t0.2.2.2.2.2.length : Int) z5.1 z5.2).bind fun z18 =>
sm z18 (fun z19 =>
some z19.1) fun z20 =>
some false) fun z8 =>
some z8
noncomputable def armillaryref30_acceptable.d (n : Nat) : FragD := ⟨⟨[(0, pst c33), (1, ph (.int .u32))], []⟩, [⟨1, ⟨[(0, pb)], []⟩, Bool, fun x => x.1.1, fun r => ((r, ()), ()), fun _ => rfl⟩], fun x => armillaryref30_acceptable n x.1.1 x.1.2.1⟩
open armillaryref30_acceptable in
theorem armillaryref30_acceptable.ok (n : Nat) : FunOK Tryz.prog 78 (armillaryref30_acceptable.d n) := funR ⟨Tryz.prog, 108, F n, (r5 n), [], []⟩ Tryz.f78 (by kernel_rfl) (by kernel_rfl) (by kernel_rfl) (Fok n) (R5 n) noL (by kernel_rfl) (fun x => by kernel_rfl)

namespace armillaryref30_prepare
noncomputable abbrev K := cBody Tryz.f58
noncomputable abbrev F (n : Nat) : List (Nat × FragD) := [(76, armillaryref30_proposal.d n), (39, armillaryref30_said.d n), (78, armillaryref30_acceptable.d n), (42, armillaryref30_send.d)]
theorem Fok (n : Nat) : AllF Tryz.prog (F n) := ⟨armillaryref30_proposal.ok n, armillaryref30_said.ok n, armillaryref30_acceptable.ok n, armillaryref30_send.ok, trivial⟩
noncomputable def j0 (n : Nat) (t4 : Int) (t6 : Bool) (o0 : S33) (o1 : S28) : Option Bool :=
bif !t6 then
some true
else
bif decide (t4 ≥ 1000) then
some true
else
(armillaryref30_said n o0 2 o0.2.2.1 t4).bind fun z2 =>
bif z2 then
some true
else
(armillaryref30_acceptable n o0 o1.2.2.2.2.1).bind fun z3 =>
some (!z3)
noncomputable def D0 (n : Nat) : FragD := ⟨⟨[(1, pp 0), (4, pi), (5, pp 1), (6, pb)], [.stb 33 c33, .stb 28 c28]⟩, [⟨0, ⟨[(37, pb)], [.same, .same]⟩, Bool, fun x => x.1.1, fun r => ((r, ()), ((), (), ())), fun _ => rfl⟩], fun x => j0 n x.1.2.1 x.1.2.2.2.1 x.2.1 x.2.2.1⟩
theorem T0 (n : Nat) : FragOK Tryz.prog 47 (atN K 400 60) (D0 n) := fragR ⟨Tryz.prog, 47, F n, [], [], []⟩ (Fok n) trivial noL 60 (by kernel_rfl) (fun x => by kernel_rfl)
noncomputable abbrev r0 (n : Nat) : List (Nat × FragD) := (60, D0 n) :: []
theorem R0 (n : Nat) : AllFr Tryz.prog 47 K (r0 n) := ⟨T0 n, trivial⟩
noncomputable def j1 (n : Nat) (t4 : Int) (t6 : Bool) (o0 : S33) (o1 : S33) (o2 : S28) : Option (Unit ⊕ (Bool × S33)) :=
(j0 n t4 t6 o0 o2).bind fun z4 =>
bif z4 then
some (.inr (false, o0))
else
some (.inl ())
noncomputable def D1 (n : Nat) : FragD := ⟨⟨[(1, pp 0), (2, pp 1), (4, pi), (5, pp 2), (6, pb)], [.stb 33 c33, .stb 33 c33, .stb 28 c28]⟩, [⟨0, ⟨[], [.same, .same, .same]⟩, Unit, fun _ => (), fun _ => ((), ((), (), (), ())), fun _ => rfl⟩, ⟨1, ⟨[(3, pb)], [.same, .stb 33 c33, .same]⟩, Bool × S33, fun x => (x.1.1, x.2.2.1), fun r => ((r.1, ()), ((), r.2, (), ())), fun _ => rfl⟩], fun x => j1 n x.1.2.2.1 x.1.2.2.2.2.1 x.2.1 x.2.2.1 x.2.2.2.1⟩
theorem T1 (n : Nat) : FragOK Tryz.prog 47 (atN K 400 30) (D1 n) := fragR ⟨Tryz.prog, 47, F n, (r0 n), [], []⟩ (Fok n) (R0 n) noL 30 (by kernel_rfl) (fun x => by kernel_rfl)
noncomputable abbrev r1 (n : Nat) : List (Nat × FragD) := (30, D1 n) :: (r0 n)
theorem R1 (n : Nat) : AllFr Tryz.prog 47 K (r1 n) := ⟨T1 n, R0 n⟩
end armillaryref30_prepare
open armillaryref30_prepare in
noncomputable def armillaryref30_prepare (n : Nat) (t0 : S33) : Option (Int × Int × Int × List S28 × List S28 × List S26 × Bool) :=
(armillaryref30_proposal n t0 (t0.2.2.2.2.2.length : Int) t0.2.2.1 0 true).bind fun z1 =>
(j1 n (t0.2.2.2.2.2.length : Int) z1.2 t0 (0, 0, 0, ([] : List S28), ([] : List S28), ([] : List S26)) z1.1).bind fun z5 =>
sm z5 (fun z6 =>
(armillaryref30_send t0 (2, 0, t0.2.2.1, (t0.2.2.2.2.2.length : Int), z1.1.2.2.2.2.1, 0, (⟨#[]⟩ : ByteArray), ([] : List Int))).bind fun z8 =>
some (z8.1, z8.2.1, z8.2.2.1, z8.2.2.2.1, z8.2.2.2.2.2, z8.2.2.2.2.1, true)) fun z7 =>
some (z7.2.1, z7.2.2.1, z7.2.2.2.1, z7.2.2.2.2.1, z7.2.2.2.2.2.1, z7.2.2.2.2.2.2, z7.1)
noncomputable def armillaryref30_prepare.d (n : Nat) : FragD := ⟨⟨[(0, pst c33)], []⟩, [⟨1, ⟨[(0, .tup [.agg [.h (.int .i64), .h (.int .i64), .h (.int .i64), .h (.row c28), .h (.row c28), .h (.row c26)], .c (.h .bool)])], []⟩, Int × Int × Int × List S28 × List S28 × List S26 × Bool, fun x => (x.1.1.1.1, x.1.1.1.2.1, x.1.1.1.2.2.1, x.1.1.1.2.2.2.1, x.1.1.1.2.2.2.2.1, x.1.1.1.2.2.2.2.2.1, x.1.1.2.1), fun r => ((((r.1, r.2.1, r.2.2.1, r.2.2.2.1, r.2.2.2.2.1, r.2.2.2.2.2.1, ()), r.2.2.2.2.2.2, ()), ()), ()), fun _ => rfl⟩], fun x => armillaryref30_prepare n x.1.1⟩
open armillaryref30_prepare in
theorem armillaryref30_prepare.ok (n : Nat) : FunOK Tryz.prog 58 (armillaryref30_prepare.d n) := funR ⟨Tryz.prog, 47, F n, (r1 n), [], []⟩ Tryz.f58 (by kernel_rfl) (by kernel_rfl) (by kernel_rfl) (Fok n) (R1 n) noL (by kernel_rfl) (fun x => by kernel_rfl)

namespace armillaryref30_lock
noncomputable abbrev K := cBody Tryz.f59
noncomputable abbrev F (n : Nat) : List (Nat × FragD) := [(67, armillaryref29_Prepared.d n), (76, armillaryref30_proposal.d n), (39, armillaryref30_said.d n), (42, armillaryref30_send.d)]
theorem Fok (n : Nat) : AllF Tryz.prog (F n) := ⟨armillaryref29_Prepared.ok n, armillaryref30_proposal.ok n, armillaryref30_said.ok n, armillaryref30_send.ok, trivial⟩
noncomputable def j0 (n : Nat) (t4 : Int) (t6 : Bool) (t8 : Bool) (o0 : S33) (o1 : S33) : Option (Unit ⊕ (Bool × S33)) :=
bif !t6 then
some (.inr (false, o0))
else
bif !t8 then
some (.inr (false, o0))
else
(armillaryref30_said n o0 3 o0.2.2.1 t4).bind fun z3 =>
bif z3 then
some (.inr (false, o0))
else
some (.inl ())
noncomputable def D0 (n : Nat) : FragD := ⟨⟨[(1, pp 0), (2, pp 1), (4, pi), (6, pb), (8, pb)], [.stb 33 c33, .stb 33 c33]⟩, [⟨0, ⟨[], [.same, .same]⟩, Unit, fun _ => (), fun _ => ((), ((), (), ())), fun _ => rfl⟩, ⟨1, ⟨[(3, pb)], [.same, .stb 33 c33]⟩, Bool × S33, fun x => (x.1.1, x.2.2.1), fun r => ((r.1, ()), ((), r.2, ())), fun _ => rfl⟩], fun x => j0 n x.1.2.2.1 x.1.2.2.2.1 x.1.2.2.2.2.1 x.2.1 x.2.2.1⟩
theorem T0 (n : Nat) : FragOK Tryz.prog 52 (atN K 400 62) (D0 n) := fragR ⟨Tryz.prog, 52, F n, [], [], []⟩ (Fok n) trivial noL 62 (by kernel_rfl) (fun x => by kernel_rfl)
noncomputable abbrev r0 (n : Nat) : List (Nat × FragD) := (62, D0 n) :: []
theorem R0 (n : Nat) : AllFr Tryz.prog 52 K (r0 n) := ⟨T0 n, trivial⟩
end armillaryref30_lock
open armillaryref30_lock in
noncomputable def armillaryref30_lock (n : Nat) (t0 : S33) : Option (Int × Int × Int × List S28 × List S28 × List S26 × Bool) :=
(armillaryref29_Prepared n t0.2.2.2.1 t0.2.1 (t0.2.2.1, (t0.2.2.2.2.2.length : Int))).bind fun z1 =>
(armillaryref30_proposal n t0 (t0.2.2.2.2.2.length : Int) (-1) z1.1 false).bind fun z2 =>
(j0 n (t0.2.2.2.2.2.length : Int) z1.2 z2.2 t0 (0, 0, 0, ([] : List S28), ([] : List S28), ([] : List S26))).bind fun z4 =>
sm z4 (fun z5 =>
(armillaryref30_send t0 (3, 0, t0.2.2.1, (t0.2.2.2.2.2.length : Int), z1.1, 0, (⟨#[]⟩ : ByteArray), ([] : List Int))).bind fun z7 =>
some (z7.1, z7.2.1, z7.2.2.1, z7.2.2.2.1, z7.2.2.2.2.2, z7.2.2.2.2.1, true)) fun z6 =>
some (z6.2.1, z6.2.2.1, z6.2.2.2.1, z6.2.2.2.2.1, z6.2.2.2.2.2.1, z6.2.2.2.2.2.2, z6.1)
noncomputable def armillaryref30_lock.d (n : Nat) : FragD := ⟨⟨[(0, pst c33)], []⟩, [⟨1, ⟨[(0, .tup [.agg [.h (.int .i64), .h (.int .i64), .h (.int .i64), .h (.row c28), .h (.row c28), .h (.row c26)], .c (.h .bool)])], []⟩, Int × Int × Int × List S28 × List S28 × List S26 × Bool, fun x => (x.1.1.1.1, x.1.1.1.2.1, x.1.1.1.2.2.1, x.1.1.1.2.2.2.1, x.1.1.1.2.2.2.2.1, x.1.1.1.2.2.2.2.2.1, x.1.1.2.1), fun r => ((((r.1, r.2.1, r.2.2.1, r.2.2.2.1, r.2.2.2.2.1, r.2.2.2.2.2.1, ()), r.2.2.2.2.2.2, ()), ()), ()), fun _ => rfl⟩], fun x => armillaryref30_lock n x.1.1⟩
open armillaryref30_lock in
theorem armillaryref30_lock.ok (n : Nat) : FunOK Tryz.prog 59 (armillaryref30_lock.d n) := funR ⟨Tryz.prog, 52, F n, (r0 n), [], []⟩ Tryz.f59 (by kernel_rfl) (by kernel_rfl) (by kernel_rfl) (Fok n) (R0 n) noL (by kernel_rfl) (fun x => by kernel_rfl)

namespace armillaryref30_progress
noncomputable abbrev K := cBody Tryz.f28
noncomputable abbrev F (n : Nat) : List (Nat × FragD) := [(56, armillaryref30_commit.d n), (57, armillaryref30_join.d n), (58, armillaryref30_prepare.d n), (59, armillaryref30_lock.d n)]
theorem Fok (n : Nat) : AllF Tryz.prog (F n) := ⟨armillaryref30_commit.ok n, armillaryref30_join.ok n, armillaryref30_prepare.ok n, armillaryref30_lock.ok n, trivial⟩
noncomputable def j0 (n : Nat) (t4 : Bool) (o0 : S33) (o1 : S33) : Option (Bool × S33) :=
bif !t4 then
(armillaryref30_join n o0).bind fun z2 =>
some (z2.2.2.2.2.2.2, (z2.1, z2.2.1, z2.2.2.1, z2.2.2.2.1, z2.2.2.2.2.1, z2.2.2.2.2.2.1))
else
some (t4, o1)
noncomputable def D0 (n : Nat) : FragD := ⟨⟨[(1, pp 0), (3, pp 1), (4, pb)], [.stb 33 c33, .stb 33 c33]⟩, [⟨0, ⟨[(4, pb)], [.same, .stb 33 c33]⟩, Bool × S33, fun x => (x.1.1, x.2.2.1), fun r => ((r.1, ()), ((), r.2, ())), fun _ => rfl⟩], fun x => j0 n x.1.2.2.1 x.2.1 x.2.2.1⟩
theorem T0 (n : Nat) : FragOK Tryz.prog 35 (atN K 400 98) (D0 n) := fragR ⟨Tryz.prog, 35, F n, [], [], []⟩ (Fok n) trivial noL 98 (by kernel_rfl) (fun x => by kernel_rfl)
noncomputable abbrev r0 (n : Nat) : List (Nat × FragD) := (98, D0 n) :: []
theorem R0 (n : Nat) : AllFr Tryz.prog 35 K (r0 n) := ⟨T0 n, trivial⟩
noncomputable def j1 (n : Nat) (t4 : Bool) (o0 : S33) (o1 : S33) : Option (Bool × S33) :=
bif !t4 then
(armillaryref30_prepare n o0).bind fun z4 =>
some (z4.2.2.2.2.2.2, (z4.1, z4.2.1, z4.2.2.1, z4.2.2.2.1, z4.2.2.2.2.1, z4.2.2.2.2.2.1))
else
some (t4, o1)
noncomputable def D1 (n : Nat) : FragD := ⟨⟨[(1, pp 0), (3, pp 1), (4, pb)], [.stb 33 c33, .stb 33 c33]⟩, [⟨0, ⟨[(4, pb)], [.same, .stb 33 c33]⟩, Bool × S33, fun x => (x.1.1, x.2.2.1), fun r => ((r.1, ()), ((), r.2, ())), fun _ => rfl⟩], fun x => j1 n x.1.2.2.1 x.2.1 x.2.2.1⟩
theorem T1 (n : Nat) : FragOK Tryz.prog 35 (atN K 400 198) (D1 n) := fragR ⟨Tryz.prog, 35, F n, (r0 n), [], []⟩ (Fok n) (R0 n) noL 198 (by kernel_rfl) (fun x => by kernel_rfl)
noncomputable abbrev r1 (n : Nat) : List (Nat × FragD) := (198, D1 n) :: (r0 n)
theorem R1 (n : Nat) : AllFr Tryz.prog 35 K (r1 n) := ⟨T1 n, R0 n⟩
noncomputable def s2 (n : Nat) (o0 : S33) (o1 : S33) : Option ((S33 × S33) ⊕ (S33 × S33)) :=
(armillaryref30_commit n o0).bind fun z1 =>
(j0 n z1.2.2.2.2.2.2 o0 (z1.1, z1.2.1, z1.2.2.1, z1.2.2.2.1, z1.2.2.2.2.1, z1.2.2.2.2.2.1)).bind fun z3 =>
(j1 n z3.1 o0 z3.2).bind fun z5 =>
bif !z5.1 then
(armillaryref30_lock n o0).bind fun z6 =>
bif !z6.2.2.2.2.2.2 then
some (.inr (o0, o0))
else
some (.inl ((z6.1, z6.2.1, z6.2.2.1, z6.2.2.2.1, z6.2.2.2.2.1, z6.2.2.2.2.2.1), o1))
else
bif !z5.1 then
some (.inr (o0, o0))
else
some (.inl (z5.2, o1))
noncomputable def l2 (n : Nat) : Nat → S33 → S33 → Option (S33 × S33)
| 0, _, _ => none
| k + 1, o0, o1 => (s2 n o0 o1).bind fun z => sm z (fun z => l2 n k z.1 z.2) some
noncomputable def L2 (n : Nat) : LoopD := ⟨[(1, pp 0), (2, pp 1)], [], [.stb 33 c33, .stb 33 c33], S33 × S33, fun x => (x.2.1, x.2.2.1), fun r => (((), (), ()), (r.1, r.2, ())), fun _ => rfl, ⟨1, ⟨[], [.stb 33 c33, .stb 33 c33]⟩, S33 × S33, fun x => (x.2.1, x.2.2.1), fun r => ((), (r.1, r.2, ())), fun _ => rfl⟩, [], fun x => s2 n x.2.1 x.2.2.1, [0, 1]⟩
theorem T2 (n : Nat) : FragOK Tryz.prog 35 (atN K 400 6) ((L2 n).loopD fun x => l2 n n x.2.1 x.2.2.1) := loopR (L2 n) 6 (by kernel_rfl) (by kernel_rfl) (fragK ⟨Tryz.prog, 35, F n, (r1 n), [], []⟩ (Fok n) (R1 n) noL 12 (by kernel_rfl) (fun x => by kernel_rfl)) (fun k x => l2 n k x.2.1 x.2.2.1) (fun x => by kernel_rfl) (fun k x => by kernel_rfl) n
noncomputable abbrev r2 (n : Nat) : List (Nat × FragD) := (6, ((L2 n).loopD fun x => l2 n n x.2.1 x.2.2.1)) :: (r1 n)
theorem R2 (n : Nat) : AllFr Tryz.prog 35 K (r2 n) := ⟨T2 n, R1 n⟩
end armillaryref30_progress
open armillaryref30_progress in
noncomputable def armillaryref30_progress (n : Nat) (t0 : S33) : Option S33 :=
(l2 n n t0 (0, 0, 0, ([] : List S28), ([] : List S28), ([] : List S26))).bind fun z7 =>
some z7.2
noncomputable def armillaryref30_progress.d (n : Nat) : FragD := ⟨⟨[(0, pst c33)], []⟩, [⟨1, ⟨[(0, pst c33)], []⟩, S33, fun x => x.1.1, fun r => ((r, ()), ()), fun _ => rfl⟩], fun x => armillaryref30_progress n x.1.1⟩
open armillaryref30_progress in
theorem armillaryref30_progress.ok (n : Nat) : FunOK Tryz.prog 28 (armillaryref30_progress.d n) := funR ⟨Tryz.prog, 35, F n, (r2 n), [], []⟩ Tryz.f28 (by kernel_rfl) (by kernel_rfl) (by kernel_rfl) (Fok n) (R2 n) noL (by kernel_rfl) (fun x => by kernel_rfl)
end Go.Proofs.YtijhdekfbjafgaaGreat
set_option linter.unusedVariables false
namespace Go.Proofs.YtijhdekfbjafgaaGreat
open Go Go.RowKit Go.Proofs.YtijhdekfbjafgaaGreat.RW Go.Proofs.YtijhdekfbjafgaaGreat.AM
namespace armillaryref30_Timeout
noncomputable abbrev K := cBody Tryz.f13
noncomputable abbrev F (n : Nat) : List (Nat × FragD) := [(42, armillaryref30_send.d), (28, armillaryref30_progress.d n)]
theorem Fok (n : Nat) : AllF Tryz.prog (F n) := ⟨armillaryref30_send.ok, armillaryref30_progress.ok n, trivial⟩
end armillaryref30_Timeout
open armillaryref30_Timeout in
noncomputable def armillaryref30_Timeout (n : Nat) (t0 : S33) : Option (S33 × List S28) :=
bif (decide (t0.2.2.1 ≥ 1048576)) then
some (t0, ([] : List S28))
else
(armillaryref30_send (t0.1, t0.2.1, W .i64 (t0.2.2.1 + 1), t0.2.2.2) (4, 0, W .i64 (t0.2.2.1 + 1), 0, 0, 0, (⟨#[]⟩ : ByteArray), ([] : List Int))).bind fun z2 =>
(armillaryref30_progress n (z2.1, z2.2.1, z2.2.2.1, z2.2.2.2.1, z2.2.2.2.2.2, z2.2.2.2.2.1)).bind fun z3 =>
ck (inb (t0.2.2.2.2.1.length : Int) (z3.2.2.2.2.1.length + 1)) <|
some (z3, (z3.2.2.2.2.1.drop (t0.2.2.2.2.1.length : Int).toNat))
noncomputable def armillaryref30_Timeout.d (n : Nat) : FragD := ⟨⟨[(0, pst c33)], []⟩, [⟨1, ⟨[(0, .tup [.st c33, .c (.h (.row c28))])], []⟩, S33 × List S28, fun x => (x.1.1.1, x.1.1.2.1), fun r => (((r.1, r.2, ()), ()), ()), fun _ => rfl⟩], fun x => armillaryref30_Timeout n x.1.1⟩
open armillaryref30_Timeout in
theorem armillaryref30_Timeout.ok (n : Nat) : FunOK Tryz.prog 13 (armillaryref30_Timeout.d n) := funR ⟨Tryz.prog, 27, F n, [], [], []⟩ Tryz.f13 (by kernel_rfl) (by kernel_rfl) (by kernel_rfl) (Fok n) trivial noL (by kernel_rfl) (fun x => by kernel_rfl)

namespace armillaryref30_Recover
noncomputable abbrev K := cBody Tryz.f16
noncomputable abbrev F : List (Nat × FragD) := []
theorem Fok : AllF Tryz.prog (F) := trivial
end armillaryref30_Recover
open armillaryref30_Recover in
noncomputable def armillaryref30_Recover (t0 : S33) : Option S33 :=
some (t0.1, t0.2.1, t0.2.2.1, ([] : List S28), t0.2.2.2.2)
noncomputable def armillaryref30_Recover.d : FragD := ⟨⟨[(0, pst c33)], []⟩, [⟨1, ⟨[(0, pst c33)], []⟩, S33, fun x => x.1.1, fun r => ((r, ()), ()), fun _ => rfl⟩], fun x => armillaryref30_Recover x.1.1⟩
open armillaryref30_Recover in
theorem armillaryref30_Recover.ok : FunOK Tryz.prog 16 (armillaryref30_Recover.d) := funR ⟨Tryz.prog, 5, F, [], [], []⟩ Tryz.f16 (by kernel_rfl) (by kernel_rfl) (by kernel_rfl) (Fok) trivial noL (by kernel_rfl) (fun x => by kernel_rfl)

namespace armillaryref30_Handle
noncomputable abbrev K := cBody Tryz.f9
noncomputable abbrev F (n : Nat) : List (Nat × FragD) := [(27, armillaryref29_Valid.d n), (28, armillaryref30_progress.d n)]
theorem Fok (n : Nat) : AllF Tryz.prog (F n) := ⟨armillaryref29_Valid.ok n, armillaryref30_progress.ok n, trivial⟩
noncomputable def j0 (n : Nat) (o0 : S28) (o1 : S28) : Option Bool :=
bif o1.1 == o0.1 then
bif o1.2.1 == o0.2.1 then
bif o1.2.2.1 == o0.2.2.1 then
some (o1.2.2.2.1 == o0.2.2.2.1)
else
some false
else
some false
else
some false
noncomputable def D0 (n : Nat) : FragD := ⟨⟨[(3, pp 0), (7, pp 1)], [.stb 28 c28, .stb 28 c28]⟩, [⟨0, ⟨[(53, pb)], [.same, .same]⟩, Bool, fun x => x.1.1, fun r => ((r, ()), ((), (), ())), fun _ => rfl⟩], fun x => j0 n x.2.1 x.2.2.1⟩
theorem T0 (n : Nat) : FragOK Tryz.prog 74 (atN K 400 3730) (D0 n) := fragR ⟨Tryz.prog, 74, F n, [], [], []⟩ (Fok n) trivial noL 3730 (by kernel_rfl) (fun x => by kernel_rfl)
noncomputable abbrev r0 (n : Nat) : List (Nat × FragD) := (3730, D0 n) :: []
theorem R0 (n : Nat) : AllFr Tryz.prog 74 K (r0 n) := ⟨T0 n, trivial⟩
noncomputable def j1 (n : Nat) (t6 : Int) (o0 : S33) (o1 : S28) (o2 : S33) : Option (Unit ⊕ (S33 × List S28)) :=
ck (inb t6 o0.2.2.2.1.length) <|
(j0 n o1 (o0.2.2.2.1.getD t6.toNat z28)).bind fun z4 =>
bif z4 then
some (.inr (o0, ([] : List S28)))
else
some (.inl ())
noncomputable def D1 (n : Nat) : FragD := ⟨⟨[(2, pp 0), (3, pp 1), (4, pp 2), (6, pi)], [.stb 33 c33, .stb 28 c28, .stb 33 c33]⟩, [⟨0, ⟨[], [.same, .same, .same]⟩, Unit, fun _ => (), fun _ => ((), ((), (), (), ())), fun _ => rfl⟩, ⟨1, ⟨[(5, po 3)], [.same, .same, .stb 33 c33, .row 28 c28]⟩, S33 × List S28, fun x => (x.2.2.2.1, x.2.2.2.2.1), fun r => (((), ()), ((), (), r.1, r.2, ())), fun _ => rfl⟩], fun x => j1 n x.1.2.2.2.1 x.2.1 x.2.2.1 x.2.2.2.1⟩
theorem T1 (n : Nat) : FragOK Tryz.prog 74 (atN K 400 466) (D1 n) := fragR ⟨Tryz.prog, 74, F n, (r0 n), [], []⟩ (Fok n) (R0 n) noL 466 (by kernel_rfl) (fun x => by kernel_rfl)
noncomputable abbrev r1 (n : Nat) : List (Nat × FragD) := (466, D1 n) :: (r0 n)
theorem R1 (n : Nat) : AllFr Tryz.prog 74 K (r1 n) := ⟨T1 n, R0 n⟩
noncomputable def s2 (n : Nat) (t6 : Int) (o0 : S33) (o1 : S28) (o2 : S33) : Option ((Int × S33 × S28 × S33) ⊕ ((S33 × S28 × S33 × List S28) ⊕ (S33 × S28 × S33))) :=
bif (decide (t6 < (o0.2.2.2.1.length : Int))) then
(j1 n t6 o0 o1 o2).bind fun z5 =>
sm z5 (fun z6 =>
some (.inl (W .i64 (t6 + 1), o0, o1, o2))) fun z7 =>
some (.inr (.inl (o0, o1, z7.1, z7.2)))
else
some (.inr (.inr (o0, o1, o2)))
noncomputable def l2 (n : Nat) : Nat → Int → S33 → S28 → S33 → Option ((S33 × S28 × S33 × List S28) ⊕ (S33 × S28 × S33))
| 0, _, _, _, _ => none
| k + 1, t6, o0, o1, o2 => (s2 n t6 o0 o1 o2).bind fun z => sm z (fun z => l2 n k z.1 z.2.1 z.2.2.1 z.2.2.2) some
noncomputable def L2 (n : Nat) : LoopD := ⟨[(2, pp 0), (3, pp 1), (4, pp 2), (6, pi)], [], [.stb 33 c33, .stb 28 c28, .stb 33 c33], Int × S33 × S28 × S33, fun x => (x.1.2.2.2.1, x.2.1, x.2.2.1, x.2.2.2.1), fun r => (((), (), (), r.1, ()), (r.2.1, r.2.2.1, r.2.2.2, ())), fun _ => rfl, ⟨1, ⟨[(5, po 3)], [.stb 33 c33, .stb 28 c28, .stb 33 c33, .row 28 c28]⟩, S33 × S28 × S33 × List S28, fun x => (x.2.1, x.2.2.1, x.2.2.2.1, x.2.2.2.2.1), fun r => (((), ()), (r.1, r.2.1, r.2.2.1, r.2.2.2, ())), fun _ => rfl⟩, [⟨2, ⟨[], [.stb 33 c33, .stb 28 c28, .stb 33 c33]⟩, S33 × S28 × S33, fun x => (x.2.1, x.2.2.1, x.2.2.2.1), fun r => ((), (r.1, r.2.1, r.2.2, ())), fun _ => rfl⟩], fun x => s2 n x.1.2.2.2.1 x.2.1 x.2.2.1 x.2.2.2.1, [0, 1, 2]⟩
theorem T2 (n : Nat) : FragOK Tryz.prog 74 (atN K 400 58) ((L2 n).loopD fun x => l2 n n x.1.2.2.2.1 x.2.1 x.2.2.1 x.2.2.2.1) := loopR (L2 n) 58 (by kernel_rfl) (by kernel_rfl) (fragK ⟨Tryz.prog, 74, F n, (r1 n), [], []⟩ (Fok n) (R1 n) noL 116 (by kernel_rfl) (fun x => by kernel_rfl)) (fun k x => l2 n k x.1.2.2.2.1 x.2.1 x.2.2.1 x.2.2.2.1) (fun x => by kernel_rfl) (fun k x => by kernel_rfl) n
noncomputable abbrev r2 (n : Nat) : List (Nat × FragD) := (58, ((L2 n).loopD fun x => l2 n n x.1.2.2.2.1 x.2.1 x.2.2.1 x.2.2.2.1)) :: (r1 n)
theorem R2 (n : Nat) : AllFr Tryz.prog 74 K (r2 n) := ⟨T2 n, R1 n⟩
end armillaryref30_Handle
open armillaryref30_Handle in
noncomputable def armillaryref30_Handle (n : Nat) (t0 : S33) (t1 : S28) : Option (S33 × List S28) :=
(armillaryref29_Valid n t1 t0.2.1).bind fun z1 =>
bif !z1 then
some (t0, ([] : List S28))
else
(l2 n n 0 t0 t1 (0, 0, 0, ([] : List S28), ([] : List S28), ([] : List S26))).bind fun z8 =>
sm z8 (fun z9 =>
some (z9.2.2.1, z9.2.2.2)) fun z10 =>
ck (room (0 + z10.1.2.2.2.1.length) 88) <|
let v11 := ([] : List S28) ++ z10.1.2.2.2.1;
ck (room (v11.length + 1) 88) <|
(armillaryref30_progress n (z10.1.1, z10.1.2.1, z10.1.2.2.1, v11 ++ [z10.2.1], z10.1.2.2.2.2)).bind fun z12 =>
ck (inb (z10.1.2.2.2.2.1.length : Int) (z12.2.2.2.2.1.length + 1)) <|
some (z12, (z12.2.2.2.2.1.drop (z10.1.2.2.2.2.1.length : Int).toNat))
noncomputable def armillaryref30_Handle.d (n : Nat) : FragD := ⟨⟨[(0, pst c33), (1, pst c28)], []⟩, [⟨1, ⟨[(0, .tup [.st c33, .c (.h (.row c28))])], []⟩, S33 × List S28, fun x => (x.1.1.1, x.1.1.2.1), fun r => (((r.1, r.2, ()), ()), ()), fun _ => rfl⟩], fun x => armillaryref30_Handle n x.1.1 x.1.2.1⟩
open armillaryref30_Handle in
theorem armillaryref30_Handle.ok (n : Nat) : FunOK Tryz.prog 9 (armillaryref30_Handle.d n) := funR ⟨Tryz.prog, 74, F n, (r2 n), [], []⟩ Tryz.f9 (by kernel_rfl) (by kernel_rfl) (by kernel_rfl) (Fok n) (R2 n) noL (by kernel_rfl) (fun x => by kernel_rfl)

namespace armillaryref30_Apply
noncomputable abbrev K := cBody Tryz.f21
noncomputable abbrev F (n : Nat) : List (Nat × FragD) := [(47, armillaryref30_entry.d), (11, armillaryref30_Propose.d n), (13, armillaryref30_Timeout.d n), (16, armillaryref30_Recover.d), (46, armillaryref30_MadeMessage.d n), (9, armillaryref30_Handle.d n)]
theorem Fok (n : Nat) : AllF Tryz.prog (F n) := ⟨armillaryref30_entry.ok, armillaryref30_Propose.ok n, armillaryref30_Timeout.ok n, armillaryref30_Recover.ok, armillaryref30_MadeMessage.ok n, armillaryref30_Handle.ok n, trivial⟩
end armillaryref30_Apply
open armillaryref30_Apply in
noncomputable def armillaryref30_Apply (n : Nat) (t0 : S33) (t1 : S49) : Option (S33 × List S28) :=
bif (t1.1.tmod 12) == 0 then
(armillaryref30_entry t1.2.2).bind fun z1 =>
(armillaryref30_Propose n t0 z1).bind fun z2 =>
some ((z2.1, z2.2.1, z2.2.2.1, z2.2.2.2.1, z2.2.2.2.2.1, z2.2.2.2.2.2.1), z2.2.2.2.2.2.2.1)
else
bif (t1.1.tmod 12) == 1 then
(armillaryref30_Timeout n t0).bind fun z3 =>
some (z3.1, z3.2)
else
bif (t1.1.tmod 12) == 2 then
(armillaryref30_Recover t0).bind fun z4 =>
some (z4, ([] : List S28))
else
(armillaryref30_MadeMessage n t1.2.1 t1.2.2 t0.2.1).bind fun z5 =>
(armillaryref30_Handle n t0 z5).bind fun z6 =>
some (z6.1, z6.2)
noncomputable def armillaryref30_Apply.d (n : Nat) : FragD := ⟨⟨[(0, pst c33), (1, pst c49)], []⟩, [⟨1, ⟨[(0, .tup [.st c33, .c (.h (.row c28))])], []⟩, S33 × List S28, fun x => (x.1.1.1, x.1.1.2.1), fun r => (((r.1, r.2, ()), ()), ()), fun _ => rfl⟩], fun x => armillaryref30_Apply n x.1.1 x.1.2.1⟩
open armillaryref30_Apply in
theorem armillaryref30_Apply.ok (n : Nat) : FunOK Tryz.prog 21 (armillaryref30_Apply.d n) := funR ⟨Tryz.prog, 56, F n, [], [], []⟩ Tryz.f21 (by kernel_rfl) (by kernel_rfl) (by kernel_rfl) (Fok n) trivial noL (by kernel_rfl) (fun x => by kernel_rfl)

namespace armillaryref30_History
noncomputable abbrev K := cBody Tryz.f7
noncomputable abbrev F (n : Nat) : List (Nat × FragD) := [(20, armillaryref30_New.d), (21, armillaryref30_Apply.d n)]
theorem Fok (n : Nat) : AllF Tryz.prog (F n) := ⟨armillaryref30_New.ok, armillaryref30_Apply.ok n, trivial⟩
noncomputable def j0 (n : Nat) (t2 : List S49) (t9 : Int) : Option (Unit ⊕ Unit) :=
bif (decide (t9 < (t2.length : Int))) then
bif decide (t9 < 40) then
some (.inl ())
else
some (.inr ())
else
some (.inr ())
noncomputable def D0 (n : Nat) : FragD := ⟨⟨[(2, ph (.row c49)), (9, pi)], []⟩, [⟨0, ⟨[], []⟩, Unit, fun _ => (), fun _ => ((), ()), fun _ => rfl⟩, ⟨2, ⟨[], []⟩, Unit, fun _ => (), fun _ => ((), ()), fun _ => rfl⟩], fun x => j0 n x.1.1 x.1.2.1⟩
theorem T0 (n : Nat) : FragOK Tryz.prog 43 (atN K 400 488) (D0 n) := fragR ⟨Tryz.prog, 43, F n, [], [], []⟩ (Fok n) trivial noL 488 (by kernel_rfl) (fun x => by kernel_rfl)
noncomputable abbrev r0 (n : Nat) : List (Nat × FragD) := (488, D0 n) :: []
theorem R0 (n : Nat) : AllFr Tryz.prog 43 K (r0 n) := ⟨T0 n, trivial⟩
noncomputable def s1 (n : Nat) (t9 : Int) (t2 : List S49) (o0 : S33) : Option ((Int × S33) ⊕ S33) :=
(j0 n t2 t9).bind fun z4 =>
sm z4 (fun z5 =>
ck (inb t9 t2.length) <|
(armillaryref30_Apply n o0 ((t2.getD t9.toNat z49).1, ((((t2.getD t9.toNat z49).2).1).1, ((((t2.getD t9.toNat z49).2).1).2).1, (((((t2.getD t9.toNat z49).2).1).2).2).1, ((((((t2.getD t9.toNat z49).2).1).2).2).2).1, (((((((t2.getD t9.toNat z49).2).1).2).2).2).2).1, ((((((((t2.getD t9.toNat z49).2).1).2).2).2).2).2).1, (((((((((t2.getD t9.toNat z49).2).1).2).2).2).2).2).2)), ((t2.getD t9.toNat z49).2).2)).bind fun z7 =>
some (.inl (W .i64 (t9 + 1), z7.1))) fun z6 =>
some (.inr o0)
noncomputable def l1 (n : Nat) : Nat → Int → List S49 → S33 → Option S33
| 0, _, _, _ => none
| k + 1, t9, t2, o0 => (s1 n t9 t2 o0).bind fun z => sm z (fun z => l1 n k z.1 t2 z.2) some
noncomputable def L1 (n : Nat) : LoopD := ⟨[(8, pp 0), (9, pi)], [(2, ph (.row c49))], [.stb 33 c33], Int × S33, fun x => (x.1.2.1, x.2.1), fun r => (((), r.1, ()), (r.2, ())), fun _ => rfl, ⟨2, ⟨[], [.stb 33 c33]⟩, S33, fun x => x.2.1, fun r => ((), (r, ())), fun _ => rfl⟩, [], fun x => s1 n x.1.2.1 x.1.2.2.1 x.2.1, [0]⟩
theorem T1 (n : Nat) : FragOK Tryz.prog 43 (atN K 400 122) ((L1 n).loopD fun x => l1 n n x.1.2.1 x.1.2.2.1 x.2.1) := loopR (L1 n) 122 (by kernel_rfl) (by kernel_rfl) (fragK ⟨Tryz.prog, 43, F n, (r0 n), [], []⟩ (Fok n) (R0 n) noL 244 (by kernel_rfl) (fun x => by kernel_rfl)) (fun k x => l1 n k x.1.2.1 x.1.2.2.1 x.2.1) (fun x => by kernel_rfl) (fun k x => by kernel_rfl) n
noncomputable abbrev r1 (n : Nat) : List (Nat × FragD) := (122, ((L1 n).loopD fun x => l1 n n x.1.2.1 x.1.2.2.1 x.2.1)) :: (r0 n)
theorem R1 (n : Nat) : AllFr Tryz.prog 43 K (r1 n) := ⟨T1 n, R0 n⟩
end armillaryref30_History
open armillaryref30_History in
noncomputable def armillaryref30_History (n : Nat) (t0 : Int) (t1 : Int) (t2 : List S49) : Option S33 :=
let v1 := W .i64 (1 + (W .i64 (t1.tmod 7)));
ck (!decide (v1 = 0)) <|
(armillaryref30_New ((W .i64 t0).tmod v1) v1).bind fun z2 =>
(l1 n n 0 t2 z2).bind fun z8 =>
some z8
noncomputable def armillaryref30_History.d (n : Nat) : FragD := ⟨⟨[(0, ph (.int .u8)), (1, ph (.int .u8)), (2, ph (.row c49))], []⟩, [⟨1, ⟨[(0, pst c33)], []⟩, S33, fun x => x.1.1, fun r => ((r, ()), ()), fun _ => rfl⟩], fun x => armillaryref30_History n x.1.1 x.1.2.1 x.1.2.2.1⟩
open armillaryref30_History in
theorem armillaryref30_History.ok (n : Nat) : FunOK Tryz.prog 7 (armillaryref30_History.d n) := funR ⟨Tryz.prog, 43, F n, (r1 n), [], []⟩ Tryz.f7 (by kernel_rfl) (by kernel_rfl) (by kernel_rfl) (Fok n) (R1 n) noL (by kernel_rfl) (fun x => by kernel_rfl)

namespace armillarylaw30_ReplicaMatchesReference
noncomputable abbrev K := cBody Tryz.f3
noncomputable abbrev F (n : Nat) : List (Nat × FragD) := [(4, armillarylaw30_sanity.d n), (5, armillarylaw30_run.d n), (7, armillaryref30_History.d n), (6, armillaryref30_Same.d n), (8, replica_Handle.d n), (9, armillaryref30_Handle.d n), (10, replica_Propose.d n), (11, armillaryref30_Propose.d n), (12, replica_Timeout.d n), (13, armillaryref30_Timeout.d n), (14, armillaryref30_SameMessages.d n), (15, replica_Recover.d), (16, armillaryref30_Recover.d)]
theorem Fok (n : Nat) : AllF Tryz.prog (F n) := ⟨armillarylaw30_sanity.ok n, armillarylaw30_run.ok n, armillaryref30_History.ok n, armillaryref30_Same.ok n, replica_Handle.ok n, armillaryref30_Handle.ok n, replica_Propose.ok n, armillaryref30_Propose.ok n, replica_Timeout.ok n, armillaryref30_Timeout.ok n, armillaryref30_SameMessages.ok n, replica_Recover.ok, armillaryref30_Recover.ok, trivial⟩
noncomputable def j0 (n : Nat) (t0 : Int) (t1 : Int) (t2 : List S49) (o0 : S28) (o1 : S26) (o2 : S33) : Option Bool :=
(armillaryref30_History n t0 t1 t2).bind fun z3 =>
(armillaryref30_Same n o2 z3).bind fun z4 =>
bif !z4 then
some true
else
bif (decide ((o0.2.2.2.2.2.2.2.length : Int) > 300)) then
some true
else
some (decide ((o1.2.2.length : Int) > 300))
noncomputable def D0 (n : Nat) : FragD := ⟨⟨[(0, ph (.int .u8)), (1, ph (.int .u8)), (2, ph (.row c49)), (8, pp 0), (9, pp 1), (12, pp 2)], [.stb 28 c28, .stb 26 c26, .stb 33 c33]⟩, [⟨0, ⟨[(51, pb)], [.same, .same, .same]⟩, Bool, fun x => x.1.1, fun r => ((r, ()), ((), (), (), ())), fun _ => rfl⟩], fun x => j0 n x.1.1 x.1.2.1 x.1.2.2.1 x.2.1 x.2.2.1 x.2.2.2.1⟩
theorem T0 (n : Nat) : FragOK Tryz.prog 145 (atN K 400 60) (D0 n) := fragR ⟨Tryz.prog, 145, F n, [], [], []⟩ (Fok n) trivial noL 60 (by kernel_rfl) (fun x => by kernel_rfl)
noncomputable abbrev r0 (n : Nat) : List (Nat × FragD) := (60, D0 n) :: []
theorem R0 (n : Nat) : AllFr Tryz.prog 145 K (r0 n) := ⟨T0 n, trivial⟩
noncomputable def j1 (n : Nat) (t0 : Int) (t1 : Int) (t2 : List S49) (t11 : Bool) (o0 : S28) (o1 : S26) (o2 : S33) : Option (Unit ⊕ Bool) :=
(j0 n t0 t1 t2 o0 o1 o2).bind fun z7 =>
bif z7 then
bif t11 then
bif (decide ((o0.2.2.2.2.2.2.2.length : Int) > 300)) then
some (.inr true)
else
some (.inr (decide ((o1.2.2.length : Int) > 300)))
else
some (.inr false)
else
some (.inl ())
noncomputable def D1 (n : Nat) : FragD := ⟨⟨[(0, ph (.int .u8)), (1, ph (.int .u8)), (2, ph (.row c49)), (8, pp 0), (9, pp 1), (11, pb), (12, pp 2)], [.stb 28 c28, .stb 26 c26, .stb 33 c33]⟩, [⟨0, ⟨[], [.same, .same, .same]⟩, Unit, fun _ => (), fun _ => ((), ((), (), (), ())), fun _ => rfl⟩, ⟨1, ⟨[(10, pb)], [.same, .same, .same]⟩, Bool, fun x => x.1.1, fun r => ((r, ()), ((), (), (), ())), fun _ => rfl⟩], fun x => j1 n x.1.1 x.1.2.1 x.1.2.2.1 x.1.2.2.2.2.2.1 x.2.1 x.2.2.1 x.2.2.2.1⟩
theorem T1 (n : Nat) : FragOK Tryz.prog 145 (atN K 400 30) (D1 n) := fragR ⟨Tryz.prog, 145, F n, (r0 n), [], []⟩ (Fok n) (R0 n) noL 30 (by kernel_rfl) (fun x => by kernel_rfl)
noncomputable abbrev r1 (n : Nat) : List (Nat × FragD) := (30, D1 n) :: (r0 n)
theorem R1 (n : Nat) : AllFr Tryz.prog 145 K (r1 n) := ⟨T1 n, R0 n⟩
end armillarylaw30_ReplicaMatchesReference
open armillarylaw30_ReplicaMatchesReference in
noncomputable def armillarylaw30_ReplicaMatchesReference (n : Nat) (t0 : Int) (t1 : Int) (t2 : List S49) (t3 : S28) (t4 : S26) : Option Bool :=
(armillarylaw30_sanity n).bind fun z1 =>
(armillarylaw30_run n t0 t1 t2).bind fun z2 =>
(j1 n t0 t1 t2 z1 t3 t4 z2).bind fun z10 =>
sm z10 (fun z11 =>
(replica_Handle n z2 t3).bind fun z13 =>
(armillaryref30_Handle n z2 t3).bind fun z14 =>
(replica_Propose n z2 t4).bind fun z15 =>
(armillaryref30_Propose n z2 t4).bind fun z16 =>
(replica_Timeout n z2).bind fun z17 =>
(armillaryref30_Timeout n z2).bind fun z18 =>
bif z1 then
(armillaryref30_Same n z13.1 z14.1).bind fun z19 =>
bif z19 then
(armillaryref30_SameMessages n z13.2 z14.2).bind fun z20 =>
bif z20 then
(armillaryref30_Same n (z15.1, z15.2.1, z15.2.2.1, z15.2.2.2.1, z15.2.2.2.2.1, z15.2.2.2.2.2.1) (z16.1, z16.2.1, z16.2.2.1, z16.2.2.2.1, z16.2.2.2.2.1, z16.2.2.2.2.2.1)).bind fun z21 =>
bif z21 then
(armillaryref30_SameMessages n z15.2.2.2.2.2.2.1 z16.2.2.2.2.2.2.1).bind fun z22 =>
bif z22 then
bif (z15.2.2.2.2.2.2.2 == z16.2.2.2.2.2.2.2) then
(armillaryref30_Same n z17.1 z18.1).bind fun z24 =>
bif z24 then
(armillaryref30_SameMessages n z17.2 z18.2).bind fun z25 =>
bif z25 then
(replica_Recover z2).bind fun z26 =>
(armillaryref30_Recover z2).bind fun z27 =>
(armillaryref30_Same n z26 z27).bind fun z28 =>
some z28
else
some false
else
some false
else
some false
else
some false
else
some false
else
some false
else
some false
else
some false) fun z12 =>
some z12
noncomputable def armillarylaw30_ReplicaMatchesReference.d (n : Nat) : FragD := ⟨⟨[(0, ph (.int .u8)), (1, ph (.int .u8)), (2, ph (.row c49)), (3, pst c28), (4, pst c26)], []⟩, [⟨1, ⟨[(0, pb)], []⟩, Bool, fun x => x.1.1, fun r => ((r, ()), ()), fun _ => rfl⟩], fun x => armillarylaw30_ReplicaMatchesReference n x.1.1 x.1.2.1 x.1.2.2.1 x.1.2.2.2.1 x.1.2.2.2.2.1⟩
open armillarylaw30_ReplicaMatchesReference in
theorem armillarylaw30_ReplicaMatchesReference.ok (n : Nat) : FunOK Tryz.prog 3 (armillarylaw30_ReplicaMatchesReference.d n) := funR ⟨Tryz.prog, 145, F n, (r1 n), [], []⟩ Tryz.f3 (by kernel_rfl) (by kernel_rfl) (by kernel_rfl) (Fok n) (R1 n) noL (by kernel_rfl) (fun x => by kernel_rfl)
end Go.Proofs.YtijhdekfbjafgaaGreat
namespace Go.Proofs.YtijhdekfbjafgaaGreat
open Go Go.RowKit Go.Proofs.YtijhdekfbjafgaaGreat.RW
open Go.Proofs.YtijhdekfbjafgaaGreat.AM hiding lk
set_option linter.unusedVariables false
set_option maxRecDepth 100000
abbrev Ent : Type := Int × ByteArray × List Int
abbrev Msg : Type := Int × Int × Int × Int × Int × Ent
abbrev Rep : Type := Int × Int × Int × List Msg × List Msg × List Ent
abbrev mK (m : Msg) : Int := m.1
abbrev mF (m : Msg) : Int := m.2.1
abbrev mV (m : Msg) : Int := m.2.2.1
abbrev mQ (m : Msg) : Int := m.2.2.2.1
abbrev mS (m : Msg) : Int := m.2.2.2.2.1
abbrev mE (m : Msg) : Ent := m.2.2.2.2.2
abbrev rI (r : Rep) : Int := r.1
abbrev rN (r : Rep) : Int := r.2.1
abbrev rV (r : Rep) : Int := r.2.2.1
abbrev rT (r : Rep) : List Msg := r.2.2.2.1
abbrev rS (r : Rep) : List Msg := r.2.2.2.2.1
abbrev rL (r : Rep) : List Ent := r.2.2.2.2.2

/-! ### numbers -/
theorem wrap64 {n : Nat} (h : n < 18446744073709551616) : IntKind.u64.wrap (n : Int) = (n : Int) := by
 have h2 : (2 : Int) ^ 64 = 18446744073709551616 := by decide
 unfold IntKind.wrap
 simp only [IntKind.bits, IntKind.signed, h2, Bool.false_and, Bool.false_eq_true, if_false]
 exact Int.emod_eq_of_lt (by omega) (by omega)
theorem xor64 {a b : Nat} (ha : a < 18446744073709551616) (hb : b < 18446744073709551616) : bXor .u64 (a : Int) (b : Int) = ((a ^^^ b : Nat) : Int) := by
 have hx : a ^^^ b < 18446744073709551616 := Nat.xor_lt_two_pow (n := 64) ha hb
 show IntKind.u64.wrap (((BitVec.ofInt 64 (a : Int)) ^^^ (BitVec.ofInt 64 (b : Int))).toNat : Int) = _
 rw [BitVec.ofInt_natCast, BitVec.ofInt_natCast, BitVec.toNat_xor, BitVec.toNat_ofNat, BitVec.toNat_ofNat]
 rw [Nat.mod_eq_of_lt (show a < 2 ^ 64 from ha), Nat.mod_eq_of_lt (show b < 2 ^ 64 from hb)]
 exact wrap64 hx
def byte (x : Int) : Prop := 0 ≤ x ∧ x ≤ 255
theorem wrap8_byte (x : Int) : byte (IntKind.u8.wrap x) := by
 have h2 : (2 : Int) ^ 8 = 256 := by decide
 unfold IntKind.wrap byte
 simp only [IntKind.bits, IntKind.signed, h2, Bool.false_and, Bool.false_eq_true, if_false]
 omega
theorem bytesOf_byte (s : ByteArray) : ∀ x ∈ bytesOf s, byte x := by
 intro x hx
 unfold bytesOf at hx
 obtain ⟨b, _, rfl⟩ := List.mem_map.1 hx
 have := b.toNat_lt
 unfold byte
 omega
theorem empty_iff (s : ByteArray) : (s.toList == (⟨#[]⟩ : ByteArray).toList) = ((s.size : Int) == 0) := by
 have h2 : s.size = s.data.toList.length := by rw [Array.length_toList]; rfl
 rw [ByteArray.toList_eq, ByteArray.toList_eq, Bool.eq_iff_iff, beq_iff_eq, beq_iff_eq]
 constructor
 ·intro h
  have : s.data.toList.length = 0 := by rw [h]; rfl
  omega
 ·intro h
  have : s.data.toList.length = 0 := by omega
  rw [List.length_eq_zero_iff.1 this]

/-! ### varints -/
def vl : Nat → Int → List Int
 | 0, u => [W .u8 u]
 | j + 1, u => if u ≥ 128 then bOr .u8 (W .u8 u) 128 :: vl j (Int.fdiv u 128) else [W .u8 u]
theorem vl_byte : ∀ (j : Nat) (u : Int), ∀ x ∈ vl j u, byte x
 | 0, u, x, h => by rw [List.mem_singleton.1 h]; exact wrap8_byte _
 | j + 1, u, x, h => by
  simp only [vl] at h
  split at h
  ·rcases List.mem_cons.1 h with rfl | h
   ·exact wrap8_byte _
   ·exact vl_byte j _ x h
  ·rw [List.mem_singleton.1 h]; exact wrap8_byte _
theorem vl_len : ∀ (j : Nat) (u : Int), (vl j u).length ≤ j + 1
 | 0, _ => Nat.le_refl _
 | j + 1, u => by
  simp only [vl]
  split
  ·have := vl_len j (Int.fdiv u 128)
   rw [List.length_cons]; omega
  ·simp
theorem fdiv128 {j : Nat} {u : Int} (h0 : 0 ≤ u) (h1 : u < 128 ^ (j + 1 + 1)) : 0 ≤ Int.fdiv u 128 ∧ Int.fdiv u 128 < 128 ^ (j + 1) := by
 have hd : Int.fdiv u 128 = u / 128 := Int.fdiv_eq_ediv_of_nonneg _ (by omega)
 rw [Int.pow_succ] at h1
 rw [hd]
 exact ⟨by omega, Int.ediv_lt_of_lt_mul (by omega) h1⟩
theorem varint_l0 : ∀ (j : Nat) (u : Int) (x : List Int), 0 ≤ u → u < 128 ^ (j + 1) → x.length + j ≤ 1000000 → ∃ r : Int × List Int, EvL (fun n k => codec_AppendVarint.l0 n k u x) r ∧ r.2.length ≤ x.length + j ∧ r.2 ++ [W .u8 r.1] = x ++ vl j u := by
 intro j
 induction j with
 | zero =>
  intro u x h0 h1 hl
  refine ⟨(u, x), EvL.done (L := fun n k (s : Int × List Int) => codec_AppendVarint.l0 n k s.1 s.2) (S := fun n s => codec_AppendVarint.s0 n s.1 s.2) (fun _ _ _ => rfl) (s := (u, x)) (Ev.of fun n => ?_), Nat.le_refl _, rfl⟩
  unfold codec_AppendVarint.s0
  rw [show decide (u ≥ 128) = false from decide_eq_false (by omega)]
  rfl
 | succ j ih =>
  intro u x h0 h1 hl
  by_cases h : u ≥ 128
  ·obtain ⟨d0, d1⟩ := fdiv128 h0 h1
   obtain ⟨r, r1, r2, r3⟩ := ih (Int.fdiv u 128) (x ++ [bOr .u8 (W .u8 u) 128]) d0 d1 (by simp; omega)
   refine ⟨r, EvL.step (L := fun n k (s : Int × List Int) => codec_AppendVarint.l0 n k s.1 s.2) (S := fun n s => codec_AppendVarint.s0 n s.1 s.2) (fun _ _ _ => rfl) (s := (u, x)) (s' := (Int.fdiv u 128, x ++ [bOr .u8 (W .u8 u) 128])) (Ev.of fun n => ?_) r1, by simp at r2; omega, ?_⟩
   ·show codec_AppendVarint.s0 n u x = _
    unfold codec_AppendVarint.s0
    rw [show decide (u ≥ 128) = true from decide_eq_true h, roomT (n := x.length + 1) (by omega) (by omega)]
    rfl
   ·rw [r3, vl, if_pos h]
    simp
  ·refine ⟨(u, x), EvL.done (L := fun n k (s : Int × List Int) => codec_AppendVarint.l0 n k s.1 s.2) (S := fun n s => codec_AppendVarint.s0 n s.1 s.2) (fun _ _ _ => rfl) (s := (u, x)) (Ev.of fun n => ?_), Nat.le_add_right _ _, by rw [vl, if_neg h]⟩
   unfold codec_AppendVarint.s0
   rw [show decide (u ≥ 128) = false from decide_eq_false (by omega)]
   rfl
theorem clip_all (t : List Int) : slices_Clip_byte_byte t = some t := by
 unfold slices_Clip_byte_byte
 rw [show inb (t.length : Int) (t.length + 1) = true from inbN (by omega)]
 simp [AM.ck]
theorem varint_ev {n : Int} {x : List Int} (h0 : 0 ≤ n) (h1 : n ≤ 20000) (hx : x.length ≤ 100000) : Ev (fun k => codec_AppendVarint k x n) (x ++ vl 2 (n * 2)) := by
 obtain ⟨m, rfl⟩ : ∃ m : Nat, n = (m : Int) := ⟨n.toNat, by omega⟩
 have e1 : W .i64 ((m : Int) * 2) = ((m * 2 : Nat) : Int) := by rw [wr64 (by omega) (by omega)]; omega
 have e2 : W .u64 ((m * 2 : Nat) : Int) = ((m * 2 : Nat) : Int) := wrap64 (by omega)
 have e3 : Int.fdiv (m : Int) 9223372036854775808 = ((0 : Nat) : Int) := by
  rw [Int.fdiv_eq_ediv_of_nonneg _ (by omega)]
  omega
 have e4 : W .u64 ((0 : Nat) : Int) = ((0 : Nat) : Int) := wrap64 (by omega)
 have hu : bXor .u64 (W .u64 (W .i64 ((m : Int) * 2))) (W .u64 (Int.fdiv (m : Int) 9223372036854775808)) = (m : Int) * 2 := by
  rw [e1, e2, e3, e4, xor64 (by omega) (by omega), Nat.xor_zero]
  omega
 refine Ev.congr (g := fun k => bif decide ((m : Int) * 2 ≥ 128) then AM.ck (AM.room (x.length + 1) 1) ((codec_AppendVarint.l0 k k (Int.fdiv ((m : Int) * 2) 128) (x ++ [bOr .u8 (W .u8 ((m : Int) * 2)) 128])).bind fun z6 => AM.ck (AM.room (z6.2.length + 1) 1) (some (z6.2 ++ [W .u8 z6.1]))) else AM.ck (AM.room (x.length + 1) 1) (some (x ++ [W .u8 ((m : Int) * 2)]))) (fun k => ?_) ?_
 ·unfold codec_AppendVarint
  rw [hu]
  simp only [clip_all, Option.bind_some]
 ·refine Ev.if (fun h => ?_) (fun h => ?_)
  ·obtain ⟨d0, d1⟩ := fdiv128 (j := 1) (u := (m : Int) * 2) (by omega) (by omega)
   obtain ⟨r, r1, r2, r3⟩ := varint_l0 1 (Int.fdiv ((m : Int) * 2) 128) (x ++ [bOr .u8 (W .u8 ((m : Int) * 2)) 128]) d0 d1 (by simp; omega)
   refine Ev.ck (roomT (by omega) (by omega)) (Ev.bind r1.diag (Ev.ck (roomT (by simp at r2; omega) (by simp at r2; omega)) (Ev.cast (Ev.ret _) ?_)))
   rw [r3, show vl 2 ((m : Int) * 2) = bOr .u8 (W .u8 ((m : Int) * 2)) 128 :: vl 1 (Int.fdiv ((m : Int) * 2) 128) from by rw [vl]; exact if_pos (of_decide_eq_true h)]
   simp
  ·refine Ev.ck (roomT (by omega) (by omega)) (Ev.cast (Ev.ret _) ?_)
   rw [vl, if_neg (of_decide_eq_false h)]

/-! ### entries -/
def encOk (e : Ent) : Bool := decide (e.1 ≥ 1) && (decide (e.1 ≤ 4) && (decide ((e.2.1.size : Int) ≥ 1) && (decide ((e.2.1.size : Int) ≤ 40) && decide ((e.2.2.length : Int) ≤ 20000))))
def encB (e : Ent) : List Int := (((vl 2 (e.1 * 2) ++ vl 2 ((e.2.1.size : Int) * 2)) ++ bytesOf e.2.1) ++ vl 2 ((e.2.2.length : Int) * 2)) ++ e.2.2
def encR (e : Ent) : Int × List Int := if encOk e = true then (0, encB e) else (1, [])
theorem encOk_iff (e : Ent) : encOk e = true ↔ 1 ≤ e.1 ∧ e.1 ≤ 4 ∧ 1 ≤ (e.2.1.size : Int) ∧ (e.2.1.size : Int) ≤ 40 ∧ (e.2.2.length : Int) ≤ 20000 := by
 unfold encOk
 simp only [Bool.and_eq_true, decide_eq_true_eq, ge_iff_le]
theorem validEntry_eq (e : Ent) : codec_validEntry e = some (encOk e) := by
 unfold codec_validEntry encOk
 cases decide (e.1 ≥ 1) <;> cases decide (e.1 ≤ 4) <;> cases decide ((e.2.1.size : Int) ≥ 1) <;> cases decide ((e.2.1.size : Int) ≤ 40) <;> rfl
theorem append_ev {x b : List Int} (hx : x.length ≤ 90000) (hb : (b.length : Int) ≤ 20000) : Ev (fun k => codec_appendBytes k x b) ((x ++ vl 2 ((b.length : Int) * 2)) ++ b) := by
 have := vl_len 2 ((b.length : Int) * 2)
 unfold codec_appendBytes
 exact Ev.bind (varint_ev (by omega) hb (by omega)) (Ev.ck (roomT (by simp only [List.length_append]; omega) (by simp only [List.length_append]; omega)) (Ev.ret _))
theorem encode_ev (e : Ent) : Ev (fun k => codec_EncodeEntry k e) (encR e) := by
 unfold codec_EncodeEntry encR
 simp only [validEntry_eq, Option.bind_some]
 cases h : encOk e with
 | false => exact Ev.ret _
 | true =>
  obtain ⟨r1, r2, r3, r4, r5⟩ := (encOk_iff e).1 h
  have l1 := vl_len 2 (e.1 * 2)
  have l2 := vl_len 2 ((e.2.1.size : Int) * 2)
  have hlen : (bytesOf e.2.1).length = e.2.1.size := bytesOf_length e.2.1
  have l3 := vl_len 2 (((bytesOf e.2.1).length : Int) * 2)
  rw [if_pos rfl]
  refine Ev.F rfl (Ev.bind (varint_ev (by omega) (by omega) (by simp)) (Ev.ck (decide_eq_true (by omega)) (Ev.bind (append_ev (by simp; omega) (by omega)) (Ev.bind (append_ev (by simp only [List.length_append, List.length_nil]; omega) r5) (Ev.cast (Ev.ret _) ?_)))))
  unfold encB
  rw [List.nil_append, hlen]
theorem encB_len {e : Ent} (h : encOk e = true) : (encB e).length ≤ 30000 := by
 obtain ⟨r1, r2, r3, r4, r5⟩ := (encOk_iff e).1 h
 have l1 := vl_len 2 (e.1 * 2)
 have l2 := vl_len 2 ((e.2.1.size : Int) * 2)
 have l3 := vl_len 2 ((e.2.2.length : Int) * 2)
 have hlen : (bytesOf e.2.1).length = e.2.1.size := bytesOf_length e.2.1
 unfold encB
 simp only [List.length_append]
 omega
theorem encR_len (e : Ent) : (encR e).2.length ≤ 30000 := by
 unfold encR
 split
 ·rename_i h; exact encB_len h
 ·simp
theorem encR_byte {e : Ent} (hb : ∀ x ∈ e.2.2, byte x) : ∀ x ∈ (encR e).2, byte x := by
 intro x hx
 unfold encR at hx
 split at hx
 ·unfold encB at hx
  rcases List.mem_append.1 hx with hx | hx
  ·rcases List.mem_append.1 hx with hx | hx
   ·rcases List.mem_append.1 hx with hx | hx
    ·rcases List.mem_append.1 hx with hx | hx
     ·exact vl_byte _ _ x hx
     ·exact vl_byte _ _ x hx
    ·exact bytesOf_byte _ x hx
   ·exact vl_byte _ _ x hx
  ·exact hb x hx
 ·cases hx
def crc (b : List Int) : Int := bXor .u32 4294967295 (b.foldl ckStep 4294967295)
theorem crc_eq (b : List Int) : codec_Checksum b = some (crc b) := rfl

/-! ### messages -/
def okN (n : Int) : Bool := decide (n ≥ 1) && decide (n ≤ 13)
theorem okN_iff (n : Int) : okN n = true ↔ 1 ≤ n ∧ n ≤ 13 := by
 unfold okN
 simp only [Bool.and_eq_true, decide_eq_true_eq, ge_iff_le]
theorem possible_eq (n : Int) : quorum_group_possible n = some (okN n) := by
 unfold quorum_group_possible okN
 cases decide (n ≥ 1) <;> rfl
def leadM (n v : Int) : Int := if okN n = true then (if v < 0 then -1 else v.tmod n) else -1
theorem leader_eq (n v : Int) : quorum_Leader n v = some (leadM n v) := by
 unfold quorum_Leader leadM
 rw [possible_eq, Option.bind_some]
 cases h : okN n with
 | false => rfl
 | true =>
  have := (okN_iff n).1 h
  by_cases hv : v < 0
  ·simp [hv]
  ·rw [show decide (v < 0) = false from decide_eq_false hv, show decide (n = 0) = false from decide_eq_false (by omega), if_pos rfl, if_neg hv]
   rfl
def bareE (e : Ent) : Bool := (e.1 == 0) && (((e.2.1.size : Int) == 0) && ((e.2.2.length : Int) == 0))
theorem bare_eq (m : Msg) : quorum_bare m = some (bareE (mE m)) := by
 unfold quorum_bare bareE
 rw [empty_iff]
 simp only [mE]
 cases (m.2.2.2.2.2.1 == 0) <;> cases ((m.2.2.2.2.2.2.1.size : Int) == 0) <;> rfl
theorem bareE_iff (e : Ent) : bareE e = true ↔ e = (0, ⟨#[]⟩, []) := by
 obtain ⟨a, b, c⟩ := e
 unfold bareE
 simp only [Bool.and_eq_true, beq_iff_eq, Prod.mk.injEq]
 have h2 : b.size = b.data.size := rfl
 constructor
 ·rintro ⟨h1, h3, h4⟩
  refine ⟨h1, ?_, List.length_eq_zero_iff.1 (by omega)⟩
  have : b.data = #[] := Array.eq_empty_of_size_eq_zero (by omega)
  cases b; simp_all
 ·rintro ⟨rfl, rfl, rfl⟩
  exact ⟨rfl, rfl, rfl⟩
/-- The bounds of a valid message. -/
def inM (n : Int) (m : Msg) : Bool := okN n && (!decide (mF m < 0) && (!decide (mF m ≥ n) && (!decide (mV m < 0) && (!decide (mV m > 1048576) && (!decide (mQ m < 0) && !decide (mQ m ≥ 1000))))))
def validM (n : Int) (m : Msg) : Bool := inM n m && (if mK m = 1 then encOk (mE m) && ((mF m == leadM n (mV m)) && (crc (encB (mE m)) == mS m)) else if mK m = 2 ∨ mK m = 3 then bareE (mE m) else if mK m = 4 then bareE (mE m) && ((mQ m == 0) && (mS m == 0)) else false)
theorem inM_iff (n : Int) (m : Msg) : inM n m = true ↔ (1 ≤ n ∧ n ≤ 13) ∧ 0 ≤ mF m ∧ mF m < n ∧ 0 ≤ mV m ∧ mV m ≤ 1048576 ∧ 0 ≤ mQ m ∧ mQ m < 1000 := by
 unfold inM
 simp only [Bool.and_eq_true, okN_iff, Bool.not_eq_true', decide_eq_false_iff_not]
 omega
theorem group_j0 (k : Nat) (n : Int) (m : Msg) : quorum_group_valid.j0 k n m = some (bif inM n m then .inl () else .inr false) := by
 unfold quorum_group_valid.j0 inM
 rw [possible_eq, Option.bind_some]
 simp only [mF, mV, mQ]
 cases okN n <;> try rfl
 cases decide (m.2.1 < 0) <;> try rfl
 cases decide (m.2.1 ≥ n) <;> try rfl
 cases decide (m.2.2.1 < 0) <;> try rfl
 cases decide (m.2.2.1 > 1048576) <;> try rfl
 cases decide (m.2.2.2.1 < 0) <;> try rfl
 cases decide (m.2.2.2.1 ≥ 1000) <;> rfl
theorem group_ev (n : Int) (m : Msg) : Ev (fun k => quorum_group_valid k n m) (validM n m) := by
 unfold quorum_group_valid validM
 simp only [group_j0, Option.bind_some]
 cases inM n m with
 | false => exact Ev.ret _
 | true =>
  simp only [cond_true, AM.sm, Bool.true_and]
  by_cases h1 : mK m = 1
  ·rw [if_pos h1]
   refine Ev.T (by simpa using h1) (Ev.bind (encode_ev _) ?_)
   unfold encR
   cases hb : encOk (mE m) with
   | false =>
    rw [if_neg (by decide)]
    exact Ev.ret _
   | true =>
    rw [if_pos rfl]
    simp only [leader_eq, Option.bind_some, crc_eq]
    cases hl : (mF m == leadM n (mV m)) with
    | false =>
     refine Ev.T rfl (Ev.F rfl (Ev.ret _))
    | true => exact Ev.T rfl (Ev.T rfl (Ev.ret _))
  ·rw [if_neg h1]
   refine Ev.F (by simpa using h1) ?_
   unfold quorum_group_valid.j1
   simp only [bare_eq, Option.bind_some]
   by_cases h2 : mK m = 2
   ·rw [if_pos (Or.inl h2)]
    have h2' : m.1 = 2 := h2
    simp only [h2', beq_self_eq_true, cond_true, Option.bind_some]
    exact Ev.ret _
   ·by_cases h3 : mK m = 3
    ·rw [if_pos (Or.inr h3)]
     have h3' : m.1 = 3 := h3
     simp only [h3', Option.bind_some]
     exact Ev.ret _
    ·rw [if_neg (by rintro (h | h) <;> contradiction)]
     have h2' : (m.1 == 2) = false := by simpa using h2
     have h3' : (m.1 == 3) = false := by simpa using h3
     simp only [h2', h3', cond_false, Option.bind_some]
     by_cases h4 : mK m = 4
     ·rw [if_pos h4, show (m.1 == 4) = true from by simpa using h4]
      simp only [cond_true]
      cases bareE (mE m) with
      | false => exact Ev.ret _
      | true =>
       simp only [cond_true, mQ, mS]
       cases (m.2.2.2.1 == 0) <;> exact Ev.ret _
     ·rw [if_neg h4, show (m.1 == 4) = false from by simpa using h4]
      exact Ev.ret _
theorem valid_ev (n : Int) (m : Msg) : Ev (fun k => quorum_Valid k m n) (validM n m) := Ev.bind (group_ev n m) (Ev.ret _)
theorem validM_in {n : Int} {m : Msg} (h : validM n m = true) : (1 ≤ n ∧ n ≤ 13) ∧ 0 ≤ mF m ∧ mF m < n ∧ 0 ≤ mV m ∧ mV m ≤ 1048576 ∧ 0 ≤ mQ m ∧ mQ m < 1000 := by
 unfold validM at h
 exact (inM_iff n m).1 (Bool.and_eq_true_iff.1 h).1
/-! ### sizes -/
def maxF (n : Int) : Int := (n - 1) / 3
def qsz (n : Int) : Int := n - (n - 1) / 3
theorem maxF_eq {n : Int} (h1 : 1 ≤ n) (h2 : n ≤ 13) : quorum_MaxFaulty n = some (maxF n) := by
 unfold quorum_MaxFaulty maxF
 rw [possible_eq, (okN_iff n).2 ⟨h1, h2⟩, Option.bind_some, wr64 (n := n - 1) (by omega) (by omega), Int.tdiv_eq_ediv_of_nonneg (by omega), wr64 (by omega) (by omega)]
 rfl
theorem qsz_eq {n : Int} (h1 : 1 ≤ n) (h2 : n ≤ 13) : quorum_Size n = some (qsz n) := by
 unfold quorum_Size qsz
 rw [possible_eq, (okN_iff n).2 ⟨h1, h2⟩, maxF_eq h1 h2, Option.bind_some, Option.bind_some]
 unfold maxF
 rw [wr64 (by omega) (by omega)]
 rfl
end Go.Proofs.YtijhdekfbjafgaaGreat
namespace Go.Proofs.YtijhdekfbjafgaaGreat
open Go Go.RowKit Go.Proofs.YtijhdekfbjafgaaGreat.RW
open Go.Proofs.YtijhdekfbjafgaaGreat.AM hiding lk
set_option linter.unusedVariables false
set_option maxRecDepth 1000000

/-! ### numbers of messages -/
def slotOf (x : Q32) : Int × Int × Int := (x.f0, x.f2, x.f3)
def cntB (b : VK) (c : List Q32) : Nat := (c.filter fun x => decide (bkey x = b)).length
theorem cntB_snoc (b : VK) (c : List Q32) (x : Q32) : cntB b (c ++ [x]) = cntB b c + if bkey x = b then 1 else 0 := by
 unfold cntB
 rw [List.filter_append, List.length_append]
 by_cases h : bkey x = b <;> simp [h]
/-- No two votes of one kind, slot and sender; senders are 0 to n - 1. -/
structure Good (n : Int) (c : List Q32) : Prop where
 nd : c.Pairwise (fun x y => vkey x ≠ vkey y)
 rg : ∀ x ∈ c, 0 ≤ x.f1 ∧ x.f1 < n
theorem Good.prefix {n : Int} {c d : List Q32} (h : Good n (c ++ d)) : Good n c :=
 ⟨(List.pairwise_append.1 h.nd).1, fun x hx => h.rg x (List.mem_append_left _ hx)⟩
theorem nodup_bound : ∀ (n : Nat) (l : List Int), l.Nodup → (∀ x ∈ l, 0 ≤ x ∧ x < (n : Int)) → l.length ≤ n
 | 0, l, _, h => by
  cases l with
  | nil => exact Nat.le_refl _
  | cons x l => have := h x List.mem_cons_self; omega
 | n + 1, l, hn, h => by
  have h1 := nodup_bound n (l.filter fun x => decide (x ≠ (n : Int))) (hn.filter _) (fun x hx => by
   obtain ⟨h2, h3⟩ := List.mem_filter.1 hx
   have := h x h2
   simp at h3
   omega)
  have h2 : l.length ≤ (l.filter fun x => decide (x ≠ (n : Int))).length + 1 := by
   clear h1 h
   induction l with
   | nil => simp
   | cons y l ih =>
    obtain ⟨hy, hl⟩ := List.nodup_cons.1 hn
    by_cases e : y = (n : Int)
    ·have : l.filter (fun x => decide (x ≠ (n : Int))) = l := by
      rw [List.filter_eq_self]
      intro a ha
      simp only [decide_eq_true_eq]
      rintro rfl
      exact hy (by rw [e]; exact ha)
     rw [List.filter_cons_of_neg (by simp [e]), this, List.length_cons]
     exact Nat.le_refl _
    ·rw [List.filter_cons_of_pos (by simp [e])]
     have := ih hl
     simp only [List.length_cons]
     omega
  omega
theorem slot_bound {n : Nat} {c : List Q32} (h : Good (n : Int) c) (q : Int × Int × Int) : (c.filter fun x => decide (slotOf x = q)).length ≤ n := by
 have hnd : ((c.filter fun x => decide (slotOf x = q)).map (·.f1)).Nodup := by
  rw [List.Nodup, List.pairwise_map]
  refine (h.nd.filter _).imp_of_mem ?_
  intro x y hx hy hxy e
  have h1 : slotOf x = q := by simpa using (List.mem_filter.1 hx).2
  have h2 : slotOf y = q := by simpa using (List.mem_filter.1 hy).2
  apply hxy
  have h3 := h1.trans h2.symm
  unfold slotOf at h3
  injection h3 with h4 h5
  injection h5 with h5 h6
  unfold vkey
  rw [h4, e, h5, h6]
 have := nodup_bound n _ hnd (fun x hx => by
  obtain ⟨y, hy, rfl⟩ := List.mem_map.1 hx
  exact h.rg y (List.mem_filter.1 hy).1)
 rwa [List.length_map] at this
theorem two_sums {n : Nat} {c : List Q32} (h : Good (n : Int) c) (a v q s s' : Int) (hs : s ≠ s') : cntB (a, v, q, s) c + cntB (a, v, q, s') c ≤ n := by
 refine Nat.le_trans ?_ (slot_bound h (a, v, q))
 unfold cntB
 clear h
 induction c with
 | nil => simp
 | cons x c ih =>
  by_cases h1 : bkey x = (a, v, q, s)
  ·have h2 : bkey x ≠ (a, v, q, s') := fun e => hs (by rw [h1] at e; injection e with _ e; injection e with _ e; injection e with _ e)
   have h3 : slotOf x = (a, v, q) := by unfold bkey at h1; unfold slotOf; injection h1 with e1 e2; injection e2 with e2 e3; injection e3 with e3 e4; rw [e1, e2, e3]
   simp only [List.filter_cons, h1, h2, h3, decide_true, decide_false, if_true, Bool.false_eq_true, if_false, List.length_cons]
   have hne : ¬ ((a, v, q, s) = (a, v, q, s')) := fun e => h2 (h1.trans e)
   simp only [hne, decide_false, Bool.false_eq_true, if_false]
   omega
  ·by_cases h2 : bkey x = (a, v, q, s')
   ·have h3 : slotOf x = (a, v, q) := by unfold bkey at h2; unfold slotOf; injection h2 with e1 e2; injection e2 with e2 e3; injection e3 with e3 e4; rw [e1, e2, e3]
    have hne : ¬ ((a, v, q, s') = (a, v, q, s)) := fun e => h1 (h2.trans e)
    simp only [List.filter_cons, h2, h3, hne, decide_true, decide_false, if_true, Bool.false_eq_true, if_false, List.length_cons]
    omega
   ·simp only [List.filter_cons, h1, h2, decide_false, Bool.false_eq_true, if_false]
    split
    ·simp only [List.length_cons]; omega
    ·exact ih
theorem cntB_le {n : Nat} {c : List Q32} (h : Good (n : Int) c) (b : VK) : cntB b c ≤ n := by
 obtain ⟨a, v, q, s⟩ := b
 have := two_sums h a v q s (s + 1) (by omega)
 omega

/-! ### the tally, as numbers -/
theorem snoc_ind {α : Type} {p : List α → Prop} (nil : p []) (snoc : ∀ l x, p l → p (l ++ [x])) (l : List α) : p l := by
 have h : ∀ l : List α, p l.reverse := by
  intro l
  induction l with
  | nil => exact nil
  | cons x l ih => rw [List.reverse_cons]; exact snoc _ x ih
 have := h l.reverse
 rwa [List.reverse_reverse] at this
theorem tst_votes {n : Nat} (hn : n ≤ 13) (sz : Int) : ∀ (c : List Q32), Good (n : Int) c → ∀ b, (mget (tst sz c).1 b).getD 0 = (cntB b c : Int) := by
 intro c
 induction c using snoc_ind with
 | nil => intro _ b; rfl
 | snoc c x ih =>
  intro h b
  have hc := h.prefix
  rw [tst_snoc, cntB_snoc]
  unfold bump
  simp only
  rw [ih hc (bkey x)]
  have hle := cntB_le hc (bkey x)
  rw [W64 (by omega) (by omega)]
  by_cases e : bkey x = b
  ·subst e
   rw [mput_get, if_pos rfl]
   simp
  ·rw [mput_other _ _ _ _ (fun e2 => e e2.symm), ih hc b, if_neg e]
   simp
theorem dkey_eq {x : Q32} {a v q : Int} : dkey x = (a, 0, v, q) ↔ slotOf x = (a, v, q) := by
 unfold dkey slotOf
 constructor
 ·intro h; injection h with e1 e2; injection e2 with _ e2; injection e2 with e2 e3; rw [e1, e2, e3]
 ·intro h; injection h with e1 e2; injection e2 with e2 e3; rw [e1, e2, e3]
theorem bkey_eq {x : Q32} {a v q s : Int} : bkey x = (a, v, q, s) ↔ slotOf x = (a, v, q) ∧ x.f4 = s := by
 unfold bkey slotOf
 constructor
 ·intro h; injection h with e1 e2; injection e2 with e2 e3; injection e3 with e3 e4; exact ⟨by rw [e1, e2, e3], e4⟩
 ·rintro ⟨h, e4⟩; injection h with e1 e2; injection e2 with e2 e3; rw [e1, e2, e3, e4]
/-- A sum is decided just where as many as sz votes are for it. -/
theorem tst_dec {n sz : Nat} (hn : n ≤ 13) (h1 : 1 ≤ sz) (h2 : n < 2 * sz) : ∀ (c : List Q32), Good (n : Int) c → ∀ (a v q s : Int), mget (tst (sz : Int) c).2 (a, 0, v, q) = some s ↔ sz ≤ cntB (a, v, q, s) c := by
 intro c
 induction c using snoc_ind with
 | nil =>
  intro _ a v q s
  simp only [tst, List.foldl_nil, mget, cntB, List.filter_nil, List.length_nil]
  constructor
  ·intro h; cases h
  ·intro h; omega
 | snoc c x ih =>
  intro h a v q s
  have hc := h.prefix
  rw [tst_snoc, cntB_snoc]
  unfold bump
  simp only
  rw [tst_votes hn (sz : Int) c hc (bkey x)]
  have hle := cntB_le hc (bkey x)
  rw [W64 (by omega) (by omega)]
  by_cases hx : dkey x = (a, 0, v, q)
  ·have hsl := dkey_eq.1 hx
   have hbx : bkey x = (a, v, q, x.f4) := bkey_eq.2 ⟨hsl, rfl⟩
   by_cases hsz : ((cntB (bkey x) c : Int) + 1) = (sz : Int)
   ·rw [if_pos hsz, hx, mput_get]
    by_cases hs : x.f4 = s
    ·subst hs
     rw [if_pos hbx]
     rw [hbx] at hsz
     constructor
     ·intro _; omega
     ·intro _; rfl
    ·rw [if_neg (fun e => hs (bkey_eq.1 e).2)]
     have h3 := two_sums h a v q x.f4 s hs
     rw [cntB_snoc, cntB_snoc, if_pos hbx, if_neg (fun e => hs (bkey_eq.1 e).2)] at h3
     rw [hbx] at hsz
     constructor
     ·intro e; exact absurd (Option.some.inj e) hs
     ·intro e; omega
   ·rw [if_neg hsz, ih hc a v q s]
    by_cases hs : x.f4 = s
    ·subst hs
     rw [if_pos hbx]
     rw [hbx] at hsz
     omega
    ·rw [if_neg (fun e => hs (bkey_eq.1 e).2)]
     omega
  ·have hb : bkey x ≠ (a, v, q, s) := fun e => hx (dkey_eq.2 (bkey_eq.1 e).1)
   rw [if_neg hb]
   split
   ·rw [mput_other _ _ _ _ (fun e => hx e.symm), ih hc a v q s]; omega
   ·rw [ih hc a v q s]; omega


/-! ### the highest prepared entry -/
/-- Could this message's entry be the answer? -/
def HC (V : Q32 → Bool) (D : Int → Int → Option Int) (at_ : Q24) (m : Q32) : Prop := m.f0 = 1 ∧ m.f3 = at_.f1 ∧ m.f2 < at_.f0 ∧ V m = true ∧ D m.f2 m.f3 = some m.f4
instance (V : Q32 → Bool) (D : Int → Int → Option Int) (at_ : Q24) (m : Q32) : Decidable (HC V D at_ m) := by unfold HC; infer_instance
def hstep (V : Q32 → Bool) (D : Int → Int → Option Int) (at_ : Q24) (st : Q30 × Int) (m : Q32) : Q30 × Int := if HC V D at_ m ∧ st.2 < m.f2 then (m.f5, m.f2) else st
theorem hp_iter {k : Nat} {n : Int} {at_ : Q24} {t1 : List (VK × Int)} {l : List Q32} {V : Q32 → Bool} {D : Int → Int → Option Int} {st : Q30 × Int} {i : Int} {m : Q32} (hget : l.getD i.toNat qz32 = m) (hV : quorum_group_valid.f k n m = some (V m)) (hD : ∀ v q, mget t1 (2, 0, v, q) = D v q) :
  ((if m.f0 ≠ 1 then (some true) else (if m.f3 ≠ at_.f1 then (some true) else (if m.f2 ≥ at_.f0 then (some true) else (if m.f2 ≤ st.2 then (some true) else ((quorum_Valid.f k m n).bind fun t2 => (some (!t2))))))).bind (quorum_HighestPrepared.k5 l t1 st.1.f0 st.1.f1 st.1.f2 st.2 i)) =
   some ((hstep V D at_ st m).1.f0, (hstep V D at_ st m).1.f1, (hstep V D at_ st m).1.f2, (hstep V D at_ st m).2) := by
 have hv : quorum_Valid.f k m n = some (V m) := by unfold quorum_Valid.f quorum_Valid; rw [show quorum_group_valid k n m.p = _ from hV]; rfl
 have skip : ∀ b, b = true → (hstep V D at_ st m = st) → quorum_HighestPrepared.k5 l t1 st.1.f0 st.1.f1 st.1.f2 st.2 i b = some ((hstep V D at_ st m).1.f0, (hstep V D at_ st m).1.f1, (hstep V D at_ st m).1.f2, (hstep V D at_ st m).2) := by
  intro b hb hs
  unfold quorum_HighestPrepared.k5
  rw [if_pos hb, hs]
 have noHC : ¬ (HC V D at_ m ∧ st.2 < m.f2) → hstep V D at_ st m = st := fun h => by unfold hstep; rw [if_neg h]
 by_cases h1 : m.f0 = 1
 ·rw [if_neg (by simpa using h1)]
  by_cases h2 : m.f3 = at_.f1
  ·rw [if_neg (by simpa using h2)]
   by_cases h3 : m.f2 ≥ at_.f0
   ·rw [if_pos h3, Option.bind_some]
    exact skip _ rfl (noHC (fun h => by have := h.1.2.2.1; omega))
   ·rw [if_neg h3]
    by_cases h4 : m.f2 ≤ st.2
    ·rw [if_pos h4, Option.bind_some]
     exact skip _ rfl (noHC (fun h => by have := h.2; omega))
    ·rw [if_neg h4, hv, Option.bind_some, Option.bind_some]
     cases h5 : V m with
     | false => exact skip _ rfl (noHC (fun h => by have := h.1.2.2.2.1; rw [h5] at this; cases this))
     | true =>
      unfold quorum_HighestPrepared.k5
      rw [if_neg (by decide), hget, hD]
      cases h6 : D m.f2 m.f3 with
      | none =>
       have hs := noHC (fun h => by have := h.1.2.2.2.2; rw [h6] at this; cases this)
       simp only [Option.isSome_none, Bool.false_eq_true, if_false, Option.bind_some, quorum_HighestPrepared.k4, quorum_HighestPrepared.k3, hs]
      | some s =>
       simp only [Option.isSome_some, if_true, Option.getD_some, Option.bind_some]
       by_cases h7 : s = m.f4
       ·have hs : hstep V D at_ st m = (m.f5, m.f2) := by
         unfold hstep
         rw [if_pos ⟨⟨h1, h2, by omega, h5, by rw [h6, h7]⟩, by omega⟩]
        have e : (s == m.f4) = true := by simpa using h7
        simp only [e, quorum_HighestPrepared.k4, if_true, Option.bind_some, quorum_HighestPrepared.k3, hget, hs]
       ·have hs := noHC (fun h => by have := h.1.2.2.2.2; rw [h6] at this; exact h7 (Option.some.inj this))
        have e : (s == m.f4) = false := by simpa using h7
        simp only [e, quorum_HighestPrepared.k4, Bool.false_eq_true, if_false, Option.bind_some, quorum_HighestPrepared.k3, hs]
  ·rw [if_pos h2, Option.bind_some]
   exact skip _ rfl (noHC (fun h => h2 h.1.2.1))
 ·rw [if_pos h1, Option.bind_some]
  exact skip _ rfl (noHC (fun h => h1 h.1.1))
theorem hp_loop {n : Int} {at_ : Q24} {t1 : List (VK × Int)} {l : List Q32} {V : Q32 → Bool} {D : Int → Int → Option Int} {K : Nat} (hlen : l.length < 4611686018427387904) (hV : ∀ m ∈ l, ∀ k, K ≤ k → quorum_group_valid.f k n m = some (V m)) (hD : ∀ v q, mget t1 (2, 0, v, q) = D v q) :
  ∀ (r i : Nat) (k : Nat) (st : Q30 × Int), K ≤ k → i + r = l.length → quorum_HighestPrepared.l1 l n at_ t1 (k + 1 + r) st.1.f0 st.1.f1 st.1.f2 st.2 (i : Int) =
   some (((l.drop i).foldl (hstep V D at_) st).1.f0, ((l.drop i).foldl (hstep V D at_) st).1.f1, ((l.drop i).foldl (hstep V D at_) st).1.f2, ((l.drop i).foldl (hstep V D at_) st).2) := by
 intro r
 induction r with
 | zero =>
  intro i k st hk hi
  simp only [quorum_HighestPrepared.l1, Nat.add_zero]
  rw [if_neg (by omega), List.drop_of_length_le (by omega)]
  rfl
 | succ r ih =>
  intro i k st hk hi
  have hil : i < l.length := by omega
  have hdrop : l.drop i = l[i] :: l.drop (i + 1) := List.drop_eq_getElem_cons hil
  have hget : l.getD (i : Int).toNat qz32 = l[i] := getD_int hil
  have hv := hV l[i] (List.getElem_mem hil) (k + 1 + r) (by omega)
  have hnext := ih (i + 1) k (hstep V D at_ st l[i]) hk (by omega)
  have hit := hp_iter (k := k + 1 + r) (at_ := at_) (st := st) (i := (i : Int)) hget hv hD
  rw [show k + 1 + (r + 1) = (k + 1 + r) + 1 from by omega]
  generalize k + 1 + r = K at hnext hit
  simp only [quorum_HighestPrepared.l1]
  rw [if_pos (by omega), if_pos (by omega), if_pos (by omega), hget, hit, Option.bind_some]
  simp only
  rw [wr64s i (by omega), hnext, hdrop]
  rfl

/-! ### lists of messages of which all count -/
def keyM (m : Msg) : VK := (mK m, mF m, mV m, mQ m)
def ballM (m : Msg) : VK := (mK m, mV m, mQ m, mS m)
/-- Valid messages, no two of one kind, sender and slot. -/
structure GoodM (n : Int) (l : List Msg) : Prop where
 ok : ∀ m ∈ l, validM n m = true
 nd : l.Pairwise (fun x y => keyM x ≠ keyM y)
def votes (l : List Msg) (b : VK) : Nat := (l.filter fun x => decide (ballM x = b)).length
theorem votes_of (l : List Msg) (b : VK) : cntB b (l.map Q32.of) = votes l b := by
 unfold cntB votes
 rw [List.filter_map, List.length_map]
 rfl
theorem GoodM.good {n : Int} {l : List Msg} (h : GoodM n l) : Good n (l.map Q32.of) := by
 refine ⟨?_, fun x hx => ?_⟩
 ·rw [List.pairwise_map]
  exact h.nd
 ·obtain ⟨m, hm, rfl⟩ := List.mem_map.1 hx
  have := validM_in (h.ok m hm)
  exact ⟨this.2.1, this.2.2.1⟩
/-- What is decided for a kind and a slot. -/
def decM (n : Int) (l : List Msg) (a v q : Int) : Option Int := (l.find? fun m => decide (mK m = a ∧ mV m = v ∧ mQ m = q ∧ qsz n ≤ (votes l (a, v, q, mS m) : Int))).map mS
theorem votes_mem {l : List Msg} {a v q s : Int} (h : 0 < votes l (a, v, q, s)) : ∃ m ∈ l, mK m = a ∧ mV m = v ∧ mQ m = q ∧ mS m = s := by
 unfold votes at h
 obtain ⟨m, hm⟩ := List.exists_mem_of_length_pos h
 obtain ⟨h1, h2⟩ := List.mem_filter.1 hm
 have := of_decide_eq_true h2
 unfold ballM at this
 injection this with e1 e2
 injection e2 with e2 e3
 injection e3 with e3 e4
 exact ⟨m, h1, e1, e2, e3, e4⟩
theorem qsz_nat {n : Int} (h1 : 1 ≤ n) (h2 : n ≤ 13) : ∃ N s : Nat, (N : Int) = n ∧ N ≤ 13 ∧ (s : Int) = qsz n ∧ 1 ≤ s ∧ N < 2 * s := by
 refine ⟨n.toNat, (qsz n).toNat, ?_, ?_, ?_, ?_, ?_⟩ <;> (try unfold qsz) <;> omega
theorem decM_iff {n : Int} (h1 : 1 ≤ n) (h2 : n ≤ 13) {l : List Msg} (h : GoodM n l) (a v q s : Int) : decM n l a v q = some s ↔ qsz n ≤ (votes l (a, v, q, s) : Int) := by
 unfold decM
 rw [Option.map_eq_some_iff]
 constructor
 ·rintro ⟨m, hm, rfl⟩
  have := List.find?_some hm
  exact (of_decide_eq_true this).2.2.2
 ·intro hs
  have hp : 0 < votes l (a, v, q, s) := by unfold qsz at hs; omega
  obtain ⟨m, hm, e1, e2, e3, e4⟩ := votes_mem hp
  cases hf : l.find? fun m => decide (mK m = a ∧ mV m = v ∧ mQ m = q ∧ qsz n ≤ (votes l (a, v, q, mS m) : Int)) with
  | none =>
   have := List.find?_eq_none.1 hf m hm
   exact absurd (decide_eq_true (show _ ∧ _ ∧ _ ∧ _ from ⟨e1, e2, e3, by rw [e4]; exact hs⟩)) this
  | some x =>
   refine ⟨x, rfl, ?_⟩
   have hx := List.find?_some hf
   replace hx := (of_decide_eq_true hx).2.2.2
   by_cases e : mS x = s
   ·exact e
   ·have := two_sums (n := n.toNat) (by rw [show ((n.toNat : Nat) : Int) = n from by omega]; exact h.good) a v q (mS x) s e
    rw [votes_of, votes_of] at this
    unfold qsz at hs hx
    omega
theorem tally_ev {n : Int} (h1 : 1 ≤ n) (h2 : n ≤ 13) {l : List Msg} (h : GoodM n l) : ∃ t, Ev (fun k => quorum_tally.f k (l.map Q32.of) n) t ∧ ∀ a v q, mget t (a, 0, v, q) = decM n l a v q := by
 obtain ⟨K, hK⟩ : ∃ K, ∀ k, K ≤ k → ∀ m ∈ l, quorum_group_valid k n m = some true := by
  have : ∀ l' : List Msg, (∀ m ∈ l', validM n m = true) → ∃ K, ∀ k, K ≤ k → ∀ m ∈ l', quorum_group_valid k n m = some true := by
   intro l'
   induction l' with
   | nil => intro _; exact ⟨0, fun k _ m hm => by cases hm⟩
   | cons x r ih =>
    intro hl
    obtain ⟨K, hK⟩ := ih fun m hm => hl m (List.mem_cons_of_mem _ hm)
    obtain ⟨M, hM⟩ := group_ev n x
    refine ⟨max K M, fun k hk m hm => ?_⟩
    rcases List.mem_cons.1 hm with rfl | hm
    ·rw [show quorum_group_valid k n m = _ from hM k (by omega), hl m List.mem_cons_self]
    ·exact hK k (by omega) m hm
  exact this l h.ok
 have hcnt : ∀ k, K ≤ k → ∀ (l' : List Msg) (seen : List (VK × Bool)), (∀ m ∈ l', m ∈ l) → l'.Pairwise (fun x y => keyM x ≠ keyM y) → (∀ m ∈ l', mget seen (keyM m) = none) → cnt k n (l'.map Q32.of) seen = some (l'.map Q32.of) := by
  intro k hk l'
  induction l' with
  | nil => intro seen _ _ _; rfl
  | cons x r ih =>
   intro seen hm hp hs
   have hx : quorum_group_valid.f k n (Q32.of x) = some true := hK k hk x (hm x List.mem_cons_self)
   obtain ⟨hp1, hp2⟩ := List.pairwise_cons.1 hp
   have he : mget seen (vkey (Q32.of x)) = none := hs x List.mem_cons_self
   rw [List.map_cons, cnt, he, hx]
   simp only [Option.getD_none, Bool.false_eq_true, if_false, Option.bind_some, if_true]
   rw [ih _ (fun m h => hm m (List.mem_cons_of_mem _ h)) hp2 (fun m h => ?_)]
   ·rfl
   ·rw [mput_other seen (vkey (Q32.of x)) (keyM m) true (fun e => hp1 m h e.symm)]
    exact hs m (List.mem_cons_of_mem _ h)
 refine ⟨(tst (qsz n) (l.map Q32.of)).2, ⟨K, fun k hk => ?_⟩, fun a v q => ?_⟩
 ·show quorum_tally.f k (l.map Q32.of) n = _
  unfold quorum_tally.f
  rw [hcnt k hk l [] (fun m hm => hm) h.nd (fun m _ => rfl), Option.bind_some, show quorum_Size.f n = some (qsz n) from qsz_eq h1 h2]
  rfl
 ·obtain ⟨N, z, hN, hN2, hz, hz1, hz2⟩ := qsz_nat h1 h2
  have key : ∀ s, mget (tst (qsz n) (l.map Q32.of)).2 (a, 0, v, q) = some s ↔ decM n l a v q = some s := by
   intro s
   rw [decM_iff h1 h2 h, ← hz, tst_dec hN2 hz1 hz2 (l.map Q32.of) (by rw [hN]; exact h.good) a v q s, votes_of]
   omega
  cases hd : decM n l a v q with
  | some s => exact (key s).2 hd
  | none =>
   cases ht : mget (tst (qsz n) (l.map Q32.of)).2 (a, 0, v, q) with
   | none => rfl
   | some s => have := (key s).1 ht; rw [hd] at this; cases this
theorem prepared_ev {n : Int} (h1 : 1 ≤ n) (h2 : n ≤ 13) {l : List Msg} (h : GoodM n l) (v q : Int) : Ev (fun k => quorum_Prepared k l n (v, q)) ((decM n l 2 v q).getD 0, (decM n l 2 v q).isSome) := by
 obtain ⟨t, ht, hd⟩ := tally_ev h1 h2 h
 refine Ev.bind ht (Ev.cast (Ev.ret _) ?_)
 rw [hd]
theorem committed_ev {n : Int} (h1 : 1 ≤ n) (h2 : n ≤ 13) {l : List Msg} (h : GoodM n l) (v q : Int) : Ev (fun k => quorum_Committed k l n (v, q)) ((decM n l 3 v q).getD 0, (decM n l 3 v q).isSome) := by
 obtain ⟨t, ht, hd⟩ := tally_ev h1 h2 h
 refine Ev.bind ht (Ev.cast (Ev.ret _) ?_)
 rw [hd]
/-- The highest earlier proposal that is prepared. -/
def hstepM (n : Int) (l : List Msg) (v q : Int) (st : Ent × Int) (m : Msg) : Ent × Int := if (mK m = 1 ∧ mQ m = q ∧ mV m < v ∧ decM n l 2 (mV m) (mQ m) = some (mS m)) ∧ st.2 < mV m then (mE m, mV m) else st
def hiM (n : Int) (l : List Msg) (v q : Int) : Ent × Int := l.foldl (hstepM n l v q) ((0, ⟨#[]⟩, []), -1)
def cvQ (st : Ent × Int) : Q30 × Int := (⟨st.1.1, st.1.2.1, st.1.2.2⟩, st.2)
theorem highest_ev {n : Int} (h1 : 1 ≤ n) (h2 : n ≤ 13) {l : List Msg} (h : GoodM n l) (hlen : l.length < 4611686018427387904) (v q : Int) : Ev (fun k => quorum_HighestPrepared k l n (v, q)) ((hiM n l v q).1, decide ((hiM n l v q).2 ≥ 0)) := by
 obtain ⟨t, ht, hd⟩ := tally_ev h1 h2 h
 obtain ⟨K, hK⟩ : ∃ K, ∀ k, K ≤ k → ∀ m ∈ l, quorum_group_valid k n m = some true := by
  have : ∀ l' : List Msg, (∀ m ∈ l', validM n m = true) → ∃ K, ∀ k, K ≤ k → ∀ m ∈ l', quorum_group_valid k n m = some true := by
   intro l'
   induction l' with
   | nil => intro _; exact ⟨0, fun k _ m hm => by cases hm⟩
   | cons x r ih =>
    intro hl
    obtain ⟨K, hK⟩ := ih fun m hm => hl m (List.mem_cons_of_mem _ hm)
    obtain ⟨M, hM⟩ := group_ev n x
    refine ⟨max K M, fun k hk m hm => ?_⟩
    rcases List.mem_cons.1 hm with rfl | hm
    ·rw [show quorum_group_valid k n m = _ from hM k (by omega), hl m List.mem_cons_self]
    ·exact hK k (by omega) m hm
  exact this l h.ok
 obtain ⟨M, hM⟩ := ht
 refine ⟨max M (K + 1 + l.length), fun k hk => ?_⟩
 have hl := hp_loop (n := n) (at_ := ⟨v, q⟩) (t1 := t) (l := l.map Q32.of) (V := fun _ => true) (D := decM n l 2) (K := K) (by rw [List.length_map]; exact hlen) (fun m hm k hk => by
  obtain ⟨x, hx, rfl⟩ := List.mem_map.1 hm
  exact hK k hk x hx) (fun v q => hd 2 v q) (l.map Q32.of).length 0 (k - 1 - l.length) (⟨0, ⟨#[]⟩, []⟩, -1) (by omega) (by omega)
 rw [List.length_map, show k - 1 - l.length + 1 + l.length = k from by omega, List.drop_zero] at hl
 have hf : (l.map Q32.of).foldl (hstep (fun _ => true) (decM n l 2) ⟨v, q⟩) (⟨0, ⟨#[]⟩, []⟩, -1) = cvQ (hiM n l v q) := by
  unfold hiM
  rw [List.foldl_map]
  have : ∀ (r : List Msg) (st : Ent × Int), r.foldl (fun x y => hstep (fun _ => true) (decM n l 2) ⟨v, q⟩ x (Q32.of y)) (cvQ st) = cvQ (r.foldl (hstepM n l v q) st) := by
   intro r
   induction r with
   | nil => intro st; rfl
   | cons m r ih =>
    intro st
    rw [List.foldl_cons, List.foldl_cons, ← ih]
    congr 1
    unfold hstep hstepM HC
    by_cases hc : (mK m = 1 ∧ mQ m = q ∧ mV m < v ∧ decM n l 2 (mV m) (mQ m) = some (mS m)) ∧ st.2 < mV m
    ·rw [if_pos hc, if_pos ⟨⟨hc.1.1, hc.1.2.1, hc.1.2.2.1, rfl, hc.1.2.2.2⟩, hc.2⟩]
     rfl
    ·rw [if_neg hc, if_neg (fun hh => hc ⟨⟨hh.1.1, hh.1.2.1, hh.1.2.2.1, hh.1.2.2.2.2⟩, hh.2⟩)]
  exact this l ((0, ⟨#[]⟩, []), -1)
 rw [hf] at hl
 show (quorum_HighestPrepared.f k (l.map Q32.of) n ⟨v, q⟩).map (fun r => (r.1.p, r.2)) = _
 unfold quorum_HighestPrepared.f
 rw [show quorum_tally.f k (l.map Q32.of) n = _ from hM k (by omega), Option.bind_some]
 rw [show quorum_HighestPrepared.l1 (l.map Q32.of) n ⟨v, q⟩ t k 0 ⟨#[]⟩ [] (-1) 0 = _ from hl, Option.bind_some]
 rfl
end Go.Proofs.YtijhdekfbjafgaaGreat
namespace Go.Proofs.YtijhdekfbjafgaaGreat
open Go Go.RowKit Go.Proofs.YtijhdekfbjafgaaGreat.RW
open Go.Proofs.YtijhdekfbjafgaaGreat.AM hiding lk
set_option linter.unusedVariables false
set_option maxRecDepth 100000
def posM (r : Rep) : Int := ((rL r).length : Int)
theorem position_eq (r : Rep) : replica_machine_position r = some (posM r) := rfl
/-- Sizes that fit. -/
structure Sz (r : Rep) : Prop where
 t : (rT r).length ≤ 1000000000000
 s : (rS r).length ≤ 1000000000000
 g : (rL r).length ≤ 1000000000000
theorem room88 {n : Nat} (h : n ≤ 1000000000000) : AM.room (n + 1) 88 = true := roomT (by omega) (by omega)
theorem room48 {n : Nat} (h : n ≤ 1000000000000) : AM.room (n + 1) 48 = true := roomT (by omega) (by omega)
theorem room8 {n : Nat} (h : n ≤ 1000000000000) : AM.room (n + 1) 8 = true := roomT (by omega) (by omega)
theorem clipM (l : List Msg) : api_Message l = some l := by
 unfold api_Message
 rw [show inb (l.length : Int) (l.length + 1) = true from inbN (by omega)]
 simp [AM.ck]
theorem clipE (l : List Ent) : api_Entry l = some l := by
 unfold api_Entry
 rw [show inb (l.length : Int) (l.length + 1) = true from inbN (by omega)]
 simp [AM.ck]
/-- A message is sent. -/
def sendM (r : Rep) (m : Msg) : Rep := (rI r, rN r, rV r, rT r, rS r ++ [(m.1, rI r, m.2.2)], rL r)
theorem send_eq {r : Rep} (h : Sz r) (m : Msg) : replica_machine_send m r = some (rI r, rN r, rV r, rT r, rL r, rS r ++ [(m.1, rI r, m.2.2)]) := by
 unfold replica_machine_send
 rw [clipM, Option.bind_some, room88 h.s]
 rfl
theorem idx_some {α : Type} {p : α → Bool} {l : List α} {j : Nat} (h : l.findIdx? p = some j) : ∃ hj : j < l.length, l.find? p = some l[j] := by
 obtain ⟨hj, hp, hb⟩ := List.findIdx?_eq_some_iff_getElem.1 h
 refine ⟨hj, List.find?_eq_some_iff_getElem.2 ⟨hp, j, hj, rfl, fun k hk => ?_⟩⟩
 simpa using hb k hk
theorem idx_none {α : Type} {p : α → Bool} {l : List α} (h : l.findIdx? p = none) : l.find? p = none :=
 List.find?_eq_none.2 fun x hx => by simp [List.findIdx?_eq_none_iff.1 h x hx]
theorem idx_any {α : Type} (p : α → Bool) (l : List α) : (l.findIdx? p).isSome = l.any p := by
 cases h : l.findIdx? p with
 | none =>
  rw [Option.isSome_none]
  symm
  rw [List.any_eq_false]
  intro x hx
  simp [List.findIdx?_eq_none_iff.1 h x hx]
 | some j =>
  obtain ⟨hj, hp, _⟩ := List.findIdx?_eq_some_iff_getElem.1 h
  symm
  exact List.any_eq_true.2 ⟨l[j], List.getElem_mem hj, hp⟩
/-! ### sent -/
def sentM (r : Rep) (k : Int) : Bool := (rS r).any fun x => (x.1 == k) && ((x.2.2.1 == rV r) && (x.2.2.2.1 == posM r))
theorem sent_ev {r : Rep} (h : Sz r) (k : Int) : Ev (fun n => replica_machine_sent n k r) (sentM r k, r) := by
 have hf := find_run (L := fun n j (s : Int × (Int × Rep)) => api_Message_49.l0 n j s.1 (rS r) ((rS r).length : Int) s.2.1 s.2.2) (S := fun n s => api_Message_49.s0 n s.1 (rS r) ((rS r).length : Int) s.2.1 s.2.2) (fun _ _ _ => rfl)
  (rS r) (k, r) (fun x => (x.1 == k) && ((x.2.2.1 == rV r) && (x.2.2.2.1 == posM r))) (by have := h.s; omega) (fun i hi => Ev.of fun n => ?_) (Ev.of fun n => ?_)
 ·unfold replica_machine_sent api_Message_24 api_Message_49
  refine Ev.bind (a := (sentM r k, k, r)) (Ev.bind (a := (match (rS r).findIdx? (fun x => (x.1 == k) && ((x.2.2.1 == rV r) && (x.2.2.2.1 == posM r))) with | some j => ((j : Int), k, r) | none => (-1, k, r))) (Ev.bind hf ?_) ?_) (Ev.ret _)
  ·cases (rS r).findIdx? (fun x => (x.1 == k) && ((x.2.2.1 == rV r) && (x.2.2.2.1 == posM r))) with
   | none => exact Ev.ret _
   | some j => exact Ev.ret _
  ·unfold sentM
   rw [← idx_any]
   cases (rS r).findIdx? (fun x => (x.1 == k) && ((x.2.2.1 == rV r) && (x.2.2.2.1 == posM r))) with
   | none => exact Ev.ret _
   | some j => exact Ev.cast (Ev.ret _) (by simp)
 ·show api_Message_49.s0 n (i : Int) (rS r) ((rS r).length : Int) k r = _
  unfold api_Message_49.s0
  rw [show decide ((i : Int) < ((rS r).length : Int)) = true from decide_eq_true (by omega), inbN hi, getD_int hi, wr64s i (by have := h.s; omega)]
  simp only [cond_true, AM.ck]
  unfold replica_machine_sent_1
  rw [position_eq]
  cases ((rS r)[i].1 == k) with
  | false => rfl
  | true =>
   simp only [cond_true]
   cases ((rS r)[i].2.2.1 == rV r) with
   | false => rfl
   | true =>
    simp only [cond_true, Option.bind_some]
    cases ((rS r)[i].2.2.2.1 == posM r) <;> rfl
 ·show api_Message_49.s0 n ((rS r).length : Int) (rS r) ((rS r).length : Int) k r = _
  unfold api_Message_49.s0
  rw [show decide (((rS r).length : Int) < ((rS r).length : Int)) = false from decide_eq_false (by omega)]
  rfl

/-! ### proposals -/
def propS (r : Rep) (s : Int) : Option Msg := (rT r).find? fun x => (x.1 == 1) && ((x.2.2.2.1 == posM r) && (x.2.2.2.2.1 == s))
def propV (r : Rep) : Option Msg := (rT r).find? fun x => (x.1 == 1) && ((x.2.2.2.1 == posM r) && (x.2.2.1 == rV r))
abbrev zM : Msg := (0, 0, 0, 0, 0, 0, (⟨#[]⟩ : ByteArray), ([] : List Int))
theorem proposal_ev {r : Rep} (h : Sz r) (s : Int) : Ev (fun n => replica_machine_proposal n r s) (match propS r s with | some x => (x, true, r, s) | none => (zM, false, r, s)) := by
 have hf := find_run (L := fun n j (c : Int × (Rep × Int)) => api_Message_49_3.l0 n j c.1 (rT r) ((rT r).length : Int) c.2.1 c.2.2) (S := fun n c => api_Message_49_3.s0 n c.1 (rT r) ((rT r).length : Int) c.2.1 c.2.2) (fun _ _ _ => rfl)
  (rT r) (r, s) (fun x => (x.1 == 1) && ((x.2.2.2.1 == posM r) && (x.2.2.2.2.1 == s))) (by have := h.t; omega) (fun i hi => Ev.of fun n => ?_) (Ev.of fun n => ?_)
 ·unfold replica_machine_proposal api_Message_49_3
  refine Ev.bind (Ev.bind hf (b := (match (rT r).findIdx? (fun x => (x.1 == 1) && ((x.2.2.2.1 == posM r) && (x.2.2.2.2.1 == s))) with | some j => ((j : Int), r, s) | none => (-1, r, s))) ?_) ?_
  ·cases (rT r).findIdx? (fun x => (x.1 == 1) && ((x.2.2.2.1 == posM r) && (x.2.2.2.2.1 == s))) with
   | none => exact Ev.ret _
   | some j => exact Ev.ret _
  ·unfold propS
   cases hi : (rT r).findIdx? (fun x => (x.1 == 1) && ((x.2.2.2.1 == posM r) && (x.2.2.2.2.1 == s))) with
   | none =>
    rw [idx_none hi]
    exact Ev.ret _
   | some j =>
    obtain ⟨hj, hx⟩ := idx_some hi
    rw [hx]
    refine Ev.F (decide_eq_false (show ¬ ((j : Int) < 0) by omega)) (Ev.ck (inbN hj) (Ev.cast (Ev.ret _) ?_))
    rw [getD_int hj]
 ·show api_Message_49_3.s0 n (i : Int) (rT r) ((rT r).length : Int) r s = _
  unfold api_Message_49_3.s0
  rw [show decide ((i : Int) < ((rT r).length : Int)) = true from decide_eq_true (by omega), inbN hi, getD_int hi, wr64s i (by have := h.t; omega)]
  simp only [cond_true, AM.ck]
  unfold replica_machine_proposal_1 replica_withSum_1
  rw [position_eq]
  cases ((rT r)[i].1 == 1) with
  | false => rfl
  | true =>
   simp only [cond_true, Option.bind_some]
   cases ((rT r)[i].2.2.2.1 == posM r) with
   | false => rfl
   | true => cases ((rT r)[i].2.2.2.2.1 == s) <;> rfl
 ·show api_Message_49_3.s0 n ((rT r).length : Int) (rT r) ((rT r).length : Int) r s = _
  unfold api_Message_49_3.s0
  rw [show decide (((rT r).length : Int) < ((rT r).length : Int)) = false from decide_eq_false (by omega)]
  rfl
theorem proposal2_ev {r : Rep} (h : Sz r) : Ev (fun n => replica_machine_proposal_2 n r) (match propV r with | some x => (x, true, r) | none => (zM, false, r)) := by
 have hf := find_run (L := fun n j (c : Int × Rep) => api_Message_49_4.l0 n j c.1 (rT r) ((rT r).length : Int) c.2) (S := fun n c => api_Message_49_4.s0 n c.1 (rT r) ((rT r).length : Int) c.2) (fun _ _ _ => rfl)
  (rT r) r (fun x => (x.1 == 1) && ((x.2.2.2.1 == posM r) && (x.2.2.1 == rV r))) (by have := h.t; omega) (fun i hi => Ev.of fun n => ?_) (Ev.of fun n => ?_)
 ·unfold replica_machine_proposal_2 api_Message_49_4
  refine Ev.bind (Ev.bind hf (b := (match (rT r).findIdx? (fun x => (x.1 == 1) && ((x.2.2.2.1 == posM r) && (x.2.2.1 == rV r))) with | some j => ((j : Int), r) | none => (-1, r))) ?_) ?_
  ·cases (rT r).findIdx? (fun x => (x.1 == 1) && ((x.2.2.2.1 == posM r) && (x.2.2.1 == rV r))) with
   | none => exact Ev.ret _
   | some j => exact Ev.ret _
  ·unfold propV
   cases hi : (rT r).findIdx? (fun x => (x.1 == 1) && ((x.2.2.2.1 == posM r) && (x.2.2.1 == rV r))) with
   | none =>
    rw [idx_none hi]
    exact Ev.ret _
   | some j =>
    obtain ⟨hj, hx⟩ := idx_some hi
    rw [hx]
    refine Ev.F (decide_eq_false (show ¬ ((j : Int) < 0) by omega)) (Ev.ck (inbN hj) (Ev.cast (Ev.ret _) ?_))
    rw [getD_int hj]
 ·show api_Message_49_4.s0 n (i : Int) (rT r) ((rT r).length : Int) r = _
  unfold api_Message_49_4.s0
  rw [show decide ((i : Int) < ((rT r).length : Int)) = true from decide_eq_true (by omega), inbN hi, getD_int hi, wr64s i (by have := h.t; omega)]
  simp only [cond_true, AM.ck]
  unfold replica_machine_proposal_1_2 replica_machine_prepare_1
  rw [position_eq]
  cases ((rT r)[i].1 == 1) with
  | false => rfl
  | true =>
   simp only [cond_true, Option.bind_some]
   cases ((rT r)[i].2.2.2.1 == posM r) with
   | false => rfl
   | true => cases ((rT r)[i].2.2.1 == rV r) <;> rfl
 ·show api_Message_49_4.s0 n ((rT r).length : Int) (rT r) ((rT r).length : Int) r = _
  unfold api_Message_49_4.s0
  rw [show decide (((rT r).length : Int) < ((rT r).length : Int)) = false from decide_eq_false (by omega)]
  rfl

/-! ### what is needed of a replica -/
structure Ok (r : Rep) : Prop where
 n1 : 1 ≤ rN r
 n2 : rN r ≤ 13
 took : GoodM (rN r) (rT r)
 sz : Sz r
/-- What is decided at the current position. -/
def decR (r : Rep) (a v : Int) : Option Int := decM (rN r) (rT r) a v (posM r)
/-! ### rule 1 -/
def cview (r : Rep) (x : Msg) : Bool := (x.1 == 3) && (x.2.2.2.1 == posM r)
def views (r : Rep) : List Int := Lib.compact (sortI (((rT r).filter (cview r)).map fun x => x.2.2.1))
def cand (r : Rep) (v : Int) : Option Msg := (decR r 3 v).bind (propS r)
def commitM (r : Rep) : Option Rep := ((views r).findSome? (cand r)).map fun p => (rI r, rN r, rV r, rT r, rS r, rL r ++ [mE p])
theorem filter_take {α : Type} (p : α → Bool) (l : List α) (i : Nat) (h : i < l.length) : (l.take (i + 1)).filter p = (l.take i).filter p ++ (if p l[i] then [l[i]] else []) := by
 rw [List.take_add_one, List.getElem?_eq_getElem h, List.filter_append]
 cases hp : p l[i] <;> simp [hp]
theorem commit_l0 {r : Rep} (h : Sz r) : Ev (fun n => replica_machine_commit.l0 n n 0 (rT r) ((rT r).length : Int) r []) (r, ((rT r).filter (cview r)).map fun x => x.2.2.1) := by
 refine loop_run (L := fun n j (c : Int × (Rep × List Int)) => replica_machine_commit.l0 n j c.1 (rT r) ((rT r).length : Int) c.2.1 c.2.2) (S := fun n c => replica_machine_commit.s0 n c.1 (rT r) ((rT r).length : Int) c.2.1 c.2.2) (fun _ _ _ => rfl)
  (fun i => ((i : Int), r, (((rT r).take i).filter (cview r)).map fun x => x.2.2.1)) (rT r).length _ (fun i hi => Ev.of fun n => ?_) (Ev.of fun n => ?_)
 ·have hl : ((((rT r).take i).filter (cview r)).map fun x => x.2.2.1).length ≤ 1000000000000 := by
   rw [List.length_map]
   exact Nat.le_trans (List.length_filter_le _ _) (Nat.le_trans (by rw [List.length_take]; omega) h.t)
  show replica_machine_commit.s0 n (i : Int) (rT r) ((rT r).length : Int) r ((((rT r).take i).filter (cview r)).map fun x => x.2.2.1) = some (.inl (((i + 1 : Nat) : Int), r, ((((rT r).take (i + 1)).filter (cview r)).map fun x => x.2.2.1)))
  rw [filter_take _ _ _ hi, List.map_append]
  unfold replica_machine_commit.s0
  rw [show decide ((i : Int) < ((rT r).length : Int)) = true from decide_eq_true (by omega), inbN hi, getD_int hi, wr64s i (by have := h.t; omega), room8 hl, position_eq]
  simp only [cond_true, AM.ck, Option.bind_some, cview]
  by_cases a : (rT r)[i].1 = 3 <;> by_cases b : (rT r)[i].2.2.2.1 = posM r <;> simp [a, b, Bool.cond_eq_ite]
 ·show replica_machine_commit.s0 n ((rT r).length : Int) (rT r) ((rT r).length : Int) r ((((rT r).take (rT r).length).filter (cview r)).map fun x => x.2.2.1) = _
  unfold replica_machine_commit.s0
  rw [show decide (((rT r).length : Int) < ((rT r).length : Int)) = false from decide_eq_false (by omega), List.take_length]
  rfl
theorem commit_s1 {r : Rep} (h : Ok r) (vs : List Int) (i : Nat) (hi : i < vs.length) (hl : vs.length < 4611686018427387904) : Ev (fun n => replica_machine_commit.s1 n (i : Int) (vs.length : Int) r vs) (match cand r vs[i] with
  | some p => .inr (.inl (true, rI r, rN r, rV r, rT r, rS r, vs, rL r ++ [mE p]))
  | none => .inl (((i + 1 : Nat) : Int), r, vs)) := by
 unfold replica_machine_commit.s1
 refine Ev.T (decide_eq_true (by omega)) (Ev.ck (inbN hi) ?_)
 rw [getD_int hi, wr64s i (by omega)]
 refine Ev.bind (Ev.ret (vs[i], posM r)) (Ev.bind (committed_ev h.n1 h.n2 h.took vs[i] (posM r)) ?_)
 unfold cand decR
 cases hd : decM (rN r) (rT r) 3 vs[i] (posM r) with
 | none => exact Ev.ret _
 | some s =>
  refine Ev.F rfl (Ev.bind (Ev.ret s) (Ev.bind (proposal_ev h.sz s) ?_))
  rw [Option.bind_some]
  cases hp : propS r s with
  | none => exact Ev.ret _
  | some p => exact Ev.T rfl (Ev.bind (Ev.of fun _ => clipE _) (Ev.ck (room48 h.sz.g) (Ev.ret _)))
theorem commit_ev {r : Rep} (h : Ok r) : Ev (fun n => replica_machine_commit n r) (match commitM r with
  | some q => (true, q)
  | none => (false, r)) := by
 have hvl : ((rT r).filter (cview r)).length ≤ 1000000000000 := Nat.le_trans (List.length_filter_le _ _) h.sz.t
 have hcl : (views r).length ≤ 1000000000000 := by
  unfold views
  refine Nat.le_trans (compact_le _) ?_
  rw [sortI_len, List.length_map]
  exact hvl
 unfold replica_machine_commit
 refine Ev.bind (commit_l0 h.sz) (Ev.bind (a := sortI (((rT r).filter (cview r)).map fun x => x.2.2.1)) (Ev.of fun n => ?_) (Ev.bind (a := views r) (Ev.of fun _ => rfl) ?_))
 ·unfold slices_Sort_int_int
  rw [show decide ((((rT r).filter (cview r)).map fun x => x.2.2.1).length < 4611686018427387904) = true from decide_eq_true (by rw [List.length_map]; omega)]
  rfl
 ·have hstep := commit_s1 h (views r)
  unfold commitM
  cases hf : (views r).findSome? (cand r) with
  | none =>
   have hl : Ev (fun n => replica_machine_commit.l1 n n 0 ((views r).length : Int) r (views r)) (.inr (r, views r)) := by
    refine loop_run (L := fun n j (c : Int × (Rep × List Int)) => replica_machine_commit.l1 n j c.1 ((views r).length : Int) c.2.1 c.2.2) (S := fun n c => replica_machine_commit.s1 n c.1 ((views r).length : Int) c.2.1 c.2.2) (fun _ _ _ => rfl)
     (fun i => ((i : Int), r, views r)) (views r).length _ (fun i hi => ?_) (Ev.of fun n => ?_)
    ·have := hstep i hi (by omega)
     rw [List.findSome?_eq_none_iff.1 hf _ (List.getElem_mem hi)] at this
     exact this
    ·show replica_machine_commit.s1 n ((views r).length : Int) ((views r).length : Int) r (views r) = _
     unfold replica_machine_commit.s1
     rw [show decide (((views r).length : Int) < ((views r).length : Int)) = false from decide_eq_false (by omega)]
     rfl
   exact Ev.bind hl (Ev.ret _)
  | some p =>
   obtain ⟨l1, v, l2, e, hv, hb⟩ := List.findSome?_eq_some_iff.1 hf
   have hj : l1.length < (views r).length := by rw [e]; simp
   have hget : (views r)[l1.length] = v := by simp [e]
   have hl : Ev (fun n => replica_machine_commit.l1 n n 0 ((views r).length : Int) r (views r)) (.inl (true, rI r, rN r, rV r, rT r, rS r, views r, rL r ++ [mE p])) := by
    refine loop_run (L := fun n j (c : Int × (Rep × List Int)) => replica_machine_commit.l1 n j c.1 ((views r).length : Int) c.2.1 c.2.2) (S := fun n c => replica_machine_commit.s1 n c.1 ((views r).length : Int) c.2.1 c.2.2) (fun _ _ _ => rfl)
     (fun i => ((i : Int), r, views r)) l1.length _ (fun i hi => ?_) ?_
    ·have := hstep i (by omega) (by omega)
     rw [hb _ (by rw [show (views r)[i] = l1[i] from by simp [e, List.getElem_append_left hi]]; exact List.getElem_mem hi)] at this
     exact this
    ·have := hstep l1.length hj (by omega)
     rw [hget, hv] at this
     exact this
   exact Ev.bind hl (Ev.ret _)

/-! ### rule 2 -/
def late (l : List Int) (x : Msg) : List Int := if (x.1 == 4) = true then l.set x.2.1.toNat (iMax (l.getD x.2.1.toNat 0) x.2.2.1) else l
def lates (r : Rep) : List Int := (rT r).foldl late (List.replicate (rN r).toNat 0)
theorem late_len (l : List Int) (x : Msg) : (late l x).length = l.length := by
 unfold late
 split <;> simp
theorem lates_len (ms : List Msg) (l : List Int) : (ms.foldl late l).length = l.length := by
 induction ms generalizing l with
 | nil => rfl
 | cons m ms ih => rw [List.foldl_cons, ih, late_len]
def jview (r : Rep) : Int := (sortI (lates r)).getD (rN r - 1 - maxF (rN r)).toNat 0
def joinM (r : Rep) : Option Rep := if jview r ≤ rV r then none else some (sendM (rI r, rN r, jview r, rT r, rS r, rL r) (4, 0, jview r, 0, 0, 0, (⟨#[]⟩ : ByteArray), ([] : List Int)))
theorem join_ev {r : Rep} (h : Ok r) : Ev (fun n => replica_machine_join n r) (match joinM r with
  | some q => (true, q)
  | none => (false, r)) := by
 have hn1 := h.n1
 have hn2 := h.n2
 have ht := h.sz.t
 have hlen : (sortI (lates r)).length = (rN r).toNat := by rw [sortI_len]; unfold lates; rw [lates_len, List.length_replicate]
 have hv : W .i64 ((W .i64 (rN r - 1)) - maxF (rN r)) = rN r - 1 - maxF (rN r) := by
  unfold maxF
  rw [wr64 (n := rN r - 1) (by omega) (by omega), wr64 (by omega) (by omega)]
 have hr : 0 ≤ rN r - 1 - maxF (rN r) ∧ rN r - 1 - maxF (rN r) < ((rN r).toNat : Int) := by unfold maxF; omega
 unfold replica_machine_join
 refine Ev.ck (decide_eq_true (show 0 ≤ rN r ∧ rN r ≤ rN r from ⟨by omega, by omega⟩)) (Ev.ck (show AM.room (rN r).toNat 8 = true from roomT (by omega) (by omega)) (Ev.bind (a := lates r) ?_ (Ev.bind (a := sortI (lates r)) (Ev.of fun n => ?_) (Ev.bind (Ev.of fun _ => maxF_eq hn1 hn2) ?_))))
 ·refine fold_run (L := fun n j (c : Int × List Int) => replica_machine_join.l0 n j c.1 (rT r) ((rT r).length : Int) c.2) (S := fun n c => replica_machine_join.s0 n c.1 (rT r) ((rT r).length : Int) c.2) (fun _ _ _ => rfl)
   (rT r) late (List.replicate (rN r).toNat 0) (lates r) (by omega) (fun i hi => Ev.of fun n => ?_) (Ev.of fun n => ?_)
  ·have hin := validM_in (h.took.ok (rT r)[i] (List.getElem_mem hi))
   have hb : inb (rT r)[i].2.1 (((rT r).take i).foldl late (List.replicate (rN r).toNat 0)).length = true := by
    rw [lates_len, List.length_replicate]
    exact inbT hin.2.1 (by have : mF (rT r)[i] < rN r := hin.2.2.1; show mF (rT r)[i] < _; omega)
   show replica_machine_join.s0 n (i : Int) (rT r) ((rT r).length : Int) (((rT r).take i).foldl late (List.replicate (rN r).toNat 0)) = _
   unfold replica_machine_join.s0
   rw [show decide ((i : Int) < ((rT r).length : Int)) = true from decide_eq_true (by omega), inbN hi, getD_int hi, wr64s i (by omega), hb]
   simp only [cond_true, AM.ck, late]
   cases ((rT r)[i].1 == 4) <;> rfl
  ·show replica_machine_join.s0 n ((rT r).length : Int) (rT r) ((rT r).length : Int) _ = _
   unfold replica_machine_join.s0
   rw [show decide (((rT r).length : Int) < ((rT r).length : Int)) = false from decide_eq_false (by omega)]
   rfl
 ·unfold slices_Sort_int_int
  rw [show decide ((lates r).length < 4611686018427387904) = true from decide_eq_true (by rw [sortI_len] at hlen; omega)]
  rfl
 ·simp only [hv]
  refine Ev.ck (inbT hr.1 (by rw [hlen]; exact hr.2)) ?_
  unfold joinM
  by_cases hj : jview r ≤ rV r
  ·rw [if_pos hj]
   exact Ev.T (decide_eq_true hj) (Ev.ret _)
  ·rw [if_neg hj]
   refine Ev.F (decide_eq_false hj) (Ev.bind (Ev.of fun _ => send_eq (r := (rI r, rN r, jview r, rT r, rS r, rL r)) ⟨h.sz.t, h.sz.s, h.sz.g⟩ _) (Ev.ret _))

/-! ### the lock -/
def lockG (r : Rep) (k x : Msg) : Msg := if ((x.1 == 3) && ((x.2.2.2.1 == posM r) && decide (x.2.2.1 > k.2.2.1))) = true then x else k
def lockOf (r : Rep) : Msg := (rS r).foldl (lockG r) (0, 0, -1, 0, 0, 0, (⟨#[]⟩ : ByteArray), ([] : List Int))
/-- Does this message say that the sum was prepared behind the lock? -/
def behindM (r : Rep) (s : Int) (x : Msg) : Bool := (x.1 == 2) && ((x.2.2.2.1 == posM r) && (decide (x.2.2.1 > mV (lockOf r)) && (decide (x.2.2.1 < rV r) && (decR r 2 x.2.2.1 == some s))))
def acceptM (r : Rep) (s : Int) : Bool := decide (mV (lockOf r) < 0) || ((mS (lockOf r) == s) || (rT r).any (behindM r s))
theorem lock_ev {r : Rep} (h : Sz r) : Ev (fun n => replica_machine_acceptable.l1 n n 0 (rS r) ((rS r).length : Int) (0, 0, (-1), 0, 0, 0, (⟨#[]⟩ : ByteArray), ([] : List Int)) r) (lockOf r, r) := by
 have hs := h.s
 have hfst : ∀ (l : List Msg) (k : Msg), l.foldl (fun (c : Msg × Rep) x => (lockG r c.1 x, c.2)) (k, r) = (l.foldl (lockG r) k, r) := by
  intro l
  induction l with
  | nil => intro k; rfl
  | cons m l ih => intro k; exact ih _
 refine fold_run (L := fun n j (c : Int × (Msg × Rep)) => replica_machine_acceptable.l1 n j c.1 (rS r) ((rS r).length : Int) c.2.1 c.2.2) (S := fun n c => replica_machine_acceptable.s1 n c.1 (rS r) ((rS r).length : Int) c.2.1 c.2.2) (fun _ _ _ => rfl)
  (rS r) (fun c x => (lockG r c.1 x, c.2)) ((0, 0, (-1), 0, 0, 0, (⟨#[]⟩ : ByteArray), ([] : List Int)), r) _ (by omega) (fun i hi => Ev.of fun n => ?_) (Ev.of fun n => ?_)
 ·rw [hfst]
  show replica_machine_acceptable.s1 n (i : Int) (rS r) ((rS r).length : Int) _ r = _
  generalize ((rS r).take i).foldl (lockG r) _ = k
  unfold replica_machine_acceptable.s1 replica_machine_acceptable.j0
  rw [show decide ((i : Int) < ((rS r).length : Int)) = true from decide_eq_true (by omega), inbN hi, getD_int hi, wr64s i (by omega)]
  simp only [cond_true, AM.ck, lockG, position_eq, Option.bind_some]
  cases ((rS r)[i].1 == 3) with
  | false => rfl
  | true =>
   cases ((rS r)[i].2.2.2.1 == posM r) with
   | false => rfl
   | true =>
    simp only [cond_true, Bool.true_and]
    by_cases hd : (rS r)[i].2.2.1 > k.2.2.1
    ·rw [show decide ((rS r)[i].2.2.1 > k.2.2.1) = true from decide_eq_true hd]; rfl
    ·rw [show decide ((rS r)[i].2.2.1 > k.2.2.1) = false from decide_eq_false hd]; rfl
 ·rw [hfst]
  show replica_machine_acceptable.s1 n ((rS r).length : Int) (rS r) ((rS r).length : Int) _ r = _
  unfold replica_machine_acceptable.s1
  rw [show decide (((rS r).length : Int) < ((rS r).length : Int)) = false from decide_eq_false (by omega)]
  rfl
theorem behind_ev {r : Rep} (h : Ok r) (s : Int) (x : Msg) : Ev (fun n => replica_machine_acceptable_1 n x (lockOf r) s r) (behindM r s x) := by
 unfold replica_machine_acceptable_1 replica_machine_acceptable_1.j0 behindM
 simp only [position_eq, Option.bind_some]
 cases h1 : (x.1 == 2) with
 | false => rw [show (x.1 != 2) = true from by simp [bne, h1]]; exact Ev.ret _
 | true =>
  rw [show (x.1 != 2) = false from by simp [bne, h1]]
  cases h2 : (x.2.2.2.1 == posM r) with
  | false => rw [show (x.2.2.2.1 != posM r) = true from by simp [bne, h2]]; exact Ev.ret _
  | true =>
   rw [show (x.2.2.2.1 != posM r) = false from by simp [bne, h2]]
   by_cases h3 : x.2.2.1 > mV (lockOf r)
   ·rw [show decide (x.2.2.1 ≤ (lockOf r).2.2.1) = false from decide_eq_false (by show ¬ (x.2.2.1 ≤ mV (lockOf r)); omega), decide_eq_true h3]
    by_cases h4 : x.2.2.1 < rV r
    ·rw [show decide (x.2.2.1 ≥ r.2.2.1) = false from decide_eq_false (by show ¬ (x.2.2.1 ≥ rV r); omega), decide_eq_true h4]
     refine Ev.bind (Ev.ret _) (Ev.bind (Ev.ret (x.2.2.1, posM r)) (Ev.bind (prepared_ev h.n1 h.n2 h.took x.2.2.1 (posM r)) ?_))
     show Ev _ (decM (rN r) (rT r) 2 x.2.2.1 (posM r) == some s)
     cases hd : decM (rN r) (rT r) 2 x.2.2.1 (posM r) with
     | none => exact Ev.ret _
     | some q => exact Ev.cast (Ev.ret _) (by simp)
    ·rw [show decide (x.2.2.1 ≥ r.2.2.1) = true from decide_eq_true (by show x.2.2.1 ≥ rV r; omega), decide_eq_false h4]
     exact Ev.ret _
   ·rw [show decide (x.2.2.1 ≤ (lockOf r).2.2.1) = true from decide_eq_true (by show x.2.2.1 ≤ mV (lockOf r); omega), decide_eq_false h3]
    exact Ev.ret _
theorem accept_ev {r : Rep} (h : Ok r) (s : Int) : Ev (fun n => replica_machine_acceptable n s r) (acceptM r s, r) := by
 unfold replica_machine_acceptable replica_machine_acceptable.j2
 refine Ev.bind (lock_ev h.sz) ?_
 unfold acceptM
 by_cases h1 : mV (lockOf r) < 0
 ·rw [show decide ((lockOf r).2.2.1 < 0) = true from decide_eq_true h1]
  exact Ev.ret _
 ·rw [show decide ((lockOf r).2.2.1 < 0) = false from decide_eq_false h1]
  cases h2 : (mS (lockOf r) == s) with
  | true => exact Ev.ret _
  | false =>
   have ht := h.sz.t
   have hf := find_run (L := fun n j (c : Int × (Msg × Int × Rep)) => api_Message_49_5.l0 n j c.1 (rT r) ((rT r).length : Int) c.2.1 c.2.2.1 c.2.2.2) (S := fun n c => api_Message_49_5.s0 n c.1 (rT r) ((rT r).length : Int) c.2.1 c.2.2.1 c.2.2.2) (fun _ _ _ => rfl)
    (rT r) (lockOf r, s, r) (behindM r s) (by omega) (fun i hi => ?_) (Ev.of fun n => ?_)
   ·refine Ev.bind (Ev.ret _) ?_
    refine Ev.bind (a := ((rT r).any (behindM r s), lockOf r, s, r)) ?_ (Ev.ret _)
    unfold api_Message_24_3 api_Message_49_5
    refine Ev.bind (Ev.bind hf (b := (match (rT r).findIdx? (behindM r s) with | some j => ((j : Int), lockOf r, s, r) | none => (-1, lockOf r, s, r))) ?_) ?_
    ·cases (rT r).findIdx? (behindM r s) with
     | none => exact Ev.ret _
     | some j => exact Ev.ret _
    ·rw [← idx_any]
     cases (rT r).findIdx? (behindM r s) with
     | none => exact Ev.ret _
     | some j => exact Ev.cast (Ev.ret _) (by simp)
   ·show Ev (fun n => api_Message_49_5.s0 n (i : Int) (rT r) ((rT r).length : Int) (lockOf r) s r) _
    unfold api_Message_49_5.s0
    refine Ev.T (decide_eq_true (by omega)) (Ev.ck (inbN hi) ?_)
    rw [getD_int hi, wr64s i (by omega)]
    refine Ev.bind (behind_ev h s (rT r)[i]) ?_
    cases behindM r s (rT r)[i] with
    | true => exact Ev.ret _
    | false => exact Ev.ret _
   ·show api_Message_49_5.s0 n ((rT r).length : Int) (rT r) ((rT r).length : Int) (lockOf r) s r = _
    unfold api_Message_49_5.s0
    rw [show decide (((rT r).length : Int) < ((rT r).length : Int)) = false from decide_eq_false (by omega)]
    rfl

/-! ### rules 3 and 4 -/
def prepareM (r : Rep) : Option Rep := match propV r with
 | none => none
 | some p => if posM r ≥ 1000 then none else if sentM r 2 = true then none else if acceptM r (mS p) = false then none else some (sendM r (2, 0, rV r, posM r, mS p, 0, (⟨#[]⟩ : ByteArray), ([] : List Int)))
theorem prepare_ev {r : Rep} (h : Ok r) : Ev (fun n => replica_machine_prepare n r) (match prepareM r with
  | some q => (true, q)
  | none => (false, r)) := by
 unfold replica_machine_prepare replica_machine_prepare.j0
 refine Ev.bind (proposal2_ev h.sz) ?_
 unfold prepareM
 cases hp : propV r with
 | none => exact Ev.ret _
 | some p =>
  simp only [position_eq, Option.bind_some]
  by_cases h1 : posM r ≥ 1000
  ·rw [if_pos h1]
   refine Ev.bind (a := (Sum.inr (false, r) : Rep ⊕ (Bool × Rep))) (Ev.F rfl (Ev.T (decide_eq_true h1) (Ev.ret _))) (Ev.ret _)
  ·rw [if_neg h1]
   cases h2 : sentM r 2 with
   | true =>
    rw [if_pos rfl]
    refine Ev.bind (a := (Sum.inr (false, r) : Rep ⊕ (Bool × Rep))) (Ev.F rfl (Ev.F (decide_eq_false h1) (Ev.bind (sent_ev h.sz 2) (Ev.T h2 (Ev.ret _))))) (Ev.ret _)
   | false =>
    rw [if_neg (by decide)]
    cases h3 : acceptM r (mS p) with
    | false =>
     rw [if_pos rfl]
     refine Ev.bind (a := (Sum.inr (false, r) : Rep ⊕ (Bool × Rep))) (Ev.F rfl (Ev.F (decide_eq_false h1) (Ev.bind (sent_ev h.sz 2) (Ev.F h2 (Ev.bind (accept_ev h (mS p)) (Ev.T (by rw [h3]; rfl) (Ev.ret _))))))) (Ev.ret _)
    | true =>
     rw [if_neg (by decide)]
     refine Ev.bind (a := (Sum.inl r : Rep ⊕ (Bool × Rep))) (Ev.F rfl (Ev.F (decide_eq_false h1) (Ev.bind (sent_ev h.sz 2) (Ev.F h2 (Ev.bind (accept_ev h (mS p)) (Ev.F (by rw [h3]; rfl) (Ev.ret _))))))) ?_
     exact Ev.bind (Ev.of fun _ => send_eq h.sz _) (Ev.ret _)
def lockM (r : Rep) : Option Rep := match decR r 2 (rV r) with
 | none => none
 | some s => if sentM r 3 = true then none else match propS r s with
  | none => none
  | some _ => some (sendM r (3, 0, rV r, posM r, s, 0, (⟨#[]⟩ : ByteArray), ([] : List Int)))
theorem lockR_ev {r : Rep} (h : Ok r) : Ev (fun n => replica_machine_lock n r) (match lockM r with
  | some q => (true, q)
  | none => (false, r)) := by
 unfold replica_machine_lock replica_machine_lock.j0
 refine Ev.bind (Ev.ret (rV r, posM r)) (Ev.bind (prepared_ev h.n1 h.n2 h.took (rV r) (posM r)) ?_)
 unfold lockM decR
 cases hd : decM (rN r) (rT r) 2 (rV r) (posM r) with
 | none => exact Ev.ret _
 | some s =>
  cases h2 : sentM r 3 with
  | true =>
   simp only [if_true]
   refine Ev.bind (a := (Sum.inr (false, r) : Rep ⊕ (Bool × Rep))) (Ev.F rfl (Ev.bind (sent_ev h.sz 3) (Ev.T h2 (Ev.ret _)))) (Ev.ret _)
  | false =>
   simp only [Bool.false_eq_true, if_false]
   refine Ev.bind (a := (Sum.inl r : Rep ⊕ (Bool × Rep))) (Ev.F rfl (Ev.bind (sent_ev h.sz 3) (Ev.F h2 (Ev.ret _)))) (Ev.bind (Ev.ret s) (Ev.bind (proposal_ev h.sz s) ?_))
   cases hp : propS r s with
   | none => exact Ev.ret _
   | some p => exact Ev.F rfl (Ev.bind (Ev.ret (posM r)) (Ev.bind (Ev.of fun _ => send_eq h.sz _) (Ev.ret _)))

/-! ### one step -/
def stepM (r : Rep) : Option Rep := match commitM r with
 | some q => some q
 | none => match joinM r with
  | some q => some q
  | none => match prepareM r with
   | some q => some q
   | none => lockM r
theorem step_ev {r : Rep} (h : Ok r) : Ev (fun n => replica_machine_progress.s0 n r) (match stepM r with
  | some q => .inl q
  | none => .inr r) := by
 unfold replica_machine_progress.s0 replica_machine_bool replica_machine_bool_74 replica_machine_progress_1 replica_machine_progress_1_2 replica_machine_progress_1_3 replica_machine_progress_1_4
 have hc := commit_ev h
 have hj := join_ev h
 have hp := prepare_ev h
 have hl := lockR_ev h
 unfold stepM
 cases c1 : commitM r with
 | some q =>
  rw [c1] at hc
  exact Ev.bind (Ev.bind (Ev.bind (Ev.bind hc (Ev.ret _)) (Ev.ret _)) (Ev.ret _)) (Ev.ret _)
 | none =>
  rw [c1] at hc
  cases c2 : joinM r with
  | some q =>
   rw [c2] at hj
   exact Ev.bind (Ev.bind (Ev.bind (Ev.bind hc (Ev.ret _)) (Ev.bind (Ev.bind hj (Ev.ret _)) (Ev.ret _))) (Ev.ret _)) (Ev.ret _)
  | none =>
   rw [c2] at hj
   cases c3 : prepareM r with
   | some q =>
    rw [c3] at hp
    exact Ev.bind (Ev.bind (Ev.bind (Ev.bind hc (Ev.ret _)) (Ev.bind (Ev.bind hj (Ev.ret _)) (Ev.bind (Ev.bind hp (Ev.ret _)) (Ev.ret _)))) (Ev.ret _)) (Ev.ret _)
   | none =>
    rw [c3] at hp
    cases c4 : lockM r with
    | some q =>
     rw [c4] at hl
     exact Ev.bind (Ev.bind (Ev.bind (Ev.bind hc (Ev.ret _)) (Ev.bind (Ev.bind hj (Ev.ret _)) (Ev.bind (Ev.bind hp (Ev.ret _)) (Ev.bind (Ev.bind hl (Ev.ret _)) (Ev.ret _))))) (Ev.ret _)) (Ev.ret _)
    | none =>
     rw [c4] at hl
     exact Ev.bind (Ev.bind (Ev.bind (Ev.bind hc (Ev.ret _)) (Ev.bind (Ev.bind hj (Ev.ret _)) (Ev.bind (Ev.bind hp (Ev.ret _)) (Ev.bind (Ev.bind hl (Ev.ret _)) (Ev.ret _))))) (Ev.ret _)) (Ev.ret _)
end Go.Proofs.YtijhdekfbjafgaaGreat
namespace Go.Proofs.YtijhdekfbjafgaaGreat
open Go Go.RowKit Go.Proofs.YtijhdekfbjafgaaGreat.RW
open Go.Proofs.YtijhdekfbjafgaaGreat.AM hiding lk
set_option linter.unusedVariables false
set_option maxRecDepth 100000
abbrev zE : Ent := (0, (⟨#[]⟩ : ByteArray), ([] : List Int))
def nb (b : Bool) : Nat := if b then 0 else 1
theorem nb_le (b : Bool) : nb b ≤ 1 := by cases b <;> decide
/-- How many steps are left. -/
def mu (r : Rep) : Nat := 4 * (1000 - (rL r).length) + 4 * (1048576 - rV r).toNat + (nb (sentM r 1) + nb (sentM r 2) + nb (sentM r 3))
def C0 : Nat := 5000000
def bytesE (e : Ent) : Prop := ∀ y ∈ e.2.2, byte y
/-- One vote of a kind for a slot. -/
def twice (a b : Msg) : Prop := mK a ≠ 4 ∧ mK a = mK b ∧ mV a = mV b ∧ mQ a = mQ b
structure Inv (r : Rep) : Prop where
 n1 : 1 ≤ rN r
 n2 : rN r ≤ 13
 i0 : 0 ≤ rI r
 i1 : rI r < rN r
 v0 : 0 ≤ rV r
 v1 : rV r ≤ 1048576
 took : GoodM (rN r) (rT r)
 tl : (rT r).length ≤ 1000000
 gl : (rL r).length ≤ 1000
 ge : ∀ e ∈ rL r, encOk e = true
 said : ∀ m ∈ rS r, validM (rN r) m = true ∧ mF m = rI r
 uniq : (rS r).Pairwise (fun a b => ¬ twice a b)
 size : (rS r).length + mu r ≤ C0
 bt : ∀ m ∈ rT r, bytesE (mE m)
 bs : ∀ m ∈ rS r, bytesE (mE m)
 bl : ∀ e ∈ rL r, bytesE e
theorem Inv.sz {r : Rep} (h : Inv r) : Sz r := ⟨by have := h.tl; omega, by have := h.size; unfold C0 at this; omega, by have := h.gl; omega⟩
theorem Inv.ok {r : Rep} (h : Inv r) : Ok r := ⟨h.n1, h.n2, h.took, h.sz⟩

/-! ### what the rules' searches find -/
theorem propS_some {r : Rep} {s : Int} {p : Msg} (h : propS r s = some p) : p ∈ rT r ∧ mK p = 1 ∧ mQ p = posM r ∧ mS p = s := by
 have h2 := List.find?_some h
 simp only [Bool.and_eq_true, beq_iff_eq] at h2
 exact ⟨List.mem_of_find?_eq_some h, h2.1, h2.2.1, h2.2.2⟩
theorem propV_some {r : Rep} {p : Msg} (h : propV r = some p) : p ∈ rT r ∧ mK p = 1 ∧ mQ p = posM r ∧ mV p = rV r := by
 have h2 := List.find?_some h
 simp only [Bool.and_eq_true, beq_iff_eq] at h2
 exact ⟨List.mem_of_find?_eq_some h, h2.1, h2.2.1, h2.2.2⟩
theorem mem_compact {l : List Int} {x : Int} (h : x ∈ Lib.compact l) : x ∈ l := by
 unfold Lib.compact Lib.compactUpTo at h
 obtain ⟨j, hj, rfl⟩ := List.mem_map.1 h
 have := List.mem_range.1 (List.mem_filter.1 hj).1
 rw [List.getElem!_toArray, getElem!_pos l j this]
 exact List.getElem_mem this
theorem late_get (l : List Int) (x : Msg) (j : Nat) (w : Int) (h : (late l x)[j]? = some w) : l[j]? = some w ∨ (mK x = 4 ∧ mV x = w) := by
 unfold late at h
 split at h
 ·rename_i h4
  by_cases e : x.2.1.toNat = j
  ·subst e
   rw [List.getElem?_set_self'] at h
   by_cases hj : x.2.1.toNat < l.length
   ·rw [List.getElem?_eq_getElem hj] at h
    have h : iMax (l.getD x.2.1.toNat 0) x.2.2.1 = w := by simpa using h
    unfold iMax at h
    by_cases hm : l.getD x.2.1.toNat 0 ≥ x.2.2.1
    ·left
     rw [List.getElem?_eq_getElem hj]
     rw [getD_lt hj] at h hm
     congr 1
     split at h <;> omega
    ·right
     refine ⟨by simpa using h4, ?_⟩
     show x.2.2.1 = w
     split at h <;> omega
   ·rw [List.getElem?_eq_none (by omega)] at h
    cases h
  ·rw [List.getElem?_set_ne e] at h
   exact .inl h
 ·exact .inl h
theorem lates_get : ∀ (ms : List Msg) (l : List Int) (w : Int), w ∈ ms.foldl late l → w ∈ l ∨ ∃ m ∈ ms, mK m = 4 ∧ mV m = w
 | [], l, w, h => .inl h
 | m :: ms, l, w, h => by
  rcases lates_get ms (late l m) w h with h | ⟨x, hx, h⟩
  ·obtain ⟨j, hj⟩ := List.mem_iff_getElem?.1 h
   rcases late_get l m j w hj with h | h
   ·exact .inl (List.mem_of_getElem? h)
   ·exact .inr ⟨m, List.mem_cons_self, h⟩
  ·exact .inr ⟨x, List.mem_cons_of_mem _ hx, h⟩
theorem jview_mem {r : Rep} (h : Inv r) (hj : rV r < jview r) : ∃ m ∈ rT r, mK m = 4 ∧ mV m = jview r := by
 have hn1 := h.n1
 have hn2 := h.n2
 have hlen : (sortI (lates r)).length = (rN r).toNat := by rw [sortI_len]; unfold lates; rw [lates_len, List.length_replicate]
 have hr : (rN r - 1 - maxF (rN r)).toNat < (sortI (lates r)).length := by rw [hlen]; unfold maxF; omega
 have hm : jview r ∈ lates r := by
  unfold jview
  rw [getD_lt hr]
  exact (sortI_perm _).mem_iff.1 (List.getElem_mem hr)
 rcases lates_get _ _ _ hm with h0 | h0
 ·have := (List.mem_replicate.1 h0).2
  have := h.v0
  omega
 ·exact h0

/-! ### the four rules, as relations -/
inductive Stp : Rep → Rep → Prop where
 | commit {r : Rep} (p : Msg) (v : Int) (hp : p ∈ rT r) (k : mK p = 1) (q : mQ p = posM r) (d : decR r 3 v = some (mS p)) : Stp r (rI r, rN r, rV r, rT r, rS r, rL r ++ [mE p])
 | join {r : Rep} (w : Int) (m : Msg) (hm : m ∈ rT r) (k : mK m = 4) (e : mV m = w) (hw : rV r < w) : Stp r (sendM (rI r, rN r, w, rT r, rS r, rL r) (4, 0, w, 0, 0, zE))
 | prepare {r : Rep} (p : Msg) (hp : p ∈ rT r) (k : mK p = 1) (q : mQ p = posM r) (v : mV p = rV r) (h2 : sentM r 2 = false) (ha : acceptM r (mS p) = true) : Stp r (sendM r (2, 0, rV r, posM r, mS p, zE))
 | lock {r : Rep} (p : Msg) (hp : p ∈ rT r) (k : mK p = 1) (q : mQ p = posM r) (h3 : sentM r 3 = false) (d : decR r 2 (rV r) = some (mS p)) : Stp r (sendM r (3, 0, rV r, posM r, mS p, zE))
theorem step_stp {r q : Rep} (h : Inv r) (hs : stepM r = some q) : Stp r q := by
 unfold stepM at hs
 split at hs
 ·rename_i c1
  obtain rfl := Option.some.inj hs
  unfold commitM at c1
  obtain ⟨p, hp, rfl⟩ := Option.map_eq_some_iff.1 c1
  obtain ⟨v, _, hv⟩ := List.exists_of_findSome?_eq_some hp
  unfold cand at hv
  obtain ⟨s, hs, hp⟩ := Option.bind_eq_some_iff.1 hv
  obtain ⟨a, b, c, d⟩ := propS_some hp
  exact .commit p v a b c (by rw [hs, d])
 ·split at hs
  ·rename_i c2
   obtain rfl := Option.some.inj hs
   unfold joinM at c2
   split at c2
   ·cases c2
   ·obtain rfl := Option.some.inj c2
    obtain ⟨m, hm, k, e⟩ := jview_mem h (by omega)
    exact .join (jview r) m hm k e (by omega)
  ·split at hs
   ·rename_i c3
    obtain rfl := Option.some.inj hs
    unfold prepareM at c3
    split at c3
    ·cases c3
    ·rename_i p hp
     split at c3
     ·cases c3
     ·split at c3
      ·cases c3
      ·split at c3
       ·cases c3
       ·rename_i h1 h2 h3
        obtain rfl := Option.some.inj c3
        obtain ⟨a, b, c, d⟩ := propV_some hp
        exact .prepare p a b c d (by simpa using h2) (by simpa using h3)
   ·unfold lockM at hs
    split at hs
    ·cases hs
    ·rename_i s hd
     split at hs
     ·cases hs
     ·split at hs
      ·cases hs
      ·rename_i h3 _ p hp
       obtain rfl := Option.some.inj hs
       obtain ⟨a, b, c, rfl⟩ := propS_some hp
       exact .lock p a b c (by simpa using h3) hd

/-! ### the invariant stands -/
theorem sent_send (r : Rep) (m : Msg) (k : Int) : sentM (sendM r m) k = (sentM r k || ((m.1 == k) && ((m.2.2.1 == rV r) && (m.2.2.2.1 == posM r)))) := by
 unfold sentM sendM
 rw [List.any_append]
 simp only [List.any_cons, List.any_nil, Bool.or_false]
 rfl
theorem sent_false {r : Rep} {k : Int} (h : sentM r k = false) : ∀ x ∈ rS r, ¬ (mK x = k ∧ mV x = rV r ∧ mQ x = posM r) := by
 intro x hx hh
 have := List.any_eq_false.1 h x hx
 simp only [Bool.and_eq_true, beq_iff_eq] at this
 exact this hh
theorem valid_zero {n : Int} {k f v q s : Int} (hn : 1 ≤ n ∧ n ≤ 13) (hf : 0 ≤ f ∧ f < n) (hv : 0 ≤ v ∧ v ≤ 1048576) (hq : 0 ≤ q ∧ q < 1000) (hk : k = 2 ∨ k = 3 ∨ (k = 4 ∧ q = 0 ∧ s = 0)) : validM n (k, f, v, q, s, zE) = true := by
 unfold validM
 rw [(inM_iff n (k, f, v, q, s, zE)).2 ⟨hn, hf.1, hf.2, hv.1, hv.2, hq.1, hq.2⟩, Bool.true_and]
 have hb : bareE zE = true := (bareE_iff zE).2 rfl
 rcases hk with rfl | rfl | ⟨rfl, rfl, rfl⟩
 ·rw [if_neg (show ¬ ((2 : Int) = 1) by decide), if_pos (.inl rfl)]; exact hb
 ·rw [if_neg (show ¬ ((3 : Int) = 1) by decide), if_pos (.inr rfl)]; exact hb
 ·rw [if_neg (show ¬ ((4 : Int) = 1) by decide), if_neg (show ¬ ((4 : Int) = 2 ∨ (4 : Int) = 3) by decide), if_pos rfl]
  simp only [mE, hb, mQ, mS, beq_self_eq_true, Bool.and_self]
/-- The bounds of a valid message, in short. -/
theorem Inv.tin {r : Rep} (h : Inv r) {m : Msg} (hm : m ∈ rT r) : 0 ≤ mF m ∧ mF m < rN r ∧ 0 ≤ mV m ∧ mV m ≤ 1048576 ∧ 0 ≤ mQ m ∧ mQ m < 1000 := (validM_in (h.took.ok m hm)).2
theorem valid_prop {n : Int} {m : Msg} (h : validM n m = true) (k : mK m = 1) : encOk (mE m) = true ∧ mF m = leadM n (mV m) ∧ crc (encB (mE m)) = mS m := by
 unfold validM at h
 rw [if_pos k] at h
 simp only [Bool.and_eq_true, beq_iff_eq] at h
 exact h.2
/-- What sending does to the invariant. -/
theorem Inv.send {r : Rep} (h : Inv r) (m : Msg) (hv : validM (rN r) (m.1, rI r, m.2.2) = true) (hb : bytesE (mE m)) (ho : mK m ≠ 4 → ∀ x ∈ rS r, ¬ (mK x = mK m ∧ mV x = mV m ∧ mQ x = mQ m)) (hs : (rS r).length + 1 + mu (sendM r m) ≤ C0) : Inv (sendM r m) := by
 refine ⟨h.n1, h.n2, h.i0, h.i1, h.v0, h.v1, h.took, h.tl, h.gl, h.ge, fun x hx => ?_, ?_, ?_, h.bt, fun x hx => ?_, h.bl⟩
 ·rcases List.mem_append.1 hx with hx | hx
  ·exact h.said x hx
  ·rw [List.mem_singleton.1 hx]
   exact ⟨hv, rfl⟩
 ·refine List.pairwise_append.2 ⟨h.uniq, List.pairwise_singleton _ _, fun a ha b hb ht => ?_⟩
  rw [List.mem_singleton.1 hb] at ht
  obtain ⟨t1, t2, t3, t4⟩ := ht
  exact ho (by rw [t2] at t1; exact t1) a ha ⟨t2, t3, t4⟩
 ·show (rS r ++ [_]).length + _ ≤ _
  rw [List.length_append]
  exact hs
 ·rcases List.mem_append.1 hx with hx | hx
  ·exact h.bs x hx
  ·rw [List.mem_singleton.1 hx]
   exact hb
theorem bytes_zE : bytesE zE := fun y hy => by cases hy
theorem Stp.inv {r q : Rep} (h : Inv r) (hs : Stp r q) : Inv q ∧ mu q < mu r ∧ (rS q).length + mu q ≤ (rS r).length + mu r := by
 have hsz := h.size
 have hgl := h.gl
 have hv0 := h.v0
 have hv1 := h.v1
 cases hs with
 | commit p v hp k qq d =>
  have hin := h.tin hp
  have hpos : (rL r).length < 1000 := by have := hin.2.2.2.2.2; rw [qq] at this; unfold posM at this; omega
  have hmu : mu (rI r, rN r, rV r, rT r, rS r, rL r ++ [mE p]) + 1 ≤ mu r := by
   have := nb_le (sentM (rI r, rN r, rV r, rT r, rS r, rL r ++ [mE p]) 1)
   have := nb_le (sentM (rI r, rN r, rV r, rT r, rS r, rL r ++ [mE p]) 2)
   have := nb_le (sentM (rI r, rN r, rV r, rT r, rS r, rL r ++ [mE p]) 3)
   unfold mu
   simp only [rL, List.length_append, List.length_singleton, rV] at *
   omega
  have hvp := valid_prop (h.took.ok p hp) k
  refine ⟨⟨h.n1, h.n2, h.i0, h.i1, h.v0, h.v1, h.took, h.tl, ?_, fun e he => ?_, h.said, h.uniq, ?_, h.bt, h.bs, fun e he => ?_⟩, by omega, ?_⟩
  ·show (rL r ++ [mE p]).length ≤ 1000
   rw [List.length_append]; exact hpos
  ·rcases List.mem_append.1 he with he | he
   ·exact h.ge e he
   ·rw [List.mem_singleton.1 he]; exact hvp.1
  ·show (rS r).length + _ ≤ _
   omega
  ·rcases List.mem_append.1 he with he | he
   ·exact h.bl e he
   ·rw [List.mem_singleton.1 he]; exact h.bt p hp
  ·show (rS r).length + _ ≤ _
   omega
 | join w m hm k e hw =>
  have hin := h.tin hm
  rw [e] at hin
  have hmu : mu (sendM (rI r, rN r, w, rT r, rS r, rL r) (4, 0, w, 0, 0, zE)) + 1 ≤ mu r := by
   have := nb_le (sentM (sendM (rI r, rN r, w, rT r, rS r, rL r) (4, 0, w, 0, 0, zE)) 1)
   have := nb_le (sentM (sendM (rI r, rN r, w, rT r, rS r, rL r) (4, 0, w, 0, 0, zE)) 2)
   have := nb_le (sentM (sendM (rI r, rN r, w, rT r, rS r, rL r) (4, 0, w, 0, 0, zE)) 3)
   have e1 : rV (sendM (rI r, rN r, w, rT r, rS r, rL r) (4, 0, w, 0, 0, zE)) = w := rfl
   have e2 : rL (sendM (rI r, rN r, w, rT r, rS r, rL r) (4, 0, w, 0, 0, zE)) = rL r := rfl
   unfold mu
   rw [e1, e2]
   omega
  have hmu2 : mu (rI r, rN r, w, rT r, rS r, rL r) + 1 ≤ mu r := by
   have := nb_le (sentM (rI r, rN r, w, rT r, rS r, rL r) 1)
   have := nb_le (sentM (rI r, rN r, w, rT r, rS r, rL r) 2)
   have := nb_le (sentM (rI r, rN r, w, rT r, rS r, rL r) 3)
   have e1 : rV (rI r, rN r, w, rT r, rS r, rL r) = w := rfl
   have e2 : rL (rI r, rN r, w, rT r, rS r, rL r) = rL r := rfl
   unfold mu
   rw [e1, e2]
   omega
  have h' : Inv (rI r, rN r, w, rT r, rS r, rL r) := ⟨h.n1, h.n2, h.i0, h.i1, by show 0 ≤ w; omega, by show w ≤ _; omega, h.took, h.tl, h.gl, h.ge, h.said, h.uniq, by show (rS r).length + _ ≤ _; omega, h.bt, h.bs, h.bl⟩
  refine ⟨h'.send _ (valid_zero ⟨h.n1, h.n2⟩ ⟨h.i0, h.i1⟩ ⟨by omega, by omega⟩ ⟨by omega, by omega⟩ (.inr (.inr ⟨rfl, rfl, rfl⟩))) bytes_zE (fun hh => absurd rfl hh) ?_, by omega, ?_⟩
  ·show (rS r).length + 1 + _ ≤ _
   omega
  ·show (rS r ++ [_]).length + _ ≤ _
   rw [List.length_append, List.length_singleton]
   omega
 | prepare p hp k qq v h2 ha =>
  have hin := h.tin hp
  have hmu : mu (sendM r (2, 0, rV r, posM r, mS p, zE)) + 1 = mu r := by
   unfold mu
   rw [sent_send, sent_send, sent_send, h2]
   simp only [rL, rV, sendM, beq_self_eq_true, Bool.and_self, Bool.or_true]
   rw [show ((2 : Int) == 1) = false from rfl, show ((2 : Int) == 3) = false from rfl]
   simp only [Bool.false_and, Bool.or_false]
   show _ + (_ + 0 + _) + 1 = _ + (_ + 1 + _)
   omega
  refine ⟨h.send _ (valid_zero ⟨h.n1, h.n2⟩ ⟨h.i0, h.i1⟩ ⟨h.v0, h.v1⟩ ⟨by rw [← qq]; omega, by rw [← qq]; omega⟩ (.inl rfl)) bytes_zE (fun _ => sent_false h2) (by omega), by omega, ?_⟩
  show (rS r ++ [_]).length + _ ≤ _
  rw [List.length_append, List.length_singleton]
  omega
 | lock p hp k qq h3 d =>
  have hin := h.tin hp
  have hmu : mu (sendM r (3, 0, rV r, posM r, mS p, zE)) + 1 = mu r := by
   unfold mu
   rw [sent_send, sent_send, sent_send, h3]
   simp only [rL, rV, sendM, beq_self_eq_true, Bool.and_self, Bool.or_true]
   rw [show ((3 : Int) == 1) = false from rfl, show ((3 : Int) == 2) = false from rfl]
   simp only [Bool.false_and, Bool.or_false]
   show _ + (_ + _ + 0) + 1 = _ + (_ + _ + 1)
   omega
  refine ⟨h.send _ (valid_zero ⟨h.n1, h.n2⟩ ⟨h.i0, h.i1⟩ ⟨h.v0, h.v1⟩ ⟨by rw [← qq]; omega, by rw [← qq]; omega⟩ (.inr (.inl rfl))) bytes_zE (fun _ => sent_false h3) (by omega), by omega, ?_⟩
  show (rS r ++ [_]).length + _ ≤ _
  rw [List.length_append, List.length_singleton]
  omega

/-! ### until none applies -/
def iterM : Nat → Rep → Rep
 | 0, r => r
 | k + 1, r => match stepM r with
  | some q => iterM k q
  | none => r
def progM (r : Rep) : Rep := iterM (mu r) r
inductive Stps : Rep → Rep → Prop where
 | refl (r : Rep) : Stps r r
 | head {r q s : Rep} (h : Inv r) (h1 : Stp r q) (h2 : Stps q s) : Stps r s
theorem iter_spec : ∀ (k : Nat) (r : Rep), Inv r → mu r ≤ k → Stps r (iterM k r) ∧ stepM (iterM k r) = none ∧ Inv (iterM k r) ∧ (rS (iterM k r)).length + mu (iterM k r) ≤ (rS r).length + mu r ∧ EvL (fun n j => replica_machine_progress.l0 n j r) (iterM k r) := by
 intro k
 induction k with
 | zero =>
  intro r h hk
  have hs := step_ev h.ok
  cases hd : stepM r with
  | some q => have := (Stp.inv h (step_stp h hd)).2.1; omega
  | none =>
   rw [hd] at hs
   exact ⟨.refl r, hd, h, Nat.le_refl _, EvL.done (L := fun n j (s : Rep) => replica_machine_progress.l0 n j s) (S := fun n s => replica_machine_progress.s0 n s) (fun _ _ _ => rfl) hs⟩
 | succ k ih =>
  intro r h hk
  have hs := step_ev h.ok
  unfold iterM
  cases hd : stepM r with
  | some q =>
   rw [hd] at hs
   obtain ⟨i1, i2, i3⟩ := Stp.inv h (step_stp h hd)
   obtain ⟨j1, j2, j3, j4, j5⟩ := ih q i1 (by omega)
   exact ⟨.head h (step_stp h hd) j1, j2, j3, by simp only; omega, EvL.step (L := fun n j (s : Rep) => replica_machine_progress.l0 n j s) (S := fun n s => replica_machine_progress.s0 n s) (fun _ _ _ => rfl) hs j5⟩
  | none =>
   rw [hd] at hs
   exact ⟨.refl r, hd, h, Nat.le_refl _, EvL.done (L := fun n j (s : Rep) => replica_machine_progress.l0 n j s) (S := fun n s => replica_machine_progress.s0 n s) (fun _ _ _ => rfl) hs⟩
theorem prog_ev {r : Rep} (h : Inv r) : Ev (fun n => replica_machine_progress n r) (progM r) :=
 Ev.bind (Ev.of fun _ => rfl) (Ev.bind (iter_spec (mu r) r h (Nat.le_refl _)).2.2.2.2.diag (Ev.ret _))
theorem prog_inv {r : Rep} (h : Inv r) : Inv (progM r) := (iter_spec (mu r) r h (Nat.le_refl _)).2.2.1
theorem prog_stps {r : Rep} (h : Inv r) : Stps r (progM r) := (iter_spec (mu r) r h (Nat.le_refl _)).1
/-- What steps leave as it was. -/
structure Grows (r q : Rep) : Prop where
 i : rI q = rI r
 n : rN q = rN r
 t : rT q = rT r
 v : rV r ≤ rV q
 s : rS r <+: rS q
 l : rL r <+: rL q
theorem Grows.refl (r : Rep) : Grows r r := ⟨rfl, rfl, rfl, Int.le_refl _, List.prefix_refl _, List.prefix_refl _⟩
theorem Grows.trans {r q s : Rep} (h : Grows r q) (k : Grows q s) : Grows r s := ⟨k.i.trans h.i, k.n.trans h.n, k.t.trans h.t, Int.le_trans h.v k.v, h.s.trans k.s, h.l.trans k.l⟩
theorem Stp.grows {r q : Rep} (h : Stp r q) : Grows r q := by
 cases h with
 | commit p v hp k qq d => exact ⟨rfl, rfl, rfl, Int.le_refl _, List.prefix_refl _, List.prefix_append _ _⟩
 | join w m hm k e hw => exact ⟨rfl, rfl, rfl, Int.le_of_lt hw, List.prefix_append _ _, List.prefix_refl _⟩
 | prepare p hp k qq v h2 ha => exact ⟨rfl, rfl, rfl, Int.le_refl _, List.prefix_append _ _, List.prefix_refl _⟩
 | lock p hp k qq h3 d => exact ⟨rfl, rfl, rfl, Int.le_refl _, List.prefix_append _ _, List.prefix_refl _⟩
theorem Stps.grows {r q : Rep} (h : Stps r q) : Grows r q := by
 induction h with
 | refl r => exact .refl r
 | head hi h1 h2 ih => exact h1.grows.trans ih

/-! ### the operations -/
def newM (i n : Int) : Rep := (i, n, 0, [], [], [])
theorem new_eq (i n : Int) : replica_New i n = some (newM i n) := rfl
theorem new_inv {i n : Int} (h1 : 1 ≤ n) (h2 : n ≤ 13) (h3 : 0 ≤ i) (h4 : i < n) : Inv (newM i n) :=
 ⟨h1, h2, h3, h4, Int.le_refl 0, (by show (0 : Int) ≤ 1048576; decide), ⟨(fun m hm => by cases hm), .nil⟩, Nat.zero_le _, Nat.zero_le _, (fun m hm => by cases hm), (fun m hm => by cases hm), .nil, (by show 0 + mu (newM 0 0) ≤ C0; decide), (fun m hm => by cases hm), (fun m hm => by cases hm), (fun m hm => by cases hm)⟩
def recM (r : Rep) : Rep := (rI r, rN r, rV r, [], rS r, rL r)
theorem rec_eq (r : Rep) : replica_Recover r = some (recM r) := rfl
theorem rec_inv {r : Rep} (h : Inv r) : Inv (recM r) :=
 ⟨h.n1, h.n2, h.i0, h.i1, h.v0, h.v1, ⟨(fun m hm => by cases hm), .nil⟩, Nat.zero_le _, h.gl, h.ge, h.said, h.uniq, h.size, (fun m hm => by cases hm), h.bs, h.bl⟩
/-- Is a message of this kind, sender and slot received already? -/
def knownM (r : Rep) (m : Msg) : Bool := (rT r).any fun x => (x.1 == m.1) && ((x.2.1 == m.2.1) && ((x.2.2.1 == m.2.2.1) && (x.2.2.2.1 == m.2.2.2.1)))
theorem known_iff (r : Rep) (m : Msg) : knownM r m = true ↔ ∃ x ∈ rT r, keyM x = keyM m := by
 unfold knownM keyM
 rw [List.any_eq_true]
 simp only [Bool.and_eq_true, beq_iff_eq, Prod.mk.injEq]
theorem known_ev {r : Rep} (h : Sz r) (m : Msg) : Ev (fun n => api_Message_24_2 n (rT r) m) (knownM r m, m) := by
 have ht := h.t
 have hf := find_run (L := fun n j (s : Int × Msg) => api_Message_49_2.l0 n j s.1 (rT r) ((rT r).length : Int) s.2) (S := fun n s => api_Message_49_2.s0 n s.1 (rT r) ((rT r).length : Int) s.2) (fun _ _ _ => rfl)
  (rT r) m (fun x => (x.1 == m.1) && ((x.2.1 == m.2.1) && ((x.2.2.1 == m.2.2.1) && (x.2.2.2.1 == m.2.2.2.1)))) (by omega) (fun i hi => Ev.of fun n => ?_) (Ev.of fun n => ?_)
 ·unfold api_Message_24_2 api_Message_49_2 knownM
  refine Ev.bind (Ev.bind hf (b := (match (rT r).findIdx? (fun x => (x.1 == m.1) && ((x.2.1 == m.2.1) && ((x.2.2.1 == m.2.2.1) && (x.2.2.2.1 == m.2.2.2.1)))) with | some j => ((j : Int), m) | none => (-1, m))) ?_) ?_
  ·cases (rT r).findIdx? (fun x => (x.1 == m.1) && ((x.2.1 == m.2.1) && ((x.2.2.1 == m.2.2.1) && (x.2.2.2.1 == m.2.2.2.1)))) with
   | none => exact Ev.ret _
   | some j => exact Ev.ret _
  ·rw [← idx_any]
   cases (rT r).findIdx? (fun x => (x.1 == m.1) && ((x.2.1 == m.2.1) && ((x.2.2.1 == m.2.2.1) && (x.2.2.2.1 == m.2.2.2.1)))) with
   | none => exact Ev.ret _
   | some j => exact Ev.cast (Ev.ret _) (by simp)
 ·show api_Message_49_2.s0 n (i : Int) (rT r) ((rT r).length : Int) m = _
  unfold api_Message_49_2.s0
  rw [show decide ((i : Int) < ((rT r).length : Int)) = true from decide_eq_true (by omega), inbN hi, getD_int hi, wr64s i (by omega)]
  simp only [cond_true, AM.ck]
  unfold replica_Handle_1
  simp only
  cases ((rT r)[i].1 == m.1) with
  | false => rfl
  | true =>
   simp only [cond_true]
   cases ((rT r)[i].2.1 == m.2.1) with
   | false => rfl
   | true =>
    simp only [cond_true]
    cases ((rT r)[i].2.2.1 == m.2.2.1) with
    | false => rfl
    | true =>
     simp only [cond_true]
     cases ((rT r)[i].2.2.2.1 == m.2.2.2.1) <;> rfl
 ·show api_Message_49_2.s0 n ((rT r).length : Int) (rT r) ((rT r).length : Int) m = _
  unfold api_Message_49_2.s0
  rw [show decide (((rT r).length : Int) < ((rT r).length : Int)) = false from decide_eq_false (by omega)]
  rfl
def takeM (r : Rep) (m : Msg) : Rep := (rI r, rN r, rV r, rT r ++ [m], rS r, rL r)
def handleM (r : Rep) (m : Msg) : Rep := if validM (rN r) m = true ∧ knownM r m = false then progM (takeM r m) else r
theorem take_inv {r : Rep} (h : Inv r) {m : Msg} (hv : validM (rN r) m = true) (hk : knownM r m = false) (hb : bytesE (mE m)) (hl : (rT r).length < 1000000) : Inv (takeM r m) := by
 refine ⟨h.n1, h.n2, h.i0, h.i1, h.v0, h.v1, ⟨fun x hx => ?_, ?_⟩, ?_, h.gl, h.ge, h.said, h.uniq, h.size, fun x hx => ?_, h.bs, h.bl⟩
 ·rcases List.mem_append.1 hx with hx | hx
  ·exact h.took.ok x hx
  ·rw [List.mem_singleton.1 hx]; exact hv
 ·refine List.pairwise_append.2 ⟨h.took.nd, List.pairwise_singleton _ _, fun a ha b hb e => ?_⟩
  rw [List.mem_singleton.1 hb] at e
  have := (known_iff r m).2 ⟨a, ha, e⟩
  rw [hk] at this
  cases this
 ·show (rT r ++ [m]).length ≤ _
  rw [List.length_append, List.length_singleton]; omega
 ·rcases List.mem_append.1 hx with hx | hx
  ·exact h.bt x hx
  ·rw [List.mem_singleton.1 hx]; exact hb
theorem drop_pre {α : Type} {a b : List α} (h : a <+: b) : inb (a.length : Int) (b.length + 1) = true := inbN (by have := h.length_le; omega)
theorem handle_inv {r : Rep} (h : Inv r) {m : Msg} (hb : bytesE (mE m)) (hl : (rT r).length < 1000000) : Inv (handleM r m) := by
 unfold handleM
 split
 ·rename_i hc
  exact prog_inv (take_inv h hc.1 hc.2 hb hl)
 ·exact h
theorem handle_ev {r : Rep} (h : Inv r) {m : Msg} (hb : bytesE (mE m)) (hl : (rT r).length < 1000000) : Ev (fun n => replica_Handle n r m) (handleM r m, (rS (handleM r m)).drop (rS r).length) := by
 unfold replica_Handle replica_Handle.j0 handleM
 cases hv : validM (rN r) m with
 | false =>
  rw [if_neg (by rintro ⟨h, _⟩; cases h)]
  refine Ev.bind (a := (Sum.inr (m, r, []) : Msg ⊕ (Msg × Rep × List Msg))) (Ev.bind (valid_ev _ _) (Ev.T (by rw [hv]; rfl) (Ev.ret _))) (Ev.cast (Ev.ret _) ?_)
  rw [List.drop_length]
 | true =>
  cases hk : knownM r m with
  | true =>
   rw [if_neg (by rintro ⟨_, h⟩; cases h)]
   refine Ev.bind (a := (Sum.inr (m, r, []) : Msg ⊕ (Msg × Rep × List Msg))) (Ev.bind (valid_ev _ _) (Ev.F (by rw [hv]; rfl) (Ev.bind (known_ev h.sz m) (Ev.T hk (Ev.ret _))))) (Ev.cast (Ev.ret _) ?_)
   rw [List.drop_length]
  | false =>
   rw [if_pos ⟨rfl, rfl⟩]
   have hi := take_inv h hv hk hb hl
   refine Ev.bind (a := (Sum.inl m : Msg ⊕ (Msg × Rep × List Msg))) (Ev.bind (valid_ev _ _) (Ev.F (by rw [hv]; rfl) (Ev.bind (known_ev h.sz m) (Ev.F hk (Ev.ret _))))) ?_
   refine Ev.bind (Ev.of fun _ => clipM _) (Ev.ck (room88 h.sz.t) (Ev.bind (prog_ev hi) (Ev.ck (drop_pre (prog_stps hi).grows.s) (Ev.cast (Ev.ret _) ?_))))
   rw [Int.toNat_natCast]
   rfl
def nextM (r : Rep) : Rep := (rI r, rN r, rV r + 1, rT r, rS r, rL r)
def timeoutM (r : Rep) : Rep := if rV r ≥ 1048576 then r else progM (sendM (nextM r) (4, 0, rV r + 1, 0, 0, zE))
theorem next_inv {r : Rep} (h : Inv r) (hv : ¬ rV r ≥ 1048576) : Inv (sendM (nextM r) (4, 0, rV r + 1, 0, 0, zE)) := by
 have hsz := h.size
 have hv0 := h.v0
 have hmu : ∀ q : Rep, rV q = rV r + 1 → rL q = rL r → mu q + 1 ≤ mu r := by
  intro q e1 e2
  have := nb_le (sentM q 1)
  have := nb_le (sentM q 2)
  have := nb_le (sentM q 3)
  unfold mu
  rw [e1, e2]
  omega
 have m1 := hmu (nextM r) rfl rfl
 have m2 := hmu (sendM (nextM r) (4, 0, rV r + 1, 0, 0, zE)) rfl rfl
 have h' : Inv (nextM r) := ⟨h.n1, h.n2, h.i0, h.i1, by show 0 ≤ rV r + 1; omega, by show rV r + 1 ≤ _; omega, h.took, h.tl, h.gl, h.ge, h.said, h.uniq, by show (rS r).length + _ ≤ _; omega, h.bt, h.bs, h.bl⟩
 exact h'.send _ (valid_zero ⟨h.n1, h.n2⟩ ⟨h.i0, h.i1⟩ ⟨by omega, by omega⟩ ⟨by omega, by omega⟩ (.inr (.inr ⟨rfl, rfl, rfl⟩))) bytes_zE (fun hh => absurd rfl hh) (by show (rS r).length + 1 + _ ≤ _; omega)
theorem timeout_inv {r : Rep} (h : Inv r) : Inv (timeoutM r) := by
 unfold timeoutM
 split
 ·exact h
 ·rename_i hv
  exact prog_inv (next_inv h hv)
theorem timeout_grows {r : Rep} (h : Inv r) : Grows r (timeoutM r) := by
 unfold timeoutM
 split
 ·exact .refl r
 ·rename_i hv
  refine Grows.trans ?_ (prog_stps (next_inv h hv)).grows
  exact ⟨rfl, rfl, rfl, by show rV r ≤ rV r + 1; omega, List.prefix_append _ _, List.prefix_refl _⟩
theorem timeout_ev {r : Rep} (h : Inv r) : Ev (fun n => replica_Timeout n r) (timeoutM r, (rS (timeoutM r)).drop (rS r).length) := by
 have hg := timeout_grows h
 unfold replica_Timeout
 unfold timeoutM at hg ⊢
 by_cases hv : rV r ≥ 1048576
 ·rw [if_pos hv]
  refine Ev.T (decide_eq_true hv) (Ev.cast (Ev.ret _) ?_)
  rw [List.drop_length]
 ·rw [if_neg hv] at hg ⊢
  have hw : W .i64 (rV r + 1) = rV r + 1 := wr64 (by have := h.v0; omega) (by omega)
  refine Ev.F (decide_eq_false hv) ?_
  show Ev (fun n => (replica_machine_send (4, 0, W .i64 (rV r + 1), 0, 0, zE) (r.1, r.2.1, W .i64 (rV r + 1), r.2.2.2)).bind _) _
  rw [hw]
  refine Ev.bind (Ev.of fun _ => send_eq (r := nextM r) ⟨h.sz.t, h.sz.s, h.sz.g⟩ _) (Ev.bind (prog_ev (next_inv h hv)) (Ev.ck (drop_pre hg.s) (Ev.cast (Ev.ret _) ?_)))
  rw [Int.toNat_natCast]
  rfl

/-! ### proposing -/
def proposalE (r : Rep) (e : Ent) : Ent := if (hiM (rN r) (rT r) (rV r) (posM r)).2 ≥ 0 then (hiM (rN r) (rT r) (rV r) (posM r)).1 else e
def proposeMsg (r : Rep) (e : Ent) : Msg := (1, 0, rV r, posM r, crc (encR (proposalE r e)).2, proposalE r e)
/-- The code that proposing answers with. -/
def codeM (r : Rep) (e : Ent) : Int := if leadM (rN r) (rV r) ≠ rI r then 290 else if posM r ≥ 1000 then 2 else if (encR e).1 ≠ 0 then 1 else if sentM r 1 = true then 321 else 0
def proposeM (r : Rep) (e : Ent) : Rep := if codeM r e = 0 then sendM r (proposeMsg r e) else r
theorem propose_ev {r : Rep} (h : Inv r) (e : Ent) : Ev (fun n => replica_Propose n r e) ((proposeM r e).1, (proposeM r e).2.1, (proposeM r e).2.2.1, (proposeM r e).2.2.2.1, (proposeM r e).2.2.2.2.1, (proposeM r e).2.2.2.2.2, (rS (proposeM r e)).drop (rS r).length, codeM r e) := by
 have hx : ∀ c, codeM r e = c → c ≠ 0 → Ev (fun _ => some (r.1, r.2.1, r.2.2.1, r.2.2.2.1, r.2.2.2.2.1, r.2.2.2.2.2, ([] : List Msg), c)) ((proposeM r e).1, (proposeM r e).2.1, (proposeM r e).2.2.1, (proposeM r e).2.2.2.1, (proposeM r e).2.2.2.2.1, (proposeM r e).2.2.2.2.2, (rS (proposeM r e)).drop (rS r).length, codeM r e) := by
  intro c hc h0
  unfold proposeM
  rw [hc, if_neg h0, List.drop_length]
  exact Ev.ret _
 unfold replica_Propose
 refine Ev.bind (encode_ev e) (Ev.bind (Ev.of fun _ => leader_eq _ _) ?_)
 by_cases c1 : leadM (rN r) (rV r) ≠ rI r
 ·exact Ev.T (by simpa using c1) (hx 290 (by unfold codeM; rw [if_pos c1]) (by decide))
 ·refine Ev.F (by simpa using c1) (Ev.bind (Ev.ret (posM r)) ?_)
  by_cases c2 : posM r ≥ 1000
  ·exact Ev.T (decide_eq_true c2) (hx 2 (by unfold codeM; rw [if_neg c1, if_pos c2]) (by decide))
  ·refine Ev.F (decide_eq_false c2) ?_
   by_cases c3 : (encR e).1 ≠ 0
   ·exact Ev.T (by simpa using c3) (hx 1 (by unfold codeM; rw [if_neg c1, if_neg c2, if_pos c3]) (by decide))
   ·refine Ev.F (by simpa using c3) (Ev.bind (sent_ev h.sz 1) ?_)
    by_cases c4 : sentM r 1 = true
    ·exact Ev.T c4 (hx 321 (by unfold codeM; rw [if_neg c1, if_neg c2, if_neg c3, if_pos c4]) (by decide))
    ·have hc : codeM r e = 0 := by unfold codeM; rw [if_neg c1, if_neg c2, if_neg c3, if_neg c4]
     refine Ev.F (by simpa using c4) (Ev.bind (a := proposalE r e) ?_ (Ev.bind (encode_ev _) (Ev.bind (Ev.ret (posM r)) (Ev.bind (Ev.of fun _ => crc_eq _) (Ev.bind (Ev.of fun _ => send_eq h.sz _) (Ev.ck (drop_pre (List.prefix_append _ _)) (Ev.cast (Ev.ret _) ?_)))))))
     ·unfold replica_Propose.j0
      refine Ev.bind (Ev.ret (rV r, posM r)) (Ev.bind (highest_ev h.n1 h.n2 h.took (by have := h.tl; omega) _ _) ?_)
      unfold proposalE
      by_cases hh : (hiM (rN r) (rT r) (rV r) (posM r)).2 ≥ 0
      ·rw [if_pos hh]; exact Ev.T (decide_eq_true hh) (Ev.ret _)
      ·rw [if_neg hh]; exact Ev.F (decide_eq_false hh) (Ev.ret _)
     ·unfold proposeM
      rw [hc, if_pos rfl, Int.toNat_natCast]
      rfl
/-- What the highest proposal is. -/
theorem hiM_spec (n : Int) (l : List Msg) (v q : Int) : (hiM n l v q).2 < 0 ∧ (hiM n l v q).1 = zE ∨ ∃ m ∈ l, mK m = 1 ∧ mQ m = q ∧ mV m < v ∧ decM n l 2 (mV m) (mQ m) = some (mS m) ∧ hiM n l v q = (mE m, mV m) := by
 have : ∀ (l' : List Msg) (st : Ent × Int), (∀ m ∈ l', m ∈ l) → (st.2 < 0 ∧ st.1 = zE ∨ ∃ m ∈ l, mK m = 1 ∧ mQ m = q ∧ mV m < v ∧ decM n l 2 (mV m) (mQ m) = some (mS m) ∧ st = (mE m, mV m)) → ((l'.foldl (hstepM n l v q) st).2 < 0 ∧ (l'.foldl (hstepM n l v q) st).1 = zE ∨ ∃ m ∈ l, mK m = 1 ∧ mQ m = q ∧ mV m < v ∧ decM n l 2 (mV m) (mQ m) = some (mS m) ∧ l'.foldl (hstepM n l v q) st = (mE m, mV m)) := by
  intro l'
  induction l' with
  | nil => intro st _ h; exact h
  | cons x r ih =>
   intro st hm h
   refine ih _ (fun m h => hm m (List.mem_cons_of_mem _ h)) ?_
   unfold hstepM
   split
   ·rename_i hc
    exact .inr ⟨x, hm x List.mem_cons_self, hc.1.1, hc.1.2.1, hc.1.2.2.1, hc.1.2.2.2, rfl⟩
   ·exact h
 exact this l _ (fun m h => h) (.inl ⟨by decide, rfl⟩)
theorem propE_ok {r : Rep} (h : Inv r) {e : Ent} (he : encOk e = true) (hb : bytesE e) : encOk (proposalE r e) = true ∧ bytesE (proposalE r e) := by
 unfold proposalE
 split
 ·rename_i hh
  rcases hiM_spec (rN r) (rT r) (rV r) (posM r) with h0 | ⟨m, hm, k, q, v, d, e⟩
  ·omega
  ·rw [e]
   exact ⟨(valid_prop (h.took.ok m hm) k).1, h.bt m hm⟩
 ·exact ⟨he, hb⟩
theorem code_zero {r : Rep} {e : Ent} (h : codeM r e = 0) : leadM (rN r) (rV r) = rI r ∧ posM r < 1000 ∧ encOk e = true ∧ sentM r 1 = false := by
 unfold codeM at h
 split at h
 ·cases h
 ·split at h
  ·cases h
  ·split at h
   ·cases h
   ·split at h
    ·cases h
    ·rename_i c1 c2 c3 c4
     refine ⟨by simpa using c1, by omega, ?_, by simpa using c4⟩
     unfold encR at c3
     split at c3
     ·assumption
     ·simp at c3
theorem prop_valid {r : Rep} (h : Inv r) {e : Ent} (hb : bytesE e) (hc : codeM r e = 0) : validM (rN r) (1, rI r, rV r, posM r, crc (encR (proposalE r e)).2, proposalE r e) = true := by
 obtain ⟨c1, c2, c3, c4⟩ := code_zero hc
 have hp := propE_ok h c3 hb
 unfold validM
 rw [(inM_iff _ _).2 ⟨⟨h.n1, h.n2⟩, h.i0, h.i1, h.v0, h.v1, by unfold posM; simp only [mQ]; omega, c2⟩, Bool.true_and, if_pos rfl]
 simp only [mE, mF, mV, mS, hp.1, c1, beq_self_eq_true, Bool.true_and]
 unfold encR
 rw [if_pos hp.1, beq_iff_eq]
theorem propose_inv {r : Rep} (h : Inv r) {e : Ent} (hb : bytesE e) : Inv (proposeM r e) := by
 unfold proposeM
 split
 ·rename_i hc
  obtain ⟨c1, c2, c3, c4⟩ := code_zero hc
  have hsz := h.size
  have hmu : mu (sendM r (proposeMsg r e)) + 1 = mu r := by
   unfold mu
   rw [sent_send, sent_send, sent_send, c4]
   unfold proposeMsg
   simp only [rL, rV, sendM, beq_self_eq_true, Bool.and_self, Bool.or_true]
   rw [show ((1 : Int) == 2) = false from rfl, show ((1 : Int) == 3) = false from rfl]
   simp only [Bool.false_and, Bool.or_false]
   show _ + (0 + _ + _) + 1 = _ + (1 + _ + _)
   omega
  exact h.send _ (prop_valid h hb hc) (propE_ok h c3 hb).2 (fun _ => sent_false c4) (by omega)
 ·exact h
theorem propose_grows (r : Rep) (e : Ent) : Grows r (proposeM r e) := by
 unfold proposeM
 split
 ·exact ⟨rfl, rfl, rfl, Int.le_refl _, List.prefix_append _ _, List.prefix_refl _⟩
 ·exact .refl r
end Go.Proofs.YtijhdekfbjafgaaGreat
namespace Go.Proofs.YtijhdekfbjafgaaGreat
open Go Go.RowKit Go.Proofs.YtijhdekfbjafgaaGreat.RW
open Go.Proofs.YtijhdekfbjafgaaGreat.AM hiding lk
set_option linter.unusedVariables false
set_option maxRecDepth 100000

theorem wrap32 {n : Nat} (h : n < 4294967296) : IntKind.u32.wrap (n : Int) = (n : Int) := by
 have h2 : (2 : Int) ^ 32 = 4294967296 := by decide
 unfold IntKind.wrap
 simp only [IntKind.bits, IntKind.signed, h2, Bool.false_and, Bool.false_eq_true, if_false]
 exact Int.emod_eq_of_lt (by omega) (by omega)
theorem xor32 {a b : Nat} (ha : a < 4294967296) (hb : b < 4294967296) : bXor .u32 (a : Int) (b : Int) = ((a ^^^ b : Nat) : Int) := by
 have hx : a ^^^ b < 4294967296 := Nat.xor_lt_two_pow (n := 32) ha hb
 show IntKind.u32.wrap (((BitVec.ofInt 32 (a : Int)) ^^^ (BitVec.ofInt 32 (b : Int))).toNat : Int) = _
 rw [BitVec.ofInt_natCast, BitVec.ofInt_natCast, BitVec.toNat_xor, BitVec.toNat_ofNat, BitVec.toNat_ofNat]
 rw [Nat.mod_eq_of_lt (show a < 2 ^ 32 from ha), Nat.mod_eq_of_lt (show b < 2 ^ 32 from hb)]
 exact wrap32 hx
theorem and32 {a : Nat} (ha : a < 4294967296) : bAnd .u32 (a : Int) 1 = ((a % 2 : Nat) : Int) := by
 show IntKind.u32.wrap (((BitVec.ofInt 32 (a : Int)) &&& (BitVec.ofNat 32 1)).toNat : Int) = _
 rw [BitVec.ofInt_natCast, BitVec.toNat_and, BitVec.toNat_ofNat, BitVec.toNat_ofNat]
 rw [Nat.mod_eq_of_lt (show a < 2 ^ 32 from ha), Nat.mod_eq_of_lt (show 1 < 2 ^ 32 by decide), Nat.and_one_is_mod]
 exact wrap32 (by omega)
def nstep (c : Nat) : Nat := (c / 2) ^^^ (if c % 2 = 1 then 3988292384 else 0)
def nit : Nat → Nat → Nat
 | 0, c => c
 | n + 1, c => nit n (nstep c)
theorem nstep_lt {c : Nat} (h : c < 4294967296) : nstep c < 4294967296 := by
 unfold nstep
 refine Nat.xor_lt_two_pow (n := 32) (show c / 2 < 2 ^ 32 by omega) ?_
 split <;> decide
theorem nit_lt : ∀ (n c : Nat), c < 4294967296 → nit n c < 4294967296
 | 0, c, h => h
 | n + 1, c, h => nit_lt n _ (nstep_lt h)
theorem half {a : Nat} : Int.fdiv (a : Int) 2 = ((a / 2 : Nat) : Int) := by
 rw [Int.fdiv_eq_ediv_of_nonneg _ (by omega)]
 omega
theorem crcStep_nat {c : Nat} (h : c < 4294967296) : crcStep (c : Int) = (nstep c : Int) := by
 unfold crcStep nstep
 rw [and32 h, half]
 by_cases h1 : c % 2 = 1
 ·rw [h1, if_pos rfl, show W .u32 (3988292384 * ((1 : Nat) : Int)) = ((3988292384 : Nat) : Int) from by decide]
  exact xor32 (by omega) (by decide)
 ·have h0 : c % 2 = 0 := by omega
  rw [h0, if_neg (by decide), show W .u32 (3988292384 * ((0 : Nat) : Int)) = ((0 : Nat) : Int) from by decide]
  exact xor32 (by omega) (by decide)
theorem crc8_nat : ∀ (n c : Nat), c < 4294967296 → crc8 n (c : Int) = (nit n c : Int)
 | 0, c, h => rfl
 | n + 1, c, h => by rw [crc8, crcStep_nat h, crc8_nat n _ (nstep_lt h)]; rfl
theorem xor_par (a b : Nat) : (a ^^^ b) % 2 = 1 ↔ ¬ (a % 2 = 1 ↔ b % 2 = 1) := by
 have h : (a ^^^ b).testBit 0 = (a.testBit 0 ^^ b.testBit 0) := Nat.testBit_xor a b 0
 rw [Nat.testBit_zero, Nat.testBit_zero, Nat.testBit_zero] at h
 by_cases h1 : a % 2 = 1 <;> by_cases h2 : b % 2 = 1 <;> simp [h1, h2] at h ⊢ <;> omega
theorem xor_half (a b : Nat) : (a ^^^ b) / 2 = (a / 2) ^^^ (b / 2) := by
 have h := @Nat.shiftRight_xor_distrib 1 a b
 rw [Nat.shiftRight_eq_div_pow, Nat.shiftRight_eq_div_pow, Nat.shiftRight_eq_div_pow] at h
 exact h
theorem x4 (a b p q : Nat) : (a ^^^ b) ^^^ (p ^^^ q) = (a ^^^ p) ^^^ (b ^^^ q) := by
 rw [Nat.xor_assoc, Nat.xor_assoc, ← Nat.xor_assoc b p q, Nat.xor_comm b p, Nat.xor_assoc p b q]
theorem nstep_xor (a b : Nat) : nstep (a ^^^ b) = nstep a ^^^ nstep b := by
 unfold nstep
 rw [xor_half, x4 (a / 2) _ (b / 2) _]
 congr 1
 by_cases h1 : a % 2 = 1 <;> by_cases h2 : b % 2 = 1
 ·rw [if_neg (by rw [xor_par]; simp [h1, h2]), if_pos h1, if_pos h2]; rfl
 ·rw [if_pos (by rw [xor_par]; simp [h1, h2]), if_pos h1, if_neg h2]; rfl
 ·rw [if_pos (by rw [xor_par]; simp [h1, h2]), if_neg h1, if_pos h2]; rfl
 ·rw [if_neg (by rw [xor_par]; simp [h1, h2]), if_neg h1, if_neg h2]; rfl
theorem nit_xor : ∀ (n a b : Nat), nit n (a ^^^ b) = nit n a ^^^ nit n b
 | 0, _, _ => rfl
 | n + 1, a, b => by rw [nit, nstep_xor, nit_xor n]; rfl
theorem nstep_even (m : Nat) : nstep (2 * m) = m := by
 unfold nstep
 rw [if_neg (by omega), show 2 * m / 2 = m by omega, Nat.xor_zero]
theorem nit8_high (h : Nat) : nit 8 (256 * h) = h := by
 rw [show 256 * h = 2 * (2 * (2 * (2 * (2 * (2 * (2 * (2 * h))))))) by omega]
 simp only [nit, nstep_even]
theorem split256 (c : Nat) : c = (256 * (c / 256)) ^^^ (c % 256) := by
 refine Nat.eq_of_testBit_eq fun i => ?_
 have hc : c = 2 ^ 8 * (c / 256) + c % 256 := by omega
 have hl : c % 256 < 2 ^ 8 := by omega
 rw [Nat.testBit_xor]
 conv => lhs; rw [hc]
 rw [Nat.testBit_two_pow_mul_add _ hl, show 256 * (c / 256) = 2 ^ 8 * (c / 256) from rfl, Nat.testBit_two_pow_mul]
 by_cases hi : i < 8
 ·rw [if_pos hi]
  simp [show ¬ 8 ≤ i by omega]
 ·rw [if_neg hi]
  have : (c % 256).testBit i = false := Nat.testBit_lt_two_pow (Nat.lt_of_lt_of_le hl (Nat.pow_le_pow_right (by decide) (by omega)))
  simp [show 8 ≤ i by omega, this]
/-- One byte more. -/
def rstep (c : Nat) (x : Int) : Nat := nit 8 (c ^^^ x.toNat)
theorem rstep_lt {c : Nat} {x : Int} (hc : c < 4294967296) (hx : 0 ≤ x ∧ x ≤ 255) : rstep c x < 4294967296 := nit_lt 8 _ (Nat.xor_lt_two_pow (n := 32) hc (by omega))
theorem tab_at {j : Nat} (h : j < 256) : crcTab.getD j 0 = (nit 8 j : Int) := by
 have e : W .u32 ((j : Nat) : Int) = ((j : Nat) : Int) := wrap32 (by omega)
 rw [List.getD_eq_getElem?_getD]
 unfold crcTab
 rw [List.getElem?_map, List.getElem?_range h]
 simp only [Option.map_some, Option.getD_some]
 rw [e]
 exact crc8_nat 8 j (by omega)
theorem wrap8 {n : Nat} : IntKind.u8.wrap (n : Int) = ((n % 256 : Nat) : Int) := by
 have h2 : (2 : Int) ^ 8 = 256 := by decide
 unfold IntKind.wrap
 simp only [IntKind.bits, IntKind.signed, h2, Bool.false_and, Bool.false_eq_true, if_false]
 omega
theorem xor8 {a b : Nat} (ha : a < 256) (hb : b < 256) : bXor .u8 (a : Int) (b : Int) = ((a ^^^ b : Nat) : Int) := by
 have hx : a ^^^ b < 256 := Nat.xor_lt_two_pow (n := 8) ha hb
 show IntKind.u8.wrap (((BitVec.ofInt 8 (a : Int)) ^^^ (BitVec.ofInt 8 (b : Int))).toNat : Int) = _
 rw [BitVec.ofInt_natCast, BitVec.ofInt_natCast, BitVec.toNat_xor, BitVec.toNat_ofNat, BitVec.toNat_ofNat]
 rw [Nat.mod_eq_of_lt (show a < 2 ^ 8 from ha), Nat.mod_eq_of_lt (show b < 2 ^ 8 from hb), wrap8, Nat.mod_eq_of_lt hx]
theorem ckStep_nat {c : Nat} {x : Int} (hc : c < 4294967296) (hx : 0 ≤ x ∧ x ≤ 255) : ckStep (c : Int) x = (rstep c x : Int) := by
 obtain ⟨b, rfl⟩ : ∃ b : Nat, x = (b : Int) := ⟨x.toNat, by omega⟩
 have hb : b < 256 := by omega
 have hm : c % 256 < 256 := Nat.mod_lt _ (by decide)
 have hx8 : c % 256 ^^^ b < 256 := Nat.xor_lt_two_pow (n := 8) hm hb
 unfold ckStep rstep
 have e1 : Int.fdiv (c : Int) 256 = ((c / 256 : Nat) : Int) := by
  rw [Int.fdiv_eq_ediv_of_nonneg _ (by omega)]
  omega
 have e2 : W .u8 (c : Int) = ((c % 256 : Nat) : Int) := wrap8
 rw [e1, e2, xor8 hm hb, Int.toNat_natCast, Int.toNat_natCast, tab_at hx8, xor32 (by omega) (nit_lt 8 _ (by omega))]
 congr 1
 conv => rhs; rw [split256 c, Nat.xor_assoc, nit_xor, nit8_high]
theorem fold_nat : ∀ (l : List Int) (c : Nat), c < 4294967296 → (∀ x ∈ l, 0 ≤ x ∧ x ≤ 255) → l.foldl ckStep (c : Int) = ((l.foldl rstep c : Nat) : Int) ∧ l.foldl rstep c < 4294967296
 | [], c, h, _ => ⟨rfl, h⟩
 | x :: r, c, h, hx => by
  have h1 := hx x List.mem_cons_self
  rw [List.foldl_cons, List.foldl_cons, ckStep_nat h h1]
  exact fold_nat r _ (rstep_lt h h1) (fun y hy => hx y (List.mem_cons_of_mem _ hy))
/-! ### bit by bit -/
theorem refcrc_s0 (n : Nat) {c i : Nat} (hc : c < 4294967296) (hi : i < 8) : armillaryref27_Checksum.s0 n (c : Int) (i : Int) = some (.inl ((nstep c : Int), ((i + 1 : Nat) : Int))) := by
 unfold armillaryref27_Checksum.s0 nstep
 rw [show decide ((i : Int) < 8) = true from decide_eq_true (by omega), wr64s i (by omega), and32 hc, half]
 by_cases h1 : c % 2 = 1
 ·rw [h1, if_pos rfl]
  have := xor32 (a := c / 2) (b := 3988292384) (by omega) (by decide)
  rw [show ((3988292384 : Nat) : Int) = 3988292384 from rfl] at this
  rw [this]
  rfl
 ·have h0 : c % 2 = 0 := by omega
  rw [h0, if_neg (by decide), Nat.xor_zero]
  rfl
theorem refcrc_l0 : ∀ (r i c : Nat), i + r = 8 → c < 4294967296 → EvL (fun n k => armillaryref27_Checksum.l0 n k (c : Int) (i : Int)) ((nit r c : Nat) : Int) := by
 intro r
 induction r with
 | zero =>
  intro i c hi hc
  obtain rfl : i = 8 := by omega
  exact EvL.done (L := fun n k (s : Int × Int) => armillaryref27_Checksum.l0 n k s.1 s.2) (S := fun n s => armillaryref27_Checksum.s0 n s.1 s.2) (fun _ _ _ => rfl) (s := ((c : Int), ((8 : Nat) : Int))) (Ev.of fun n => rfl)
 | succ r ih =>
  intro i c hi hc
  exact EvL.step (L := fun n k (s : Int × Int) => armillaryref27_Checksum.l0 n k s.1 s.2) (S := fun n s => armillaryref27_Checksum.s0 n s.1 s.2) (fun _ _ _ => rfl) (s := ((c : Int), (i : Int))) (s' := ((nstep c : Int), ((i + 1 : Nat) : Int))) (Ev.of fun n => refcrc_s0 n hc (by omega)) (ih (i + 1) (nstep c) (by omega) (nstep_lt hc))
theorem foldlt : ∀ (l : List Int) (c : Nat), c < 4294967296 → (∀ x ∈ l, byte x) → l.foldl rstep c < 4294967296
 | [], c, h, _ => h
 | x :: r, c, h, hx => foldlt r _ (rstep_lt h (hx x List.mem_cons_self)) (fun y hy => hx y (List.mem_cons_of_mem _ hy))
theorem refcrc_ev {b : List Int} (hl : b.length < 4611686018427387904) (hb : ∀ x ∈ b, byte x) : Ev (fun k => armillaryref27_Checksum k b) (crc b) := by
 have hpre : ∀ i, ((b.take i).foldl rstep 4294967295) < 4294967296 := fun i => foldlt _ _ (by decide) (fun x hx => hb x (List.mem_of_mem_take hx))
 unfold armillaryref27_Checksum
 refine Ev.bind (a := ((b.foldl rstep 4294967295 : Nat) : Int)) (loop_run (L := fun n k (s : Int × Int) => armillaryref27_Checksum.l1 n k s.1 s.2 b) (S := fun n s => armillaryref27_Checksum.s1 n s.1 s.2 b) (fun _ _ _ => rfl)
  (fun i => ((((b.take i).foldl rstep 4294967295 : Nat) : Int), (i : Int))) b.length _ (fun i hi => ?_) (Ev.of fun n => ?_)) (Ev.cast (Ev.ret _) ?_)
 ·have hx := hb b[i] (List.getElem_mem hi)
  have hc := hpre i
  obtain ⟨x, hxn⟩ : ∃ x : Nat, b[i] = (x : Int) := ⟨(b[i]).toNat, by have := hx.1; omega⟩
  have hx2 : x < 256 := by have := hx.2; omega
  show Ev (fun n => armillaryref27_Checksum.s1 n (((b.take i).foldl rstep 4294967295 : Nat) : Int) (i : Int) b) (.inl ((((b.take (i + 1)).foldl rstep 4294967295 : Nat) : Int), ((i + 1 : Nat) : Int)))
  unfold armillaryref27_Checksum.s1
  refine Ev.T (decide_eq_true (by omega)) (Ev.ck (inbN hi) ?_)
  rw [getD_int hi, wr64s i (by omega), hxn, show W .u32 ((x : Nat) : Int) = ((x : Nat) : Int) from wrap32 (by omega), xor32 hc (by omega)]
  refine Ev.bind (refcrc_l0 8 0 _ rfl (Nat.xor_lt_two_pow (n := 32) hc (by omega))).diag (Ev.cast (Ev.ret _) ?_)
  rw [List.take_add_one, List.getElem?_eq_getElem hi, List.foldl_append]
  simp only [Option.toList_some, List.foldl_cons, List.foldl_nil]
  congr 2
  unfold rstep
  rw [hxn]
  rfl
 ·show armillaryref27_Checksum.s1 n (((b.take b.length).foldl rstep 4294967295 : Nat) : Int) (b.length : Int) b = _
  unfold armillaryref27_Checksum.s1
  rw [show decide ((b.length : Int) < (b.length : Int)) = false from decide_eq_false (by omega), List.take_length]
  rfl
 ·unfold crc
  obtain ⟨h1, h2⟩ := fold_nat b 4294967295 (by decide) hb
  rw [show ((4294967295 : Nat) : Int) = 4294967295 from rfl] at h1
  rw [h1]
  have e1 := xor32 (a := b.foldl rstep 4294967295) (b := 4294967295) h2 (by decide)
  have e2 := xor32 (a := 4294967295) (b := b.foldl rstep 4294967295) (by decide) h2
  rw [show ((4294967295 : Nat) : Int) = 4294967295 from rfl] at e1 e2
  rw [e1, e2, Nat.xor_comm]

/-! ### encodings -/
theorem refValid_eq (e : Ent) : armillaryref27_ValidEntry e = some (encOk e) := validEntry_eq e
theorem refvar_l1 : ∀ (j : Nat) (u : Int) (x : List Int), 0 ≤ u → u < 128 ^ (j + 1) → x.length + j ≤ 1000000 → ∃ r : Int × List Int, EvL (fun n k => armillaryref27_AppendVarint.l1 n k u x) r ∧ r.2.length ≤ x.length + j ∧ r.2 ++ [W .u8 r.1] = x ++ vl j u := by
 intro j
 induction j with
 | zero =>
  intro u x h0 h1 hl
  refine ⟨(u, x), EvL.done (L := fun n k (s : Int × List Int) => armillaryref27_AppendVarint.l1 n k s.1 s.2) (S := fun n s => armillaryref27_AppendVarint.s1 n s.1 s.2) (fun _ _ _ => rfl) (s := (u, x)) (Ev.of fun n => ?_), Nat.le_refl _, rfl⟩
  unfold armillaryref27_AppendVarint.s1
  rw [show decide (u ≥ 128) = false from decide_eq_false (by omega)]
  rfl
 | succ j ih =>
  intro u x h0 h1 hl
  by_cases h : u ≥ 128
  ·obtain ⟨d0, d1⟩ := fdiv128 h0 h1
   obtain ⟨r, r1, r2, r3⟩ := ih (Int.fdiv u 128) (x ++ [bOr .u8 (W .u8 u) 128]) d0 d1 (by simp; omega)
   refine ⟨r, EvL.step (L := fun n k (s : Int × List Int) => armillaryref27_AppendVarint.l1 n k s.1 s.2) (S := fun n s => armillaryref27_AppendVarint.s1 n s.1 s.2) (fun _ _ _ => rfl) (s := (u, x)) (s' := (Int.fdiv u 128, x ++ [bOr .u8 (W .u8 u) 128])) (Ev.of fun n => ?_) r1, by simp at r2; omega, ?_⟩
   ·show armillaryref27_AppendVarint.s1 n u x = _
    unfold armillaryref27_AppendVarint.s1
    rw [show decide (u ≥ 128) = true from decide_eq_true h, roomT (n := x.length + 1) (by omega) (by omega)]
    rfl
   ·rw [r3, vl, if_pos h]
    simp
  ·refine ⟨(u, x), EvL.done (L := fun n k (s : Int × List Int) => armillaryref27_AppendVarint.l1 n k s.1 s.2) (S := fun n s => armillaryref27_AppendVarint.s1 n s.1 s.2) (fun _ _ _ => rfl) (s := (u, x)) (Ev.of fun n => ?_), Nat.le_add_right _ _, by rw [vl, if_neg h]⟩
   unfold armillaryref27_AppendVarint.s1
   rw [show decide (u ≥ 128) = false from decide_eq_false (by omega)]
   rfl
theorem refvar_ev {n : Int} {x : List Int} (h0 : 0 ≤ n) (h1 : n ≤ 20000) (hx : x.length ≤ 100000) : Ev (fun k => armillaryref27_AppendVarint k x n) (x ++ vl 2 (n * 2)) := by
 obtain ⟨m, rfl⟩ : ∃ m : Nat, n = (m : Int) := ⟨n.toNat, by omega⟩
 have e2 : W .u64 (m : Int) = (m : Int) := wrap64 (by omega)
 have e3 : W .u64 ((m : Int) * 2) = (m : Int) * 2 := by
  rw [show (m : Int) * 2 = ((m * 2 : Nat) : Int) by omega]
  exact wrap64 (by omega)
 obtain ⟨r, r1, r2, r3⟩ := refvar_l1 2 ((m : Int) * 2) ([] ++ x) (by omega) (by omega) (by simp; omega)
 unfold armillaryref27_AppendVarint armillaryref27_AppendVarint.j0
 rw [e2, e3]
 refine Ev.bind (Ev.F (decide_eq_false (by omega)) (Ev.ret _)) (Ev.ck (roomT (by omega) (by omega)) (Ev.bind r1.diag (Ev.ck (roomT (by simp at r2; omega) (by simp at r2; omega)) (Ev.cast (Ev.ret _) ?_))))
 rw [r3, List.nil_append]
theorem refenc_ev (e : Ent) : Ev (fun k => armillaryref27_EncodeEntry k e) (encR e) := by
 unfold armillaryref27_EncodeEntry encR
 simp only [refValid_eq, Option.bind_some]
 cases h : encOk e with
 | false => exact Ev.ret _
 | true =>
  obtain ⟨r1, r2, r3, r4, r5⟩ := (encOk_iff e).1 h
  have l1 := vl_len 2 (e.1 * 2)
  have l2 := vl_len 2 ((e.2.1.size : Int) * 2)
  have l3 := vl_len 2 ((e.2.2.length : Int) * 2)
  have hlen : (bytesOf e.2.1).length = e.2.1.size := bytesOf_length e.2.1
  rw [if_pos rfl]
  refine Ev.F rfl (Ev.bind (refvar_ev (by omega) (by omega) (by simp)) (Ev.bind (refvar_ev (by omega) (by omega) (by simp; omega)) (Ev.ck (decide_eq_true (by omega)) (Ev.ck (roomT (by simp only [List.length_append, List.length_nil]; omega) (by simp only [List.length_append, List.length_nil]; omega)) (Ev.bind (refvar_ev (by omega) r5 (by simp only [List.length_append, List.length_nil]; omega)) (Ev.ck (roomT (by simp only [List.length_append, List.length_nil]; omega) (by simp only [List.length_append, List.length_nil]; omega)) (Ev.cast (Ev.ret _) ?_)))))))
  unfold encB
  rw [List.nil_append]
theorem refLeader_eq (n v : Int) : armillaryref29_Leader n v = some (leadM n v) := leader_eq n v
theorem refSum_ev {e : Ent} (hb : bytesE e) : Ev (fun k => armillaryref29_Sum k e) (crc (encR e).2, (encR e).1 == 0) :=
 Ev.bind (refenc_ev e) (Ev.bind (refcrc_ev (by have := encR_len e; omega) (encR_byte hb)) (Ev.ret _))
theorem refzero_eq (e : Ent) : armillaryref29_zero e = some (bareE e) := by
 unfold armillaryref29_zero bareE
 cases (e.1 == 0) with
 | false => rfl
 | true => cases ((e.2.1.size : Int) == 0) <;> rfl
theorem refvalid_j0 (k : Nat) (n : Int) (m : Msg) : armillaryref29_Valid.j0 k n m = some (bif inM n m then .inl () else .inr false) := group_j0 k n m
theorem refvalid_ev (n : Int) {m : Msg} (hb : bytesE (mE m)) : Ev (fun k => armillaryref29_Valid k m n) (validM n m) := by
 unfold armillaryref29_Valid validM
 simp only [refvalid_j0, Option.bind_some]
 cases inM n m with
 | false => exact Ev.ret _
 | true =>
  simp only [cond_true, AM.sm, Bool.true_and]
  by_cases h1 : mK m = 1
  ·rw [if_pos h1]
   refine Ev.T (by simpa using h1) (Ev.bind (refSum_ev hb) ?_)
   unfold encR
   cases hb : encOk (mE m) with
   | false =>
    rw [if_neg (by decide)]
    exact Ev.ret _
   | true =>
    rw [if_pos rfl]
    simp only [refLeader_eq, Option.bind_some]
    cases hl : (mF m == leadM n (mV m)) with
    | false =>
     refine Ev.T rfl (Ev.F rfl (Ev.ret _))
    | true => exact Ev.T rfl (Ev.T rfl (Ev.ret _))
  ·rw [if_neg h1]
   refine Ev.F (by simpa using h1) ?_
   simp only [refzero_eq, Option.bind_some]
   by_cases h2 : mK m = 2
   ·rw [if_pos (Or.inl h2)]
    exact Ev.T (by simpa using h2) (Ev.ret _)
   ·refine Ev.F (by simpa using h2) ?_
    by_cases h3 : mK m = 3
    ·rw [if_pos (Or.inr h3)]
     exact Ev.T (by simpa using h3) (Ev.ret _)
    ·rw [if_neg (by rintro (h | h) <;> contradiction)]
     refine Ev.F (by simpa using h3) ?_
     by_cases h4 : mK m = 4
     ·rw [if_pos h4]
      refine Ev.T (by simpa using h4) ?_
      cases bareE (mE m) with
      | false => exact Ev.ret _
      | true =>
       simp only [cond_true, mQ, mS]
       cases (m.2.2.2.1 == 0) <;> exact Ev.ret _
     ·rw [if_neg h4]
      exact Ev.F (by simpa using h4) (Ev.ret _)
theorem refMaxF_eq {n : Int} (h1 : 1 ≤ n) (h2 : n ≤ 13) : armillaryref29_MaxFaulty n = some (maxF n) := maxF_eq h1 h2
theorem refSize_eq {n : Int} (h1 : 1 ≤ n) (h2 : n ≤ 13) : armillaryref29_Size n = some (qsz n) := qsz_eq h1 h2

/-! ### what the reference decides -/
theorem refcounts_ev {n : Int} {l : List Msg} (h : GoodM n l) (hb : ∀ m ∈ l, bytesE (mE m)) (hl : l.length ≤ 1000000) {i : Nat} (hi : i < l.length) : Ev (fun k => armillaryref29_counts k l n (i : Int)) true := by
 unfold armillaryref29_counts
 refine Ev.ck (inbN hi) ?_
 simp only [getD_int hi]
 refine Ev.bind (refvalid_ev n (hb _ (List.getElem_mem hi))) (Ev.F (by rw [h.ok _ (List.getElem_mem hi)]; rfl) ?_)
 have hrun : Ev (fun k => armillaryref29_counts.l1 k k 0 l n (i : Int)) (.inr ()) := by
  refine loop_run (L := fun k j (s : Int) => armillaryref29_counts.l1 k j s l n (i : Int)) (S := fun k s => armillaryref29_counts.s1 k s l n (i : Int)) (fun _ _ _ => rfl) (fun j => (j : Int)) i _ (fun j hj => ?_) (Ev.of fun k => ?_)
  ·have hjl : j < l.length := by omega
   show Ev (fun k => armillaryref29_counts.s1 k (j : Int) l n (i : Int)) (.inl ((j + 1 : Nat) : Int))
   unfold armillaryref29_counts.s1
   refine Ev.T (decide_eq_true (by omega)) (Ev.bind (a := (Sum.inl () : Unit ⊕ Bool)) ?_ ?_)
   ·unfold armillaryref29_counts.j0
    simp only [getD_int hi, getD_int hjl, inbN hi, inbN hjl, AM.ck, cond_true]
    have hne : keyM l[j] ≠ keyM l[i] := List.pairwise_iff_getElem.1 h.nd j i hjl hi hj
    by_cases e1 : l[j].1 = l[i].1
    ·refine Ev.T (by simpa using e1) ?_
     by_cases e2 : l[j].2.1 = l[i].2.1
     ·refine Ev.T (by simpa using e2) ?_
      by_cases e3 : l[j].2.2.1 = l[i].2.2.1
      ·refine Ev.T (by simpa using e3) ?_
       by_cases e4 : l[j].2.2.2.1 = l[i].2.2.2.1
       ·exact absurd (by unfold keyM; simp only [mK, mF, mV, mQ, e1, e2, e3, e4]) hne
       ·exact Ev.F (by simpa using e4) (Ev.ret _)
      ·exact Ev.F (by simpa using e3) (Ev.ret _)
     ·exact Ev.F (by simpa using e2) (Ev.ret _)
    ·exact Ev.F (by simpa using e1) (Ev.ret _)
   ·rw [wr64s j (by omega)]
    exact Ev.ret _
  ·show armillaryref29_counts.s1 k (i : Int) l n (i : Int) = _
   unfold armillaryref29_counts.s1
   rw [show decide ((i : Int) < (i : Int)) = false from decide_eq_false (by omega)]
   rfl
 exact Ev.bind hrun (Ev.ret _)
theorem votes_le (l : List Msg) (b : VK) : votes l b ≤ l.length := List.length_filter_le _ _
theorem votes_take (l : List Msg) (b : VK) {j : Nat} (hj : j < l.length) : votes (l.take (j + 1)) b = votes (l.take j) b + if ballM l[j] = b then 1 else 0 := by
 unfold votes
 rw [filter_take _ _ _ hj, List.length_append]
 by_cases h : ballM l[j] = b <;> simp [h]
theorem refvotes_ev {n : Int} {l : List Msg} (h : GoodM n l) (hb : ∀ m ∈ l, bytesE (mE m)) (hl : l.length ≤ 1000000) {i : Nat} (hi : i < l.length) (v q a : Int) : Ev (fun k => armillaryref29_decided.l3 k k 0 0 l n a (i : Int) (v, q)) (((votes l (a, v, q, mS l[i]) : Nat) : Int), (v, q)) := by
 refine loop_run (L := fun k j (s : Int × Int × (Int × Int)) => armillaryref29_decided.l3 k j s.1 s.2.1 l n a (i : Int) s.2.2) (S := fun k s => armillaryref29_decided.s3 k s.1 s.2.1 l n a (i : Int) s.2.2) (fun _ _ _ => rfl)
  (fun j => (((votes (l.take j) (a, v, q, mS l[i]) : Nat) : Int), (j : Int), (v, q))) l.length _ (fun j hj => ?_) (Ev.of fun k => ?_)
 ·show Ev (fun k => armillaryref29_decided.s3 k ((votes (l.take j) (a, v, q, mS l[i]) : Nat) : Int) (j : Int) l n a (i : Int) (v, q)) (.inl (((votes (l.take (j + 1)) (a, v, q, mS l[i]) : Nat) : Int), ((j + 1 : Nat) : Int), (v, q)))
  have hle : votes (l.take j) (a, v, q, mS l[i]) ≤ 1000000 := Nat.le_trans (votes_le _ _) (by rw [List.length_take]; omega)
  unfold armillaryref29_decided.s3 armillaryref29_decided.j2 armillaryref29_decided.j1
  rw [votes_take l _ hj, wr64s j (by omega), wr64s _ (by omega)]
  refine Ev.T (decide_eq_true (by omega)) (Ev.bind (a := ((votes (l.take j) (a, v, q, mS l[i]) + (if ballM l[j] = (a, v, q, mS l[i]) then 1 else 0) : Nat) : Int)) (Ev.bind (a := decide (ballM l[j] = (a, v, q, mS l[i]))) ?_ ?_) (Ev.ret _))
  ·simp only [getD_int hi, getD_int hj, inbN hi, inbN hj, AM.ck, cond_true]
   unfold ballM
   by_cases e1 : l[j].1 = a
   ·refine Ev.T (by simpa using e1) ?_
    by_cases e2 : l[j].2.2.1 = v
    ·refine Ev.T (by simpa using e2) ?_
     by_cases e3 : l[j].2.2.2.1 = q
     ·refine Ev.T (by simpa using e3) ?_
      by_cases e4 : l[j].2.2.2.2.1 = l[i].2.2.2.2.1
      ·refine Ev.T (by simpa using e4) (Ev.bind (refcounts_ev h hb hl hj) (Ev.cast (Ev.ret _) ?_))
       exact (decide_eq_true (by simp only [mK, mV, mQ, mS, e1, e2, e3, e4])).symm
      ·exact Ev.F (by simpa using e4) (Ev.cast (Ev.ret _) (decide_eq_false (by simp only [mK, mV, mQ, mS, Prod.mk.injEq, e4, and_false]; exact id)).symm)
     ·exact Ev.F (by simpa using e3) (Ev.cast (Ev.ret _) (decide_eq_false (by simp only [mK, mV, mQ, mS, Prod.mk.injEq, e3, and_false, false_and]; exact id)).symm)
    ·exact Ev.F (by simpa using e2) (Ev.cast (Ev.ret _) (decide_eq_false (by simp only [mK, mV, mQ, mS, Prod.mk.injEq, e2, and_false, false_and]; exact id)).symm)
   ·exact Ev.F (by simpa using e1) (Ev.cast (Ev.ret _) (decide_eq_false (by simp only [mK, mV, mQ, mS, Prod.mk.injEq, e1, false_and]; exact id)).symm)
  ·by_cases e : ballM l[j] = (a, v, q, mS l[i])
   ·rw [if_pos e]; exact Ev.T (decide_eq_true e) (Ev.ret _)
   ·rw [if_neg e]; exact Ev.F (decide_eq_false e) (Ev.ret _)
 ·show armillaryref29_decided.s3 k ((votes (l.take l.length) (a, v, q, mS l[i]) : Nat) : Int) (l.length : Int) l n a (i : Int) (v, q) = _
  unfold armillaryref29_decided.s3
  rw [show decide ((l.length : Int) < (l.length : Int)) = false from decide_eq_false (by omega), List.take_length]
  rfl
theorem refdecided_ev {n : Int} (h1 : 1 ≤ n) (h2 : n ≤ 13) {l : List Msg} (h : GoodM n l) (hb : ∀ m ∈ l, bytesE (mE m)) (hl : l.length ≤ 1000000) (v q a : Int) : Ev (fun k => armillaryref29_decided k l n (v, q) a) ((decM n l a v q).getD 0, (decM n l a v q).isSome) := by
 have hs : ∀ i (hi : i < l.length), Ev (fun k => armillaryref29_decided.s5 k (i : Int) l n a (v, q)) (if decide (mK l[i] = a ∧ mV l[i] = v ∧ mQ l[i] = q ∧ qsz n ≤ (votes l (a, v, q, mS l[i]) : Int)) = true then .inr (.inl (mS l[i], true, (v, q))) else .inl (((i + 1 : Nat) : Int), (v, q))) := by
  intro i hi
  unfold armillaryref29_decided.s5 armillaryref29_decided.j4 armillaryref29_decided.j0
  rw [wr64s i (by omega)]
  simp only [getD_int hi, inbN hi, AM.ck, cond_true]
  refine Ev.T (decide_eq_true (by omega)) ?_
  have skip : ∀ c : Bool, c = false → (if c = true then (Sum.inr (Sum.inl (mS l[i], true, (v, q))) : (Int × Int × Int) ⊕ ((Int × Bool × Int × Int) ⊕ (Int × Int))) else .inl (((i + 1 : Nat) : Int), (v, q))) = .inl (((i + 1 : Nat) : Int), (v, q)) := fun c hc => by rw [hc]; rfl
  by_cases e1 : l[i].1 = a
  ·by_cases e2 : l[i].2.2.1 = v
   ·by_cases e3 : l[i].2.2.2.1 = q
    ·by_cases e4 : qsz n ≤ (votes l (a, v, q, mS l[i]) : Int)
     ·rw [if_pos (decide_eq_true ⟨e1, e2, e3, e4⟩)]
      refine Ev.bind (a := (Sum.inr (mS l[i], true, (v, q)) : (Int × Int) ⊕ (Int × Bool × Int × Int))) (Ev.bind (a := (Sum.inl () : Unit ⊕ Unit)) (Ev.F (by simpa using e1) (Ev.F (by simpa using e2) (Ev.F (by simpa using e3) (Ev.bind (refvalid_ev n (hb _ (List.getElem_mem hi))) (Ev.F (by rw [h.ok _ (List.getElem_mem hi)]; rfl) (Ev.ret _)))))) ?_) (Ev.ret _)
      exact Ev.bind (refvotes_ev h hb hl hi v q a) (Ev.bind (Ev.of fun _ => refSize_eq h1 h2) (Ev.T (decide_eq_true e4) (Ev.ret _)))
     ·rw [skip _ (decide_eq_false (by rintro ⟨_, _, _, h⟩; exact e4 h))]
      refine Ev.bind (a := (Sum.inl (v, q) : (Int × Int) ⊕ (Int × Bool × Int × Int))) (Ev.bind (a := (Sum.inl () : Unit ⊕ Unit)) (Ev.F (by simpa using e1) (Ev.F (by simpa using e2) (Ev.F (by simpa using e3) (Ev.bind (refvalid_ev n (hb _ (List.getElem_mem hi))) (Ev.F (by rw [h.ok _ (List.getElem_mem hi)]; rfl) (Ev.ret _)))))) ?_) (Ev.ret _)
      exact Ev.bind (refvotes_ev h hb hl hi v q a) (Ev.bind (Ev.of fun _ => refSize_eq h1 h2) (Ev.F (decide_eq_false e4) (Ev.ret _)))
    ·rw [skip _ (decide_eq_false (by rintro ⟨_, _, h, _⟩; exact e3 h))]
     exact Ev.bind (a := (Sum.inl (v, q) : (Int × Int) ⊕ (Int × Bool × Int × Int))) (Ev.bind (a := (Sum.inr () : Unit ⊕ Unit)) (Ev.F (by simpa using e1) (Ev.F (by simpa using e2) (Ev.T (by simpa using e3) (Ev.ret _)))) (Ev.ret _)) (Ev.ret _)
   ·rw [skip _ (decide_eq_false (by rintro ⟨_, h, _, _⟩; exact e2 h))]
    exact Ev.bind (a := (Sum.inl (v, q) : (Int × Int) ⊕ (Int × Bool × Int × Int))) (Ev.bind (a := (Sum.inr () : Unit ⊕ Unit)) (Ev.F (by simpa using e1) (Ev.T (by simpa using e2) (Ev.ret _))) (Ev.ret _)) (Ev.ret _)
  ·rw [skip _ (decide_eq_false (by rintro ⟨h, _, _, _⟩; exact e1 h))]
   exact Ev.bind (a := (Sum.inl (v, q) : (Int × Int) ⊕ (Int × Bool × Int × Int))) (Ev.bind (a := (Sum.inr () : Unit ⊕ Unit)) (Ev.T (by simpa using e1) (Ev.ret _)) (Ev.ret _)) (Ev.ret _)
 unfold armillaryref29_decided decM
 cases hf : l.findIdx? fun m => decide (mK m = a ∧ mV m = v ∧ mQ m = q ∧ qsz n ≤ (votes l (a, v, q, mS m) : Int)) with
 | none =>
  rw [idx_none hf]
  have hrun : Ev (fun k => armillaryref29_decided.l5 k k 0 l n a (v, q)) (.inr (v, q)) := by
   refine loop_run (L := fun k j (s : Int × (Int × Int)) => armillaryref29_decided.l5 k j s.1 l n a s.2) (S := fun k s => armillaryref29_decided.s5 k s.1 l n a s.2) (fun _ _ _ => rfl) (fun j => ((j : Int), (v, q))) l.length _ (fun i hi => ?_) (Ev.of fun k => ?_)
   ·have := hs i hi
    rw [List.findIdx?_eq_none_iff.1 hf _ (List.getElem_mem hi)] at this
    exact this
   ·show armillaryref29_decided.s5 k (l.length : Int) l n a (v, q) = _
    unfold armillaryref29_decided.s5
    rw [show decide ((l.length : Int) < (l.length : Int)) = false from decide_eq_false (by omega)]
    rfl
  exact Ev.bind hrun (Ev.ret _)
 | some j =>
  obtain ⟨hj, hp, hbf⟩ := List.findIdx?_eq_some_iff_getElem.1 hf
  obtain ⟨_, hx⟩ := idx_some hf
  rw [hx]
  have hrun : Ev (fun k => armillaryref29_decided.l5 k k 0 l n a (v, q)) (.inl (mS l[j], true, (v, q))) := by
   refine loop_run (L := fun k j (s : Int × (Int × Int)) => armillaryref29_decided.l5 k j s.1 l n a s.2) (S := fun k s => armillaryref29_decided.s5 k s.1 l n a s.2) (fun _ _ _ => rfl) (fun j => ((j : Int), (v, q))) j _ (fun i hi => ?_) ?_
   ·have := hs i (by omega)
    rw [if_neg (hbf i hi)] at this
    exact this
   ·have := hs j hj
    rw [if_pos hp] at this
    exact this
  exact Ev.bind hrun (Ev.ret _)
theorem refprep_ev {n : Int} (h1 : 1 ≤ n) (h2 : n ≤ 13) {l : List Msg} (h : GoodM n l) (hb : ∀ m ∈ l, bytesE (mE m)) (hl : l.length ≤ 1000000) (v q : Int) : Ev (fun k => armillaryref29_Prepared k l n (v, q)) ((decM n l 2 v q).getD 0, (decM n l 2 v q).isSome) :=
 Ev.bind (refdecided_ev h1 h2 h hb hl v q 2) (Ev.ret _)
theorem refcomm_ev {n : Int} (h1 : 1 ≤ n) (h2 : n ≤ 13) {l : List Msg} (h : GoodM n l) (hb : ∀ m ∈ l, bytesE (mE m)) (hl : l.length ≤ 1000000) (v q : Int) : Ev (fun k => armillaryref29_Committed k l n (v, q)) ((decM n l 3 v q).getD 0, (decM n l 3 v q).isSome) :=
 Ev.bind (refdecided_ev h1 h2 h hb hl v q 3) (Ev.ret _)
theorem refhigh_ev {n : Int} (h1 : 1 ≤ n) (h2 : n ≤ 13) {l : List Msg} (h : GoodM n l) (hb : ∀ m ∈ l, bytesE (mE m)) (hl : l.length ≤ 1000000) (v q : Int) : Ev (fun k => armillaryref29_HighestPrepared k l n (v, q)) ((hiM n l v q).1, decide ((hiM n l v q).2 ≥ 0)) := by
 have hrun : Ev (fun k => armillaryref29_HighestPrepared.l2 k k (-1) 0 l n (v, q) zE) ((hiM n l v q).2, (v, q), (hiM n l v q).1) := by
  refine loop_run (L := fun k j (s : Int × Int × (Int × Int) × Ent) => armillaryref29_HighestPrepared.l2 k j s.1 s.2.1 l n s.2.2.1 s.2.2.2) (S := fun k s => armillaryref29_HighestPrepared.s2 k s.1 s.2.1 l n s.2.2.1 s.2.2.2) (fun _ _ _ => rfl)
   (fun i => (((l.take i).foldl (hstepM n l v q) (zE, -1)).2, (i : Int), (v, q), ((l.take i).foldl (hstepM n l v q) (zE, -1)).1)) l.length _ (fun i hi => ?_) (Ev.of fun k => ?_)
  ·show Ev (fun k => armillaryref29_HighestPrepared.s2 k ((l.take i).foldl (hstepM n l v q) (zE, -1)).2 (i : Int) l n (v, q) ((l.take i).foldl (hstepM n l v q) (zE, -1)).1) (.inl (((l.take (i + 1)).foldl (hstepM n l v q) (zE, -1)).2, ((i + 1 : Nat) : Int), (v, q), ((l.take (i + 1)).foldl (hstepM n l v q) (zE, -1)).1))
   rw [List.take_add_one, List.getElem?_eq_getElem hi, List.foldl_append]
   simp only [Option.toList_some, List.foldl_cons, List.foldl_nil]
   generalize (l.take i).foldl (hstepM n l v q) (zE, -1) = st
   unfold armillaryref29_HighestPrepared.s2 armillaryref29_HighestPrepared.j1 armillaryref29_HighestPrepared.j0
   rw [wr64s i (by omega)]
   simp only [getD_int hi, inbN hi, AM.ck, cond_true]
   refine Ev.T (decide_eq_true (by omega)) (Ev.bind (a := ((hstepM n l v q st l[i]).2, (hstepM n l v q st l[i]).1)) ?_ (Ev.ret _))
   have skip : ∀ c : Prop, [Decidable c] → ¬ c → (if c then (mE l[i], mV l[i]) else st) = st := fun c _ hc => if_neg hc
   unfold hstepM
   by_cases e1 : l[i].1 = 1
   ·by_cases e2 : l[i].2.2.2.1 = q
    ·by_cases e3 : l[i].2.2.1 < v
     ·by_cases e4 : l[i].2.2.1 ≤ st.2
      ·rw [skip _ (by rintro ⟨_, h⟩; have h : st.2 < l[i].2.2.1 := h; omega)]
       exact Ev.bind (a := (Sum.inr () : Unit ⊕ Unit)) (Ev.F (by simpa using e1) (Ev.F (by simpa using e2) (Ev.F (decide_eq_false (by omega)) (Ev.T (decide_eq_true e4) (Ev.ret _))))) (Ev.ret _)
      ·refine Ev.bind (a := (Sum.inl () : Unit ⊕ Unit)) (Ev.F (by simpa using e1) (Ev.F (by simpa using e2) (Ev.F (decide_eq_false (by omega)) (Ev.F (decide_eq_false e4) (Ev.bind (refvalid_ev n (hb _ (List.getElem_mem hi))) (Ev.F (by rw [h.ok _ (List.getElem_mem hi)]; rfl) (Ev.ret _))))))) (Ev.bind (refprep_ev h1 h2 h hb hl _ _) ?_)
       simp only [mK, mQ, mV, mS]
       cases hd : decM n l 2 l[i].2.2.1 l[i].2.2.2.1 with
       | none =>
        rw [skip _ (by rintro ⟨⟨_, _, _, h⟩, _⟩; cases h)]
        exact Ev.ret _
       | some s =>
        by_cases e5 : s = l[i].2.2.2.2.1
        ·rw [if_pos ⟨⟨e1, e2, e3, by rw [e5]⟩, by omega⟩]
         exact Ev.T rfl (Ev.T (by simpa using e5) (Ev.ret _))
        ·rw [skip _ (by rintro ⟨⟨_, _, _, h⟩, _⟩; exact e5 (Option.some.inj h))]
         exact Ev.T rfl (Ev.F (by simpa using e5) (Ev.ret _))
     ·rw [skip _ (by rintro ⟨⟨_, _, h, _⟩, _⟩; exact e3 h)]
      exact Ev.bind (a := (Sum.inr () : Unit ⊕ Unit)) (Ev.F (by simpa using e1) (Ev.F (by simpa using e2) (Ev.T (decide_eq_true (by omega)) (Ev.ret _)))) (Ev.ret _)
    ·rw [skip _ (by rintro ⟨⟨_, h, _, _⟩, _⟩; exact e2 h)]
     exact Ev.bind (a := (Sum.inr () : Unit ⊕ Unit)) (Ev.F (by simpa using e1) (Ev.T (by simpa using e2) (Ev.ret _))) (Ev.ret _)
   ·rw [skip _ (by rintro ⟨⟨h, _, _, _⟩, _⟩; exact e1 h)]
    exact Ev.bind (a := (Sum.inr () : Unit ⊕ Unit)) (Ev.T (by simpa using e1) (Ev.ret _)) (Ev.ret _)
  ·show armillaryref29_HighestPrepared.s2 k ((l.take l.length).foldl (hstepM n l v q) (zE, -1)).2 (l.length : Int) l n (v, q) ((l.take l.length).foldl (hstepM n l v q) (zE, -1)).1 = _
   unfold armillaryref29_HighestPrepared.s2
   rw [show decide ((l.length : Int) < (l.length : Int)) = false from decide_eq_false (by omega), List.take_length]
   rfl
 exact Ev.bind hrun (Ev.ret _)

/-! ### sameness -/
theorem same_self (e : Ent) : armillaryref27_Same e e = some true := by
 unfold armillaryref27_Same
 simp
theorem sameM_self (m : Msg) : armillaryref27_SameMessage m m = some true := by
 unfold armillaryref27_SameMessage
 simp only [beq_self_eq_true, cond_true, same_self, Option.bind_some]
theorem sameLog_ev {l : List Ent} (hl : l.length < 4611686018427387904) : Ev (fun k => armillaryref30_SameLog k l l) true := by
 unfold armillaryref30_SameLog
 refine Ev.F (by simp) ?_
 have hrun : Ev (fun k => armillaryref30_SameLog.l0 k k 0 l l) (.inr ()) := by
  refine loop_run (L := fun k j (s : Int) => armillaryref30_SameLog.l0 k j s l l) (S := fun k s => armillaryref30_SameLog.s0 k s l l) (fun _ _ _ => rfl) (fun j => (j : Int)) l.length _ (fun i hi => Ev.of fun k => ?_) (Ev.of fun k => ?_)
  ·show armillaryref30_SameLog.s0 k (i : Int) l l = _
   unfold armillaryref30_SameLog.s0
   rw [show decide ((i : Int) < (l.length : Int)) = true from decide_eq_true (by omega), inbN hi, wr64s i (by omega), same_self]
   rfl
  ·show armillaryref30_SameLog.s0 k (l.length : Int) l l = _
   unfold armillaryref30_SameLog.s0
   rw [show decide ((l.length : Int) < (l.length : Int)) = false from decide_eq_false (by omega)]
   rfl
 exact Ev.bind hrun (Ev.ret _)
theorem sameMsgs_ev {l : List Msg} (hl : l.length < 4611686018427387904) : Ev (fun k => armillaryref30_SameMessages k l l) true := by
 unfold armillaryref30_SameMessages
 refine Ev.F (by simp) ?_
 have hrun : Ev (fun k => armillaryref30_SameMessages.l0 k k 0 l l) (.inr ()) := by
  refine loop_run (L := fun k j (s : Int) => armillaryref30_SameMessages.l0 k j s l l) (S := fun k s => armillaryref30_SameMessages.s0 k s l l) (fun _ _ _ => rfl) (fun j => (j : Int)) l.length _ (fun i hi => Ev.of fun k => ?_) (Ev.of fun k => ?_)
  ·show armillaryref30_SameMessages.s0 k (i : Int) l l = _
   unfold armillaryref30_SameMessages.s0
   rw [show decide ((i : Int) < (l.length : Int)) = true from decide_eq_true (by omega), inbN hi, wr64s i (by omega), sameM_self]
   rfl
  ·show armillaryref30_SameMessages.s0 k (l.length : Int) l l = _
   unfold armillaryref30_SameMessages.s0
   rw [show decide ((l.length : Int) < (l.length : Int)) = false from decide_eq_false (by omega)]
   rfl
 exact Ev.bind hrun (Ev.ret _)
theorem sameR_ev {r : Rep} (h : Sz r) : Ev (fun k => armillaryref30_Same k r r) true := by
 have h1 := h.t
 have h2 := h.s
 have h3 := h.g
 unfold armillaryref30_Same
 refine Ev.T (by simp) (Ev.T (by simp) (Ev.T (by simp) (Ev.bind (sameMsgs_ev (l := rT r) (by omega)) (Ev.T rfl (Ev.bind (sameMsgs_ev (l := rS r) (by omega)) (Ev.T rfl (Ev.bind (sameLog_ev (l := rL r) (by omega)) (Ev.ret _))))))))
end Go.Proofs.YtijhdekfbjafgaaGreat
namespace Go.Proofs.YtijhdekfbjafgaaGreat
open Go Go.RowKit Go.Proofs.YtijhdekfbjafgaaGreat.RW Go.Proofs.YtijhdekfbjafgaaGreat.AM
theorem sane (n : Nat) : armillarylaw30_sanity (n + 12) = some true := by kernel_rfl
end Go.Proofs.YtijhdekfbjafgaaGreat
