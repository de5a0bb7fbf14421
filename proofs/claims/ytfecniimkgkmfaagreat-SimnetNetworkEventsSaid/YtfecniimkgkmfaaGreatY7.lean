/- Words of the walk, the functions' walks and plain laws, joined; no conditions beyond those that the theorems name. -/
import Derived.Test.YtfecniimkgkmfaaGreatY6
import Derived.Test.YtfecniimkgkmfaaGreatY4
import Derived.Laws.Strings
import Derived.Test.YtfecniimkgkmfaaGreatY5
set_option linter.unusedVariables false
namespace Go.Proofs.YtfecniimkgkmfaaGreat
open Go Go.RowKit Go.Proofs.YtfecniimkgkmfaaGreat.RW Go.Proofs.YtfecniimkgkmfaaGreat.AM
namespace armillaryref30_New
noncomputable abbrev F : List (Nat × FragD) := []
theorem Fok : AllF Tryz.prog (F) := trivial
end armillaryref30_New
open armillaryref30_New in
noncomputable def armillaryref30_New (t0 : Int) (t1 : Int) : Option S56 :=
some (t0, t1, 0, ([] : List S43), ([] : List S43), ([] : List S41))
noncomputable def armillaryref30_New.d : FragD := ⟨⟨[(0, pi), (1, pi)], []⟩, [⟨1, ⟨[(0, pst c56)], []⟩, S56, fun x => x.1.1, fun r => ((r, ()), ()), fun _ => rfl⟩], fun x => armillaryref30_New x.1.1 x.1.2.1⟩
open armillaryref30_New in
theorem armillaryref30_New.ok : FunOK Tryz.prog 28 (armillaryref30_New.d) := funR ⟨Tryz.prog, 8, F, [], [], []⟩ Tryz.f28 (by kernel_rfl) (by kernel_rfl) (by kernel_rfl) (Fok) trivial noL (by kernel_rfl) (fun x => by kernel_rfl)

namespace armillaryref31_New
noncomputable abbrev K := cBody Tryz.f13
noncomputable abbrev F (n : Nat) : List (Nat × FragD) := [(41, armillaryref29_MaxFaulty.d), (26, armillaryref31_Contains.d n), (28, armillaryref30_New.d)]
theorem Fok (n : Nat) : AllF Tryz.prog (F n) := ⟨armillaryref29_MaxFaulty.ok, armillaryref31_Contains.ok n, armillaryref30_New.ok, trivial⟩
noncomputable def j0 (n : Nat) (t0 : Int) (t1 : List Int) : Option (Unit ⊕ Int) :=
bif decide (t0 < 1) then
some (.inr 1)
else
bif decide (t0 > 13) then
some (.inr 1)
else
(armillaryref29_MaxFaulty t0).bind fun z1 =>
bif (decide ((t1.length : Int) > z1)) then
some (.inr 1)
else
some (.inl ())
noncomputable def D0 (n : Nat) : FragD := ⟨⟨[(0, pi), (1, ph (.row (.int .i64))), (4, pp 0)], [.blk 31 [.nl, .nl, .nl, .nl]]⟩, [⟨0, ⟨[], [.same]⟩, Unit, fun _ => (), fun _ => ((), ((), ())), fun _ => rfl⟩, ⟨1, ⟨[(5, pi)], [.blk 31 [.nl, .nl, .nl, .nl]]⟩, Int, fun x => x.1.1, fun r => ((r, ()), (((), (), (), (), ()), ())), fun _ => rfl⟩], fun x => j0 n x.1.1 x.1.2.1⟩
set_option maxRecDepth 1000000 in
theorem T0 (n : Nat) : FragOK Tryz.prog 77 (atN K 400 6) (D0 n) := fragR ⟨Tryz.prog, 77, F n, [], [], []⟩ (Fok n) trivial noL 6 (by kernel_rfl) (fun x => by kernel_rfl)
noncomputable abbrev r0 (n : Nat) : List (Nat × FragD) := (6, D0 n) :: []
theorem R0 (n : Nat) : AllFr Tryz.prog 77 K (r0 n) := ⟨T0 n, trivial⟩
noncomputable def j1 (n : Nat) (t0 : Int) (t1 : List Int) (t7 : Int) : Option (Unit ⊕ Int) :=
ck (inb t7 t1.length) <|
bif (decide ((t1.getD t7.toNat 0) < 0)) then
some (.inr 1)
else
ck (inb t7 t1.length) <|
bif (decide ((t1.getD t7.toNat 0) ≥ t0)) then
some (.inr 1)
else
ck (inb t7 (t1.length + 1)) <|
ck (inb t7 t1.length) <|
(armillaryref31_Contains n (t1.take t7.toNat) (t1.getD t7.toNat 0)).bind fun z9 =>
bif z9 then
some (.inr 1)
else
some (.inl ())
noncomputable def D1 (n : Nat) : FragD := ⟨⟨[(0, pi), (1, ph (.row (.int .i64))), (4, pp 0), (7, pi)], [.blk 31 [.nl, .nl, .nl, .nl]]⟩, [⟨0, ⟨[], [.same]⟩, Unit, fun _ => (), fun _ => ((), ((), ())), fun _ => rfl⟩, ⟨1, ⟨[(5, pi)], [.blk 31 [.nl, .nl, .nl, .nl]]⟩, Int, fun x => x.1.1, fun r => ((r, ()), (((), (), (), (), ()), ())), fun _ => rfl⟩], fun x => j1 n x.1.1 x.1.2.1 x.1.2.2.2.1⟩
set_option maxRecDepth 1000000 in
theorem T1 (n : Nat) : FragOK Tryz.prog 77 (atN K 400 3912) (D1 n) := fragR ⟨Tryz.prog, 77, F n, (r0 n), [], []⟩ (Fok n) (R0 n) noL 3912 (by kernel_rfl) (fun x => by kernel_rfl)
noncomputable abbrev r1 (n : Nat) : List (Nat × FragD) := (3912, D1 n) :: (r0 n)
theorem R1 (n : Nat) : AllFr Tryz.prog 77 K (r1 n) := ⟨T1 n, R0 n⟩
noncomputable def s2 (n : Nat) (t7 : Int) (t0 : Int) (t1 : List Int) (o2 : List Int) : Option ((Int × List Int) ⊕ ((Int × List Int) ⊕ List Int)) :=
bif (decide (t7 < (t1.length : Int))) then
(j1 n t0 t1 t7).bind fun z14 =>
sm z14 (fun z15 =>
ck (inb t7 t1.length) <|
ck (room (o2.length + 1) 8) <|
some (.inl (W .i64 (t7 + 1), (o2 ++ [t1.getD t7.toNat 0])))) fun z16 =>
some (.inr (.inl (z16, o2)))
else
some (.inr (.inr o2))
noncomputable def l2 (n : Nat) : Nat → Int → Int → List Int → List Int → Option ((Int × List Int) ⊕ List Int)
| 0, _, _, _, _ => none
| k + 1, t7, t0, t1, o2 => (s2 n t7 t0 t1 o2).bind fun z => sm z (fun z => l2 n k z.1 t0 t1 z.2) some
noncomputable def L2 (n : Nat) : LoopD := ⟨[(4, pp 0), (6, pp 1), (7, pi)], [(0, pi), (1, ph (.row (.int .i64)))], [.blk 31 [.nl, .nl, .nl, .nl], .blk 31 [.nl, .nl, .nl, .sl 2], .row 3 (.int .i64)], Int × List Int, fun x => (x.1.2.2.1, x.2.2.2.1), fun r => (((), (), r.1, ()), (((), (), (), (), ()), ((), (), (), (), ()), r.2, ())), fun _ => rfl, ⟨1, ⟨[(5, pi)], [.blk 31 [.nl, .nl, .nl, .nl], .blk 31 [.nl, .nl, .nl, .sl 3], .gone, .row 3 (.int .i64)]⟩, Int × List Int, fun x => (x.1.1, x.2.2.2.2.1), fun r => ((r.1, ()), (((), (), (), (), ()), ((), (), (), (), ()), (), r.2, ())), fun _ => rfl⟩, [⟨2, ⟨[], [.blk 31 [.nl, .nl, .nl, .nl], .blk 31 [.nl, .nl, .nl, .sl 3], .gone, .row 3 (.int .i64)]⟩, List Int, fun x => x.2.2.2.2.1, fun r => ((), (((), (), (), (), ()), ((), (), (), (), ()), (), r, ())), fun _ => rfl⟩], fun x => s2 n x.1.2.2.1 x.1.2.2.2.1 x.1.2.2.2.2.1 x.2.2.2.1, [0, 1]⟩
set_option maxRecDepth 1000000 in
theorem T2 (n : Nat) : FragOKL n Tryz.prog 77 (atN K 400 244) ((L2 n).loopD fun x => l2 n n x.1.2.2.1 x.1.2.2.2.1 x.1.2.2.2.2.1 x.2.2.2.1) := loopL (L2 n) 122 (by kernel_rfl) (fragK ⟨Tryz.prog, 77, F n, (r1 n), [], []⟩ (Fok n) (R1 n) noL 244 (by kernel_rfl) (fun x => by kernel_rfl)) (fun k x => l2 n k x.1.2.2.1 x.1.2.2.2.1 x.1.2.2.2.2.1 x.2.2.2.1) (fun x => by kernel_rfl) (fun k x => by kernel_rfl) n
noncomputable abbrev q2 (n : Nat) : List (Nat × FragD) := (122, ((L2 n).loopD fun x => l2 n n x.1.2.2.1 x.1.2.2.2.1 x.1.2.2.2.2.1 x.2.2.2.1)) :: []
theorem Q2 (n : Nat) : AllL n Tryz.prog 77 K (q2 n) := ⟨T2 n, trivial⟩
noncomputable def s3 (n : Nat) (t8 : Int) (t0 : Int) (o0 : List Int) (o1 : List S56) : Option ((Int × List Int × List S56) ⊕ (List Int × List S56)) :=
bif decide (t8 < t0) then
(armillaryref30_New t8 t0).bind fun z22 =>
ck (room (o1.length + 1) 96) <|
some (.inl (W .i64 (t8 + 1), o0, o1 ++ [z22]))
else
some (.inr (o0, o1))
noncomputable def l3 (n : Nat) : Nat → Int → Int → List Int → List S56 → Option (List Int × List S56)
| 0, _, _, _, _ => none
| k + 1, t8, t0, o0, o1 => (s3 n t8 t0 o0 o1).bind fun z => sm z (fun z => l3 n k z.1 t0 z.2.1 z.2.2) some
noncomputable def L3 (n : Nat) : LoopD := ⟨[(6, pp 0), (8, pi)], [(0, pi)], [.blk 31 [.sl 1, .nl, .nl, .h (.row (.int .i64))], .row 56 c56], Int × List Int × List S56, fun x => (x.1.2.1, x.2.1.2.2.2.1, x.2.2.1), fun r => (((), r.1, ()), (((), (), (), r.2.1, ()), r.2.2, ())), fun _ => rfl, ⟨4, ⟨[], [.blk 31 [.sl 2, .nl, .nl, .h (.row (.int .i64))], .gone, .row 56 c56]⟩, List Int × List S56, fun x => (x.2.1.2.2.2.1, x.2.2.2.1), fun r => ((), (((), (), (), r.1, ()), (), r.2, ())), fun _ => rfl⟩, [], fun x => s3 n x.1.2.1 x.1.2.2.1 x.2.1.2.2.2.1 x.2.2.1, [0]⟩
set_option maxRecDepth 1000000 in
theorem T3 (n : Nat) : FragOKL n Tryz.prog 77 (atN K 400 500) ((L3 n).loopD fun x => l3 n n x.1.2.1 x.1.2.2.1 x.2.1.2.2.2.1 x.2.2.1) := loopL (L3 n) 250 (by kernel_rfl) (fragK ⟨Tryz.prog, 77, F n, (r1 n), (q2 n), []⟩ (Fok n) (R1 n) (Q2 n) 500 (by kernel_rfl) (fun x => by kernel_rfl)) (fun k x => l3 n k x.1.2.1 x.1.2.2.1 x.2.1.2.2.2.1 x.2.2.1) (fun x => by kernel_rfl) (fun k x => by kernel_rfl) n
noncomputable abbrev q3 (n : Nat) : List (Nat × FragD) := (250, ((L3 n).loopD fun x => l3 n n x.1.2.1 x.1.2.2.1 x.2.1.2.2.2.1 x.2.2.1)) :: (q2 n)
theorem Q3 (n : Nat) : AllL n Tryz.prog 77 K (q3 n) := ⟨T3 n, Q2 n⟩
end armillaryref31_New
open armillaryref31_New in
noncomputable def armillaryref31_New (n : Nat) (t0 : Int) (t1 : List Int) : Option (List S56 × List Int × Int) :=
(j0 n t0 t1).bind fun z3 =>
sm z3 (fun z4 =>
bif (decide (0 < (t1.length : Int))) then
(j1 n t0 t1 0).bind fun z10 =>
sm z10 (fun z11 =>
ck (inb 0 t1.length) <|
ck (room 1 8) <|
(l2 n n 1 t0 t1 [t1.getD 0 0]).bind fun z18 =>
sm z18 (fun z19 =>
some (([] : List S56), ([] : List Int), z19.1)) fun z20 =>
bif decide (0 < t0) then
(armillaryref30_New 0 t0).bind fun z21 =>
ck (room 1 96) <|
(l3 n n 1 t0 z20 [z21]).bind fun z23 =>
some (z23.2, z23.1, 0)
else
some (([] : List S56), z20, 0)) fun z12 =>
some (([] : List S56), ([] : List Int), z12)
else
bif decide (0 < t0) then
(armillaryref30_New 0 t0).bind fun z24 =>
ck (room 1 96) <|
(l3 n n 1 t0 ([] : List Int) [z24]).bind fun z25 =>
some (z25.2, z25.1, 0)
else
some (([] : List S56), ([] : List Int), 0)) fun z5 =>
some (([] : List S56), ([] : List Int), z5)
noncomputable def armillaryref31_New.d (n : Nat) : FragD := ⟨⟨[(0, pi), (1, ph (.row (.int .i64)))], []⟩, [⟨1, ⟨[(0, .tup [.agg [.h (.row c56), .nl, .nl, .h (.row (.int .i64))], .c (.h (.int .i64))])], []⟩, List S56 × List Int × Int, fun x => (x.1.1.1.1, x.1.1.1.2.2.2.1, x.1.1.2.1), fun r => ((((r.1, (), (), r.2.1, ()), r.2.2, ()), ()), ()), fun _ => rfl⟩], fun x => armillaryref31_New n x.1.1 x.1.2.1⟩
open armillaryref31_New in
set_option maxRecDepth 1000000 in
theorem armillaryref31_New.ok (n : Nat) : FunOK Tryz.prog 13 (armillaryref31_New.d n) := funR ⟨Tryz.prog, 77, F n, (r1 n), (q3 n), []⟩ Tryz.f13 (by kernel_rfl) (by kernel_rfl) (by kernel_rfl) (Fok n) (R1 n) (Q3 n) (by kernel_rfl) (fun x => by kernel_rfl)

namespace armillaryref30_entry
noncomputable abbrev F : List (Nat × FragD) := []
theorem Fok : AllF Tryz.prog (F) := trivial
end armillaryref30_entry
open armillaryref30_entry in
noncomputable def armillaryref30_entry (t0 : Int) : Option S41 :=
let v1 := [(⟨#[97]⟩ : ByteArray), (⟨#[98]⟩ : ByteArray), (⟨#[99]⟩ : ByteArray)];
ck (inb (t0.tmod 3) v1.length) <|
some (1, (v1.getD (t0.tmod 3).toNat (⟨#[]⟩ : ByteArray)), ([] : List Int))
noncomputable def armillaryref30_entry.d : FragD := ⟨⟨[(0, ph (.int .u8))], []⟩, [⟨1, ⟨[(0, pst c41)], []⟩, S41, fun x => x.1.1, fun r => ((r, ()), ()), fun _ => rfl⟩], fun x => armillaryref30_entry x.1.1⟩
open armillaryref30_entry in
theorem armillaryref30_entry.ok : FunOK Tryz.prog 83 (armillaryref30_entry.d) := funR ⟨Tryz.prog, 9, F, [], [], []⟩ Tryz.f83 (by kernel_rfl) (by kernel_rfl) (by kernel_rfl) (Fok) trivial noL (by kernel_rfl) (fun x => by kernel_rfl)

namespace armillaryref29_Leader
noncomputable abbrev F : List (Nat × FragD) := [(63, armillaryref29_replicas.d)]
theorem Fok : AllF Tryz.prog (F) := ⟨armillaryref29_replicas.ok, trivial⟩
end armillaryref29_Leader
open armillaryref29_Leader in
noncomputable def armillaryref29_Leader (t0 : Int) (t1 : Int) : Option Int :=
(armillaryref29_replicas t0).bind fun z1 =>
bif !z1 then
some (-1)
else
bif decide (t1 < 0) then
some (-1)
else
ck (!decide (t0 = 0)) <|
some (t1.tmod t0)
noncomputable def armillaryref29_Leader.d : FragD := ⟨⟨[(0, pi), (1, pi)], []⟩, [⟨1, ⟨[(0, pi)], []⟩, Int, fun x => x.1.1, fun r => ((r, ()), ()), fun _ => rfl⟩], fun x => armillaryref29_Leader x.1.1 x.1.2.1⟩
open armillaryref29_Leader in
theorem armillaryref29_Leader.ok : FunOK Tryz.prog 68 (armillaryref29_Leader.d) := funR ⟨Tryz.prog, 15, F, [], [], []⟩ Tryz.f68 (by kernel_rfl) (by kernel_rfl) (by kernel_rfl) (Fok) trivial noL (by kernel_rfl) (fun x => by kernel_rfl)

namespace armillaryref30_MadeMessage
noncomputable abbrev F (n : Nat) : List (Nat × FragD) := [(83, armillaryref30_entry.d), (59, armillaryref27_EncodeEntry.d n), (68, armillaryref29_Leader.d), (60, armillaryref27_Checksum.d n)]
theorem Fok (n : Nat) : AllF Tryz.prog (F n) := ⟨armillaryref30_entry.ok, armillaryref27_EncodeEntry.ok n, armillaryref29_Leader.ok, armillaryref27_Checksum.ok n, trivial⟩
end armillaryref30_MadeMessage
open armillaryref30_MadeMessage in
noncomputable def armillaryref30_MadeMessage (n : Nat) (t0 : S43) (t1 : Int) (t2 : Int) : Option S43 :=
let v1 := W .i64 (1 + (bAnd .i64 t0.1 3));
ck (!decide (t2 = 0)) <|
let v2 := (bAnd .i64 t0.2.1 255).tmod t2;
(armillaryref30_entry t1).bind fun z3 =>
(armillaryref27_EncodeEntry n z3).bind fun z4 =>
bif v1 == 1 then
(armillaryref29_Leader t2 (bAnd .i64 t0.2.2.1 3)).bind fun z5 =>
(armillaryref27_Checksum n z4.2).bind fun z6 =>
some (v1, z5, bAnd .i64 t0.2.2.1 3, bAnd .i64 t0.2.2.2.1 1, z6, z3)
else
bif v1 == 4 then
some (v1, v2, bAnd .i64 t0.2.2.1 3, 0, 0, 0, (⟨#[]⟩ : ByteArray), ([] : List Int))
else
(armillaryref27_Checksum n z4.2).bind fun z7 =>
some (v1, v2, bAnd .i64 t0.2.2.1 3, bAnd .i64 t0.2.2.2.1 1, z7, 0, (⟨#[]⟩ : ByteArray), ([] : List Int))
noncomputable def armillaryref30_MadeMessage.d (n : Nat) : FragD := ⟨⟨[(0, pst c43), (1, ph (.int .u8)), (2, pi)], []⟩, [⟨1, ⟨[(0, pst c43)], []⟩, S43, fun x => x.1.1, fun r => ((r, ()), ()), fun _ => rfl⟩], fun x => armillaryref30_MadeMessage n x.1.1 x.1.2.1 x.1.2.2.1⟩
open armillaryref30_MadeMessage in
set_option maxRecDepth 1000000 in
theorem armillaryref30_MadeMessage.ok (n : Nat) : FunOK Tryz.prog 58 (armillaryref30_MadeMessage.d n) := funR ⟨Tryz.prog, 55, F n, [], [], []⟩ Tryz.f58 (by kernel_rfl) (by kernel_rfl) (by kernel_rfl) (Fok n) trivial noL (by kernel_rfl) (fun x => by kernel_rfl)

namespace armillaryref31_Made
noncomputable abbrev K := cBody Tryz.f34
noncomputable abbrev F (n : Nat) : List (Nat × FragD) := [(58, armillaryref30_MadeMessage.d n), (30, armillaryref31_Entry.d)]
theorem Fok (n : Nat) : AllF Tryz.prog (F n) := ⟨armillaryref30_MadeMessage.ok n, armillaryref31_Entry.ok, trivial⟩
noncomputable def j0 (n : Nat) (t5 : Int) : Option Int :=
bif decide (t5 < 1) then
some 1
else
bif decide (t5 > 7) then
some 1
else
some t5
noncomputable def D0 (n : Nat) : FragD := ⟨⟨[(5, pi)], []⟩, [⟨0, ⟨[(5, pi)], []⟩, Int, fun x => x.1.1, fun r => ((r, ()), ()), fun _ => rfl⟩], fun x => j0 n x.1.1⟩
set_option maxRecDepth 1000000 in
theorem T0 (n : Nat) : FragOK Tryz.prog 44 (atN K 400 14) (D0 n) := fragR ⟨Tryz.prog, 44, F n, [], [], []⟩ (Fok n) trivial noL 14 (by kernel_rfl) (fun x => by kernel_rfl)
noncomputable abbrev r0 (n : Nat) : List (Nat × FragD) := (14, D0 n) :: []
theorem R0 (n : Nat) : AllFr Tryz.prog 44 K (r0 n) := ⟨T0 n, trivial⟩
end armillaryref31_Made
open armillaryref31_Made in
noncomputable def armillaryref31_Made (n : Nat) (t0 : S45) (t1 : Int) : Option S45 :=
(j0 n (bAnd .i64 t0.1 15)).bind fun z1 =>
let v2 := bAnd .u32 t0.2.2.2.2.2.2.2.1 255;
ck (!decide (t1 = 0)) <|
let v3 := (bAnd .i64 t0.2.2.1 255).tmod t1;
(armillaryref30_MadeMessage n t0.2.2.2 (W .u8 v2) t1).bind fun z4 =>
bif z1 == 6 then
(armillaryref31_Entry (W .u8 v2)).bind fun z5 =>
some (z1, bAnd .i64 t0.2.1 31, v3, 0, 0, 0, 0, 0, z5)
else
some (z1, bAnd .i64 t0.2.1 31, v3, z4)
noncomputable def armillaryref31_Made.d (n : Nat) : FragD := ⟨⟨[(0, pst c45), (1, pi)], []⟩, [⟨1, ⟨[(0, pst c45)], []⟩, S45, fun x => x.1.1, fun r => ((r, ()), ()), fun _ => rfl⟩], fun x => armillaryref31_Made n x.1.1 x.1.2.1⟩
open armillaryref31_Made in
set_option maxRecDepth 1000000 in
theorem armillaryref31_Made.ok (n : Nat) : FunOK Tryz.prog 34 (armillaryref31_Made.d n) := funR ⟨Tryz.prog, 44, F n, (r0 n), [], []⟩ Tryz.f34 (by kernel_rfl) (by kernel_rfl) (by kernel_rfl) (Fok n) (R0 n) noL (by kernel_rfl) (fun x => by kernel_rfl)

namespace armillaryref31_MadeAll
noncomputable abbrev K := cBody Tryz.f43
noncomputable abbrev F (n : Nat) : List (Nat × FragD) := [(34, armillaryref31_Made.d n)]
theorem Fok (n : Nat) : AllF Tryz.prog (F n) := ⟨armillaryref31_Made.ok n, trivial⟩
noncomputable def j0 (n : Nat) (t0 : List S45) (t2 : Int) (t8 : Int) : Option (Unit ⊕ Unit) :=
bif (decide (t8 < (t0.length : Int))) then
bif decide (t8 < t2) then
some (.inl ())
else
some (.inr ())
else
some (.inr ())
noncomputable def D0 (n : Nat) : FragD := ⟨⟨[(0, ph (.row c45)), (2, pi), (8, pi)], []⟩, [⟨0, ⟨[], []⟩, Unit, fun _ => (), fun _ => ((), ()), fun _ => rfl⟩, ⟨2, ⟨[], []⟩, Unit, fun _ => (), fun _ => ((), ()), fun _ => rfl⟩], fun x => j0 n x.1.1 x.1.2.1 x.1.2.2.1⟩
set_option maxRecDepth 1000000 in
theorem T0 (n : Nat) : FragOK Tryz.prog 31 (atN K 400 232) (D0 n) := fragR ⟨Tryz.prog, 31, F n, [], [], []⟩ (Fok n) trivial noL 232 (by kernel_rfl) (fun x => by kernel_rfl)
noncomputable abbrev r0 (n : Nat) : List (Nat × FragD) := (232, D0 n) :: []
theorem R0 (n : Nat) : AllFr Tryz.prog 31 K (r0 n) := ⟨T0 n, trivial⟩
noncomputable def s1 (n : Nat) (t8 : Int) (t0 : List S45) (t1 : Int) (t2 : Int) (o0 : List S45) : Option ((Int × List S45) ⊕ (List S45)) :=
(j0 n t0 t2 t8).bind fun z2 =>
sm z2 (fun z3 =>
ck (inb t8 t0.length) <|
(armillaryref31_Made n ((t0.getD t8.toNat z45).1, ((t0.getD t8.toNat z45).2).1, (((t0.getD t8.toNat z45).2).2).1, ((((t0.getD t8.toNat z45).2).2).2).1, (((((t0.getD t8.toNat z45).2).2).2).2).1, ((((((t0.getD t8.toNat z45).2).2).2).2).2).1, (((((((t0.getD t8.toNat z45).2).2).2).2).2).2).1, ((((((((t0.getD t8.toNat z45).2).2).2).2).2).2).2).1, (((((((((t0.getD t8.toNat z45).2).2).2).2).2).2).2).2).1, ((((((((((t0.getD t8.toNat z45).2).2).2).2).2).2).2).2).2)) t1).bind fun z5 =>
ck (room (o0.length + 1) 112) <|
some (.inl (W .i64 (t8 + 1), o0 ++ [z5]))) fun z4 =>
some (.inr o0)
noncomputable def l1 (n : Nat) : Nat → Int → List S45 → Int → Int → List S45 → Option (List S45)
| 0, _, _, _, _, _ => none
| k + 1, t8, t0, t1, t2, o0 => (s1 n t8 t0 t1 t2 o0).bind fun z => sm z (fun z => l1 n k z.1 t0 t1 t2 z.2) some
noncomputable def L1 (n : Nat) : LoopD := ⟨[(7, po 0), (8, pi)], [(0, ph (.row c45)), (1, pi), (2, pi)], [.row 45 c45], Int × List S45, fun x => (x.1.2.1, x.2.1), fun r => (((), r.1, ()), (r.2, ())), fun _ => rfl, ⟨2, ⟨[(7, po 1)], [.gone, .row 45 c45]⟩, List S45, fun x => x.2.2.1, fun r => (((), ()), ((), r, ())), fun _ => rfl⟩, [], fun x => s1 n x.1.2.1 x.1.2.2.1 x.1.2.2.2.1 x.1.2.2.2.2.1 x.2.1, []⟩
set_option maxRecDepth 1000000 in
theorem T1 (n : Nat) : FragOK Tryz.prog 31 (atN K 400 58) ((L1 n).loopD fun x => l1 n n x.1.2.1 x.1.2.2.1 x.1.2.2.2.1 x.1.2.2.2.2.1 x.2.1) := loopR (L1 n) 58 (by kernel_rfl) (by kernel_rfl) (fragK ⟨Tryz.prog, 31, F n, (r0 n), [], []⟩ (Fok n) (R0 n) noL 116 (by kernel_rfl) (fun x => by kernel_rfl)) (fun k x => l1 n k x.1.2.1 x.1.2.2.1 x.1.2.2.2.1 x.1.2.2.2.2.1 x.2.1) (fun x => by kernel_rfl) (fun k x => by kernel_rfl) n
noncomputable abbrev r1 (n : Nat) : List (Nat × FragD) := (58, ((L1 n).loopD fun x => l1 n n x.1.2.1 x.1.2.2.1 x.1.2.2.2.1 x.1.2.2.2.2.1 x.2.1)) :: (r0 n)
theorem R1 (n : Nat) : AllFr Tryz.prog 31 K (r1 n) := ⟨T1 n, R0 n⟩
end armillaryref31_MadeAll
open armillaryref31_MadeAll in
noncomputable def armillaryref31_MadeAll (n : Nat) (t0 : List S45) (t1 : Int) (t2 : Int) : Option (List S45) :=
(l1 n n 0 t0 t1 t2 ([] : List S45)).bind fun z6 =>
some z6
noncomputable def armillaryref31_MadeAll.d (n : Nat) : FragD := ⟨⟨[(0, ph (.row c45)), (1, pi), (2, pi)], []⟩, [⟨1, ⟨[(0, po 0)], [.row 45 c45]⟩, List S45, fun x => x.2.1, fun r => (((), ()), (r, ())), fun _ => rfl⟩], fun x => armillaryref31_MadeAll n x.1.1 x.1.2.1 x.1.2.2.1⟩
open armillaryref31_MadeAll in
set_option maxRecDepth 1000000 in
theorem armillaryref31_MadeAll.ok (n : Nat) : FunOK Tryz.prog 43 (armillaryref31_MadeAll.d n) := funR ⟨Tryz.prog, 31, F n, (r1 n), [], []⟩ Tryz.f43 (by kernel_rfl) (by kernel_rfl) (by kernel_rfl) (Fok n) (R1 n) noL (by kernel_rfl) (fun x => by kernel_rfl)

namespace armillarylaw31_start
noncomputable abbrev F (n : Nat) : List (Nat × FragD) := [(23, armillaryref31_Liars.d n), (13, armillaryref31_New.d n), (43, armillaryref31_MadeAll.d n)]
theorem Fok (n : Nat) : AllF Tryz.prog (F n) := ⟨armillaryref31_Liars.ok n, armillaryref31_New.ok n, armillaryref31_MadeAll.ok n, trivial⟩
end armillarylaw31_start
open armillarylaw31_start in
noncomputable def armillarylaw31_start (n : Nat) (t0 : S25) (t1 : Int) : Option (Int × S31 × List S45) :=
let v1 := W .i64 (1 + ((W .i64 t0.1).tmod 7));
(armillaryref31_Liars n t0.2.1 v1).bind fun z2 =>
(armillaryref31_New n v1 z2).bind fun z3 =>
(armillaryref31_MadeAll n t0.2.2 v1 t1).bind fun z4 =>
some (v1, (z3.1, ([] : List S43), ([] : List Int), z3.2.1), z4)
noncomputable def armillarylaw31_start.d (n : Nat) : FragD := ⟨⟨[(0, pst c25), (1, pi)], []⟩, [⟨1, ⟨[(0, .tup [.c (.h (.int .i64)), .st c31, .c (.sl 0)])], [.row 45 c45]⟩, Int × S31 × List S45, fun x => (x.1.1.1, x.1.1.2.1, x.2.1), fun r => (((r.1, r.2.1, (), ()), ()), (r.2.2, ())), fun _ => rfl⟩], fun x => armillarylaw31_start n x.1.1 x.1.2.1⟩
open armillarylaw31_start in
set_option maxRecDepth 1000000 in
theorem armillarylaw31_start.ok (n : Nat) : FunOK Tryz.prog 15 (armillarylaw31_start.d n) := funR ⟨Tryz.prog, 31, F n, [], [], []⟩ Tryz.f15 (by kernel_rfl) (by kernel_rfl) (by kernel_rfl) (Fok n) trivial noL (by kernel_rfl) (fun x => by kernel_rfl)

namespace armillaryref31_Prefix
end armillaryref31_Prefix
namespace armillaryref31_Consistent
end armillaryref31_Consistent
namespace armillarylaw31_SimnetAgreement
end armillarylaw31_SimnetAgreement
namespace armillarylaw31_distinct
end armillarylaw31_distinct
namespace armillarylaw31_SimnetAgreementRaw
end armillarylaw31_SimnetAgreementRaw
namespace armillarylaw31_occurs
end armillarylaw31_occurs
namespace armillarylaw31_SimnetIntegrity
end armillarylaw31_SimnetIntegrity
namespace armillarylaw31_SimnetNetworkEvents
noncomputable abbrev K := cBody Tryz.f8
noncomputable abbrev F (n : Nat) : List (Nat × FragD) := [(11, armillarylaw31_sanity.d n), (15, armillarylaw31_start.d n), (20, simnet_Run.d n), (16, simnet_Apply.d n), (26, armillaryref31_Contains.d n), (27, armillaryref30_Same.d n), (14, armillaryref31_Same.d n), (33, armillaryref27_SameMessage.d)]
theorem Fok (n : Nat) : AllF Tryz.prog (F n) := ⟨armillarylaw31_sanity.ok n, armillarylaw31_start.ok n, simnet_Run.ok n, simnet_Apply.ok n, armillaryref31_Contains.ok n, armillaryref30_Same.ok n, armillaryref31_Same.ok n, armillaryref27_SameMessage.ok, trivial⟩
noncomputable def j0 (n : Nat) (t9 : Int) (o0 : S45) : Option Bool :=
bif decide (o0.2.1 ≥ 0) then
some (decide (o0.2.1 < t9))
else
some false
noncomputable def D0 (n : Nat) : FragD := ⟨⟨[(3, pp 0), (9, pi)], [.stb 45 c45]⟩, [⟨0, ⟨[(16, pb)], [.same]⟩, Bool, fun x => x.1.1, fun r => ((r, ()), ((), ())), fun _ => rfl⟩], fun x => j0 n x.1.2.1 x.2.1⟩
set_option maxRecDepth 1000000 in
theorem T0 (n : Nat) : FragOK Tryz.prog 298 (atN K 400 4094) (D0 n) := fragR ⟨Tryz.prog, 298, F n, [], [], []⟩ (Fok n) trivial noL 4094 (by kernel_rfl) (fun x => by kernel_rfl)
noncomputable abbrev r0 (n : Nat) : List (Nat × FragD) := (4094, D0 n) :: []
theorem R0 (n : Nat) : AllFr Tryz.prog 298 K (r0 n) := ⟨T0 n, trivial⟩
noncomputable def j1 (n : Nat) (t6 : Int) (o0 : S45) (o1_0 : List S56) (o1_1 : List S43) (o1_2 : List Int) (o1_3 : List Int) : Option Bool :=
bif decide (o0.2.2.1 ≥ 0) then
bif decide (o0.2.2.1 < t6) then
(armillaryref31_Contains n o1_3 o0.2.2.2.2.1).bind fun z8 =>
some z8
else
some false
else
some false
noncomputable def D1 (n : Nat) : FragD := ⟨⟨[(3, pp 0), (6, pi), (7, pp 1)], [.stb 45 c45, .blk 31 [.h (.row c56), .h (.row c43), .h (.row (.int .i64)), .h (.row (.int .i64))]]⟩, [⟨0, ⟨[(17, pb)], [.same, .same]⟩, Bool, fun x => x.1.1, fun r => ((r, ()), ((), (), ())), fun _ => rfl⟩], fun x => j1 n x.1.2.1 x.2.1 x.2.2.1.1 x.2.2.1.2.1 x.2.2.1.2.2.1 x.2.2.1.2.2.2.1⟩
set_option maxRecDepth 1000000 in
theorem T1 (n : Nat) : FragOK Tryz.prog 298 (atN K 400 8190) (D1 n) := fragR ⟨Tryz.prog, 298, F n, (r0 n), [], []⟩ (Fok n) (R0 n) noL 8190 (by kernel_rfl) (fun x => by kernel_rfl)
noncomputable abbrev r1 (n : Nat) : List (Nat × FragD) := (8190, D1 n) :: (r0 n)
theorem R1 (n : Nat) : AllFr Tryz.prog 298 K (r1 n) := ⟨T1 n, R0 n⟩
noncomputable def j2 (n : Nat) (t6 : Int) (t9 : Int) (o0 : S31) (o1 : List Int) (o2 : List Int) (o3 : List Int) (o4 : List S56) (o5 : List S43) (o6 : List Int) (o7 : List S56) (o8 : List S43) (o9 : List Int) (o10 : List S56) (o11 : List S43) (o12 : List Int) : Option (Unit ⊕ Bool) :=
bif (o0.1.length : Int) != t6 then
some (.inr false)
else
bif ((o0.2.2.1.length : Int) != t9) then
some (.inr false)
else
bif (o4.length : Int) != t6 then
some (.inr false)
else
bif (o7.length : Int) != t6 then
some (.inr false)
else
bif (o10.length : Int) != t6 then
some (.inr false)
else
some (.inl ())
noncomputable def D2 (n : Nat) : FragD := ⟨⟨[(6, pi), (7, pp 0), (9, pi), (13, pp 1), (14, pp 2), (15, pp 3)], [.stb 31 c31, .blk 31 [.sl 4, .sl 5, .sl 6, .h (.row (.int .i64))], .blk 31 [.sl 7, .sl 8, .sl 9, .h (.row (.int .i64))], .blk 31 [.sl 10, .sl 11, .sl 12, .h (.row (.int .i64))], .row 56 c56, .row 43 c43, .row 3 (.int .i64), .row 56 c56, .row 43 c43, .row 3 (.int .i64), .row 56 c56, .row 43 c43, .row 3 (.int .i64)]⟩, [⟨0, ⟨[], [.same, .same, .same, .same, .same, .same, .same, .same, .same, .same, .same, .same, .same]⟩, Unit, fun _ => (), fun _ => ((), ((), (), (), (), (), (), (), (), (), (), (), (), (), ())), fun _ => rfl⟩, ⟨1, ⟨[(4, pb)], [.same, .same, .same, .same, .same, .same, .same, .same, .same, .same, .same, .same, .same]⟩, Bool, fun x => x.1.1, fun r => ((r, ()), ((), (), (), (), (), (), (), (), (), (), (), (), (), ())), fun _ => rfl⟩], fun x => j2 n x.1.1 x.1.2.2.1 x.2.1 x.2.2.1.2.2.2.1 x.2.2.2.1.2.2.2.1 x.2.2.2.2.1.2.2.2.1 x.2.2.2.2.2.1 x.2.2.2.2.2.2.1 x.2.2.2.2.2.2.2.1 x.2.2.2.2.2.2.2.2.1 x.2.2.2.2.2.2.2.2.2.1 x.2.2.2.2.2.2.2.2.2.2.1 x.2.2.2.2.2.2.2.2.2.2.2.1 x.2.2.2.2.2.2.2.2.2.2.2.2.1 x.2.2.2.2.2.2.2.2.2.2.2.2.2.1⟩
set_option maxRecDepth 1000000 in
theorem T2 (n : Nat) : FragOK Tryz.prog 298 (atN K 400 16382) (D2 n) := fragR ⟨Tryz.prog, 298, F n, (r1 n), [], []⟩ (Fok n) (R1 n) noL 16382 (by kernel_rfl) (fun x => by kernel_rfl)
noncomputable abbrev r2 (n : Nat) : List (Nat × FragD) := (16382, D2 n) :: (r1 n)
theorem R2 (n : Nat) : AllFr Tryz.prog 298 K (r2 n) := ⟨T2 n, R1 n⟩
noncomputable def s3 (n : Nat) (t18 : Int) (t6 : Int) (o0 : S31) (o1 : List Int) (o2 : List Int) (o3 : List Int) (o4 : List S56) (o5 : List S43) (o6 : List Int) (o7 : List S56) (o8 : List S43) (o9 : List Int) (o10 : List S56) (o11 : List S43) (o12 : List Int) : Option ((Int × S31 × List Int × List Int × List Int × List S56 × List S43 × List Int × List S56 × List S43 × List Int × List S56 × List S43 × List Int) ⊕ ((Bool × S31 × List Int × List Int × List Int × List S56 × List S43 × List Int × List S56 × List S43 × List Int × List S56 × List S43 × List Int) ⊕ (S31 × List Int × List Int × List Int × List S56 × List S43 × List Int × List S56 × List S43 × List Int × List S56 × List S43 × List Int))) :=
bif decide (t18 < t6) then
ck (inb t18 o4.length) <|
ck (inb t18 o0.1.length) <|
(armillaryref30_Same n ((o4.getD t18.toNat z56).1, ((o4.getD t18.toNat z56).2).1, (((o4.getD t18.toNat z56).2).2).1, ((((o4.getD t18.toNat z56).2).2).2).1, (((((o4.getD t18.toNat z56).2).2).2).2)) ((o0.1.getD t18.toNat z56).1, ((o0.1.getD t18.toNat z56).2).1, (((o0.1.getD t18.toNat z56).2).2).1, ((((o0.1.getD t18.toNat z56).2).2).2).1, (((((o0.1.getD t18.toNat z56).2).2).2).2))).bind fun z14 =>
bif !z14 then
some (.inr (.inl (false, o0, o1, o2, o3, o4, o5, o6, o7, o8, o9, o10, o11, o12)))
else
ck (inb t18 o7.length) <|
ck (inb t18 o0.1.length) <|
(armillaryref30_Same n ((o7.getD t18.toNat z56).1, ((o7.getD t18.toNat z56).2).1, (((o7.getD t18.toNat z56).2).2).1, ((((o7.getD t18.toNat z56).2).2).2).1, (((((o7.getD t18.toNat z56).2).2).2).2)) ((o0.1.getD t18.toNat z56).1, ((o0.1.getD t18.toNat z56).2).1, (((o0.1.getD t18.toNat z56).2).2).1, ((((o0.1.getD t18.toNat z56).2).2).2).1, (((((o0.1.getD t18.toNat z56).2).2).2).2))).bind fun z15 =>
bif !z15 then
some (.inr (.inl (false, o0, o1, o2, o3, o4, o5, o6, o7, o8, o9, o10, o11, o12)))
else
ck (inb t18 o10.length) <|
ck (inb t18 o0.1.length) <|
(armillaryref30_Same n ((o10.getD t18.toNat z56).1, ((o10.getD t18.toNat z56).2).1, (((o10.getD t18.toNat z56).2).2).1, ((((o10.getD t18.toNat z56).2).2).2).1, (((((o10.getD t18.toNat z56).2).2).2).2)) ((o0.1.getD t18.toNat z56).1, ((o0.1.getD t18.toNat z56).2).1, (((o0.1.getD t18.toNat z56).2).2).1, ((((o0.1.getD t18.toNat z56).2).2).2).1, (((((o0.1.getD t18.toNat z56).2).2).2).2))).bind fun z16 =>
bif !z16 then
some (.inr (.inl (false, o0, o1, o2, o3, o4, o5, o6, o7, o8, o9, o10, o11, o12)))
else
some (.inl (W .i64 (t18 + 1), o0, o1, o2, o3, o4, o5, o6, o7, o8, o9, o10, o11, o12))
else
some (.inr (.inr (o0, o1, o2, o3, o4, o5, o6, o7, o8, o9, o10, o11, o12)))
noncomputable def l3 (n : Nat) : Nat → Int → Int → S31 → List Int → List Int → List Int → List S56 → List S43 → List Int → List S56 → List S43 → List Int → List S56 → List S43 → List Int → Option ((Bool × S31 × List Int × List Int × List Int × List S56 × List S43 × List Int × List S56 × List S43 × List Int × List S56 × List S43 × List Int) ⊕ (S31 × List Int × List Int × List Int × List S56 × List S43 × List Int × List S56 × List S43 × List Int × List S56 × List S43 × List Int))
| 0, _, _, _, _, _, _, _, _, _, _, _, _, _, _, _ => none
| k + 1, t18, t6, o0, o1, o2, o3, o4, o5, o6, o7, o8, o9, o10, o11, o12 => (s3 n t18 t6 o0 o1 o2 o3 o4 o5 o6 o7 o8 o9 o10 o11 o12).bind fun z => sm z (fun z => l3 n k z.1 t6 z.2.1 z.2.2.1 z.2.2.2.1 z.2.2.2.2.1 z.2.2.2.2.2.1 z.2.2.2.2.2.2.1 z.2.2.2.2.2.2.2.1 z.2.2.2.2.2.2.2.2.1 z.2.2.2.2.2.2.2.2.2.1 z.2.2.2.2.2.2.2.2.2.2.1 z.2.2.2.2.2.2.2.2.2.2.2.1 z.2.2.2.2.2.2.2.2.2.2.2.2.1 z.2.2.2.2.2.2.2.2.2.2.2.2.2) some
noncomputable def L3 (n : Nat) : LoopD := ⟨[(7, pp 0), (13, pp 1), (14, pp 2), (15, pp 3), (18, pi)], [(6, pi)], [.stb 31 c31, .blk 31 [.sl 4, .sl 5, .sl 6, .h (.row (.int .i64))], .blk 31 [.sl 7, .sl 8, .sl 9, .h (.row (.int .i64))], .blk 31 [.sl 10, .sl 11, .sl 12, .h (.row (.int .i64))], .row 56 c56, .row 43 c43, .row 3 (.int .i64), .row 56 c56, .row 43 c43, .row 3 (.int .i64), .row 56 c56, .row 43 c43, .row 3 (.int .i64)], Int × S31 × List Int × List Int × List Int × List S56 × List S43 × List Int × List S56 × List S43 × List Int × List S56 × List S43 × List Int, fun x => (x.1.2.2.2.2.1, x.2.1, x.2.2.1.2.2.2.1, x.2.2.2.1.2.2.2.1, x.2.2.2.2.1.2.2.2.1, x.2.2.2.2.2.1, x.2.2.2.2.2.2.1, x.2.2.2.2.2.2.2.1, x.2.2.2.2.2.2.2.2.1, x.2.2.2.2.2.2.2.2.2.1, x.2.2.2.2.2.2.2.2.2.2.1, x.2.2.2.2.2.2.2.2.2.2.2.1, x.2.2.2.2.2.2.2.2.2.2.2.2.1, x.2.2.2.2.2.2.2.2.2.2.2.2.2.1), fun r => (((), (), (), (), r.1, ()), (r.2.1, ((), (), (), r.2.2.1, ()), ((), (), (), r.2.2.2.1, ()), ((), (), (), r.2.2.2.2.1, ()), r.2.2.2.2.2.1, r.2.2.2.2.2.2.1, r.2.2.2.2.2.2.2.1, r.2.2.2.2.2.2.2.2.1, r.2.2.2.2.2.2.2.2.2.1, r.2.2.2.2.2.2.2.2.2.2.1, r.2.2.2.2.2.2.2.2.2.2.2.1, r.2.2.2.2.2.2.2.2.2.2.2.2.1, r.2.2.2.2.2.2.2.2.2.2.2.2.2, ())), fun _ => rfl, ⟨1, ⟨[(4, pb)], [.stb 31 c31, .blk 31 [.sl 4, .sl 5, .sl 6, .h (.row (.int .i64))], .blk 31 [.sl 7, .sl 8, .sl 9, .h (.row (.int .i64))], .blk 31 [.sl 10, .sl 11, .sl 12, .h (.row (.int .i64))], .row 56 c56, .row 43 c43, .row 3 (.int .i64), .row 56 c56, .row 43 c43, .row 3 (.int .i64), .row 56 c56, .row 43 c43, .row 3 (.int .i64)]⟩, Bool × S31 × List Int × List Int × List Int × List S56 × List S43 × List Int × List S56 × List S43 × List Int × List S56 × List S43 × List Int, fun x => (x.1.1, x.2.1, x.2.2.1.2.2.2.1, x.2.2.2.1.2.2.2.1, x.2.2.2.2.1.2.2.2.1, x.2.2.2.2.2.1, x.2.2.2.2.2.2.1, x.2.2.2.2.2.2.2.1, x.2.2.2.2.2.2.2.2.1, x.2.2.2.2.2.2.2.2.2.1, x.2.2.2.2.2.2.2.2.2.2.1, x.2.2.2.2.2.2.2.2.2.2.2.1, x.2.2.2.2.2.2.2.2.2.2.2.2.1, x.2.2.2.2.2.2.2.2.2.2.2.2.2.1), fun r => ((r.1, ()), (r.2.1, ((), (), (), r.2.2.1, ()), ((), (), (), r.2.2.2.1, ()), ((), (), (), r.2.2.2.2.1, ()), r.2.2.2.2.2.1, r.2.2.2.2.2.2.1, r.2.2.2.2.2.2.2.1, r.2.2.2.2.2.2.2.2.1, r.2.2.2.2.2.2.2.2.2.1, r.2.2.2.2.2.2.2.2.2.2.1, r.2.2.2.2.2.2.2.2.2.2.2.1, r.2.2.2.2.2.2.2.2.2.2.2.2.1, r.2.2.2.2.2.2.2.2.2.2.2.2.2, ())), fun _ => rfl⟩, [⟨2, ⟨[], [.stb 31 c31, .blk 31 [.sl 4, .sl 5, .sl 6, .h (.row (.int .i64))], .blk 31 [.sl 7, .sl 8, .sl 9, .h (.row (.int .i64))], .blk 31 [.sl 10, .sl 11, .sl 12, .h (.row (.int .i64))], .row 56 c56, .row 43 c43, .row 3 (.int .i64), .row 56 c56, .row 43 c43, .row 3 (.int .i64), .row 56 c56, .row 43 c43, .row 3 (.int .i64)]⟩, S31 × List Int × List Int × List Int × List S56 × List S43 × List Int × List S56 × List S43 × List Int × List S56 × List S43 × List Int, fun x => (x.2.1, x.2.2.1.2.2.2.1, x.2.2.2.1.2.2.2.1, x.2.2.2.2.1.2.2.2.1, x.2.2.2.2.2.1, x.2.2.2.2.2.2.1, x.2.2.2.2.2.2.2.1, x.2.2.2.2.2.2.2.2.1, x.2.2.2.2.2.2.2.2.2.1, x.2.2.2.2.2.2.2.2.2.2.1, x.2.2.2.2.2.2.2.2.2.2.2.1, x.2.2.2.2.2.2.2.2.2.2.2.2.1, x.2.2.2.2.2.2.2.2.2.2.2.2.2.1), fun r => ((), (r.1, ((), (), (), r.2.1, ()), ((), (), (), r.2.2.1, ()), ((), (), (), r.2.2.2.1, ()), r.2.2.2.2.1, r.2.2.2.2.2.1, r.2.2.2.2.2.2.1, r.2.2.2.2.2.2.2.1, r.2.2.2.2.2.2.2.2.1, r.2.2.2.2.2.2.2.2.2.1, r.2.2.2.2.2.2.2.2.2.2.1, r.2.2.2.2.2.2.2.2.2.2.2.1, r.2.2.2.2.2.2.2.2.2.2.2.2, ())), fun _ => rfl⟩], fun x => s3 n x.1.2.2.2.2.1 x.1.2.2.2.2.2.1 x.2.1 x.2.2.1.2.2.2.1 x.2.2.2.1.2.2.2.1 x.2.2.2.2.1.2.2.2.1 x.2.2.2.2.2.1 x.2.2.2.2.2.2.1 x.2.2.2.2.2.2.2.1 x.2.2.2.2.2.2.2.2.1 x.2.2.2.2.2.2.2.2.2.1 x.2.2.2.2.2.2.2.2.2.2.1 x.2.2.2.2.2.2.2.2.2.2.2.1 x.2.2.2.2.2.2.2.2.2.2.2.2.1 x.2.2.2.2.2.2.2.2.2.2.2.2.2.1, [0, 1, 2, 3, 4, 5, 6, 7, 8, 9, 10, 11, 12]⟩
set_option maxRecDepth 1000000 in
theorem T3 (n : Nat) : FragOK Tryz.prog 298 (atN K 400 131066) ((L3 n).loopD fun x => l3 n n x.1.2.2.2.2.1 x.1.2.2.2.2.2.1 x.2.1 x.2.2.1.2.2.2.1 x.2.2.2.1.2.2.2.1 x.2.2.2.2.1.2.2.2.1 x.2.2.2.2.2.1 x.2.2.2.2.2.2.1 x.2.2.2.2.2.2.2.1 x.2.2.2.2.2.2.2.2.1 x.2.2.2.2.2.2.2.2.2.1 x.2.2.2.2.2.2.2.2.2.2.1 x.2.2.2.2.2.2.2.2.2.2.2.1 x.2.2.2.2.2.2.2.2.2.2.2.2.1 x.2.2.2.2.2.2.2.2.2.2.2.2.2.1) := loopR (L3 n) 131066 (by kernel_rfl) (by kernel_rfl) (fragK ⟨Tryz.prog, 298, F n, (r2 n), [], []⟩ (Fok n) (R2 n) noL 262132 (by kernel_rfl) (fun x => by kernel_rfl)) (fun k x => l3 n k x.1.2.2.2.2.1 x.1.2.2.2.2.2.1 x.2.1 x.2.2.1.2.2.2.1 x.2.2.2.1.2.2.2.1 x.2.2.2.2.1.2.2.2.1 x.2.2.2.2.2.1 x.2.2.2.2.2.2.1 x.2.2.2.2.2.2.2.1 x.2.2.2.2.2.2.2.2.1 x.2.2.2.2.2.2.2.2.2.1 x.2.2.2.2.2.2.2.2.2.2.1 x.2.2.2.2.2.2.2.2.2.2.2.1 x.2.2.2.2.2.2.2.2.2.2.2.2.1 x.2.2.2.2.2.2.2.2.2.2.2.2.2.1) (fun x => by kernel_rfl) (fun k x => by kernel_rfl) n
noncomputable abbrev r3 (n : Nat) : List (Nat × FragD) := (131066, ((L3 n).loopD fun x => l3 n n x.1.2.2.2.2.1 x.1.2.2.2.2.2.1 x.2.1 x.2.2.1.2.2.2.1 x.2.2.2.1.2.2.2.1 x.2.2.2.2.1.2.2.2.1 x.2.2.2.2.2.1 x.2.2.2.2.2.2.1 x.2.2.2.2.2.2.2.1 x.2.2.2.2.2.2.2.2.1 x.2.2.2.2.2.2.2.2.2.1 x.2.2.2.2.2.2.2.2.2.2.1 x.2.2.2.2.2.2.2.2.2.2.2.1 x.2.2.2.2.2.2.2.2.2.2.2.2.1 x.2.2.2.2.2.2.2.2.2.2.2.2.2.1)) :: (r2 n)
theorem R3 (n : Nat) : AllFr Tryz.prog 298 K (r3 n) := ⟨T3 n, R2 n⟩
noncomputable def j4 (n : Nat) (t9 : Int) (t16 : Bool) (t17 : Bool) (o0 : S31) (o1 : List Int) (o2 : List Int) (o3 : List Int) (o4 : List S56) (o5 : List S43) (o6 : List Int) (o7 : List S56) (o8 : List S43) (o9 : List Int) (o10 : List S56) (o11 : List S43) (o12 : List Int) : Option (Bool × List S56 × List S43 × List Int × List Int × List S56 × List S43 × List Int × List Int × List S56 × List S43 × List Int × List Int) :=
bif !t16 then
(armillaryref31_Same n (o4, o5, o6, o1) o0).bind fun z20 =>
bif !z20 then
some (true, o4, o5, o6, o1, o7, o8, o9, o2, o10, o11, o12, o3)
else
(armillaryref31_Same n (o7, o8, o9, o2) o0).bind fun z21 =>
bif !z21 then
some (true, o4, o5, o6, o1, o7, o8, o9, o2, o10, o11, o12, o3)
else
bif t16 then
bif ((o5.length : Int) != (W .i64 (t9 - 1))) then
some (true, o4, o5, o6, o1, o7, o8, o9, o2, o10, o11, o12, o3)
else
bif ((o6.length : Int) != (W .i64 (t9 - 1))) then
some (true, o4, o5, o6, o1, o7, o8, o9, o2, o10, o11, o12, o3)
else
bif ((o8.length : Int) != (W .i64 (t9 + 1))) then
some (true, o4, o5, o6, o1, o7, o8, o9, o2, o10, o11, o12, o3)
else
bif ((o9.length : Int) != (W .i64 (t9 + 1))) then
some (true, o4, o5, o6, o1, o7, o8, o9, o2, o10, o11, o12, o3)
else
bif !t17 then
(armillaryref31_Same n (o10, o11, o12, o3) o0).bind fun z26 =>
bif !z26 then
some (true, o4, o5, o6, o1, o7, o8, o9, o2, o10, o11, o12, o3)
else
bif t17 then
bif ((o11.length : Int) != (W .i64 (t9 + 1))) then
some (true, o4, o5, o6, o1, o7, o8, o9, o2, o10, o11, o12, o3)
else
some (((o12.length : Int) != (W .i64 (t9 + 1))), o4, o5, o6, o1, o7, o8, o9, o2, o10, o11, o12, o3)
else
some (false, o4, o5, o6, o1, o7, o8, o9, o2, o10, o11, o12, o3)
else
bif t17 then
bif ((o11.length : Int) != (W .i64 (t9 + 1))) then
some (true, o4, o5, o6, o1, o7, o8, o9, o2, o10, o11, o12, o3)
else
some (((o12.length : Int) != (W .i64 (t9 + 1))), o4, o5, o6, o1, o7, o8, o9, o2, o10, o11, o12, o3)
else
some (false, o4, o5, o6, o1, o7, o8, o9, o2, o10, o11, o12, o3)
else
bif !t17 then
(armillaryref31_Same n (o10, o11, o12, o3) o0).bind fun z31 =>
bif !z31 then
some (true, o4, o5, o6, o1, o7, o8, o9, o2, o10, o11, o12, o3)
else
bif t17 then
bif ((o11.length : Int) != (W .i64 (t9 + 1))) then
some (true, o4, o5, o6, o1, o7, o8, o9, o2, o10, o11, o12, o3)
else
some (((o12.length : Int) != (W .i64 (t9 + 1))), o4, o5, o6, o1, o7, o8, o9, o2, o10, o11, o12, o3)
else
some (false, o4, o5, o6, o1, o7, o8, o9, o2, o10, o11, o12, o3)
else
bif t17 then
bif ((o11.length : Int) != (W .i64 (t9 + 1))) then
some (true, o4, o5, o6, o1, o7, o8, o9, o2, o10, o11, o12, o3)
else
some (((o12.length : Int) != (W .i64 (t9 + 1))), o4, o5, o6, o1, o7, o8, o9, o2, o10, o11, o12, o3)
else
some (false, o4, o5, o6, o1, o7, o8, o9, o2, o10, o11, o12, o3)
else
bif t16 then
bif ((o5.length : Int) != (W .i64 (t9 - 1))) then
some (true, o4, o5, o6, o1, o7, o8, o9, o2, o10, o11, o12, o3)
else
bif ((o6.length : Int) != (W .i64 (t9 - 1))) then
some (true, o4, o5, o6, o1, o7, o8, o9, o2, o10, o11, o12, o3)
else
bif ((o8.length : Int) != (W .i64 (t9 + 1))) then
some (true, o4, o5, o6, o1, o7, o8, o9, o2, o10, o11, o12, o3)
else
bif ((o9.length : Int) != (W .i64 (t9 + 1))) then
some (true, o4, o5, o6, o1, o7, o8, o9, o2, o10, o11, o12, o3)
else
bif !t17 then
(armillaryref31_Same n (o10, o11, o12, o3) o0).bind fun z40 =>
bif !z40 then
some (true, o4, o5, o6, o1, o7, o8, o9, o2, o10, o11, o12, o3)
else
bif t17 then
bif ((o11.length : Int) != (W .i64 (t9 + 1))) then
some (true, o4, o5, o6, o1, o7, o8, o9, o2, o10, o11, o12, o3)
else
some (((o12.length : Int) != (W .i64 (t9 + 1))), o4, o5, o6, o1, o7, o8, o9, o2, o10, o11, o12, o3)
else
some (false, o4, o5, o6, o1, o7, o8, o9, o2, o10, o11, o12, o3)
else
bif t17 then
bif ((o11.length : Int) != (W .i64 (t9 + 1))) then
some (true, o4, o5, o6, o1, o7, o8, o9, o2, o10, o11, o12, o3)
else
some (((o12.length : Int) != (W .i64 (t9 + 1))), o4, o5, o6, o1, o7, o8, o9, o2, o10, o11, o12, o3)
else
some (false, o4, o5, o6, o1, o7, o8, o9, o2, o10, o11, o12, o3)
else
bif !t17 then
(armillaryref31_Same n (o10, o11, o12, o3) o0).bind fun z45 =>
bif !z45 then
some (true, o4, o5, o6, o1, o7, o8, o9, o2, o10, o11, o12, o3)
else
bif t17 then
bif ((o11.length : Int) != (W .i64 (t9 + 1))) then
some (true, o4, o5, o6, o1, o7, o8, o9, o2, o10, o11, o12, o3)
else
some (((o12.length : Int) != (W .i64 (t9 + 1))), o4, o5, o6, o1, o7, o8, o9, o2, o10, o11, o12, o3)
else
some (false, o4, o5, o6, o1, o7, o8, o9, o2, o10, o11, o12, o3)
else
bif t17 then
bif ((o11.length : Int) != (W .i64 (t9 + 1))) then
some (true, o4, o5, o6, o1, o7, o8, o9, o2, o10, o11, o12, o3)
else
some (((o12.length : Int) != (W .i64 (t9 + 1))), o4, o5, o6, o1, o7, o8, o9, o2, o10, o11, o12, o3)
else
some (false, o4, o5, o6, o1, o7, o8, o9, o2, o10, o11, o12, o3)
noncomputable def D4 (n : Nat) : FragD := ⟨⟨[(7, pp 0), (9, pi), (13, pp 1), (14, pp 2), (15, pp 3), (16, pb), (17, pb)], [.stb 31 c31, .blk 31 [.sl 4, .sl 5, .sl 6, .h (.row (.int .i64))], .blk 31 [.sl 7, .sl 8, .sl 9, .h (.row (.int .i64))], .blk 31 [.sl 10, .sl 11, .sl 12, .h (.row (.int .i64))], .row 56 c56, .row 43 c43, .row 3 (.int .i64), .row 56 c56, .row 43 c43, .row 3 (.int .i64), .row 56 c56, .row 43 c43, .row 3 (.int .i64)]⟩, [⟨0, ⟨[(229, pb)], [.same, .blk 31 [.h (.row c56), .h (.row c43), .h (.row (.int .i64)), .h (.row (.int .i64))], .blk 31 [.h (.row c56), .h (.row c43), .h (.row (.int .i64)), .h (.row (.int .i64))], .blk 31 [.h (.row c56), .h (.row c43), .h (.row (.int .i64)), .h (.row (.int .i64))], .gone, .gone, .gone, .gone, .gone, .gone, .gone, .gone, .gone]⟩, Bool × List S56 × List S43 × List Int × List Int × List S56 × List S43 × List Int × List Int × List S56 × List S43 × List Int × List Int, fun x => (x.1.1, x.2.2.1.1, x.2.2.1.2.1, x.2.2.1.2.2.1, x.2.2.1.2.2.2.1, x.2.2.2.1.1, x.2.2.2.1.2.1, x.2.2.2.1.2.2.1, x.2.2.2.1.2.2.2.1, x.2.2.2.2.1.1, x.2.2.2.2.1.2.1, x.2.2.2.2.1.2.2.1, x.2.2.2.2.1.2.2.2.1), fun r => ((r.1, ()), ((), (r.2.1, r.2.2.1, r.2.2.2.1, r.2.2.2.2.1, ()), (r.2.2.2.2.2.1, r.2.2.2.2.2.2.1, r.2.2.2.2.2.2.2.1, r.2.2.2.2.2.2.2.2.1, ()), (r.2.2.2.2.2.2.2.2.2.1, r.2.2.2.2.2.2.2.2.2.2.1, r.2.2.2.2.2.2.2.2.2.2.2.1, r.2.2.2.2.2.2.2.2.2.2.2.2, ()), (), (), (), (), (), (), (), (), (), ())), fun _ => rfl⟩], fun x => j4 n x.1.2.1 x.1.2.2.2.2.2.1 x.1.2.2.2.2.2.2.1 x.2.1 x.2.2.1.2.2.2.1 x.2.2.2.1.2.2.2.1 x.2.2.2.2.1.2.2.2.1 x.2.2.2.2.2.1 x.2.2.2.2.2.2.1 x.2.2.2.2.2.2.2.1 x.2.2.2.2.2.2.2.2.1 x.2.2.2.2.2.2.2.2.2.1 x.2.2.2.2.2.2.2.2.2.2.1 x.2.2.2.2.2.2.2.2.2.2.2.1 x.2.2.2.2.2.2.2.2.2.2.2.2.1 x.2.2.2.2.2.2.2.2.2.2.2.2.2.1⟩
set_option maxRecDepth 1000000 in
theorem T4 (n : Nat) : FragOK Tryz.prog 298 (atN K 400 131068) (D4 n) := fragR ⟨Tryz.prog, 298, F n, (r3 n), [], []⟩ (Fok n) (R3 n) noL 131068 (by kernel_rfl) (fun x => by kernel_rfl)
noncomputable abbrev r4 (n : Nat) : List (Nat × FragD) := (131068, D4 n) :: (r3 n)
theorem R4 (n : Nat) : AllFr Tryz.prog 298 K (r4 n) := ⟨T4 n, R3 n⟩
noncomputable def j5 (n : Nat) (t9 : Int) (t16 : Bool) (t17 : Bool) (o0 : S31) (o1 : List Int) (o2 : List Int) (o3 : List Int) (o4 : List S56) (o5 : List S43) (o6 : List Int) (o7 : List S56) (o8 : List S43) (o9 : List Int) (o10 : List S56) (o11 : List S43) (o12 : List Int) : Option ((S31 × S31 × S31) ⊕ (Bool × S31 × S31 × S31)) :=
(j4 n t9 t16 t17 o0 o1 o2 o3 o4 o5 o6 o7 o8 o9 o10 o11 o12).bind fun z50 =>
bif z50.1 then
some (.inr (false, (z50.2.1, z50.2.2.1, z50.2.2.2.1, z50.2.2.2.2.1), (z50.2.2.2.2.2.1, z50.2.2.2.2.2.2.1, z50.2.2.2.2.2.2.2.1, z50.2.2.2.2.2.2.2.2.1), z50.2.2.2.2.2.2.2.2.2))
else
some (.inl ((z50.2.1, z50.2.2.1, z50.2.2.2.1, z50.2.2.2.2.1), (z50.2.2.2.2.2.1, z50.2.2.2.2.2.2.1, z50.2.2.2.2.2.2.2.1, z50.2.2.2.2.2.2.2.2.1), z50.2.2.2.2.2.2.2.2.2))
noncomputable def D5 (n : Nat) : FragD := ⟨⟨[(7, pp 0), (9, pi), (13, pp 1), (14, pp 2), (15, pp 3), (16, pb), (17, pb)], [.stb 31 c31, .blk 31 [.sl 4, .sl 5, .sl 6, .h (.row (.int .i64))], .blk 31 [.sl 7, .sl 8, .sl 9, .h (.row (.int .i64))], .blk 31 [.sl 10, .sl 11, .sl 12, .h (.row (.int .i64))], .row 56 c56, .row 43 c43, .row 3 (.int .i64), .row 56 c56, .row 43 c43, .row 3 (.int .i64), .row 56 c56, .row 43 c43, .row 3 (.int .i64)]⟩, [⟨0, ⟨[], [.same, .stb 31 c31, .stb 31 c31, .stb 31 c31, .gone, .gone, .gone, .gone, .gone, .gone, .gone, .gone, .gone]⟩, S31 × S31 × S31, fun x => (x.2.2.1, x.2.2.2.1, x.2.2.2.2.1), fun r => ((), ((), r.1, r.2.1, r.2.2, (), (), (), (), (), (), (), (), (), ())), fun _ => rfl⟩, ⟨1, ⟨[(4, pb)], [.same, .stb 31 c31, .stb 31 c31, .stb 31 c31, .gone, .gone, .gone, .gone, .gone, .gone, .gone, .gone, .gone]⟩, Bool × S31 × S31 × S31, fun x => (x.1.1, x.2.2.1, x.2.2.2.1, x.2.2.2.2.1), fun r => ((r.1, ()), ((), r.2.1, r.2.2.1, r.2.2.2, (), (), (), (), (), (), (), (), (), ())), fun _ => rfl⟩], fun x => j5 n x.1.2.1 x.1.2.2.2.2.2.1 x.1.2.2.2.2.2.2.1 x.2.1 x.2.2.1.2.2.2.1 x.2.2.2.1.2.2.2.1 x.2.2.2.2.1.2.2.2.1 x.2.2.2.2.2.1 x.2.2.2.2.2.2.1 x.2.2.2.2.2.2.2.1 x.2.2.2.2.2.2.2.2.1 x.2.2.2.2.2.2.2.2.2.1 x.2.2.2.2.2.2.2.2.2.2.1 x.2.2.2.2.2.2.2.2.2.2.2.1 x.2.2.2.2.2.2.2.2.2.2.2.2.1 x.2.2.2.2.2.2.2.2.2.2.2.2.2.1⟩
set_option maxRecDepth 1000000 in
theorem T5 (n : Nat) : FragOK Tryz.prog 298 (atN K 400 65534) (D5 n) := fragR ⟨Tryz.prog, 298, F n, (r4 n), [], []⟩ (Fok n) (R4 n) noL 65534 (by kernel_rfl) (fun x => by kernel_rfl)
noncomputable abbrev r5 (n : Nat) : List (Nat × FragD) := (65534, D5 n) :: (r4 n)
theorem R5 (n : Nat) : AllFr Tryz.prog 298 K (r5 n) := ⟨T5 n, R4 n⟩
noncomputable def j6 (n : Nat) (t9 : Int) (t16 : Bool) (t17 : Bool) (o0 : S45) (o1 : S31) (o2 : S31) (o3 : S31) : Option (Unit ⊕ Bool) :=
bif t16 then
ck (inb t9 o2.2.2.1.length) <|
ck (inb o0.2.1 o1.2.2.1.length) <|
bif ((o2.2.2.1.getD t9.toNat 0) != (o1.2.2.1.getD o0.2.1.toNat 0)) then
some (.inr false)
else
ck (inb t9 o2.2.1.length) <|
ck (inb o0.2.1 o1.2.1.length) <|
(armillaryref27_SameMessage ((o2.2.1.getD t9.toNat z43).1, ((o2.2.1.getD t9.toNat z43).2).1, (((o2.2.1.getD t9.toNat z43).2).2).1, ((((o2.2.1.getD t9.toNat z43).2).2).2).1, (((((o2.2.1.getD t9.toNat z43).2).2).2).2).1, ((((((o2.2.1.getD t9.toNat z43).2).2).2).2).2).1, (((((((o2.2.1.getD t9.toNat z43).2).2).2).2).2).2)) (o1.2.1.getD o0.2.1.toNat z43)).bind fun z57 =>
bif !z57 then
some (.inr false)
else
bif t17 then
ck (inb t9 o3.2.2.1.length) <|
bif ((o3.2.2.1.getD t9.toNat 0) != o0.2.2.1) then
some (.inr false)
else
ck (inb t9 o3.2.1.length) <|
(armillaryref27_SameMessage ((o3.2.1.getD t9.toNat z43).1, ((o3.2.1.getD t9.toNat z43).2).1, (((o3.2.1.getD t9.toNat z43).2).2).1, ((((o3.2.1.getD t9.toNat z43).2).2).2).1, (((((o3.2.1.getD t9.toNat z43).2).2).2).2).1, ((((((o3.2.1.getD t9.toNat z43).2).2).2).2).2).1, (((((((o3.2.1.getD t9.toNat z43).2).2).2).2).2).2)) o0.2.2.2).bind fun z59 =>
bif !z59 then
some (.inr false)
else
some (.inl ())
else
some (.inl ())
else
bif t17 then
ck (inb t9 o3.2.2.1.length) <|
bif ((o3.2.2.1.getD t9.toNat 0) != o0.2.2.1) then
some (.inr false)
else
ck (inb t9 o3.2.1.length) <|
(armillaryref27_SameMessage ((o3.2.1.getD t9.toNat z43).1, ((o3.2.1.getD t9.toNat z43).2).1, (((o3.2.1.getD t9.toNat z43).2).2).1, ((((o3.2.1.getD t9.toNat z43).2).2).2).1, (((((o3.2.1.getD t9.toNat z43).2).2).2).2).1, ((((((o3.2.1.getD t9.toNat z43).2).2).2).2).2).1, (((((((o3.2.1.getD t9.toNat z43).2).2).2).2).2).2)) o0.2.2.2).bind fun z61 =>
bif !z61 then
some (.inr false)
else
some (.inl ())
else
some (.inl ())
noncomputable def D6 (n : Nat) : FragD := ⟨⟨[(3, pp 0), (7, pp 1), (9, pi), (14, pp 2), (15, pp 3), (16, pb), (17, pb)], [.stb 45 c45, .stb 31 c31, .stb 31 c31, .stb 31 c31]⟩, [⟨0, ⟨[], [.same, .same, .same, .same]⟩, Unit, fun _ => (), fun _ => ((), ((), (), (), (), ())), fun _ => rfl⟩, ⟨1, ⟨[(4, pb)], [.same, .same, .same, .same]⟩, Bool, fun x => x.1.1, fun r => ((r, ()), ((), (), (), (), ())), fun _ => rfl⟩], fun x => j6 n x.1.2.2.1 x.1.2.2.2.2.2.1 x.1.2.2.2.2.2.2.1 x.2.1 x.2.2.1 x.2.2.2.1 x.2.2.2.2.1⟩
set_option maxRecDepth 1000000 in
theorem T6 (n : Nat) : FragOK Tryz.prog 298 (atN K 400 131070) (D6 n) := fragR ⟨Tryz.prog, 298, F n, (r5 n), [], []⟩ (Fok n) (R5 n) noL 131070 (by kernel_rfl) (fun x => by kernel_rfl)
noncomputable abbrev r6 (n : Nat) : List (Nat × FragD) := (131070, D6 n) :: (r5 n)
theorem R6 (n : Nat) : AllFr Tryz.prog 298 K (r6 n) := ⟨T6 n, R5 n⟩
end armillarylaw31_SimnetNetworkEvents
open armillarylaw31_SimnetNetworkEvents in
noncomputable def armillarylaw31_SimnetNetworkEvents (n : Nat) (t0 : S25) (t1 : S45) : Option Bool :=
(armillarylaw31_sanity n).bind fun z1 =>
(armillarylaw31_start n t0 40).bind fun z2 =>
(simnet_Run n z2.2.1 z2.2.2).bind fun z3 =>
(simnet_Apply n (z3.2.1, z3.2.2.1, z3.2.2.2, z3.1) (2, t1.2)).bind fun z4 =>
(simnet_Apply n (z3.2.1, z3.2.2.1, z3.2.2.2, z3.1) (3, t1.2)).bind fun z5 =>
(simnet_Apply n (z3.2.1, z3.2.2.1, z3.2.2.2, z3.1) (7, t1.2)).bind fun z6 =>
(j0 n (z3.2.2.1.length : Int) t1).bind fun z7 =>
(j1 n z2.1 t1 z3.2.1 z3.2.2.1 z3.2.2.2 z3.1).bind fun z9 =>
(j2 n z2.1 (z3.2.2.1.length : Int) (z3.2.1, z3.2.2.1, z3.2.2.2, z3.1) z4.1 z5.1 z6.1 z4.2.1 z4.2.2.1 z4.2.2.2 z5.2.1 z5.2.2.1 z5.2.2.2 z6.2.1 z6.2.2.1 z6.2.2.2).bind fun z11 =>
sm z11 (fun z12 =>
(l3 n n 0 z2.1 (z3.2.1, z3.2.2.1, z3.2.2.2, z3.1) z4.1 z5.1 z6.1 z4.2.1 z4.2.2.1 z4.2.2.2 z5.2.1 z5.2.2.1 z5.2.2.2 z6.2.1 z6.2.2.1 z6.2.2.2).bind fun z17 =>
sm z17 (fun z18 =>
some z18.1) fun z19 =>
(j5 n (z3.2.2.1.length : Int) z7 z9 z19.1 z19.2.1 z19.2.2.1 z19.2.2.2.1 z19.2.2.2.2.1 z19.2.2.2.2.2.1 z19.2.2.2.2.2.2.1 z19.2.2.2.2.2.2.2.1 z19.2.2.2.2.2.2.2.2.1 z19.2.2.2.2.2.2.2.2.2.1 z19.2.2.2.2.2.2.2.2.2.2.1 z19.2.2.2.2.2.2.2.2.2.2.2.1 z19.2.2.2.2.2.2.2.2.2.2.2.2).bind fun z51 =>
sm z51 (fun z52 =>
(j6 n (z3.2.2.1.length : Int) z7 z9 t1 z19.1 z52.2.1 z52.2.2).bind fun z62 =>
sm z62 (fun z63 =>
(simnet_Apply n z19.1 ((W .i64 (8 + (bAnd .i64 t1.1 7))), t1.2)).bind fun z66 =>
(armillaryref31_Same n (z66.2.1, z66.2.2.1, z66.2.2.2, z66.1) z19.1).bind fun z67 =>
bif z67 then
some z1
else
some false) fun z64 =>
some z64) fun z53 =>
some z53.1) fun z13 =>
some z13
noncomputable def armillarylaw31_SimnetNetworkEvents.d (n : Nat) : FragD := ⟨⟨[(0, pst c25), (1, pst c45)], []⟩, [⟨1, ⟨[(0, pb)], []⟩, Bool, fun x => x.1.1, fun r => ((r, ()), ()), fun _ => rfl⟩], fun x => armillarylaw31_SimnetNetworkEvents n x.1.1 x.1.2.1⟩
open armillarylaw31_SimnetNetworkEvents in
set_option maxRecDepth 1000000 in
theorem armillarylaw31_SimnetNetworkEvents.ok (n : Nat) : FunOK Tryz.prog 8 (armillarylaw31_SimnetNetworkEvents.d n) := funR ⟨Tryz.prog, 298, F n, (r6 n), [], []⟩ Tryz.f8 (by kernel_rfl) (by kernel_rfl) (by kernel_rfl) (Fok n) (R6 n) noL (by kernel_rfl) (fun x => by kernel_rfl)
end Go.Proofs.YtfecniimkgkmfaaGreat
set_option linter.unusedVariables false
namespace Go.Proofs.YtfecniimkgkmfaaGreat
open Go Go.RowKit Go.Proofs.YtfecniimkgkmfaaGreat.RW Go.Proofs.YtfecniimkgkmfaaGreat.AM
namespace armillarylaw31_SimnetDrain
end armillarylaw31_SimnetDrain
namespace armillarylaw31_SimnetPersistence
end armillarylaw31_SimnetPersistence
namespace armillaryref31_post
end armillaryref31_post
namespace armillaryref31_remove
end armillaryref31_remove
namespace armillaryref29_Sum
end armillaryref29_Sum
namespace armillaryref29_zero
end armillaryref29_zero
namespace armillaryref29_Valid
end armillaryref29_Valid
namespace armillaryref29_counts
end armillaryref29_counts
namespace armillaryref29_Size
end armillaryref29_Size
namespace armillaryref29_decided
end armillaryref29_decided
namespace armillaryref29_Committed
end armillaryref29_Committed
namespace armillaryref30_proposal
end armillaryref30_proposal
namespace armillaryref30_commit
end armillaryref30_commit
namespace armillaryref30_send
end armillaryref30_send
namespace armillaryref30_join
end armillaryref30_join
namespace armillaryref30_said
end armillaryref30_said
namespace armillaryref29_Prepared
end armillaryref29_Prepared
namespace armillaryref30_acceptable
end armillaryref30_acceptable
end Go.Proofs.YtfecniimkgkmfaaGreat
set_option linter.unusedVariables false
namespace Go.Proofs.YtfecniimkgkmfaaGreat
open Go Go.RowKit Go.Proofs.YtfecniimkgkmfaaGreat.RW Go.Proofs.YtfecniimkgkmfaaGreat.AM
namespace armillaryref30_prepare
end armillaryref30_prepare
namespace armillaryref30_lock
end armillaryref30_lock
namespace armillaryref30_progress
end armillaryref30_progress
namespace armillaryref30_Handle
end armillaryref30_Handle
namespace armillaryref31_update
end armillaryref31_update
namespace armillaryref31_message
end armillaryref31_message
namespace armillaryref30_Recover
end armillaryref30_Recover
namespace armillaryref30_Timeout
end armillaryref30_Timeout
namespace armillaryref29_HighestPrepared
end armillaryref29_HighestPrepared
namespace armillaryref30_Propose
end armillaryref30_Propose
namespace armillaryref31_Apply
end armillaryref31_Apply
namespace armillaryref31_Drain
end armillaryref31_Drain
namespace armillarylaw31_SimnetMatchesReference
end armillarylaw31_SimnetMatchesReference
end Go.Proofs.YtfecniimkgkmfaaGreat
namespace Go.Proofs.YtfecniimkgkmfaaGreat
open Go Go.RowKit Go.Proofs.YtfecniimkgkmfaaGreat.RW
open Go.Proofs.YtfecniimkgkmfaaGreat.AM hiding lk
set_option linter.unusedVariables false
set_option maxRecDepth 100000
abbrev Ent : Type := Int × ByteArray × List Int
abbrev Msg : Type := Int × Int × Int × Int × Int × Ent
abbrev Rep : Type := Int × Int × Int × List Msg × List Msg × List Ent
abbrev mK (m : Msg) : Int := m.1
abbrev mF (m : Msg) : Int := m.2.1
abbrev mV (m : Msg) : Int := m.2.2.1
abbrev mQ (m : Msg) : Int := m.2.2.2.1
abbrev mS (m : Msg) : Int := m.2.2.2.2.1
abbrev mE (m : Msg) : Ent := m.2.2.2.2.2
abbrev rI (r : Rep) : Int := r.1
abbrev rN (r : Rep) : Int := r.2.1
abbrev rV (r : Rep) : Int := r.2.2.1
abbrev rT (r : Rep) : List Msg := r.2.2.2.1
abbrev rS (r : Rep) : List Msg := r.2.2.2.2.1
abbrev rL (r : Rep) : List Ent := r.2.2.2.2.2

/-! ### numbers -/
theorem wrap64 {n : Nat} (h : n < 18446744073709551616) : IntKind.u64.wrap (n : Int) = (n : Int) := by
 have h2 : (2 : Int) ^ 64 = 18446744073709551616 := by decide
 unfold IntKind.wrap
 simp only [IntKind.bits, IntKind.signed, h2, Bool.false_and, Bool.false_eq_true, if_false]
 exact Int.emod_eq_of_lt (by omega) (by omega)
theorem xor64 {a b : Nat} (ha : a < 18446744073709551616) (hb : b < 18446744073709551616) : bXor .u64 (a : Int) (b : Int) = ((a ^^^ b : Nat) : Int) := by
 have hx : a ^^^ b < 18446744073709551616 := Nat.xor_lt_two_pow (n := 64) ha hb
 show IntKind.u64.wrap (((BitVec.ofInt 64 (a : Int)) ^^^ (BitVec.ofInt 64 (b : Int))).toNat : Int) = _
 rw [BitVec.ofInt_natCast, BitVec.ofInt_natCast, BitVec.toNat_xor, BitVec.toNat_ofNat, BitVec.toNat_ofNat]
 rw [Nat.mod_eq_of_lt (show a < 2 ^ 64 from ha), Nat.mod_eq_of_lt (show b < 2 ^ 64 from hb)]
 exact wrap64 hx
def byte (x : Int) : Prop := 0 ≤ x ∧ x ≤ 255
theorem wrap8_byte (x : Int) : byte (IntKind.u8.wrap x) := by
 have h2 : (2 : Int) ^ 8 = 256 := by decide
 unfold IntKind.wrap byte
 simp only [IntKind.bits, IntKind.signed, h2, Bool.false_and, Bool.false_eq_true, if_false]
 omega
theorem bytesOf_byte (s : ByteArray) : ∀ x ∈ bytesOf s, byte x := by
 intro x hx
 unfold bytesOf at hx
 obtain ⟨b, _, rfl⟩ := List.mem_map.1 hx
 have := b.toNat_lt
 unfold byte
 omega
theorem empty_iff (s : ByteArray) : (s.toList == (⟨#[]⟩ : ByteArray).toList) = ((s.size : Int) == 0) := by
 have h2 : s.size = s.data.toList.length := by rw [Array.length_toList]; rfl
 rw [ByteArray.toList_eq, ByteArray.toList_eq, Bool.eq_iff_iff, beq_iff_eq, beq_iff_eq]
 constructor
 ·intro h
  have : s.data.toList.length = 0 := by rw [h]; rfl
  omega
 ·intro h
  have : s.data.toList.length = 0 := by omega
  rw [List.length_eq_zero_iff.1 this]

/-! ### varints -/
def vl : Nat → Int → List Int
 | 0, u => [W .u8 u]
 | j + 1, u => if u ≥ 128 then bOr .u8 (W .u8 u) 128 :: vl j (Int.fdiv u 128) else [W .u8 u]
theorem vl_byte : ∀ (j : Nat) (u : Int), ∀ x ∈ vl j u, byte x
 | 0, u, x, h => by rw [List.mem_singleton.1 h]; exact wrap8_byte _
 | j + 1, u, x, h => by
  simp only [vl] at h
  split at h
  ·rcases List.mem_cons.1 h with rfl | h
   ·exact wrap8_byte _
   ·exact vl_byte j _ x h
  ·rw [List.mem_singleton.1 h]; exact wrap8_byte _
theorem vl_len : ∀ (j : Nat) (u : Int), (vl j u).length ≤ j + 1
 | 0, _ => Nat.le_refl _
 | j + 1, u => by
  simp only [vl]
  split
  ·have := vl_len j (Int.fdiv u 128)
   rw [List.length_cons]; omega
  ·simp
theorem fdiv128 {j : Nat} {u : Int} (h0 : 0 ≤ u) (h1 : u < 128 ^ (j + 1 + 1)) : 0 ≤ Int.fdiv u 128 ∧ Int.fdiv u 128 < 128 ^ (j + 1) := by
 have hd : Int.fdiv u 128 = u / 128 := Int.fdiv_eq_ediv_of_nonneg _ (by omega)
 rw [Int.pow_succ] at h1
 rw [hd]
 exact ⟨by omega, Int.ediv_lt_of_lt_mul (by omega) h1⟩
theorem varint_l0 : ∀ (j : Nat) (u : Int) (x : List Int), 0 ≤ u → u < 128 ^ (j + 1) → x.length + j ≤ 1000000 → ∃ r : Int × List Int, EvL (fun n k => codec_AppendVarint.l0 n k u x) r ∧ r.2.length ≤ x.length + j ∧ r.2 ++ [W .u8 r.1] = x ++ vl j u := by
 intro j
 induction j with
 | zero =>
  intro u x h0 h1 hl
  refine ⟨(u, x), EvL.done (L := fun n k (s : Int × List Int) => codec_AppendVarint.l0 n k s.1 s.2) (S := fun n s => codec_AppendVarint.s0 n s.1 s.2) (fun _ _ _ => rfl) (s := (u, x)) (Ev.of fun n => ?_), Nat.le_refl _, rfl⟩
  unfold codec_AppendVarint.s0
  rw [show decide (u ≥ 128) = false from decide_eq_false (by omega)]
  rfl
 | succ j ih =>
  intro u x h0 h1 hl
  by_cases h : u ≥ 128
  ·obtain ⟨d0, d1⟩ := fdiv128 h0 h1
   obtain ⟨r, r1, r2, r3⟩ := ih (Int.fdiv u 128) (x ++ [bOr .u8 (W .u8 u) 128]) d0 d1 (by simp; omega)
   refine ⟨r, EvL.step (L := fun n k (s : Int × List Int) => codec_AppendVarint.l0 n k s.1 s.2) (S := fun n s => codec_AppendVarint.s0 n s.1 s.2) (fun _ _ _ => rfl) (s := (u, x)) (s' := (Int.fdiv u 128, x ++ [bOr .u8 (W .u8 u) 128])) (Ev.of fun n => ?_) r1, by simp at r2; omega, ?_⟩
   ·show codec_AppendVarint.s0 n u x = _
    unfold codec_AppendVarint.s0
    rw [show decide (u ≥ 128) = true from decide_eq_true h, roomT (n := x.length + 1) (by omega) (by omega)]
    rfl
   ·rw [r3, vl, if_pos h]
    simp
  ·refine ⟨(u, x), EvL.done (L := fun n k (s : Int × List Int) => codec_AppendVarint.l0 n k s.1 s.2) (S := fun n s => codec_AppendVarint.s0 n s.1 s.2) (fun _ _ _ => rfl) (s := (u, x)) (Ev.of fun n => ?_), Nat.le_add_right _ _, by rw [vl, if_neg h]⟩
   unfold codec_AppendVarint.s0
   rw [show decide (u ≥ 128) = false from decide_eq_false (by omega)]
   rfl
theorem clip_all (t : List Int) : slices_Clip_byte_byte t = some t := by
 unfold slices_Clip_byte_byte
 rw [show inb (t.length : Int) (t.length + 1) = true from inbN (by omega)]
 simp [AM.ck]
theorem varint_ev {n : Int} {x : List Int} (h0 : 0 ≤ n) (h1 : n ≤ 20000) (hx : x.length ≤ 100000) : Ev (fun k => codec_AppendVarint k x n) (x ++ vl 2 (n * 2)) := by
 obtain ⟨m, rfl⟩ : ∃ m : Nat, n = (m : Int) := ⟨n.toNat, by omega⟩
 have e1 : W .i64 ((m : Int) * 2) = ((m * 2 : Nat) : Int) := by rw [wr64 (by omega) (by omega)]; omega
 have e2 : W .u64 ((m * 2 : Nat) : Int) = ((m * 2 : Nat) : Int) := wrap64 (by omega)
 have e3 : Int.fdiv (m : Int) 9223372036854775808 = ((0 : Nat) : Int) := by
  rw [Int.fdiv_eq_ediv_of_nonneg _ (by omega)]
  omega
 have e4 : W .u64 ((0 : Nat) : Int) = ((0 : Nat) : Int) := wrap64 (by omega)
 have hu : bXor .u64 (W .u64 (W .i64 ((m : Int) * 2))) (W .u64 (Int.fdiv (m : Int) 9223372036854775808)) = (m : Int) * 2 := by
  rw [e1, e2, e3, e4, xor64 (by omega) (by omega), Nat.xor_zero]
  omega
 refine Ev.congr (g := fun k => bif decide ((m : Int) * 2 ≥ 128) then AM.ck (AM.room (x.length + 1) 1) ((codec_AppendVarint.l0 k k (Int.fdiv ((m : Int) * 2) 128) (x ++ [bOr .u8 (W .u8 ((m : Int) * 2)) 128])).bind fun z6 => AM.ck (AM.room (z6.2.length + 1) 1) (some (z6.2 ++ [W .u8 z6.1]))) else AM.ck (AM.room (x.length + 1) 1) (some (x ++ [W .u8 ((m : Int) * 2)]))) (fun k => ?_) ?_
 ·unfold codec_AppendVarint
  rw [hu]
  simp only [clip_all, Option.bind_some]
 ·refine Ev.if (fun h => ?_) (fun h => ?_)
  ·obtain ⟨d0, d1⟩ := fdiv128 (j := 1) (u := (m : Int) * 2) (by omega) (by omega)
   obtain ⟨r, r1, r2, r3⟩ := varint_l0 1 (Int.fdiv ((m : Int) * 2) 128) (x ++ [bOr .u8 (W .u8 ((m : Int) * 2)) 128]) d0 d1 (by simp; omega)
   refine Ev.ck (roomT (by omega) (by omega)) (Ev.bind r1.diag (Ev.ck (roomT (by simp at r2; omega) (by simp at r2; omega)) (Ev.cast (Ev.ret _) ?_)))
   rw [r3, show vl 2 ((m : Int) * 2) = bOr .u8 (W .u8 ((m : Int) * 2)) 128 :: vl 1 (Int.fdiv ((m : Int) * 2) 128) from by rw [vl]; exact if_pos (of_decide_eq_true h)]
   simp
  ·refine Ev.ck (roomT (by omega) (by omega)) (Ev.cast (Ev.ret _) ?_)
   rw [vl, if_neg (of_decide_eq_false h)]

/-! ### entries -/
def encOk (e : Ent) : Bool := decide (e.1 ≥ 1) && (decide (e.1 ≤ 4) && (decide ((e.2.1.size : Int) ≥ 1) && (decide ((e.2.1.size : Int) ≤ 40) && decide ((e.2.2.length : Int) ≤ 20000))))
def encB (e : Ent) : List Int := (((vl 2 (e.1 * 2) ++ vl 2 ((e.2.1.size : Int) * 2)) ++ bytesOf e.2.1) ++ vl 2 ((e.2.2.length : Int) * 2)) ++ e.2.2
def encR (e : Ent) : Int × List Int := if encOk e = true then (0, encB e) else (1, [])
theorem encOk_iff (e : Ent) : encOk e = true ↔ 1 ≤ e.1 ∧ e.1 ≤ 4 ∧ 1 ≤ (e.2.1.size : Int) ∧ (e.2.1.size : Int) ≤ 40 ∧ (e.2.2.length : Int) ≤ 20000 := by
 unfold encOk
 simp only [Bool.and_eq_true, decide_eq_true_eq, ge_iff_le]
theorem validEntry_eq (e : Ent) : codec_validEntry e = some (encOk e) := by
 unfold codec_validEntry encOk
 cases decide (e.1 ≥ 1) <;> cases decide (e.1 ≤ 4) <;> cases decide ((e.2.1.size : Int) ≥ 1) <;> cases decide ((e.2.1.size : Int) ≤ 40) <;> rfl
theorem append_ev {x b : List Int} (hx : x.length ≤ 90000) (hb : (b.length : Int) ≤ 20000) : Ev (fun k => codec_appendBytes k x b) ((x ++ vl 2 ((b.length : Int) * 2)) ++ b) := by
 have := vl_len 2 ((b.length : Int) * 2)
 unfold codec_appendBytes
 exact Ev.bind (varint_ev (by omega) hb (by omega)) (Ev.ck (roomT (by simp only [List.length_append]; omega) (by simp only [List.length_append]; omega)) (Ev.ret _))
theorem encode_ev (e : Ent) : Ev (fun k => codec_EncodeEntry k e) (encR e) := by
 unfold codec_EncodeEntry encR
 simp only [validEntry_eq, Option.bind_some]
 cases h : encOk e with
 | false => exact Ev.ret _
 | true =>
  obtain ⟨r1, r2, r3, r4, r5⟩ := (encOk_iff e).1 h
  have l1 := vl_len 2 (e.1 * 2)
  have l2 := vl_len 2 ((e.2.1.size : Int) * 2)
  have hlen : (bytesOf e.2.1).length = e.2.1.size := bytesOf_length e.2.1
  have l3 := vl_len 2 (((bytesOf e.2.1).length : Int) * 2)
  rw [if_pos rfl]
  refine Ev.F rfl (Ev.bind (varint_ev (by omega) (by omega) (by simp)) (Ev.ck (decide_eq_true (by omega)) (Ev.bind (append_ev (by simp; omega) (by omega)) (Ev.bind (append_ev (by simp only [List.length_append, List.length_nil]; omega) r5) (Ev.cast (Ev.ret _) ?_)))))
  unfold encB
  rw [List.nil_append, hlen]
theorem encB_len {e : Ent} (h : encOk e = true) : (encB e).length ≤ 30000 := by
 obtain ⟨r1, r2, r3, r4, r5⟩ := (encOk_iff e).1 h
 have l1 := vl_len 2 (e.1 * 2)
 have l2 := vl_len 2 ((e.2.1.size : Int) * 2)
 have l3 := vl_len 2 ((e.2.2.length : Int) * 2)
 have hlen : (bytesOf e.2.1).length = e.2.1.size := bytesOf_length e.2.1
 unfold encB
 simp only [List.length_append]
 omega
theorem encR_len (e : Ent) : (encR e).2.length ≤ 30000 := by
 unfold encR
 split
 ·rename_i h; exact encB_len h
 ·simp
theorem encR_byte {e : Ent} (hb : ∀ x ∈ e.2.2, byte x) : ∀ x ∈ (encR e).2, byte x := by
 intro x hx
 unfold encR at hx
 split at hx
 ·unfold encB at hx
  rcases List.mem_append.1 hx with hx | hx
  ·rcases List.mem_append.1 hx with hx | hx
   ·rcases List.mem_append.1 hx with hx | hx
    ·rcases List.mem_append.1 hx with hx | hx
     ·exact vl_byte _ _ x hx
     ·exact vl_byte _ _ x hx
    ·exact bytesOf_byte _ x hx
   ·exact vl_byte _ _ x hx
  ·exact hb x hx
 ·cases hx
def crc (b : List Int) : Int := bXor .u32 4294967295 (b.foldl ckStep 4294967295)
theorem crc_eq (b : List Int) : codec_Checksum b = some (crc b) := rfl

/-! ### messages -/
def okN (n : Int) : Bool := decide (n ≥ 1) && decide (n ≤ 13)
theorem okN_iff (n : Int) : okN n = true ↔ 1 ≤ n ∧ n ≤ 13 := by
 unfold okN
 simp only [Bool.and_eq_true, decide_eq_true_eq, ge_iff_le]
theorem possible_eq (n : Int) : quorum_group_possible n = some (okN n) := by
 unfold quorum_group_possible okN
 cases decide (n ≥ 1) <;> rfl
def leadM (n v : Int) : Int := if okN n = true then (if v < 0 then -1 else v.tmod n) else -1
theorem leader_eq (n v : Int) : quorum_Leader n v = some (leadM n v) := by
 unfold quorum_Leader leadM
 rw [possible_eq, Option.bind_some]
 cases h : okN n with
 | false => rfl
 | true =>
  have := (okN_iff n).1 h
  by_cases hv : v < 0
  ·simp [hv]
  ·rw [show decide (v < 0) = false from decide_eq_false hv, show decide (n = 0) = false from decide_eq_false (by omega), if_pos rfl, if_neg hv]
   rfl
def bareE (e : Ent) : Bool := (e.1 == 0) && (((e.2.1.size : Int) == 0) && ((e.2.2.length : Int) == 0))
theorem bare_eq (m : Msg) : quorum_bare m = some (bareE (mE m)) := by
 unfold quorum_bare bareE
 rw [empty_iff]
 simp only [mE]
 cases (m.2.2.2.2.2.1 == 0) <;> cases ((m.2.2.2.2.2.2.1.size : Int) == 0) <;> rfl
theorem bareE_iff (e : Ent) : bareE e = true ↔ e = (0, ⟨#[]⟩, []) := by
 obtain ⟨a, b, c⟩ := e
 unfold bareE
 simp only [Bool.and_eq_true, beq_iff_eq, Prod.mk.injEq]
 have h2 : b.size = b.data.size := rfl
 constructor
 ·rintro ⟨h1, h3, h4⟩
  refine ⟨h1, ?_, List.length_eq_zero_iff.1 (by omega)⟩
  have : b.data = #[] := Array.eq_empty_of_size_eq_zero (by omega)
  cases b; simp_all
 ·rintro ⟨rfl, rfl, rfl⟩
  exact ⟨rfl, rfl, rfl⟩
/-- The bounds of a valid message. -/
def inM (n : Int) (m : Msg) : Bool := okN n && (!decide (mF m < 0) && (!decide (mF m ≥ n) && (!decide (mV m < 0) && (!decide (mV m > 1048576) && (!decide (mQ m < 0) && !decide (mQ m ≥ 1000))))))
def validM (n : Int) (m : Msg) : Bool := inM n m && (if mK m = 1 then encOk (mE m) && ((mF m == leadM n (mV m)) && (crc (encB (mE m)) == mS m)) else if mK m = 2 ∨ mK m = 3 then bareE (mE m) else if mK m = 4 then bareE (mE m) && ((mQ m == 0) && (mS m == 0)) else false)
theorem inM_iff (n : Int) (m : Msg) : inM n m = true ↔ (1 ≤ n ∧ n ≤ 13) ∧ 0 ≤ mF m ∧ mF m < n ∧ 0 ≤ mV m ∧ mV m ≤ 1048576 ∧ 0 ≤ mQ m ∧ mQ m < 1000 := by
 unfold inM
 simp only [Bool.and_eq_true, okN_iff, Bool.not_eq_true', decide_eq_false_iff_not]
 omega
theorem group_j0 (k : Nat) (n : Int) (m : Msg) : quorum_group_valid.j0 k n m = some (bif inM n m then .inl () else .inr false) := by
 unfold quorum_group_valid.j0 inM
 rw [possible_eq, Option.bind_some]
 simp only [mF, mV, mQ]
 cases okN n <;> try rfl
 cases decide (m.2.1 < 0) <;> try rfl
 cases decide (m.2.1 ≥ n) <;> try rfl
 cases decide (m.2.2.1 < 0) <;> try rfl
 cases decide (m.2.2.1 > 1048576) <;> try rfl
 cases decide (m.2.2.2.1 < 0) <;> try rfl
 cases decide (m.2.2.2.1 ≥ 1000) <;> rfl
theorem group_ev (n : Int) (m : Msg) : Ev (fun k => quorum_group_valid k n m) (validM n m) := by
 unfold quorum_group_valid validM
 simp only [group_j0, Option.bind_some]
 cases inM n m with
 | false => exact Ev.ret _
 | true =>
  simp only [cond_true, AM.sm, Bool.true_and]
  by_cases h1 : mK m = 1
  ·rw [if_pos h1]
   refine Ev.T (by simpa using h1) (Ev.bind (encode_ev _) ?_)
   unfold encR
   cases hb : encOk (mE m) with
   | false =>
    rw [if_neg (by decide)]
    exact Ev.ret _
   | true =>
    rw [if_pos rfl]
    simp only [leader_eq, Option.bind_some, crc_eq]
    cases hl : (mF m == leadM n (mV m)) with
    | false =>
     refine Ev.T rfl (Ev.F rfl (Ev.ret _))
    | true => exact Ev.T rfl (Ev.T rfl (Ev.ret _))
  ·rw [if_neg h1]
   refine Ev.F (by simpa using h1) ?_
   unfold quorum_group_valid.j1
   simp only [bare_eq, Option.bind_some]
   by_cases h2 : mK m = 2
   ·rw [if_pos (Or.inl h2)]
    have h2' : m.1 = 2 := h2
    simp only [h2', beq_self_eq_true, cond_true, Option.bind_some]
    exact Ev.ret _
   ·by_cases h3 : mK m = 3
    ·rw [if_pos (Or.inr h3)]
     have h3' : m.1 = 3 := h3
     simp only [h3']
     exact Ev.ret _
    ·rw [if_neg (by rintro (h | h) <;> contradiction)]
     have h2' : (m.1 == 2) = false := by simpa using h2
     have h3' : (m.1 == 3) = false := by simpa using h3
     simp only [h2', h3', cond_false, Option.bind_some]
     by_cases h4 : mK m = 4
     ·rw [if_pos h4, show (m.1 == 4) = true from by simpa using h4]
      simp only [cond_true]
      cases bareE (mE m) with
      | false => exact Ev.ret _
      | true =>
       simp only [cond_true, mQ, mS]
       cases (m.2.2.2.1 == 0) <;> exact Ev.ret _
     ·rw [if_neg h4, show (m.1 == 4) = false from by simpa using h4]
      exact Ev.ret _
theorem valid_ev (n : Int) (m : Msg) : Ev (fun k => quorum_Valid k m n) (validM n m) := Ev.bind (group_ev n m) (Ev.ret _)
theorem validM_in {n : Int} {m : Msg} (h : validM n m = true) : (1 ≤ n ∧ n ≤ 13) ∧ 0 ≤ mF m ∧ mF m < n ∧ 0 ≤ mV m ∧ mV m ≤ 1048576 ∧ 0 ≤ mQ m ∧ mQ m < 1000 := by
 unfold validM at h
 exact (inM_iff n m).1 (Bool.and_eq_true_iff.1 h).1
/-! ### sizes -/
def maxF (n : Int) : Int := (n - 1) / 3
def qsz (n : Int) : Int := n - (n - 1) / 3
theorem maxF_eq {n : Int} (h1 : 1 ≤ n) (h2 : n ≤ 13) : quorum_MaxFaulty n = some (maxF n) := by
 unfold quorum_MaxFaulty maxF
 rw [possible_eq, (okN_iff n).2 ⟨h1, h2⟩, Option.bind_some, wr64 (n := n - 1) (by omega) (by omega), Int.tdiv_eq_ediv_of_nonneg (by omega), wr64 (by omega) (by omega)]
 rfl
theorem qsz_eq {n : Int} (h1 : 1 ≤ n) (h2 : n ≤ 13) : quorum_Size n = some (qsz n) := by
 unfold quorum_Size qsz
 rw [possible_eq, (okN_iff n).2 ⟨h1, h2⟩, maxF_eq h1 h2, Option.bind_some, Option.bind_some]
 unfold maxF
 rw [wr64 (by omega) (by omega)]
 rfl
end Go.Proofs.YtfecniimkgkmfaaGreat
namespace Go.Proofs.YtfecniimkgkmfaaGreat
open Go Go.RowKit Go.Proofs.YtfecniimkgkmfaaGreat.RW
open Go.Proofs.YtfecniimkgkmfaaGreat.AM hiding lk
set_option linter.unusedVariables false
set_option maxRecDepth 1000000

/-! ### numbers of messages -/
def slotOf (x : Q32) : Int × Int × Int := (x.f0, x.f2, x.f3)
def cntB (b : VK) (c : List Q32) : Nat := (c.filter fun x => decide (bkey x = b)).length
theorem cntB_snoc (b : VK) (c : List Q32) (x : Q32) : cntB b (c ++ [x]) = cntB b c + if bkey x = b then 1 else 0 := by
 unfold cntB
 rw [List.filter_append, List.length_append]
 by_cases h : bkey x = b <;> simp [h]
/-- No two votes of one kind, slot and sender; senders are 0 to n - 1. -/
structure Good (n : Int) (c : List Q32) : Prop where
 nd : c.Pairwise (fun x y => vkey x ≠ vkey y)
 rg : ∀ x ∈ c, 0 ≤ x.f1 ∧ x.f1 < n
theorem Good.front {n : Int} {c d : List Q32} (h : Good n (c ++ d)) : Good n c :=
 ⟨(List.pairwise_append.1 h.nd).1, fun x hx => h.rg x (List.mem_append_left _ hx)⟩
theorem nodup_bound : ∀ (n : Nat) (l : List Int), l.Nodup → (∀ x ∈ l, 0 ≤ x ∧ x < (n : Int)) → l.length ≤ n
 | 0, l, _, h => by
  cases l with
  | nil => exact Nat.le_refl _
  | cons x l => have := h x List.mem_cons_self; omega
 | n + 1, l, hn, h => by
  have h1 := nodup_bound n (l.filter fun x => decide (x ≠ (n : Int))) (hn.filter _) (fun x hx => by
   obtain ⟨h2, h3⟩ := List.mem_filter.1 hx
   have := h x h2
   simp at h3
   omega)
  have h2 : l.length ≤ (l.filter fun x => decide (x ≠ (n : Int))).length + 1 := by
   clear h1 h
   induction l with
   | nil => simp
   | cons y l ih =>
    obtain ⟨hy, hl⟩ := List.nodup_cons.1 hn
    by_cases e : y = (n : Int)
    ·have : l.filter (fun x => decide (x ≠ (n : Int))) = l := by
      rw [List.filter_eq_self]
      intro a ha
      simp only [decide_eq_true_eq]
      rintro rfl
      exact hy (by rw [e]; exact ha)
     rw [List.filter_cons_of_neg (by simp [e]), this, List.length_cons]
     exact Nat.le_refl _
    ·rw [List.filter_cons_of_pos (by simp [e])]
     have := ih hl
     simp only [List.length_cons]
     omega
  omega
theorem slot_bound {n : Nat} {c : List Q32} (h : Good (n : Int) c) (q : Int × Int × Int) : (c.filter fun x => decide (slotOf x = q)).length ≤ n := by
 have hnd : ((c.filter fun x => decide (slotOf x = q)).map (·.f1)).Nodup := by
  rw [List.Nodup, List.pairwise_map]
  refine (h.nd.filter _).imp_of_mem ?_
  intro x y hx hy hxy e
  have h1 : slotOf x = q := by simpa using (List.mem_filter.1 hx).2
  have h2 : slotOf y = q := by simpa using (List.mem_filter.1 hy).2
  apply hxy
  have h3 := h1.trans h2.symm
  unfold slotOf at h3
  injection h3 with h4 h5
  injection h5 with h5 h6
  unfold vkey
  rw [h4, e, h5, h6]
 have := nodup_bound n _ hnd (fun x hx => by
  obtain ⟨y, hy, rfl⟩ := List.mem_map.1 hx
  exact h.rg y (List.mem_filter.1 hy).1)
 rwa [List.length_map] at this
theorem two_sums {n : Nat} {c : List Q32} (h : Good (n : Int) c) (a v q s s' : Int) (hs : s ≠ s') : cntB (a, v, q, s) c + cntB (a, v, q, s') c ≤ n := by
 refine Nat.le_trans ?_ (slot_bound h (a, v, q))
 unfold cntB
 clear h
 induction c with
 | nil => simp
 | cons x c ih =>
  by_cases h1 : bkey x = (a, v, q, s)
  ·have h2 : bkey x ≠ (a, v, q, s') := fun e => hs (by rw [h1] at e; injection e with _ e; injection e with _ e; injection e with _ e)
   have h3 : slotOf x = (a, v, q) := by unfold bkey at h1; unfold slotOf; injection h1 with e1 e2; injection e2 with e2 e3; injection e3 with e3 e4; rw [e1, e2, e3]
   simp only [List.filter_cons, h1, h3, decide_true, if_true, List.length_cons]
   have hne : ¬ ((a, v, q, s) = (a, v, q, s')) := fun e => h2 (h1.trans e)
   simp only [hne, decide_false, Bool.false_eq_true, if_false]
   omega
  ·by_cases h2 : bkey x = (a, v, q, s')
   ·have h3 : slotOf x = (a, v, q) := by unfold bkey at h2; unfold slotOf; injection h2 with e1 e2; injection e2 with e2 e3; injection e3 with e3 e4; rw [e1, e2, e3]
    have hne : ¬ ((a, v, q, s') = (a, v, q, s)) := fun e => h1 (h2.trans e)
    simp only [List.filter_cons, h2, h3, hne, decide_true, decide_false, if_true, Bool.false_eq_true, if_false, List.length_cons]
    omega
   ·simp only [List.filter_cons, h1, h2, decide_false, Bool.false_eq_true, if_false]
    split
    ·simp only [List.length_cons]; omega
    ·exact ih
theorem cntB_le {n : Nat} {c : List Q32} (h : Good (n : Int) c) (b : VK) : cntB b c ≤ n := by
 obtain ⟨a, v, q, s⟩ := b
 have := two_sums h a v q s (s + 1) (by omega)
 omega

/-! ### the tally, as numbers -/
theorem snoc_ind {α : Type} {p : List α → Prop} (nil : p []) (snoc : ∀ l x, p l → p (l ++ [x])) (l : List α) : p l := by
 have h : ∀ l : List α, p l.reverse := by
  intro l
  induction l with
  | nil => exact nil
  | cons x l ih => rw [List.reverse_cons]; exact snoc _ x ih
 have := h l.reverse
 rwa [List.reverse_reverse] at this
theorem tst_votes {n : Nat} (hn : n ≤ 13) (sz : Int) : ∀ (c : List Q32), Good (n : Int) c → ∀ b, (mget (tst sz c).1 b).getD 0 = (cntB b c : Int) := by
 intro c
 induction c using snoc_ind with
 | nil => intro _ b; rfl
 | snoc c x ih =>
  intro h b
  have hc := h.front
  rw [tst_snoc, cntB_snoc]
  unfold bump
  simp only
  rw [ih hc (bkey x)]
  have hle := cntB_le hc (bkey x)
  rw [W64 (by omega) (by omega)]
  by_cases e : bkey x = b
  ·subst e
   rw [mput_get, if_pos rfl]
   simp
  ·rw [mput_other _ _ _ _ (fun e2 => e e2.symm), ih hc b, if_neg e]
   simp
theorem dkey_eq {x : Q32} {a v q : Int} : dkey x = (a, 0, v, q) ↔ slotOf x = (a, v, q) := by
 unfold dkey slotOf
 constructor
 ·intro h; injection h with e1 e2; injection e2 with _ e2; injection e2 with e2 e3; rw [e1, e2, e3]
 ·intro h; injection h with e1 e2; injection e2 with e2 e3; rw [e1, e2, e3]
theorem bkey_eq {x : Q32} {a v q s : Int} : bkey x = (a, v, q, s) ↔ slotOf x = (a, v, q) ∧ x.f4 = s := by
 unfold bkey slotOf
 constructor
 ·intro h; injection h with e1 e2; injection e2 with e2 e3; injection e3 with e3 e4; exact ⟨by rw [e1, e2, e3], e4⟩
 ·rintro ⟨h, e4⟩; injection h with e1 e2; injection e2 with e2 e3; rw [e1, e2, e3, e4]
/-- A sum is decided just where as many as sz votes are for it. -/
theorem tst_dec {n sz : Nat} (hn : n ≤ 13) (h1 : 1 ≤ sz) (h2 : n < 2 * sz) : ∀ (c : List Q32), Good (n : Int) c → ∀ (a v q s : Int), mget (tst (sz : Int) c).2 (a, 0, v, q) = some s ↔ sz ≤ cntB (a, v, q, s) c := by
 intro c
 induction c using snoc_ind with
 | nil =>
  intro _ a v q s
  simp only [tst, List.foldl_nil, mget, cntB, List.filter_nil, List.length_nil]
  constructor
  ·intro h; cases h
  ·intro h; omega
 | snoc c x ih =>
  intro h a v q s
  have hc := h.front
  rw [tst_snoc, cntB_snoc]
  unfold bump
  simp only
  rw [tst_votes hn (sz : Int) c hc (bkey x)]
  have hle := cntB_le hc (bkey x)
  rw [W64 (by omega) (by omega)]
  by_cases hx : dkey x = (a, 0, v, q)
  ·have hsl := dkey_eq.1 hx
   have hbx : bkey x = (a, v, q, x.f4) := bkey_eq.2 ⟨hsl, rfl⟩
   by_cases hsz : ((cntB (bkey x) c : Int) + 1) = (sz : Int)
   ·rw [if_pos hsz, hx, mput_get]
    by_cases hs : x.f4 = s
    ·subst hs
     rw [if_pos hbx]
     rw [hbx] at hsz
     constructor
     ·intro _; omega
     ·intro _; rfl
    ·rw [if_neg (fun e => hs (bkey_eq.1 e).2)]
     have h3 := two_sums h a v q x.f4 s hs
     rw [cntB_snoc, cntB_snoc, if_pos hbx, if_neg (fun e => hs (bkey_eq.1 e).2)] at h3
     rw [hbx] at hsz
     constructor
     ·intro e; exact absurd (Option.some.inj e) hs
     ·intro e; omega
   ·rw [if_neg hsz, ih hc a v q s]
    by_cases hs : x.f4 = s
    ·subst hs
     rw [if_pos hbx]
     rw [hbx] at hsz
     omega
    ·rw [if_neg (fun e => hs (bkey_eq.1 e).2)]
     omega
  ·have hb : bkey x ≠ (a, v, q, s) := fun e => hx (dkey_eq.2 (bkey_eq.1 e).1)
   rw [if_neg hb]
   split
   ·rw [mput_other _ _ _ _ (fun e => hx e.symm), ih hc a v q s]; omega
   ·rw [ih hc a v q s]; omega


/-! ### the highest prepared entry -/
/-- Could this message's entry be the answer? -/
def HC (V : Q32 → Bool) (D : Int → Int → Option Int) (at_ : Q24) (m : Q32) : Prop := m.f0 = 1 ∧ m.f3 = at_.f1 ∧ m.f2 < at_.f0 ∧ V m = true ∧ D m.f2 m.f3 = some m.f4
instance (V : Q32 → Bool) (D : Int → Int → Option Int) (at_ : Q24) (m : Q32) : Decidable (HC V D at_ m) := by unfold HC; infer_instance
def hstep (V : Q32 → Bool) (D : Int → Int → Option Int) (at_ : Q24) (st : Q30 × Int) (m : Q32) : Q30 × Int := if HC V D at_ m ∧ st.2 < m.f2 then (m.f5, m.f2) else st
theorem hp_iter {k : Nat} {n : Int} {at_ : Q24} {t1 : List (VK × Int)} {l : List Q32} {V : Q32 → Bool} {D : Int → Int → Option Int} {st : Q30 × Int} {i : Int} {m : Q32} (hget : l.getD i.toNat qz32 = m) (hV : quorum_group_valid.f k n m = some (V m)) (hD : ∀ v q, mget t1 (2, 0, v, q) = D v q) :
  ((if m.f0 ≠ 1 then (some true) else (if m.f3 ≠ at_.f1 then (some true) else (if m.f2 ≥ at_.f0 then (some true) else (if m.f2 ≤ st.2 then (some true) else ((quorum_Valid.f k m n).bind fun t2 => (some (!t2))))))).bind (quorum_HighestPrepared.k5 l t1 st.1.f0 st.1.f1 st.1.f2 st.2 i)) =
   some ((hstep V D at_ st m).1.f0, (hstep V D at_ st m).1.f1, (hstep V D at_ st m).1.f2, (hstep V D at_ st m).2) := by
 have hv : quorum_Valid.f k m n = some (V m) := by unfold quorum_Valid.f quorum_Valid; rw [show quorum_group_valid k n m.p = _ from hV]; rfl
 have skip : ∀ b, b = true → (hstep V D at_ st m = st) → quorum_HighestPrepared.k5 l t1 st.1.f0 st.1.f1 st.1.f2 st.2 i b = some ((hstep V D at_ st m).1.f0, (hstep V D at_ st m).1.f1, (hstep V D at_ st m).1.f2, (hstep V D at_ st m).2) := by
  intro b hb hs
  unfold quorum_HighestPrepared.k5
  rw [if_pos hb, hs]
 have noHC : ¬ (HC V D at_ m ∧ st.2 < m.f2) → hstep V D at_ st m = st := fun h => by unfold hstep; rw [if_neg h]
 by_cases h1 : m.f0 = 1
 ·rw [if_neg (by simpa using h1)]
  by_cases h2 : m.f3 = at_.f1
  ·rw [if_neg (by simpa using h2)]
   by_cases h3 : m.f2 ≥ at_.f0
   ·rw [if_pos h3, Option.bind_some]
    exact skip _ rfl (noHC (fun h => by have := h.1.2.2.1; omega))
   ·rw [if_neg h3]
    by_cases h4 : m.f2 ≤ st.2
    ·rw [if_pos h4, Option.bind_some]
     exact skip _ rfl (noHC (fun h => by have := h.2; omega))
    ·rw [if_neg h4, hv, Option.bind_some, Option.bind_some]
     cases h5 : V m with
     | false => exact skip _ rfl (noHC (fun h => by have := h.1.2.2.2.1; rw [h5] at this; cases this))
     | true =>
      unfold quorum_HighestPrepared.k5
      rw [if_neg (by decide), hget, hD]
      cases h6 : D m.f2 m.f3 with
      | none =>
       have hs := noHC (fun h => by have := h.1.2.2.2.2; rw [h6] at this; cases this)
       simp only [Option.isSome_none, Bool.false_eq_true, if_false, Option.bind_some, quorum_HighestPrepared.k4, quorum_HighestPrepared.k3, hs]
      | some s =>
       simp only [Option.isSome_some, if_true, Option.getD_some, Option.bind_some]
       by_cases h7 : s = m.f4
       ·have hs : hstep V D at_ st m = (m.f5, m.f2) := by
         unfold hstep
         rw [if_pos ⟨⟨h1, h2, by omega, h5, by rw [h6, h7]⟩, by omega⟩]
        have e : (s == m.f4) = true := by simpa using h7
        simp only [e, quorum_HighestPrepared.k4, if_true, Option.bind_some, quorum_HighestPrepared.k3, hget, hs]
       ·have hs := noHC (fun h => by have := h.1.2.2.2.2; rw [h6] at this; exact h7 (Option.some.inj this))
        have e : (s == m.f4) = false := by simpa using h7
        simp only [e, quorum_HighestPrepared.k4, Bool.false_eq_true, if_false, Option.bind_some, quorum_HighestPrepared.k3, hs]
  ·rw [if_pos h2, Option.bind_some]
   exact skip _ rfl (noHC (fun h => h2 h.1.2.1))
 ·rw [if_pos h1, Option.bind_some]
  exact skip _ rfl (noHC (fun h => h1 h.1.1))
theorem hp_loop {n : Int} {at_ : Q24} {t1 : List (VK × Int)} {l : List Q32} {V : Q32 → Bool} {D : Int → Int → Option Int} {K : Nat} (hlen : l.length < 4611686018427387904) (hV : ∀ m ∈ l, ∀ k, K ≤ k → quorum_group_valid.f k n m = some (V m)) (hD : ∀ v q, mget t1 (2, 0, v, q) = D v q) :
  ∀ (r i : Nat) (k : Nat) (st : Q30 × Int), K ≤ k → i + r = l.length → quorum_HighestPrepared.l1 l n at_ t1 (k + 1 + r) st.1.f0 st.1.f1 st.1.f2 st.2 (i : Int) =
   some (((l.drop i).foldl (hstep V D at_) st).1.f0, ((l.drop i).foldl (hstep V D at_) st).1.f1, ((l.drop i).foldl (hstep V D at_) st).1.f2, ((l.drop i).foldl (hstep V D at_) st).2) := by
 intro r
 induction r with
 | zero =>
  intro i k st hk hi
  simp only [quorum_HighestPrepared.l1]
  rw [if_neg (by omega), List.drop_of_length_le (by omega)]
  rfl
 | succ r ih =>
  intro i k st hk hi
  have hil : i < l.length := by omega
  have hdrop : l.drop i = l[i] :: l.drop (i + 1) := List.drop_eq_getElem_cons hil
  have hget : l.getD (i : Int).toNat qz32 = l[i] := getD_int hil
  have hv := hV l[i] (List.getElem_mem hil) (k + 1 + r) (by omega)
  have hnext := ih (i + 1) k (hstep V D at_ st l[i]) hk (by omega)
  have hit := hp_iter (k := k + 1 + r) (at_ := at_) (st := st) (i := (i : Int)) hget hv hD
  rw [show k + 1 + (r + 1) = (k + 1 + r) + 1 from by omega]
  generalize k + 1 + r = K at hnext hit
  simp only [quorum_HighestPrepared.l1]
  rw [if_pos (by omega), if_pos (by omega), if_pos (by omega), hget, hit, Option.bind_some]
  simp only
  rw [wr64s i (by omega), hnext, hdrop]
  rfl

/-! ### lists of messages of which all count -/
def keyM (m : Msg) : VK := (mK m, mF m, mV m, mQ m)
def ballM (m : Msg) : VK := (mK m, mV m, mQ m, mS m)
/-- Valid messages, no two of one kind, sender and slot. -/
structure GoodM (n : Int) (l : List Msg) : Prop where
 ok : ∀ m ∈ l, validM n m = true
 nd : l.Pairwise (fun x y => keyM x ≠ keyM y)
def votes (l : List Msg) (b : VK) : Nat := (l.filter fun x => decide (ballM x = b)).length
theorem votes_of (l : List Msg) (b : VK) : cntB b (l.map Q32.of) = votes l b := by
 unfold cntB votes
 rw [List.filter_map, List.length_map]
 rfl
theorem GoodM.good {n : Int} {l : List Msg} (h : GoodM n l) : Good n (l.map Q32.of) := by
 refine ⟨?_, fun x hx => ?_⟩
 ·rw [List.pairwise_map]
  exact h.nd
 ·obtain ⟨m, hm, rfl⟩ := List.mem_map.1 hx
  have := validM_in (h.ok m hm)
  exact ⟨this.2.1, this.2.2.1⟩
/-- What is decided for a kind and a slot. -/
def decM (n : Int) (l : List Msg) (a v q : Int) : Option Int := (l.find? fun m => decide (mK m = a ∧ mV m = v ∧ mQ m = q ∧ qsz n ≤ (votes l (a, v, q, mS m) : Int))).map mS
theorem votes_mem {l : List Msg} {a v q s : Int} (h : 0 < votes l (a, v, q, s)) : ∃ m ∈ l, mK m = a ∧ mV m = v ∧ mQ m = q ∧ mS m = s := by
 unfold votes at h
 obtain ⟨m, hm⟩ := List.exists_mem_of_length_pos h
 obtain ⟨h1, h2⟩ := List.mem_filter.1 hm
 have := of_decide_eq_true h2
 unfold ballM at this
 injection this with e1 e2
 injection e2 with e2 e3
 injection e3 with e3 e4
 exact ⟨m, h1, e1, e2, e3, e4⟩
theorem qsz_nat {n : Int} (h1 : 1 ≤ n) (h2 : n ≤ 13) : ∃ N s : Nat, (N : Int) = n ∧ N ≤ 13 ∧ (s : Int) = qsz n ∧ 1 ≤ s ∧ N < 2 * s := by
 refine ⟨n.toNat, (qsz n).toNat, ?_, ?_, ?_, ?_, ?_⟩ <;> (try unfold qsz) <;> omega
theorem decM_iff {n : Int} (h1 : 1 ≤ n) (h2 : n ≤ 13) {l : List Msg} (h : GoodM n l) (a v q s : Int) : decM n l a v q = some s ↔ qsz n ≤ (votes l (a, v, q, s) : Int) := by
 unfold decM
 rw [Option.map_eq_some_iff]
 constructor
 ·rintro ⟨m, hm, rfl⟩
  have := List.find?_some hm
  exact (of_decide_eq_true this).2.2.2
 ·intro hs
  have hp : 0 < votes l (a, v, q, s) := by unfold qsz at hs; omega
  obtain ⟨m, hm, e1, e2, e3, e4⟩ := votes_mem hp
  cases hf : l.find? fun m => decide (mK m = a ∧ mV m = v ∧ mQ m = q ∧ qsz n ≤ (votes l (a, v, q, mS m) : Int)) with
  | none =>
   have := List.find?_eq_none.1 hf m hm
   exact absurd (decide_eq_true (show _ ∧ _ ∧ _ ∧ _ from ⟨e1, e2, e3, by rw [e4]; exact hs⟩)) this
  | some x =>
   refine ⟨x, rfl, ?_⟩
   have hx := List.find?_some hf
   replace hx := (of_decide_eq_true hx).2.2.2
   by_cases e : mS x = s
   ·exact e
   ·have := two_sums (n := n.toNat) (by rw [show ((n.toNat : Nat) : Int) = n from by omega]; exact h.good) a v q (mS x) s e
    rw [votes_of, votes_of] at this
    unfold qsz at hs hx
    omega
theorem tally_ev {n : Int} (h1 : 1 ≤ n) (h2 : n ≤ 13) {l : List Msg} (h : GoodM n l) : ∃ t, Ev (fun k => quorum_tally.f k (l.map Q32.of) n) t ∧ ∀ a v q, mget t (a, 0, v, q) = decM n l a v q := by
 obtain ⟨K, hK⟩ : ∃ K, ∀ k, K ≤ k → ∀ m ∈ l, quorum_group_valid k n m = some true := by
  have : ∀ l' : List Msg, (∀ m ∈ l', validM n m = true) → ∃ K, ∀ k, K ≤ k → ∀ m ∈ l', quorum_group_valid k n m = some true := by
   intro l'
   induction l' with
   | nil => intro _; exact ⟨0, fun k _ m hm => by cases hm⟩
   | cons x r ih =>
    intro hl
    obtain ⟨K, hK⟩ := ih fun m hm => hl m (List.mem_cons_of_mem _ hm)
    obtain ⟨M, hM⟩ := group_ev n x
    refine ⟨max K M, fun k hk m hm => ?_⟩
    rcases List.mem_cons.1 hm with rfl | hm
    ·rw [show quorum_group_valid k n m = _ from hM k (by omega), hl m List.mem_cons_self]
    ·exact hK k (by omega) m hm
  exact this l h.ok
 have hcnt : ∀ k, K ≤ k → ∀ (l' : List Msg) (seen : List (VK × Bool)), (∀ m ∈ l', m ∈ l) → l'.Pairwise (fun x y => keyM x ≠ keyM y) → (∀ m ∈ l', mget seen (keyM m) = none) → cnt k n (l'.map Q32.of) seen = some (l'.map Q32.of) := by
  intro k hk l'
  induction l' with
  | nil => intro seen _ _ _; rfl
  | cons x r ih =>
   intro seen hm hp hs
   have hx : quorum_group_valid.f k n (Q32.of x) = some true := hK k hk x (hm x List.mem_cons_self)
   obtain ⟨hp1, hp2⟩ := List.pairwise_cons.1 hp
   have he : mget seen (vkey (Q32.of x)) = none := hs x List.mem_cons_self
   rw [List.map_cons, cnt, he, hx]
   simp only [Option.getD_none, Bool.false_eq_true, if_false, Option.bind_some, if_true]
   rw [ih _ (fun m h => hm m (List.mem_cons_of_mem _ h)) hp2 (fun m h => ?_)]
   ·rfl
   ·rw [mput_other seen (vkey (Q32.of x)) (keyM m) true (fun e => hp1 m h e.symm)]
    exact hs m (List.mem_cons_of_mem _ h)
 refine ⟨(tst (qsz n) (l.map Q32.of)).2, ⟨K, fun k hk => ?_⟩, fun a v q => ?_⟩
 ·show quorum_tally.f k (l.map Q32.of) n = _
  unfold quorum_tally.f
  rw [hcnt k hk l [] (fun m hm => hm) h.nd (fun m _ => rfl), Option.bind_some, show quorum_Size.f n = some (qsz n) from qsz_eq h1 h2]
  rfl
 ·obtain ⟨N, z, hN, hN2, hz, hz1, hz2⟩ := qsz_nat h1 h2
  have key : ∀ s, mget (tst (qsz n) (l.map Q32.of)).2 (a, 0, v, q) = some s ↔ decM n l a v q = some s := by
   intro s
   rw [decM_iff h1 h2 h, ← hz, tst_dec hN2 hz1 hz2 (l.map Q32.of) (by rw [hN]; exact h.good) a v q s, votes_of]
   omega
  cases hd : decM n l a v q with
  | some s => exact (key s).2 hd
  | none =>
   cases ht : mget (tst (qsz n) (l.map Q32.of)).2 (a, 0, v, q) with
   | none => rfl
   | some s => have := (key s).1 ht; rw [hd] at this; cases this
theorem prepared_ev {n : Int} (h1 : 1 ≤ n) (h2 : n ≤ 13) {l : List Msg} (h : GoodM n l) (v q : Int) : Ev (fun k => quorum_Prepared k l n (v, q)) ((decM n l 2 v q).getD 0, (decM n l 2 v q).isSome) := by
 obtain ⟨t, ht, hd⟩ := tally_ev h1 h2 h
 refine Ev.bind ht (Ev.cast (Ev.ret _) ?_)
 rw [hd]
theorem committed_ev {n : Int} (h1 : 1 ≤ n) (h2 : n ≤ 13) {l : List Msg} (h : GoodM n l) (v q : Int) : Ev (fun k => quorum_Committed k l n (v, q)) ((decM n l 3 v q).getD 0, (decM n l 3 v q).isSome) := by
 obtain ⟨t, ht, hd⟩ := tally_ev h1 h2 h
 refine Ev.bind ht (Ev.cast (Ev.ret _) ?_)
 rw [hd]
/-- The highest earlier proposal that is prepared. -/
def hstepM (n : Int) (l : List Msg) (v q : Int) (st : Ent × Int) (m : Msg) : Ent × Int := if (mK m = 1 ∧ mQ m = q ∧ mV m < v ∧ decM n l 2 (mV m) (mQ m) = some (mS m)) ∧ st.2 < mV m then (mE m, mV m) else st
def hiM (n : Int) (l : List Msg) (v q : Int) : Ent × Int := l.foldl (hstepM n l v q) ((0, ⟨#[]⟩, []), -1)
def cvQ (st : Ent × Int) : Q30 × Int := (⟨st.1.1, st.1.2.1, st.1.2.2⟩, st.2)
theorem highest_ev {n : Int} (h1 : 1 ≤ n) (h2 : n ≤ 13) {l : List Msg} (h : GoodM n l) (hlen : l.length < 4611686018427387904) (v q : Int) : Ev (fun k => quorum_HighestPrepared k l n (v, q)) ((hiM n l v q).1, decide ((hiM n l v q).2 ≥ 0)) := by
 obtain ⟨t, ht, hd⟩ := tally_ev h1 h2 h
 obtain ⟨K, hK⟩ : ∃ K, ∀ k, K ≤ k → ∀ m ∈ l, quorum_group_valid k n m = some true := by
  have : ∀ l' : List Msg, (∀ m ∈ l', validM n m = true) → ∃ K, ∀ k, K ≤ k → ∀ m ∈ l', quorum_group_valid k n m = some true := by
   intro l'
   induction l' with
   | nil => intro _; exact ⟨0, fun k _ m hm => by cases hm⟩
   | cons x r ih =>
    intro hl
    obtain ⟨K, hK⟩ := ih fun m hm => hl m (List.mem_cons_of_mem _ hm)
    obtain ⟨M, hM⟩ := group_ev n x
    refine ⟨max K M, fun k hk m hm => ?_⟩
    rcases List.mem_cons.1 hm with rfl | hm
    ·rw [show quorum_group_valid k n m = _ from hM k (by omega), hl m List.mem_cons_self]
    ·exact hK k (by omega) m hm
  exact this l h.ok
 obtain ⟨M, hM⟩ := ht
 refine ⟨max M (K + 1 + l.length), fun k hk => ?_⟩
 have hl := hp_loop (n := n) (at_ := ⟨v, q⟩) (t1 := t) (l := l.map Q32.of) (V := fun _ => true) (D := decM n l 2) (K := K) (by rw [List.length_map]; exact hlen) (fun m hm k hk => by
  obtain ⟨x, hx, rfl⟩ := List.mem_map.1 hm
  exact hK k hk x hx) (fun v q => hd 2 v q) (l.map Q32.of).length 0 (k - 1 - l.length) (⟨0, ⟨#[]⟩, []⟩, -1) (by omega) (by omega)
 rw [List.length_map, show k - 1 - l.length + 1 + l.length = k from by omega, List.drop_zero] at hl
 have hf : (l.map Q32.of).foldl (hstep (fun _ => true) (decM n l 2) ⟨v, q⟩) (⟨0, ⟨#[]⟩, []⟩, -1) = cvQ (hiM n l v q) := by
  unfold hiM
  rw [List.foldl_map]
  have : ∀ (r : List Msg) (st : Ent × Int), r.foldl (fun x y => hstep (fun _ => true) (decM n l 2) ⟨v, q⟩ x (Q32.of y)) (cvQ st) = cvQ (r.foldl (hstepM n l v q) st) := by
   intro r
   induction r with
   | nil => intro st; rfl
   | cons m r ih =>
    intro st
    rw [List.foldl_cons, List.foldl_cons, ← ih]
    congr 1
    unfold hstep hstepM HC
    by_cases hc : (mK m = 1 ∧ mQ m = q ∧ mV m < v ∧ decM n l 2 (mV m) (mQ m) = some (mS m)) ∧ st.2 < mV m
    ·rw [if_pos hc, if_pos ⟨⟨hc.1.1, hc.1.2.1, hc.1.2.2.1, rfl, hc.1.2.2.2⟩, hc.2⟩]
     rfl
    ·rw [if_neg hc, if_neg (fun hh => hc ⟨⟨hh.1.1, hh.1.2.1, hh.1.2.2.1, hh.1.2.2.2.2⟩, hh.2⟩)]
  exact this l ((0, ⟨#[]⟩, []), -1)
 rw [hf] at hl
 show (quorum_HighestPrepared.f k (l.map Q32.of) n ⟨v, q⟩).map (fun r => (r.1.p, r.2)) = _
 unfold quorum_HighestPrepared.f
 rw [show quorum_tally.f k (l.map Q32.of) n = _ from hM k (by omega), Option.bind_some]
 rw [show quorum_HighestPrepared.l1 (l.map Q32.of) n ⟨v, q⟩ t k 0 ⟨#[]⟩ [] (-1) 0 = _ from hl, Option.bind_some]
 rfl
end Go.Proofs.YtfecniimkgkmfaaGreat
namespace Go.Proofs.YtfecniimkgkmfaaGreat
open Go Go.RowKit Go.Proofs.YtfecniimkgkmfaaGreat.RW
open Go.Proofs.YtfecniimkgkmfaaGreat.AM hiding lk
set_option linter.unusedVariables false
set_option maxRecDepth 100000
def posM (r : Rep) : Int := ((rL r).length : Int)
theorem position_eq (r : Rep) : replica_machine_position r = some (posM r) := rfl
/-- Sizes that fit. -/
structure Sz (r : Rep) : Prop where
 t : (rT r).length ≤ 1000000000000
 s : (rS r).length ≤ 1000000000000
 g : (rL r).length ≤ 1000000000000
theorem room88 {n : Nat} (h : n ≤ 1000000000000) : AM.room (n + 1) 88 = true := roomT (by omega) (by omega)
theorem room48 {n : Nat} (h : n ≤ 1000000000000) : AM.room (n + 1) 48 = true := roomT (by omega) (by omega)
theorem room8 {n : Nat} (h : n ≤ 1000000000000) : AM.room (n + 1) 8 = true := roomT (by omega) (by omega)
theorem clipM (l : List Msg) : api_Message l = some l := by
 unfold api_Message
 rw [show inb (l.length : Int) (l.length + 1) = true from inbN (by omega)]
 simp [AM.ck]
theorem clipE (l : List Ent) : api_Entry l = some l := by
 unfold api_Entry
 rw [show inb (l.length : Int) (l.length + 1) = true from inbN (by omega)]
 simp [AM.ck]
/-- A message is sent. -/
def sendM (r : Rep) (m : Msg) : Rep := (rI r, rN r, rV r, rT r, rS r ++ [(m.1, rI r, m.2.2)], rL r)
theorem send_eq {r : Rep} (h : Sz r) (m : Msg) : replica_machine_send m r = some (rI r, rN r, rV r, rT r, rL r, rS r ++ [(m.1, rI r, m.2.2)]) := by
 unfold replica_machine_send
 rw [clipM, Option.bind_some, room88 h.s]
 rfl
theorem idx_some {α : Type} {p : α → Bool} {l : List α} {j : Nat} (h : l.findIdx? p = some j) : ∃ hj : j < l.length, l.find? p = some l[j] := by
 obtain ⟨hj, hp, hb⟩ := List.findIdx?_eq_some_iff_getElem.1 h
 refine ⟨hj, List.find?_eq_some_iff_getElem.2 ⟨hp, j, hj, rfl, fun k hk => ?_⟩⟩
 simpa using hb k hk
theorem idx_none {α : Type} {p : α → Bool} {l : List α} (h : l.findIdx? p = none) : l.find? p = none :=
 List.find?_eq_none.2 fun x hx => by simp [List.findIdx?_eq_none_iff.1 h x hx]
theorem idx_any {α : Type} (p : α → Bool) (l : List α) : (l.findIdx? p).isSome = l.any p := by
 cases h : l.findIdx? p with
 | none =>
  rw [Option.isSome_none]
  symm
  rw [List.any_eq_false]
  intro x hx
  simp [List.findIdx?_eq_none_iff.1 h x hx]
 | some j =>
  obtain ⟨hj, hp, _⟩ := List.findIdx?_eq_some_iff_getElem.1 h
  symm
  exact List.any_eq_true.2 ⟨l[j], List.getElem_mem hj, hp⟩
/-! ### sent -/
def sentM (r : Rep) (k : Int) : Bool := (rS r).any fun x => (x.1 == k) && ((x.2.2.1 == rV r) && (x.2.2.2.1 == posM r))
theorem sent_ev {r : Rep} (h : Sz r) (k : Int) : Ev (fun n => replica_machine_sent n k r) (sentM r k, r) := by
 have hf := find_run (L := fun n j (s : Int × (Int × Rep)) => api_Message_117.l0 n j s.1 (rS r) ((rS r).length : Int) s.2.1 s.2.2) (S := fun n s => api_Message_117.s0 n s.1 (rS r) ((rS r).length : Int) s.2.1 s.2.2) (fun _ _ _ => rfl)
  (rS r) (k, r) (fun x => (x.1 == k) && ((x.2.2.1 == rV r) && (x.2.2.2.1 == posM r))) (by have := h.s; omega) (fun i hi => Ev.of fun n => ?_) (Ev.of fun n => ?_)
 ·unfold replica_machine_sent api_Message_99 api_Message_117
  refine Ev.bind (a := (sentM r k, k, r)) (Ev.bind (a := (match (rS r).findIdx? (fun x => (x.1 == k) && ((x.2.2.1 == rV r) && (x.2.2.2.1 == posM r))) with | some j => ((j : Int), k, r) | none => (-1, k, r))) (Ev.bind hf ?_) ?_) (Ev.ret _)
  ·cases (rS r).findIdx? (fun x => (x.1 == k) && ((x.2.2.1 == rV r) && (x.2.2.2.1 == posM r))) with
   | none => exact Ev.ret _
   | some j => exact Ev.ret _
  ·unfold sentM
   rw [← idx_any]
   cases (rS r).findIdx? (fun x => (x.1 == k) && ((x.2.2.1 == rV r) && (x.2.2.2.1 == posM r))) with
   | none => exact Ev.ret _
   | some j => exact Ev.cast (Ev.ret _) (by simp)
 ·show api_Message_117.s0 n (i : Int) (rS r) ((rS r).length : Int) k r = _
  unfold api_Message_117.s0
  rw [show decide ((i : Int) < ((rS r).length : Int)) = true from decide_eq_true (by omega), inbN hi, getD_int hi, wr64s i (by have := h.s; omega)]
  simp only [cond_true, AM.ck]
  unfold replica_machine_sent_1
  rw [position_eq]
  cases ((rS r)[i].1 == k) with
  | false => rfl
  | true =>
   simp only [cond_true]
   cases ((rS r)[i].2.2.1 == rV r) with
   | false => rfl
   | true =>
    simp only [cond_true, Option.bind_some]
    cases ((rS r)[i].2.2.2.1 == posM r) <;> rfl
 ·show api_Message_117.s0 n ((rS r).length : Int) (rS r) ((rS r).length : Int) k r = _
  unfold api_Message_117.s0
  rw [show decide (((rS r).length : Int) < ((rS r).length : Int)) = false from decide_eq_false (by omega)]
  rfl

/-! ### proposals -/
def propS (r : Rep) (s : Int) : Option Msg := (rT r).find? fun x => (x.1 == 1) && ((x.2.2.2.1 == posM r) && (x.2.2.2.2.1 == s))
def propV (r : Rep) : Option Msg := (rT r).find? fun x => (x.1 == 1) && ((x.2.2.2.1 == posM r) && (x.2.2.1 == rV r))
abbrev zM : Msg := (0, 0, 0, 0, 0, 0, (⟨#[]⟩ : ByteArray), ([] : List Int))
theorem proposal_ev {r : Rep} (h : Sz r) (s : Int) : Ev (fun n => replica_machine_proposal n r s) (match propS r s with | some x => (x, true, r, s) | none => (zM, false, r, s)) := by
 have hf := find_run (L := fun n j (c : Int × (Rep × Int)) => api_Message_117_2.l0 n j c.1 (rT r) ((rT r).length : Int) c.2.1 c.2.2) (S := fun n c => api_Message_117_2.s0 n c.1 (rT r) ((rT r).length : Int) c.2.1 c.2.2) (fun _ _ _ => rfl)
  (rT r) (r, s) (fun x => (x.1 == 1) && ((x.2.2.2.1 == posM r) && (x.2.2.2.2.1 == s))) (by have := h.t; omega) (fun i hi => Ev.of fun n => ?_) (Ev.of fun n => ?_)
 ·unfold replica_machine_proposal api_Message_117_2
  refine Ev.bind (Ev.bind hf (b := (match (rT r).findIdx? (fun x => (x.1 == 1) && ((x.2.2.2.1 == posM r) && (x.2.2.2.2.1 == s))) with | some j => ((j : Int), r, s) | none => (-1, r, s))) ?_) ?_
  ·cases (rT r).findIdx? (fun x => (x.1 == 1) && ((x.2.2.2.1 == posM r) && (x.2.2.2.2.1 == s))) with
   | none => exact Ev.ret _
   | some j => exact Ev.ret _
  ·unfold propS
   cases hi : (rT r).findIdx? (fun x => (x.1 == 1) && ((x.2.2.2.1 == posM r) && (x.2.2.2.2.1 == s))) with
   | none =>
    rw [idx_none hi]
    exact Ev.ret _
   | some j =>
    obtain ⟨hj, hx⟩ := idx_some hi
    rw [hx]
    refine Ev.F (decide_eq_false (show ¬ ((j : Int) < 0) by omega)) (Ev.ck (inbN hj) (Ev.cast (Ev.ret _) ?_))
    rw [getD_int hj]
 ·show api_Message_117_2.s0 n (i : Int) (rT r) ((rT r).length : Int) r s = _
  unfold api_Message_117_2.s0
  rw [show decide ((i : Int) < ((rT r).length : Int)) = true from decide_eq_true (by omega), inbN hi, getD_int hi, wr64s i (by have := h.t; omega)]
  simp only [cond_true, AM.ck]
  unfold replica_machine_proposal_1 replica_withSum_1
  rw [position_eq]
  cases ((rT r)[i].1 == 1) with
  | false => rfl
  | true =>
   simp only [cond_true, Option.bind_some]
   cases ((rT r)[i].2.2.2.1 == posM r) with
   | false => rfl
   | true => cases ((rT r)[i].2.2.2.2.1 == s) <;> rfl
 ·show api_Message_117_2.s0 n ((rT r).length : Int) (rT r) ((rT r).length : Int) r s = _
  unfold api_Message_117_2.s0
  rw [show decide (((rT r).length : Int) < ((rT r).length : Int)) = false from decide_eq_false (by omega)]
  rfl
theorem proposal2_ev {r : Rep} (h : Sz r) : Ev (fun n => replica_machine_proposal_2 n r) (match propV r with | some x => (x, true, r) | none => (zM, false, r)) := by
 have hf := find_run (L := fun n j (c : Int × Rep) => api_Message_117_3.l0 n j c.1 (rT r) ((rT r).length : Int) c.2) (S := fun n c => api_Message_117_3.s0 n c.1 (rT r) ((rT r).length : Int) c.2) (fun _ _ _ => rfl)
  (rT r) r (fun x => (x.1 == 1) && ((x.2.2.2.1 == posM r) && (x.2.2.1 == rV r))) (by have := h.t; omega) (fun i hi => Ev.of fun n => ?_) (Ev.of fun n => ?_)
 ·unfold replica_machine_proposal_2 api_Message_117_3
  refine Ev.bind (Ev.bind hf (b := (match (rT r).findIdx? (fun x => (x.1 == 1) && ((x.2.2.2.1 == posM r) && (x.2.2.1 == rV r))) with | some j => ((j : Int), r) | none => (-1, r))) ?_) ?_
  ·cases (rT r).findIdx? (fun x => (x.1 == 1) && ((x.2.2.2.1 == posM r) && (x.2.2.1 == rV r))) with
   | none => exact Ev.ret _
   | some j => exact Ev.ret _
  ·unfold propV
   cases hi : (rT r).findIdx? (fun x => (x.1 == 1) && ((x.2.2.2.1 == posM r) && (x.2.2.1 == rV r))) with
   | none =>
    rw [idx_none hi]
    exact Ev.ret _
   | some j =>
    obtain ⟨hj, hx⟩ := idx_some hi
    rw [hx]
    refine Ev.F (decide_eq_false (show ¬ ((j : Int) < 0) by omega)) (Ev.ck (inbN hj) (Ev.cast (Ev.ret _) ?_))
    rw [getD_int hj]
 ·show api_Message_117_3.s0 n (i : Int) (rT r) ((rT r).length : Int) r = _
  unfold api_Message_117_3.s0
  rw [show decide ((i : Int) < ((rT r).length : Int)) = true from decide_eq_true (by omega), inbN hi, getD_int hi, wr64s i (by have := h.t; omega)]
  simp only [cond_true, AM.ck]
  unfold replica_machine_proposal_1_2 replica_machine_prepare_1
  rw [position_eq]
  cases ((rT r)[i].1 == 1) with
  | false => rfl
  | true =>
   simp only [cond_true, Option.bind_some]
   cases ((rT r)[i].2.2.2.1 == posM r) with
   | false => rfl
   | true => cases ((rT r)[i].2.2.1 == rV r) <;> rfl
 ·show api_Message_117_3.s0 n ((rT r).length : Int) (rT r) ((rT r).length : Int) r = _
  unfold api_Message_117_3.s0
  rw [show decide (((rT r).length : Int) < ((rT r).length : Int)) = false from decide_eq_false (by omega)]
  rfl

/-! ### what is needed of a replica -/
structure Ok (r : Rep) : Prop where
 n1 : 1 ≤ rN r
 n2 : rN r ≤ 13
 took : GoodM (rN r) (rT r)
 sz : Sz r
/-- What is decided at the current position. -/
def decR (r : Rep) (a v : Int) : Option Int := decM (rN r) (rT r) a v (posM r)
/-! ### rule 1 -/
def cview (r : Rep) (x : Msg) : Bool := (x.1 == 3) && (x.2.2.2.1 == posM r)
def views (r : Rep) : List Int := Lib.compact (sortI (((rT r).filter (cview r)).map fun x => x.2.2.1))
def cand (r : Rep) (v : Int) : Option Msg := (decR r 3 v).bind (propS r)
def commitM (r : Rep) : Option Rep := ((views r).findSome? (cand r)).map fun p => (rI r, rN r, rV r, rT r, rS r, rL r ++ [mE p])
theorem filter_take {α : Type} (p : α → Bool) (l : List α) (i : Nat) (h : i < l.length) : (l.take (i + 1)).filter p = (l.take i).filter p ++ (if p l[i] then [l[i]] else []) := by
 rw [List.take_add_one, List.getElem?_eq_getElem h, List.filter_append]
 cases hp : p l[i] <;> simp [hp]
theorem commit_l0 {r : Rep} (h : Sz r) : Ev (fun n => replica_machine_commit.l0 n n 0 (rT r) ((rT r).length : Int) r []) (r, ((rT r).filter (cview r)).map fun x => x.2.2.1) := by
 refine loop_run (L := fun n j (c : Int × (Rep × List Int)) => replica_machine_commit.l0 n j c.1 (rT r) ((rT r).length : Int) c.2.1 c.2.2) (S := fun n c => replica_machine_commit.s0 n c.1 (rT r) ((rT r).length : Int) c.2.1 c.2.2) (fun _ _ _ => rfl)
  (fun i => ((i : Int), r, (((rT r).take i).filter (cview r)).map fun x => x.2.2.1)) (rT r).length _ (fun i hi => Ev.of fun n => ?_) (Ev.of fun n => ?_)
 ·have hl : ((((rT r).take i).filter (cview r)).map fun x => x.2.2.1).length ≤ 1000000000000 := by
   rw [List.length_map]
   exact Nat.le_trans (List.length_filter_le _ _) (Nat.le_trans (by rw [List.length_take]; omega) h.t)
  show replica_machine_commit.s0 n (i : Int) (rT r) ((rT r).length : Int) r ((((rT r).take i).filter (cview r)).map fun x => x.2.2.1) = some (.inl (((i + 1 : Nat) : Int), r, ((((rT r).take (i + 1)).filter (cview r)).map fun x => x.2.2.1)))
  rw [filter_take _ _ _ hi, List.map_append]
  unfold replica_machine_commit.s0
  rw [show decide ((i : Int) < ((rT r).length : Int)) = true from decide_eq_true (by omega), inbN hi, getD_int hi, wr64s i (by have := h.t; omega), room8 hl, position_eq]
  simp only [cond_true, AM.ck, Option.bind_some, cview]
  by_cases a : (rT r)[i].1 = 3 <;> by_cases b : (rT r)[i].2.2.2.1 = posM r <;> simp [a, b, Bool.cond_eq_ite]
 ·show replica_machine_commit.s0 n ((rT r).length : Int) (rT r) ((rT r).length : Int) r ((((rT r).take (rT r).length).filter (cview r)).map fun x => x.2.2.1) = _
  unfold replica_machine_commit.s0
  rw [show decide (((rT r).length : Int) < ((rT r).length : Int)) = false from decide_eq_false (by omega), List.take_length]
  rfl
theorem commit_s1 {r : Rep} (h : Ok r) (vs : List Int) (i : Nat) (hi : i < vs.length) (hl : vs.length < 4611686018427387904) : Ev (fun n => replica_machine_commit.s1 n (i : Int) (vs.length : Int) r vs) (match cand r vs[i] with
  | some p => .inr (.inl (true, rI r, rN r, rV r, rT r, rS r, vs, rL r ++ [mE p]))
  | none => .inl (((i + 1 : Nat) : Int), r, vs)) := by
 unfold replica_machine_commit.s1
 refine Ev.T (decide_eq_true (by omega)) (Ev.ck (inbN hi) ?_)
 rw [getD_int hi, wr64s i (by omega)]
 refine Ev.bind (Ev.ret (vs[i], posM r)) (Ev.bind (committed_ev h.n1 h.n2 h.took vs[i] (posM r)) ?_)
 unfold cand decR
 cases hd : decM (rN r) (rT r) 3 vs[i] (posM r) with
 | none => exact Ev.ret _
 | some s =>
  refine Ev.F rfl (Ev.bind (Ev.ret s) (Ev.bind (proposal_ev h.sz s) ?_))
  rw [Option.bind_some]
  cases hp : propS r s with
  | none => exact Ev.ret _
  | some p => exact Ev.T rfl (Ev.bind (Ev.of fun _ => clipE _) (Ev.ck (room48 h.sz.g) (Ev.ret _)))
theorem commit_ev {r : Rep} (h : Ok r) : Ev (fun n => replica_machine_commit n r) (match commitM r with
  | some q => (true, q)
  | none => (false, r)) := by
 have hvl : ((rT r).filter (cview r)).length ≤ 1000000000000 := Nat.le_trans (List.length_filter_le _ _) h.sz.t
 have hcl : (views r).length ≤ 1000000000000 := by
  unfold views
  refine Nat.le_trans (compact_le _) ?_
  rw [sortI_len, List.length_map]
  exact hvl
 unfold replica_machine_commit
 refine Ev.bind (commit_l0 h.sz) (Ev.bind (a := sortI (((rT r).filter (cview r)).map fun x => x.2.2.1)) (Ev.of fun n => ?_) (Ev.bind (a := views r) (Ev.of fun _ => rfl) ?_))
 ·unfold slices_Sort_int_int
  rw [show decide ((((rT r).filter (cview r)).map fun x => x.2.2.1).length < 4611686018427387904) = true from decide_eq_true (by rw [List.length_map]; omega)]
  rfl
 ·have hstep := commit_s1 h (views r)
  unfold commitM
  cases hf : (views r).findSome? (cand r) with
  | none =>
   have hl : Ev (fun n => replica_machine_commit.l1 n n 0 ((views r).length : Int) r (views r)) (.inr (r, views r)) := by
    refine loop_run (L := fun n j (c : Int × (Rep × List Int)) => replica_machine_commit.l1 n j c.1 ((views r).length : Int) c.2.1 c.2.2) (S := fun n c => replica_machine_commit.s1 n c.1 ((views r).length : Int) c.2.1 c.2.2) (fun _ _ _ => rfl)
     (fun i => ((i : Int), r, views r)) (views r).length _ (fun i hi => ?_) (Ev.of fun n => ?_)
    ·have := hstep i hi (by omega)
     rw [List.findSome?_eq_none_iff.1 hf _ (List.getElem_mem hi)] at this
     exact this
    ·show replica_machine_commit.s1 n ((views r).length : Int) ((views r).length : Int) r (views r) = _
     unfold replica_machine_commit.s1
     rw [show decide (((views r).length : Int) < ((views r).length : Int)) = false from decide_eq_false (by omega)]
     rfl
   exact Ev.bind hl (Ev.ret _)
  | some p =>
   obtain ⟨l1, v, l2, e, hv, hb⟩ := List.findSome?_eq_some_iff.1 hf
   have hj : l1.length < (views r).length := by rw [e]; simp
   have hget : (views r)[l1.length] = v := by simp [e]
   have hl : Ev (fun n => replica_machine_commit.l1 n n 0 ((views r).length : Int) r (views r)) (.inl (true, rI r, rN r, rV r, rT r, rS r, views r, rL r ++ [mE p])) := by
    refine loop_run (L := fun n j (c : Int × (Rep × List Int)) => replica_machine_commit.l1 n j c.1 ((views r).length : Int) c.2.1 c.2.2) (S := fun n c => replica_machine_commit.s1 n c.1 ((views r).length : Int) c.2.1 c.2.2) (fun _ _ _ => rfl)
     (fun i => ((i : Int), r, views r)) l1.length _ (fun i hi => ?_) ?_
    ·have := hstep i (by omega) (by omega)
     rw [hb _ (by rw [show (views r)[i] = l1[i] from by simp [e, List.getElem_append_left hi]]; exact List.getElem_mem hi)] at this
     exact this
    ·have := hstep l1.length hj (by omega)
     rw [hget, hv] at this
     exact this
   exact Ev.bind hl (Ev.ret _)

/-! ### rule 2 -/
def late (l : List Int) (x : Msg) : List Int := if (x.1 == 4) = true then l.set x.2.1.toNat (iMax (l.getD x.2.1.toNat 0) x.2.2.1) else l
def lates (r : Rep) : List Int := (rT r).foldl late (List.replicate (rN r).toNat 0)
theorem late_len (l : List Int) (x : Msg) : (late l x).length = l.length := by
 unfold late
 split <;> simp
theorem lates_len (ms : List Msg) (l : List Int) : (ms.foldl late l).length = l.length := by
 induction ms generalizing l with
 | nil => rfl
 | cons m ms ih => rw [List.foldl_cons, ih, late_len]
def jview (r : Rep) : Int := (sortI (lates r)).getD (rN r - 1 - maxF (rN r)).toNat 0
def joinM (r : Rep) : Option Rep := if jview r ≤ rV r then none else some (sendM (rI r, rN r, jview r, rT r, rS r, rL r) (4, 0, jview r, 0, 0, 0, (⟨#[]⟩ : ByteArray), ([] : List Int)))
theorem join_ev {r : Rep} (h : Ok r) : Ev (fun n => replica_machine_join n r) (match joinM r with
  | some q => (true, q)
  | none => (false, r)) := by
 have hn1 := h.n1
 have hn2 := h.n2
 have ht := h.sz.t
 have hlen : (sortI (lates r)).length = (rN r).toNat := by rw [sortI_len]; unfold lates; rw [lates_len, List.length_replicate]
 have hv : W .i64 ((W .i64 (rN r - 1)) - maxF (rN r)) = rN r - 1 - maxF (rN r) := by
  unfold maxF
  rw [wr64 (n := rN r - 1) (by omega) (by omega), wr64 (by omega) (by omega)]
 have hr : 0 ≤ rN r - 1 - maxF (rN r) ∧ rN r - 1 - maxF (rN r) < ((rN r).toNat : Int) := by unfold maxF; omega
 unfold replica_machine_join
 refine Ev.ck (decide_eq_true (show 0 ≤ rN r ∧ rN r ≤ rN r from ⟨by omega, by omega⟩)) (Ev.ck (show AM.room (rN r).toNat 8 = true from roomT (by omega) (by omega)) (Ev.bind (a := lates r) ?_ (Ev.bind (a := sortI (lates r)) (Ev.of fun n => ?_) (Ev.bind (Ev.of fun _ => maxF_eq hn1 hn2) ?_))))
 ·refine fold_run (L := fun n j (c : Int × List Int) => replica_machine_join.l0 n j c.1 (rT r) ((rT r).length : Int) c.2) (S := fun n c => replica_machine_join.s0 n c.1 (rT r) ((rT r).length : Int) c.2) (fun _ _ _ => rfl)
   (rT r) late (List.replicate (rN r).toNat 0) (lates r) (by omega) (fun i hi => Ev.of fun n => ?_) (Ev.of fun n => ?_)
  ·have hin := validM_in (h.took.ok (rT r)[i] (List.getElem_mem hi))
   have hb : inb (rT r)[i].2.1 (((rT r).take i).foldl late (List.replicate (rN r).toNat 0)).length = true := by
    rw [lates_len, List.length_replicate]
    exact inbT hin.2.1 (by have : mF (rT r)[i] < rN r := hin.2.2.1; show mF (rT r)[i] < _; omega)
   show replica_machine_join.s0 n (i : Int) (rT r) ((rT r).length : Int) (((rT r).take i).foldl late (List.replicate (rN r).toNat 0)) = _
   unfold replica_machine_join.s0
   rw [show decide ((i : Int) < ((rT r).length : Int)) = true from decide_eq_true (by omega), inbN hi, getD_int hi, wr64s i (by omega), hb]
   simp only [cond_true, AM.ck, late]
   cases ((rT r)[i].1 == 4) <;> rfl
  ·show replica_machine_join.s0 n ((rT r).length : Int) (rT r) ((rT r).length : Int) _ = _
   unfold replica_machine_join.s0
   rw [show decide (((rT r).length : Int) < ((rT r).length : Int)) = false from decide_eq_false (by omega)]
   rfl
 ·unfold slices_Sort_int_int
  rw [show decide ((lates r).length < 4611686018427387904) = true from decide_eq_true (by rw [sortI_len] at hlen; omega)]
  rfl
 ·simp only [hv]
  refine Ev.ck (inbT hr.1 (by rw [hlen]; exact hr.2)) ?_
  unfold joinM
  by_cases hj : jview r ≤ rV r
  ·rw [if_pos hj]
   exact Ev.T (decide_eq_true hj) (Ev.ret _)
  ·rw [if_neg hj]
   refine Ev.F (decide_eq_false hj) (Ev.bind (Ev.of fun _ => send_eq (r := (rI r, rN r, jview r, rT r, rS r, rL r)) ⟨h.sz.t, h.sz.s, h.sz.g⟩ _) (Ev.ret _))

/-! ### the lock -/
def lockG (r : Rep) (k x : Msg) : Msg := if ((x.1 == 3) && ((x.2.2.2.1 == posM r) && decide (x.2.2.1 > k.2.2.1))) = true then x else k
def lockOf (r : Rep) : Msg := (rS r).foldl (lockG r) (0, 0, -1, 0, 0, 0, (⟨#[]⟩ : ByteArray), ([] : List Int))
/-- Does this message say that the sum was prepared behind the lock? -/
def behindM (r : Rep) (s : Int) (x : Msg) : Bool := (x.1 == 2) && ((x.2.2.2.1 == posM r) && (decide (x.2.2.1 > mV (lockOf r)) && (decide (x.2.2.1 < rV r) && (decR r 2 x.2.2.1 == some s))))
def acceptM (r : Rep) (s : Int) : Bool := decide (mV (lockOf r) < 0) || ((mS (lockOf r) == s) || (rT r).any (behindM r s))
theorem lock_ev {r : Rep} (h : Sz r) : Ev (fun n => replica_machine_acceptable.l1 n n 0 (rS r) ((rS r).length : Int) (0, 0, (-1), 0, 0, 0, (⟨#[]⟩ : ByteArray), ([] : List Int)) r) (lockOf r, r) := by
 have hs := h.s
 have hfst : ∀ (l : List Msg) (k : Msg), l.foldl (fun (c : Msg × Rep) x => (lockG r c.1 x, c.2)) (k, r) = (l.foldl (lockG r) k, r) := by
  intro l
  induction l with
  | nil => intro k; rfl
  | cons m l ih => intro k; exact ih _
 refine fold_run (L := fun n j (c : Int × (Msg × Rep)) => replica_machine_acceptable.l1 n j c.1 (rS r) ((rS r).length : Int) c.2.1 c.2.2) (S := fun n c => replica_machine_acceptable.s1 n c.1 (rS r) ((rS r).length : Int) c.2.1 c.2.2) (fun _ _ _ => rfl)
  (rS r) (fun c x => (lockG r c.1 x, c.2)) ((0, 0, (-1), 0, 0, 0, (⟨#[]⟩ : ByteArray), ([] : List Int)), r) _ (by omega) (fun i hi => Ev.of fun n => ?_) (Ev.of fun n => ?_)
 ·rw [hfst]
  show replica_machine_acceptable.s1 n (i : Int) (rS r) ((rS r).length : Int) _ r = _
  generalize ((rS r).take i).foldl (lockG r) _ = k
  unfold replica_machine_acceptable.s1 replica_machine_acceptable.j0
  rw [show decide ((i : Int) < ((rS r).length : Int)) = true from decide_eq_true (by omega), inbN hi, getD_int hi, wr64s i (by omega)]
  simp only [cond_true, AM.ck, lockG, position_eq, Option.bind_some]
  cases ((rS r)[i].1 == 3) with
  | false => rfl
  | true =>
   cases ((rS r)[i].2.2.2.1 == posM r) with
   | false => rfl
   | true =>
    simp only [cond_true, Bool.true_and]
    by_cases hd : (rS r)[i].2.2.1 > k.2.2.1
    ·rw [show decide ((rS r)[i].2.2.1 > k.2.2.1) = true from decide_eq_true hd]; rfl
    ·rw [show decide ((rS r)[i].2.2.1 > k.2.2.1) = false from decide_eq_false hd]; rfl
 ·rw [hfst]
  show replica_machine_acceptable.s1 n ((rS r).length : Int) (rS r) ((rS r).length : Int) _ r = _
  unfold replica_machine_acceptable.s1
  rw [show decide (((rS r).length : Int) < ((rS r).length : Int)) = false from decide_eq_false (by omega)]
  rfl
theorem behind_ev {r : Rep} (h : Ok r) (s : Int) (x : Msg) : Ev (fun n => replica_machine_acceptable_1 n x (lockOf r) s r) (behindM r s x) := by
 unfold replica_machine_acceptable_1 replica_machine_acceptable_1.j0 behindM
 simp only [position_eq, Option.bind_some]
 cases h1 : (x.1 == 2) with
 | false => rw [show (x.1 != 2) = true from by simp [bne, h1]]; exact Ev.ret _
 | true =>
  rw [show (x.1 != 2) = false from by simp [bne, h1]]
  cases h2 : (x.2.2.2.1 == posM r) with
  | false => rw [show (x.2.2.2.1 != posM r) = true from by simp [bne, h2]]; exact Ev.ret _
  | true =>
   rw [show (x.2.2.2.1 != posM r) = false from by simp [bne, h2]]
   by_cases h3 : x.2.2.1 > mV (lockOf r)
   ·rw [show decide (x.2.2.1 ≤ (lockOf r).2.2.1) = false from decide_eq_false (by show ¬ (x.2.2.1 ≤ mV (lockOf r)); omega), decide_eq_true h3]
    by_cases h4 : x.2.2.1 < rV r
    ·rw [show decide (x.2.2.1 ≥ r.2.2.1) = false from decide_eq_false (by show ¬ (x.2.2.1 ≥ rV r); omega), decide_eq_true h4]
     refine Ev.bind (Ev.ret _) (Ev.bind (Ev.ret (x.2.2.1, posM r)) (Ev.bind (prepared_ev h.n1 h.n2 h.took x.2.2.1 (posM r)) ?_))
     show Ev _ (decM (rN r) (rT r) 2 x.2.2.1 (posM r) == some s)
     cases hd : decM (rN r) (rT r) 2 x.2.2.1 (posM r) with
     | none => exact Ev.ret _
     | some q => exact Ev.cast (Ev.ret _) (by simp)
    ·rw [show decide (x.2.2.1 ≥ r.2.2.1) = true from decide_eq_true (by show x.2.2.1 ≥ rV r; omega), decide_eq_false h4]
     exact Ev.ret _
   ·rw [show decide (x.2.2.1 ≤ (lockOf r).2.2.1) = true from decide_eq_true (by show x.2.2.1 ≤ mV (lockOf r); omega), decide_eq_false h3]
    exact Ev.ret _
theorem accept_ev {r : Rep} (h : Ok r) (s : Int) : Ev (fun n => replica_machine_acceptable n s r) (acceptM r s, r) := by
 unfold replica_machine_acceptable replica_machine_acceptable.j2
 refine Ev.bind (lock_ev h.sz) ?_
 unfold acceptM
 by_cases h1 : mV (lockOf r) < 0
 ·rw [show decide ((lockOf r).2.2.1 < 0) = true from decide_eq_true h1]
  exact Ev.ret _
 ·rw [show decide ((lockOf r).2.2.1 < 0) = false from decide_eq_false h1]
  cases h2 : (mS (lockOf r) == s) with
  | true => exact Ev.ret _
  | false =>
   have ht := h.sz.t
   have hf := find_run (L := fun n j (c : Int × (Msg × Int × Rep)) => api_Message_117_4.l0 n j c.1 (rT r) ((rT r).length : Int) c.2.1 c.2.2.1 c.2.2.2) (S := fun n c => api_Message_117_4.s0 n c.1 (rT r) ((rT r).length : Int) c.2.1 c.2.2.1 c.2.2.2) (fun _ _ _ => rfl)
    (rT r) (lockOf r, s, r) (behindM r s) (by omega) (fun i hi => ?_) (Ev.of fun n => ?_)
   ·refine Ev.bind (Ev.ret _) ?_
    refine Ev.bind (a := ((rT r).any (behindM r s), lockOf r, s, r)) ?_ (Ev.ret _)
    unfold api_Message_99_2 api_Message_117_4
    refine Ev.bind (Ev.bind hf (b := (match (rT r).findIdx? (behindM r s) with | some j => ((j : Int), lockOf r, s, r) | none => (-1, lockOf r, s, r))) ?_) ?_
    ·cases (rT r).findIdx? (behindM r s) with
     | none => exact Ev.ret _
     | some j => exact Ev.ret _
    ·rw [← idx_any]
     cases (rT r).findIdx? (behindM r s) with
     | none => exact Ev.ret _
     | some j => exact Ev.cast (Ev.ret _) (by simp)
   ·show Ev (fun n => api_Message_117_4.s0 n (i : Int) (rT r) ((rT r).length : Int) (lockOf r) s r) _
    unfold api_Message_117_4.s0
    refine Ev.T (decide_eq_true (by omega)) (Ev.ck (inbN hi) ?_)
    rw [getD_int hi, wr64s i (by omega)]
    refine Ev.bind (behind_ev h s (rT r)[i]) ?_
    cases behindM r s (rT r)[i] with
    | true => exact Ev.ret _
    | false => exact Ev.ret _
   ·show api_Message_117_4.s0 n ((rT r).length : Int) (rT r) ((rT r).length : Int) (lockOf r) s r = _
    unfold api_Message_117_4.s0
    rw [show decide (((rT r).length : Int) < ((rT r).length : Int)) = false from decide_eq_false (by omega)]
    rfl

/-! ### rules 3 and 4 -/
def prepareM (r : Rep) : Option Rep := match propV r with
 | none => none
 | some p => if posM r ≥ 1000 then none else if sentM r 2 = true then none else if acceptM r (mS p) = false then none else some (sendM r (2, 0, rV r, posM r, mS p, 0, (⟨#[]⟩ : ByteArray), ([] : List Int)))
theorem prepare_ev {r : Rep} (h : Ok r) : Ev (fun n => replica_machine_prepare n r) (match prepareM r with
  | some q => (true, q)
  | none => (false, r)) := by
 unfold replica_machine_prepare replica_machine_prepare.j0
 refine Ev.bind (proposal2_ev h.sz) ?_
 unfold prepareM
 cases hp : propV r with
 | none => exact Ev.ret _
 | some p =>
  simp only [position_eq, Option.bind_some]
  by_cases h1 : posM r ≥ 1000
  ·rw [if_pos h1]
   refine Ev.bind (a := (Sum.inr (false, r) : Rep ⊕ (Bool × Rep))) (Ev.F rfl (Ev.T (decide_eq_true h1) (Ev.ret _))) (Ev.ret _)
  ·rw [if_neg h1]
   cases h2 : sentM r 2 with
   | true =>
    rw [if_pos rfl]
    refine Ev.bind (a := (Sum.inr (false, r) : Rep ⊕ (Bool × Rep))) (Ev.F rfl (Ev.F (decide_eq_false h1) (Ev.bind (sent_ev h.sz 2) (Ev.T h2 (Ev.ret _))))) (Ev.ret _)
   | false =>
    rw [if_neg (by decide)]
    cases h3 : acceptM r (mS p) with
    | false =>
     rw [if_pos rfl]
     refine Ev.bind (a := (Sum.inr (false, r) : Rep ⊕ (Bool × Rep))) (Ev.F rfl (Ev.F (decide_eq_false h1) (Ev.bind (sent_ev h.sz 2) (Ev.F h2 (Ev.bind (accept_ev h (mS p)) (Ev.T (by rw [h3]; rfl) (Ev.ret _))))))) (Ev.ret _)
    | true =>
     rw [if_neg (by decide)]
     refine Ev.bind (a := (Sum.inl r : Rep ⊕ (Bool × Rep))) (Ev.F rfl (Ev.F (decide_eq_false h1) (Ev.bind (sent_ev h.sz 2) (Ev.F h2 (Ev.bind (accept_ev h (mS p)) (Ev.F (by rw [h3]; rfl) (Ev.ret _))))))) ?_
     exact Ev.bind (Ev.of fun _ => send_eq h.sz _) (Ev.ret _)
def lockM (r : Rep) : Option Rep := match decR r 2 (rV r) with
 | none => none
 | some s => if sentM r 3 = true then none else match propS r s with
  | none => none
  | some _ => some (sendM r (3, 0, rV r, posM r, s, 0, (⟨#[]⟩ : ByteArray), ([] : List Int)))
theorem lockR_ev {r : Rep} (h : Ok r) : Ev (fun n => replica_machine_lock n r) (match lockM r with
  | some q => (true, q)
  | none => (false, r)) := by
 unfold replica_machine_lock replica_machine_lock.j0
 refine Ev.bind (Ev.ret (rV r, posM r)) (Ev.bind (prepared_ev h.n1 h.n2 h.took (rV r) (posM r)) ?_)
 unfold lockM decR
 cases hd : decM (rN r) (rT r) 2 (rV r) (posM r) with
 | none => exact Ev.ret _
 | some s =>
  cases h2 : sentM r 3 with
  | true =>
   simp only [if_true]
   refine Ev.bind (a := (Sum.inr (false, r) : Rep ⊕ (Bool × Rep))) (Ev.F rfl (Ev.bind (sent_ev h.sz 3) (Ev.T h2 (Ev.ret _)))) (Ev.ret _)
  | false =>
   simp only [Bool.false_eq_true, if_false]
   refine Ev.bind (a := (Sum.inl r : Rep ⊕ (Bool × Rep))) (Ev.F rfl (Ev.bind (sent_ev h.sz 3) (Ev.F h2 (Ev.ret _)))) (Ev.bind (Ev.ret s) (Ev.bind (proposal_ev h.sz s) ?_))
   cases hp : propS r s with
   | none => exact Ev.ret _
   | some p => exact Ev.F rfl (Ev.bind (Ev.ret (posM r)) (Ev.bind (Ev.of fun _ => send_eq h.sz _) (Ev.ret _)))

/-! ### one step -/
def stepM (r : Rep) : Option Rep := match commitM r with
 | some q => some q
 | none => match joinM r with
  | some q => some q
  | none => match prepareM r with
   | some q => some q
   | none => lockM r
theorem step_ev {r : Rep} (h : Ok r) : Ev (fun n => replica_machine_progress.s0 n r) (match stepM r with
  | some q => .inl q
  | none => .inr r) := by
 unfold replica_machine_progress.s0 replica_machine_bool replica_machine_bool_134 replica_machine_progress_1 replica_machine_progress_1_2 replica_machine_progress_1_3 replica_machine_progress_1_4
 have hc := commit_ev h
 have hj := join_ev h
 have hp := prepare_ev h
 have hl := lockR_ev h
 unfold stepM
 cases c1 : commitM r with
 | some q =>
  rw [c1] at hc
  exact Ev.bind (Ev.bind (Ev.bind (Ev.bind hc (Ev.ret _)) (Ev.ret _)) (Ev.ret _)) (Ev.ret _)
 | none =>
  rw [c1] at hc
  cases c2 : joinM r with
  | some q =>
   rw [c2] at hj
   exact Ev.bind (Ev.bind (Ev.bind (Ev.bind hc (Ev.ret _)) (Ev.bind (Ev.bind hj (Ev.ret _)) (Ev.ret _))) (Ev.ret _)) (Ev.ret _)
  | none =>
   rw [c2] at hj
   cases c3 : prepareM r with
   | some q =>
    rw [c3] at hp
    exact Ev.bind (Ev.bind (Ev.bind (Ev.bind hc (Ev.ret _)) (Ev.bind (Ev.bind hj (Ev.ret _)) (Ev.bind (Ev.bind hp (Ev.ret _)) (Ev.ret _)))) (Ev.ret _)) (Ev.ret _)
   | none =>
    rw [c3] at hp
    cases c4 : lockM r with
    | some q =>
     rw [c4] at hl
     exact Ev.bind (Ev.bind (Ev.bind (Ev.bind hc (Ev.ret _)) (Ev.bind (Ev.bind hj (Ev.ret _)) (Ev.bind (Ev.bind hp (Ev.ret _)) (Ev.bind (Ev.bind hl (Ev.ret _)) (Ev.ret _))))) (Ev.ret _)) (Ev.ret _)
    | none =>
     rw [c4] at hl
     exact Ev.bind (Ev.bind (Ev.bind (Ev.bind hc (Ev.ret _)) (Ev.bind (Ev.bind hj (Ev.ret _)) (Ev.bind (Ev.bind hp (Ev.ret _)) (Ev.bind (Ev.bind hl (Ev.ret _)) (Ev.ret _))))) (Ev.ret _)) (Ev.ret _)
end Go.Proofs.YtfecniimkgkmfaaGreat
namespace Go.Proofs.YtfecniimkgkmfaaGreat
open Go Go.RowKit Go.Proofs.YtfecniimkgkmfaaGreat.RW
open Go.Proofs.YtfecniimkgkmfaaGreat.AM hiding lk
set_option linter.unusedVariables false
set_option maxRecDepth 100000
abbrev zE : Ent := (0, (⟨#[]⟩ : ByteArray), ([] : List Int))
def nb (b : Bool) : Nat := if b then 0 else 1
theorem nb_le (b : Bool) : nb b ≤ 1 := by cases b <;> decide
/-- How many steps are left. -/
def mu (r : Rep) : Nat := 4 * (1000 - (rL r).length) + 4 * (1048576 - rV r).toNat + (nb (sentM r 1) + nb (sentM r 2) + nb (sentM r 3))
def C0 : Nat := 5000000
def bytesE (e : Ent) : Prop := ∀ y ∈ e.2.2, byte y
/-- One vote of a kind for a slot. -/
def twice (a b : Msg) : Prop := mK a ≠ 4 ∧ mK a = mK b ∧ mV a = mV b ∧ mQ a = mQ b
structure Inv (r : Rep) : Prop where
 n1 : 1 ≤ rN r
 n2 : rN r ≤ 13
 i0 : 0 ≤ rI r
 i1 : rI r < rN r
 v0 : 0 ≤ rV r
 v1 : rV r ≤ 1048576
 took : GoodM (rN r) (rT r)
 tl : (rT r).length ≤ 1000000
 gl : (rL r).length ≤ 1000
 ge : ∀ e ∈ rL r, encOk e = true
 said : ∀ m ∈ rS r, validM (rN r) m = true ∧ mF m = rI r
 uniq : (rS r).Pairwise (fun a b => ¬ twice a b)
 size : (rS r).length + mu r ≤ C0
 bt : ∀ m ∈ rT r, bytesE (mE m)
 bs : ∀ m ∈ rS r, bytesE (mE m)
 bl : ∀ e ∈ rL r, bytesE e
theorem Inv.sz {r : Rep} (h : Inv r) : Sz r := ⟨by have := h.tl; omega, by have := h.size; unfold C0 at this; omega, by have := h.gl; omega⟩
theorem Inv.ok {r : Rep} (h : Inv r) : Ok r := ⟨h.n1, h.n2, h.took, h.sz⟩

/-! ### what the rules' searches find -/
theorem propS_some {r : Rep} {s : Int} {p : Msg} (h : propS r s = some p) : p ∈ rT r ∧ mK p = 1 ∧ mQ p = posM r ∧ mS p = s := by
 have h2 := List.find?_some h
 simp only [Bool.and_eq_true, beq_iff_eq] at h2
 exact ⟨List.mem_of_find?_eq_some h, h2.1, h2.2.1, h2.2.2⟩
theorem propV_some {r : Rep} {p : Msg} (h : propV r = some p) : p ∈ rT r ∧ mK p = 1 ∧ mQ p = posM r ∧ mV p = rV r := by
 have h2 := List.find?_some h
 simp only [Bool.and_eq_true, beq_iff_eq] at h2
 exact ⟨List.mem_of_find?_eq_some h, h2.1, h2.2.1, h2.2.2⟩
theorem late_get (l : List Int) (x : Msg) (j : Nat) (w : Int) (h : (late l x)[j]? = some w) : l[j]? = some w ∨ (mK x = 4 ∧ mV x = w) := by
 unfold late at h
 split at h
 ·rename_i h4
  by_cases e : x.2.1.toNat = j
  ·subst e
   rw [List.getElem?_set_self'] at h
   by_cases hj : x.2.1.toNat < l.length
   ·rw [List.getElem?_eq_getElem hj] at h
    have h : iMax (l.getD x.2.1.toNat 0) x.2.2.1 = w := by simpa using h
    unfold iMax at h
    by_cases hm : l.getD x.2.1.toNat 0 ≥ x.2.2.1
    ·left
     rw [List.getElem?_eq_getElem hj]
     rw [getD_lt hj] at h hm
     congr 1
     split at h <;> omega
    ·right
     refine ⟨by simpa using h4, ?_⟩
     show x.2.2.1 = w
     split at h <;> omega
   ·rw [List.getElem?_eq_none (by omega)] at h
    cases h
  ·rw [List.getElem?_set_ne e] at h
   exact .inl h
 ·exact .inl h
theorem lates_get : ∀ (ms : List Msg) (l : List Int) (w : Int), w ∈ ms.foldl late l → w ∈ l ∨ ∃ m ∈ ms, mK m = 4 ∧ mV m = w
 | [], l, w, h => .inl h
 | m :: ms, l, w, h => by
  rcases lates_get ms (late l m) w h with h | ⟨x, hx, h⟩
  ·obtain ⟨j, hj⟩ := List.mem_iff_getElem?.1 h
   rcases late_get l m j w hj with h | h
   ·exact .inl (List.mem_of_getElem? h)
   ·exact .inr ⟨m, List.mem_cons_self, h⟩
  ·exact .inr ⟨x, List.mem_cons_of_mem _ hx, h⟩
theorem jview_mem {r : Rep} (h : Inv r) (hj : rV r < jview r) : ∃ m ∈ rT r, mK m = 4 ∧ mV m = jview r := by
 have hn1 := h.n1
 have hn2 := h.n2
 have hlen : (sortI (lates r)).length = (rN r).toNat := by rw [sortI_len]; unfold lates; rw [lates_len, List.length_replicate]
 have hr : (rN r - 1 - maxF (rN r)).toNat < (sortI (lates r)).length := by rw [hlen]; unfold maxF; omega
 have hm : jview r ∈ lates r := by
  unfold jview
  rw [getD_lt hr]
  exact (sortI_perm _).mem_iff.1 (List.getElem_mem hr)
 rcases lates_get _ _ _ hm with h0 | h0
 ·have := (List.mem_replicate.1 h0).2
  have := h.v0
  omega
 ·exact h0

/-! ### the four rules, as relations -/
inductive Stp : Rep → Rep → Prop where
 | commit {r : Rep} (p : Msg) (v : Int) (hp : p ∈ rT r) (k : mK p = 1) (q : mQ p = posM r) (d : decR r 3 v = some (mS p)) : Stp r (rI r, rN r, rV r, rT r, rS r, rL r ++ [mE p])
 | join {r : Rep} (w : Int) (m : Msg) (hm : m ∈ rT r) (k : mK m = 4) (e : mV m = w) (hw : rV r < w) : Stp r (sendM (rI r, rN r, w, rT r, rS r, rL r) (4, 0, w, 0, 0, zE))
 | prepare {r : Rep} (p : Msg) (hp : p ∈ rT r) (k : mK p = 1) (q : mQ p = posM r) (v : mV p = rV r) (h2 : sentM r 2 = false) (ha : acceptM r (mS p) = true) : Stp r (sendM r (2, 0, rV r, posM r, mS p, zE))
 | lock {r : Rep} (p : Msg) (hp : p ∈ rT r) (k : mK p = 1) (q : mQ p = posM r) (h3 : sentM r 3 = false) (d : decR r 2 (rV r) = some (mS p)) : Stp r (sendM r (3, 0, rV r, posM r, mS p, zE))
theorem step_stp {r q : Rep} (h : Inv r) (hs : stepM r = some q) : Stp r q := by
 unfold stepM at hs
 split at hs
 ·rename_i c1
  obtain rfl := Option.some.inj hs
  unfold commitM at c1
  obtain ⟨p, hp, rfl⟩ := Option.map_eq_some_iff.1 c1
  obtain ⟨v, _, hv⟩ := List.exists_of_findSome?_eq_some hp
  unfold cand at hv
  obtain ⟨s, hs, hp⟩ := Option.bind_eq_some_iff.1 hv
  obtain ⟨a, b, c, d⟩ := propS_some hp
  exact .commit p v a b c (by rw [hs, d])
 ·split at hs
  ·rename_i c2
   obtain rfl := Option.some.inj hs
   unfold joinM at c2
   split at c2
   ·cases c2
   ·obtain rfl := Option.some.inj c2
    obtain ⟨m, hm, k, e⟩ := jview_mem h (by omega)
    exact .join (jview r) m hm k e (by omega)
  ·split at hs
   ·rename_i c3
    obtain rfl := Option.some.inj hs
    unfold prepareM at c3
    split at c3
    ·cases c3
    ·rename_i p hp
     split at c3
     ·cases c3
     ·split at c3
      ·cases c3
      ·split at c3
       ·cases c3
       ·rename_i h1 h2 h3
        obtain rfl := Option.some.inj c3
        obtain ⟨a, b, c, d⟩ := propV_some hp
        exact .prepare p a b c d (by simpa using h2) (by simpa using h3)
   ·unfold lockM at hs
    split at hs
    ·cases hs
    ·rename_i s hd
     split at hs
     ·cases hs
     ·split at hs
      ·cases hs
      ·rename_i h3 _ p hp
       obtain rfl := Option.some.inj hs
       obtain ⟨a, b, c, rfl⟩ := propS_some hp
       exact .lock p a b c (by simpa using h3) hd

/-! ### the invariant stands -/
theorem sent_send (r : Rep) (m : Msg) (k : Int) : sentM (sendM r m) k = (sentM r k || ((m.1 == k) && ((m.2.2.1 == rV r) && (m.2.2.2.1 == posM r)))) := by
 unfold sentM sendM
 rw [List.any_append]
 simp only [List.any_cons, List.any_nil, Bool.or_false]
 rfl
theorem sent_false {r : Rep} {k : Int} (h : sentM r k = false) : ∀ x ∈ rS r, ¬ (mK x = k ∧ mV x = rV r ∧ mQ x = posM r) := by
 intro x hx hh
 have := List.any_eq_false.1 h x hx
 simp only [Bool.and_eq_true, beq_iff_eq] at this
 exact this hh
theorem valid_zero {n : Int} {k f v q s : Int} (hn : 1 ≤ n ∧ n ≤ 13) (hf : 0 ≤ f ∧ f < n) (hv : 0 ≤ v ∧ v ≤ 1048576) (hq : 0 ≤ q ∧ q < 1000) (hk : k = 2 ∨ k = 3 ∨ (k = 4 ∧ q = 0 ∧ s = 0)) : validM n (k, f, v, q, s, zE) = true := by
 unfold validM
 rw [(inM_iff n (k, f, v, q, s, zE)).2 ⟨hn, hf.1, hf.2, hv.1, hv.2, hq.1, hq.2⟩, Bool.true_and]
 have hb : bareE zE = true := (bareE_iff zE).2 rfl
 rcases hk with rfl | rfl | ⟨rfl, rfl, rfl⟩
 ·rw [if_neg (show ¬ ((2 : Int) = 1) by decide), if_pos (.inl rfl)]; exact hb
 ·rw [if_neg (show ¬ ((3 : Int) = 1) by decide), if_pos (.inr rfl)]; exact hb
 ·rw [if_neg (show ¬ ((4 : Int) = 1) by decide), if_neg (show ¬ ((4 : Int) = 2 ∨ (4 : Int) = 3) by decide), if_pos rfl]
  simp only [mE, hb, mQ, mS, beq_self_eq_true, Bool.and_self]
/-- The bounds of a valid message, in short. -/
theorem Inv.tin {r : Rep} (h : Inv r) {m : Msg} (hm : m ∈ rT r) : 0 ≤ mF m ∧ mF m < rN r ∧ 0 ≤ mV m ∧ mV m ≤ 1048576 ∧ 0 ≤ mQ m ∧ mQ m < 1000 := (validM_in (h.took.ok m hm)).2
theorem valid_prop {n : Int} {m : Msg} (h : validM n m = true) (k : mK m = 1) : encOk (mE m) = true ∧ mF m = leadM n (mV m) ∧ crc (encB (mE m)) = mS m := by
 unfold validM at h
 rw [if_pos k] at h
 simp only [Bool.and_eq_true, beq_iff_eq] at h
 exact h.2
/-- What sending does to the invariant. -/
theorem Inv.send {r : Rep} (h : Inv r) (m : Msg) (hv : validM (rN r) (m.1, rI r, m.2.2) = true) (hb : bytesE (mE m)) (ho : mK m ≠ 4 → ∀ x ∈ rS r, ¬ (mK x = mK m ∧ mV x = mV m ∧ mQ x = mQ m)) (hs : (rS r).length + 1 + mu (sendM r m) ≤ C0) : Inv (sendM r m) := by
 refine ⟨h.n1, h.n2, h.i0, h.i1, h.v0, h.v1, h.took, h.tl, h.gl, h.ge, fun x hx => ?_, ?_, ?_, h.bt, fun x hx => ?_, h.bl⟩
 ·rcases List.mem_append.1 hx with hx | hx
  ·exact h.said x hx
  ·rw [List.mem_singleton.1 hx]
   exact ⟨hv, rfl⟩
 ·refine List.pairwise_append.2 ⟨h.uniq, List.pairwise_singleton _ _, fun a ha b hb ht => ?_⟩
  rw [List.mem_singleton.1 hb] at ht
  obtain ⟨t1, t2, t3, t4⟩ := ht
  exact ho (by rw [t2] at t1; exact t1) a ha ⟨t2, t3, t4⟩
 ·show (rS r ++ [_]).length + _ ≤ _
  rw [List.length_append]
  exact hs
 ·rcases List.mem_append.1 hx with hx | hx
  ·exact h.bs x hx
  ·rw [List.mem_singleton.1 hx]
   exact hb
theorem bytes_zE : bytesE zE := fun y hy => by cases hy
theorem Stp.inv {r q : Rep} (h : Inv r) (hs : Stp r q) : Inv q ∧ mu q < mu r ∧ (rS q).length + mu q ≤ (rS r).length + mu r := by
 have hsz := h.size
 have hgl := h.gl
 have hv0 := h.v0
 have hv1 := h.v1
 cases hs with
 | commit p v hp k qq d =>
  have hin := h.tin hp
  have hpos : (rL r).length < 1000 := by have := hin.2.2.2.2.2; rw [qq] at this; unfold posM at this; omega
  have hmu : mu (rI r, rN r, rV r, rT r, rS r, rL r ++ [mE p]) + 1 ≤ mu r := by
   have := nb_le (sentM (rI r, rN r, rV r, rT r, rS r, rL r ++ [mE p]) 1)
   have := nb_le (sentM (rI r, rN r, rV r, rT r, rS r, rL r ++ [mE p]) 2)
   have := nb_le (sentM (rI r, rN r, rV r, rT r, rS r, rL r ++ [mE p]) 3)
   unfold mu
   simp only [rL, List.length_append, List.length_singleton, rV] at *
   omega
  have hvp := valid_prop (h.took.ok p hp) k
  refine ⟨⟨h.n1, h.n2, h.i0, h.i1, h.v0, h.v1, h.took, h.tl, ?_, fun e he => ?_, h.said, h.uniq, ?_, h.bt, h.bs, fun e he => ?_⟩, by omega, ?_⟩
  ·show (rL r ++ [mE p]).length ≤ 1000
   rw [List.length_append]; exact hpos
  ·rcases List.mem_append.1 he with he | he
   ·exact h.ge e he
   ·rw [List.mem_singleton.1 he]; exact hvp.1
  ·show (rS r).length + _ ≤ _
   omega
  ·rcases List.mem_append.1 he with he | he
   ·exact h.bl e he
   ·rw [List.mem_singleton.1 he]; exact h.bt p hp
  ·show (rS r).length + _ ≤ _
   omega
 | join w m hm k e hw =>
  have hin := h.tin hm
  rw [e] at hin
  have hmu : mu (sendM (rI r, rN r, w, rT r, rS r, rL r) (4, 0, w, 0, 0, zE)) + 1 ≤ mu r := by
   have := nb_le (sentM (sendM (rI r, rN r, w, rT r, rS r, rL r) (4, 0, w, 0, 0, zE)) 1)
   have := nb_le (sentM (sendM (rI r, rN r, w, rT r, rS r, rL r) (4, 0, w, 0, 0, zE)) 2)
   have := nb_le (sentM (sendM (rI r, rN r, w, rT r, rS r, rL r) (4, 0, w, 0, 0, zE)) 3)
   have e1 : rV (sendM (rI r, rN r, w, rT r, rS r, rL r) (4, 0, w, 0, 0, zE)) = w := rfl
   have e2 : rL (sendM (rI r, rN r, w, rT r, rS r, rL r) (4, 0, w, 0, 0, zE)) = rL r := rfl
   unfold mu
   rw [e1, e2]
   omega
  have hmu2 : mu (rI r, rN r, w, rT r, rS r, rL r) + 1 ≤ mu r := by
   have := nb_le (sentM (rI r, rN r, w, rT r, rS r, rL r) 1)
   have := nb_le (sentM (rI r, rN r, w, rT r, rS r, rL r) 2)
   have := nb_le (sentM (rI r, rN r, w, rT r, rS r, rL r) 3)
   have e1 : rV (rI r, rN r, w, rT r, rS r, rL r) = w := rfl
   have e2 : rL (rI r, rN r, w, rT r, rS r, rL r) = rL r := rfl
   unfold mu
   rw [e1, e2]
   omega
  have h' : Inv (rI r, rN r, w, rT r, rS r, rL r) := ⟨h.n1, h.n2, h.i0, h.i1, by show 0 ≤ w; omega, by show w ≤ _; omega, h.took, h.tl, h.gl, h.ge, h.said, h.uniq, by show (rS r).length + _ ≤ _; omega, h.bt, h.bs, h.bl⟩
  refine ⟨h'.send _ (valid_zero ⟨h.n1, h.n2⟩ ⟨h.i0, h.i1⟩ ⟨by omega, by omega⟩ ⟨by omega, by omega⟩ (.inr (.inr ⟨rfl, rfl, rfl⟩))) bytes_zE (fun hh => absurd rfl hh) ?_, by omega, ?_⟩
  ·show (rS r).length + 1 + _ ≤ _
   omega
  ·show (rS r ++ [_]).length + _ ≤ _
   rw [List.length_append, List.length_singleton]
   omega
 | prepare p hp k qq v h2 ha =>
  have hin := h.tin hp
  have hmu : mu (sendM r (2, 0, rV r, posM r, mS p, zE)) + 1 = mu r := by
   unfold mu
   rw [sent_send, sent_send, sent_send, h2]
   simp only [rL, rV, sendM, beq_self_eq_true, Bool.and_self, Bool.or_true]
   rw [show ((2 : Int) == 1) = false from rfl, show ((2 : Int) == 3) = false from rfl]
   simp only [Bool.false_and, Bool.or_false]
   show _ + (_ + 0 + _) + 1 = _ + (_ + 1 + _)
   omega
  refine ⟨h.send _ (valid_zero ⟨h.n1, h.n2⟩ ⟨h.i0, h.i1⟩ ⟨h.v0, h.v1⟩ ⟨by rw [← qq]; omega, by rw [← qq]; omega⟩ (.inl rfl)) bytes_zE (fun _ => sent_false h2) (by omega), by omega, ?_⟩
  show (rS r ++ [_]).length + _ ≤ _
  rw [List.length_append, List.length_singleton]
  omega
 | lock p hp k qq h3 d =>
  have hin := h.tin hp
  have hmu : mu (sendM r (3, 0, rV r, posM r, mS p, zE)) + 1 = mu r := by
   unfold mu
   rw [sent_send, sent_send, sent_send, h3]
   simp only [rL, rV, sendM, beq_self_eq_true, Bool.and_self, Bool.or_true]
   rw [show ((3 : Int) == 1) = false from rfl, show ((3 : Int) == 2) = false from rfl]
   simp only [Bool.false_and, Bool.or_false]
   show _ + (_ + _ + 0) + 1 = _ + (_ + _ + 1)
   omega
  refine ⟨h.send _ (valid_zero ⟨h.n1, h.n2⟩ ⟨h.i0, h.i1⟩ ⟨h.v0, h.v1⟩ ⟨by rw [← qq]; omega, by rw [← qq]; omega⟩ (.inr (.inl rfl))) bytes_zE (fun _ => sent_false h3) (by omega), by omega, ?_⟩
  show (rS r ++ [_]).length + _ ≤ _
  rw [List.length_append, List.length_singleton]
  omega

/-! ### until none applies -/
def iterM : Nat → Rep → Rep
 | 0, r => r
 | k + 1, r => match stepM r with
  | some q => iterM k q
  | none => r
def progM (r : Rep) : Rep := iterM (mu r) r
inductive Stps : Rep → Rep → Prop where
 | refl (r : Rep) : Stps r r
 | head {r q s : Rep} (h : Inv r) (h1 : Stp r q) (h2 : Stps q s) : Stps r s
theorem iter_spec : ∀ (k : Nat) (r : Rep), Inv r → mu r ≤ k → Stps r (iterM k r) ∧ stepM (iterM k r) = none ∧ Inv (iterM k r) ∧ (rS (iterM k r)).length + mu (iterM k r) ≤ (rS r).length + mu r ∧ EvL (fun n j => replica_machine_progress.l0 n j r) (iterM k r) := by
 intro k
 induction k with
 | zero =>
  intro r h hk
  have hs := step_ev h.ok
  cases hd : stepM r with
  | some q => have := (Stp.inv h (step_stp h hd)).2.1; omega
  | none =>
   rw [hd] at hs
   exact ⟨.refl r, hd, h, Nat.le_refl _, EvL.done (L := fun n j (s : Rep) => replica_machine_progress.l0 n j s) (S := fun n s => replica_machine_progress.s0 n s) (fun _ _ _ => rfl) hs⟩
 | succ k ih =>
  intro r h hk
  have hs := step_ev h.ok
  unfold iterM
  cases hd : stepM r with
  | some q =>
   rw [hd] at hs
   obtain ⟨i1, i2, i3⟩ := Stp.inv h (step_stp h hd)
   obtain ⟨j1, j2, j3, j4, j5⟩ := ih q i1 (by omega)
   exact ⟨.head h (step_stp h hd) j1, j2, j3, by simp only; omega, EvL.step (L := fun n j (s : Rep) => replica_machine_progress.l0 n j s) (S := fun n s => replica_machine_progress.s0 n s) (fun _ _ _ => rfl) hs j5⟩
  | none =>
   rw [hd] at hs
   exact ⟨.refl r, hd, h, Nat.le_refl _, EvL.done (L := fun n j (s : Rep) => replica_machine_progress.l0 n j s) (S := fun n s => replica_machine_progress.s0 n s) (fun _ _ _ => rfl) hs⟩
theorem prog_ev {r : Rep} (h : Inv r) : Ev (fun n => replica_machine_progress n r) (progM r) :=
 Ev.bind (Ev.of fun _ => rfl) (Ev.bind (iter_spec (mu r) r h (Nat.le_refl _)).2.2.2.2.diag (Ev.ret _))
theorem prog_inv {r : Rep} (h : Inv r) : Inv (progM r) := (iter_spec (mu r) r h (Nat.le_refl _)).2.2.1
theorem prog_stps {r : Rep} (h : Inv r) : Stps r (progM r) := (iter_spec (mu r) r h (Nat.le_refl _)).1
/-- What steps leave as it was. -/
structure Grows (r q : Rep) : Prop where
 i : rI q = rI r
 n : rN q = rN r
 t : rT q = rT r
 v : rV r ≤ rV q
 s : rS r <+: rS q
 l : rL r <+: rL q
theorem Grows.refl (r : Rep) : Grows r r := ⟨rfl, rfl, rfl, Int.le_refl _, List.prefix_refl _, List.prefix_refl _⟩
theorem Grows.trans {r q s : Rep} (h : Grows r q) (k : Grows q s) : Grows r s := ⟨k.i.trans h.i, k.n.trans h.n, k.t.trans h.t, Int.le_trans h.v k.v, h.s.trans k.s, h.l.trans k.l⟩
theorem Stp.grows {r q : Rep} (h : Stp r q) : Grows r q := by
 cases h with
 | commit p v hp k qq d => exact ⟨rfl, rfl, rfl, Int.le_refl _, List.prefix_refl _, List.prefix_append _ _⟩
 | join w m hm k e hw => exact ⟨rfl, rfl, rfl, Int.le_of_lt hw, List.prefix_append _ _, List.prefix_refl _⟩
 | prepare p hp k qq v h2 ha => exact ⟨rfl, rfl, rfl, Int.le_refl _, List.prefix_append _ _, List.prefix_refl _⟩
 | lock p hp k qq h3 d => exact ⟨rfl, rfl, rfl, Int.le_refl _, List.prefix_append _ _, List.prefix_refl _⟩
theorem Stps.grows {r q : Rep} (h : Stps r q) : Grows r q := by
 induction h with
 | refl r => exact .refl r
 | head hi h1 h2 ih => exact h1.grows.trans ih

/-! ### the operations -/
def newM (i n : Int) : Rep := (i, n, 0, [], [], [])
theorem new_inv {i n : Int} (h1 : 1 ≤ n) (h2 : n ≤ 13) (h3 : 0 ≤ i) (h4 : i < n) : Inv (newM i n) :=
 ⟨h1, h2, h3, h4, Int.le_refl 0, (by show (0 : Int) ≤ 1048576; decide), ⟨(fun m hm => by cases hm), .nil⟩, Nat.zero_le _, Nat.zero_le _, (fun m hm => by cases hm), (fun m hm => by cases hm), .nil, (by show 0 + mu (newM 0 0) ≤ C0; decide), (fun m hm => by cases hm), (fun m hm => by cases hm), (fun m hm => by cases hm)⟩
def recM (r : Rep) : Rep := (rI r, rN r, rV r, [], rS r, rL r)
theorem rec_eq (r : Rep) : replica_Recover r = some (recM r) := rfl
theorem rec_inv {r : Rep} (h : Inv r) : Inv (recM r) :=
 ⟨h.n1, h.n2, h.i0, h.i1, h.v0, h.v1, ⟨(fun m hm => by cases hm), .nil⟩, Nat.zero_le _, h.gl, h.ge, h.said, h.uniq, h.size, (fun m hm => by cases hm), h.bs, h.bl⟩
/-- Is a message of this kind, sender and slot received already? -/
def knownM (r : Rep) (m : Msg) : Bool := (rT r).any fun x => (x.1 == m.1) && ((x.2.1 == m.2.1) && ((x.2.2.1 == m.2.2.1) && (x.2.2.2.1 == m.2.2.2.1)))
theorem known_iff (r : Rep) (m : Msg) : knownM r m = true ↔ ∃ x ∈ rT r, keyM x = keyM m := by
 unfold knownM keyM
 rw [List.any_eq_true]
 simp only [Bool.and_eq_true, beq_iff_eq, Prod.mk.injEq]
theorem known_ev {r : Rep} (h : Sz r) (m : Msg) : Ev (fun n => api_Message_99_3 n (rT r) m) (knownM r m, m) := by
 have ht := h.t
 have hf := find_run (L := fun n j (s : Int × Msg) => api_Message_117_5.l0 n j s.1 (rT r) ((rT r).length : Int) s.2) (S := fun n s => api_Message_117_5.s0 n s.1 (rT r) ((rT r).length : Int) s.2) (fun _ _ _ => rfl)
  (rT r) m (fun x => (x.1 == m.1) && ((x.2.1 == m.2.1) && ((x.2.2.1 == m.2.2.1) && (x.2.2.2.1 == m.2.2.2.1)))) (by omega) (fun i hi => Ev.of fun n => ?_) (Ev.of fun n => ?_)
 ·unfold api_Message_99_3 api_Message_117_5 knownM
  refine Ev.bind (Ev.bind hf (b := (match (rT r).findIdx? (fun x => (x.1 == m.1) && ((x.2.1 == m.2.1) && ((x.2.2.1 == m.2.2.1) && (x.2.2.2.1 == m.2.2.2.1)))) with | some j => ((j : Int), m) | none => (-1, m))) ?_) ?_
  ·cases (rT r).findIdx? (fun x => (x.1 == m.1) && ((x.2.1 == m.2.1) && ((x.2.2.1 == m.2.2.1) && (x.2.2.2.1 == m.2.2.2.1)))) with
   | none => exact Ev.ret _
   | some j => exact Ev.ret _
  ·rw [← idx_any]
   cases (rT r).findIdx? (fun x => (x.1 == m.1) && ((x.2.1 == m.2.1) && ((x.2.2.1 == m.2.2.1) && (x.2.2.2.1 == m.2.2.2.1)))) with
   | none => exact Ev.ret _
   | some j => exact Ev.cast (Ev.ret _) (by simp)
 ·show api_Message_117_5.s0 n (i : Int) (rT r) ((rT r).length : Int) m = _
  unfold api_Message_117_5.s0
  rw [show decide ((i : Int) < ((rT r).length : Int)) = true from decide_eq_true (by omega), inbN hi, getD_int hi, wr64s i (by omega)]
  simp only [cond_true, AM.ck]
  unfold replica_Handle_1
  simp only
  cases ((rT r)[i].1 == m.1) with
  | false => rfl
  | true =>
   simp only [cond_true]
   cases ((rT r)[i].2.1 == m.2.1) with
   | false => rfl
   | true =>
    simp only [cond_true]
    cases ((rT r)[i].2.2.1 == m.2.2.1) with
    | false => rfl
    | true =>
     simp only [cond_true]
     cases ((rT r)[i].2.2.2.1 == m.2.2.2.1) <;> rfl
 ·show api_Message_117_5.s0 n ((rT r).length : Int) (rT r) ((rT r).length : Int) m = _
  unfold api_Message_117_5.s0
  rw [show decide (((rT r).length : Int) < ((rT r).length : Int)) = false from decide_eq_false (by omega)]
  rfl
def takeM (r : Rep) (m : Msg) : Rep := (rI r, rN r, rV r, rT r ++ [m], rS r, rL r)
def handleM (r : Rep) (m : Msg) : Rep := if validM (rN r) m = true ∧ knownM r m = false then progM (takeM r m) else r
theorem take_inv {r : Rep} (h : Inv r) {m : Msg} (hv : validM (rN r) m = true) (hk : knownM r m = false) (hb : bytesE (mE m)) (hl : (rT r).length < 1000000) : Inv (takeM r m) := by
 refine ⟨h.n1, h.n2, h.i0, h.i1, h.v0, h.v1, ⟨fun x hx => ?_, ?_⟩, ?_, h.gl, h.ge, h.said, h.uniq, h.size, fun x hx => ?_, h.bs, h.bl⟩
 ·rcases List.mem_append.1 hx with hx | hx
  ·exact h.took.ok x hx
  ·rw [List.mem_singleton.1 hx]; exact hv
 ·refine List.pairwise_append.2 ⟨h.took.nd, List.pairwise_singleton _ _, fun a ha b hb e => ?_⟩
  rw [List.mem_singleton.1 hb] at e
  have := (known_iff r m).2 ⟨a, ha, e⟩
  rw [hk] at this
  cases this
 ·show (rT r ++ [m]).length ≤ _
  rw [List.length_append, List.length_singleton]; omega
 ·rcases List.mem_append.1 hx with hx | hx
  ·exact h.bt x hx
  ·rw [List.mem_singleton.1 hx]; exact hb
theorem drop_pre {α : Type} {a b : List α} (h : a <+: b) : inb (a.length : Int) (b.length + 1) = true := inbN (by have := h.length_le; omega)
theorem handle_inv {r : Rep} (h : Inv r) {m : Msg} (hb : bytesE (mE m)) (hl : (rT r).length < 1000000) : Inv (handleM r m) := by
 unfold handleM
 split
 ·rename_i hc
  exact prog_inv (take_inv h hc.1 hc.2 hb hl)
 ·exact h
theorem handle_ev {r : Rep} (h : Inv r) {m : Msg} (hb : bytesE (mE m)) (hl : (rT r).length < 1000000) : Ev (fun n => replica_Handle n r m) (handleM r m, (rS (handleM r m)).drop (rS r).length) := by
 unfold replica_Handle replica_Handle.j0 handleM
 cases hv : validM (rN r) m with
 | false =>
  rw [if_neg (by rintro ⟨h, _⟩; cases h)]
  refine Ev.bind (a := (Sum.inr (m, r, []) : Msg ⊕ (Msg × Rep × List Msg))) (Ev.bind (valid_ev _ _) (Ev.T (by rw [hv]; rfl) (Ev.ret _))) (Ev.cast (Ev.ret _) ?_)
  rw [List.drop_length]
 | true =>
  cases hk : knownM r m with
  | true =>
   rw [if_neg (by rintro ⟨_, h⟩; cases h)]
   refine Ev.bind (a := (Sum.inr (m, r, []) : Msg ⊕ (Msg × Rep × List Msg))) (Ev.bind (valid_ev _ _) (Ev.F (by rw [hv]; rfl) (Ev.bind (known_ev h.sz m) (Ev.T hk (Ev.ret _))))) (Ev.cast (Ev.ret _) ?_)
   rw [List.drop_length]
  | false =>
   rw [if_pos ⟨rfl, rfl⟩]
   have hi := take_inv h hv hk hb hl
   refine Ev.bind (a := (Sum.inl m : Msg ⊕ (Msg × Rep × List Msg))) (Ev.bind (valid_ev _ _) (Ev.F (by rw [hv]; rfl) (Ev.bind (known_ev h.sz m) (Ev.F hk (Ev.ret _))))) ?_
   refine Ev.bind (Ev.of fun _ => clipM _) (Ev.ck (room88 h.sz.t) (Ev.bind (prog_ev hi) (Ev.ck (drop_pre (prog_stps hi).grows.s) (Ev.cast (Ev.ret _) ?_))))
   rw [Int.toNat_natCast]
   rfl
def nextM (r : Rep) : Rep := (rI r, rN r, rV r + 1, rT r, rS r, rL r)
def timeoutM (r : Rep) : Rep := if rV r ≥ 1048576 then r else progM (sendM (nextM r) (4, 0, rV r + 1, 0, 0, zE))
theorem next_inv {r : Rep} (h : Inv r) (hv : ¬ rV r ≥ 1048576) : Inv (sendM (nextM r) (4, 0, rV r + 1, 0, 0, zE)) := by
 have hsz := h.size
 have hv0 := h.v0
 have hmu : ∀ q : Rep, rV q = rV r + 1 → rL q = rL r → mu q + 1 ≤ mu r := by
  intro q e1 e2
  have := nb_le (sentM q 1)
  have := nb_le (sentM q 2)
  have := nb_le (sentM q 3)
  unfold mu
  rw [e1, e2]
  omega
 have m1 := hmu (nextM r) rfl rfl
 have m2 := hmu (sendM (nextM r) (4, 0, rV r + 1, 0, 0, zE)) rfl rfl
 have h' : Inv (nextM r) := ⟨h.n1, h.n2, h.i0, h.i1, by show 0 ≤ rV r + 1; omega, by show rV r + 1 ≤ _; omega, h.took, h.tl, h.gl, h.ge, h.said, h.uniq, by show (rS r).length + _ ≤ _; omega, h.bt, h.bs, h.bl⟩
 exact h'.send _ (valid_zero ⟨h.n1, h.n2⟩ ⟨h.i0, h.i1⟩ ⟨by omega, by omega⟩ ⟨by omega, by omega⟩ (.inr (.inr ⟨rfl, rfl, rfl⟩))) bytes_zE (fun hh => absurd rfl hh) (by show (rS r).length + 1 + _ ≤ _; omega)
theorem timeout_inv {r : Rep} (h : Inv r) : Inv (timeoutM r) := by
 unfold timeoutM
 split
 ·exact h
 ·rename_i hv
  exact prog_inv (next_inv h hv)
theorem timeout_grows {r : Rep} (h : Inv r) : Grows r (timeoutM r) := by
 unfold timeoutM
 split
 ·exact .refl r
 ·rename_i hv
  refine Grows.trans ?_ (prog_stps (next_inv h hv)).grows
  exact ⟨rfl, rfl, rfl, by show rV r ≤ rV r + 1; omega, List.prefix_append _ _, List.prefix_refl _⟩
theorem timeout_ev {r : Rep} (h : Inv r) : Ev (fun n => replica_Timeout n r) (timeoutM r, (rS (timeoutM r)).drop (rS r).length) := by
 have hg := timeout_grows h
 unfold replica_Timeout
 unfold timeoutM at hg ⊢
 by_cases hv : rV r ≥ 1048576
 ·rw [if_pos hv]
  refine Ev.T (decide_eq_true hv) (Ev.cast (Ev.ret _) ?_)
  rw [List.drop_length]
 ·rw [if_neg hv] at hg ⊢
  have hw : W .i64 (rV r + 1) = rV r + 1 := wr64 (by have := h.v0; omega) (by omega)
  refine Ev.F (decide_eq_false hv) ?_
  show Ev (fun n => (replica_machine_send (4, 0, W .i64 (rV r + 1), 0, 0, zE) (r.1, r.2.1, W .i64 (rV r + 1), r.2.2.2)).bind _) _
  rw [hw]
  refine Ev.bind (Ev.of fun _ => send_eq (r := nextM r) ⟨h.sz.t, h.sz.s, h.sz.g⟩ _) (Ev.bind (prog_ev (next_inv h hv)) (Ev.ck (drop_pre hg.s) (Ev.cast (Ev.ret _) ?_)))
  rw [Int.toNat_natCast]
  rfl

/-! ### proposing -/
def proposalE (r : Rep) (e : Ent) : Ent := if (hiM (rN r) (rT r) (rV r) (posM r)).2 ≥ 0 then (hiM (rN r) (rT r) (rV r) (posM r)).1 else e
def proposeMsg (r : Rep) (e : Ent) : Msg := (1, 0, rV r, posM r, crc (encR (proposalE r e)).2, proposalE r e)
/-- The code that proposing answers with. -/
def codeM (r : Rep) (e : Ent) : Int := if leadM (rN r) (rV r) ≠ rI r then 290 else if posM r ≥ 1000 then 2 else if (encR e).1 ≠ 0 then 1 else if sentM r 1 = true then 321 else 0
def proposeM (r : Rep) (e : Ent) : Rep := if codeM r e = 0 then sendM r (proposeMsg r e) else r
theorem propose_ev {r : Rep} (h : Inv r) (e : Ent) : Ev (fun n => replica_Propose n r e) ((proposeM r e).1, (proposeM r e).2.1, (proposeM r e).2.2.1, (proposeM r e).2.2.2.1, (proposeM r e).2.2.2.2.1, (proposeM r e).2.2.2.2.2, (rS (proposeM r e)).drop (rS r).length, codeM r e) := by
 have hx : ∀ c, codeM r e = c → c ≠ 0 → Ev (fun _ => some (r.1, r.2.1, r.2.2.1, r.2.2.2.1, r.2.2.2.2.1, r.2.2.2.2.2, ([] : List Msg), c)) ((proposeM r e).1, (proposeM r e).2.1, (proposeM r e).2.2.1, (proposeM r e).2.2.2.1, (proposeM r e).2.2.2.2.1, (proposeM r e).2.2.2.2.2, (rS (proposeM r e)).drop (rS r).length, codeM r e) := by
  intro c hc h0
  unfold proposeM
  rw [hc, if_neg h0, List.drop_length]
  exact Ev.ret _
 unfold replica_Propose
 refine Ev.bind (encode_ev e) (Ev.bind (Ev.of fun _ => leader_eq _ _) ?_)
 by_cases c1 : leadM (rN r) (rV r) ≠ rI r
 ·exact Ev.T (by simpa using c1) (hx 290 (by unfold codeM; rw [if_pos c1]) (by decide))
 ·refine Ev.F (by simpa using c1) (Ev.bind (Ev.ret (posM r)) ?_)
  by_cases c2 : posM r ≥ 1000
  ·exact Ev.T (decide_eq_true c2) (hx 2 (by unfold codeM; rw [if_neg c1, if_pos c2]) (by decide))
  ·refine Ev.F (decide_eq_false c2) ?_
   by_cases c3 : (encR e).1 ≠ 0
   ·exact Ev.T (by simpa using c3) (hx 1 (by unfold codeM; rw [if_neg c1, if_neg c2, if_pos c3]) (by decide))
   ·refine Ev.F (by simpa using c3) (Ev.bind (sent_ev h.sz 1) ?_)
    by_cases c4 : sentM r 1 = true
    ·exact Ev.T c4 (hx 321 (by unfold codeM; rw [if_neg c1, if_neg c2, if_neg c3, if_pos c4]) (by decide))
    ·have hc : codeM r e = 0 := by unfold codeM; rw [if_neg c1, if_neg c2, if_neg c3, if_neg c4]
     refine Ev.F (by simpa using c4) (Ev.bind (a := proposalE r e) ?_ (Ev.bind (encode_ev _) (Ev.bind (Ev.ret (posM r)) (Ev.bind (Ev.of fun _ => crc_eq _) (Ev.bind (Ev.of fun _ => send_eq h.sz _) (Ev.ck (drop_pre (List.prefix_append _ _)) (Ev.cast (Ev.ret _) ?_)))))))
     ·unfold replica_Propose.j0
      refine Ev.bind (Ev.ret (rV r, posM r)) (Ev.bind (highest_ev h.n1 h.n2 h.took (by have := h.tl; omega) _ _) ?_)
      unfold proposalE
      by_cases hh : (hiM (rN r) (rT r) (rV r) (posM r)).2 ≥ 0
      ·rw [if_pos hh]; exact Ev.T (decide_eq_true hh) (Ev.ret _)
      ·rw [if_neg hh]; exact Ev.F (decide_eq_false hh) (Ev.ret _)
     ·unfold proposeM
      rw [hc, if_pos rfl, Int.toNat_natCast]
      rfl
/-- What the highest proposal is. -/
theorem hiM_spec (n : Int) (l : List Msg) (v q : Int) : (hiM n l v q).2 < 0 ∧ (hiM n l v q).1 = zE ∨ ∃ m ∈ l, mK m = 1 ∧ mQ m = q ∧ mV m < v ∧ decM n l 2 (mV m) (mQ m) = some (mS m) ∧ hiM n l v q = (mE m, mV m) := by
 have : ∀ (l' : List Msg) (st : Ent × Int), (∀ m ∈ l', m ∈ l) → (st.2 < 0 ∧ st.1 = zE ∨ ∃ m ∈ l, mK m = 1 ∧ mQ m = q ∧ mV m < v ∧ decM n l 2 (mV m) (mQ m) = some (mS m) ∧ st = (mE m, mV m)) → ((l'.foldl (hstepM n l v q) st).2 < 0 ∧ (l'.foldl (hstepM n l v q) st).1 = zE ∨ ∃ m ∈ l, mK m = 1 ∧ mQ m = q ∧ mV m < v ∧ decM n l 2 (mV m) (mQ m) = some (mS m) ∧ l'.foldl (hstepM n l v q) st = (mE m, mV m)) := by
  intro l'
  induction l' with
  | nil => intro st _ h; exact h
  | cons x r ih =>
   intro st hm h
   refine ih _ (fun m h => hm m (List.mem_cons_of_mem _ h)) ?_
   unfold hstepM
   split
   ·rename_i hc
    exact .inr ⟨x, hm x List.mem_cons_self, hc.1.1, hc.1.2.1, hc.1.2.2.1, hc.1.2.2.2, rfl⟩
   ·exact h
 exact this l _ (fun m h => h) (.inl ⟨by decide, rfl⟩)
theorem propE_ok {r : Rep} (h : Inv r) {e : Ent} (he : encOk e = true) (hb : bytesE e) : encOk (proposalE r e) = true ∧ bytesE (proposalE r e) := by
 unfold proposalE
 split
 ·rename_i hh
  rcases hiM_spec (rN r) (rT r) (rV r) (posM r) with h0 | ⟨m, hm, k, q, v, d, e⟩
  ·omega
  ·rw [e]
   exact ⟨(valid_prop (h.took.ok m hm) k).1, h.bt m hm⟩
 ·exact ⟨he, hb⟩
theorem code_zero {r : Rep} {e : Ent} (h : codeM r e = 0) : leadM (rN r) (rV r) = rI r ∧ posM r < 1000 ∧ encOk e = true ∧ sentM r 1 = false := by
 unfold codeM at h
 split at h
 ·cases h
 ·split at h
  ·cases h
  ·split at h
   ·cases h
   ·split at h
    ·cases h
    ·rename_i c1 c2 c3 c4
     refine ⟨by simpa using c1, by omega, ?_, by simpa using c4⟩
     unfold encR at c3
     split at c3
     ·assumption
     ·simp at c3
theorem prop_valid {r : Rep} (h : Inv r) {e : Ent} (hb : bytesE e) (hc : codeM r e = 0) : validM (rN r) (1, rI r, rV r, posM r, crc (encR (proposalE r e)).2, proposalE r e) = true := by
 obtain ⟨c1, c2, c3, c4⟩ := code_zero hc
 have hp := propE_ok h c3 hb
 unfold validM
 rw [(inM_iff _ _).2 ⟨⟨h.n1, h.n2⟩, h.i0, h.i1, h.v0, h.v1, by unfold posM; simp only [mQ]; omega, c2⟩, Bool.true_and, if_pos rfl]
 simp only [mE, mF, mV, mS, hp.1, c1, beq_self_eq_true, Bool.true_and]
 unfold encR
 rw [if_pos hp.1, beq_iff_eq]
theorem propose_inv {r : Rep} (h : Inv r) {e : Ent} (hb : bytesE e) : Inv (proposeM r e) := by
 unfold proposeM
 split
 ·rename_i hc
  obtain ⟨c1, c2, c3, c4⟩ := code_zero hc
  have hsz := h.size
  have hmu : mu (sendM r (proposeMsg r e)) + 1 = mu r := by
   unfold mu
   rw [sent_send, sent_send, sent_send, c4]
   unfold proposeMsg
   simp only [rL, rV, sendM, beq_self_eq_true, Bool.and_self, Bool.or_true]
   rw [show ((1 : Int) == 2) = false from rfl, show ((1 : Int) == 3) = false from rfl]
   simp only [Bool.false_and, Bool.or_false]
   show _ + (0 + _ + _) + 1 = _ + (1 + _ + _)
   omega
  exact h.send _ (prop_valid h hb hc) (propE_ok h c3 hb).2 (fun _ => sent_false c4) (by omega)
 ·exact h
theorem propose_grows (r : Rep) (e : Ent) : Grows r (proposeM r e) := by
 unfold proposeM
 split
 ·exact ⟨rfl, rfl, rfl, Int.le_refl _, List.prefix_append _ _, List.prefix_refl _⟩
 ·exact .refl r
end Go.Proofs.YtfecniimkgkmfaaGreat
namespace Go.Proofs.YtfecniimkgkmfaaGreat
open Go Go.RowKit Go.Proofs.YtfecniimkgkmfaaGreat.RW
open Go.Proofs.YtfecniimkgkmfaaGreat.AM hiding lk
set_option linter.unusedVariables false
set_option maxRecDepth 100000

theorem wrap32 {n : Nat} (h : n < 4294967296) : IntKind.u32.wrap (n : Int) = (n : Int) := by
 have h2 : (2 : Int) ^ 32 = 4294967296 := by decide
 unfold IntKind.wrap
 simp only [IntKind.bits, IntKind.signed, h2, Bool.false_and, Bool.false_eq_true, if_false]
 exact Int.emod_eq_of_lt (by omega) (by omega)
theorem xor32 {a b : Nat} (ha : a < 4294967296) (hb : b < 4294967296) : bXor .u32 (a : Int) (b : Int) = ((a ^^^ b : Nat) : Int) := by
 have hx : a ^^^ b < 4294967296 := Nat.xor_lt_two_pow (n := 32) ha hb
 show IntKind.u32.wrap (((BitVec.ofInt 32 (a : Int)) ^^^ (BitVec.ofInt 32 (b : Int))).toNat : Int) = _
 rw [BitVec.ofInt_natCast, BitVec.ofInt_natCast, BitVec.toNat_xor, BitVec.toNat_ofNat, BitVec.toNat_ofNat]
 rw [Nat.mod_eq_of_lt (show a < 2 ^ 32 from ha), Nat.mod_eq_of_lt (show b < 2 ^ 32 from hb)]
 exact wrap32 hx
theorem and32 {a : Nat} (ha : a < 4294967296) : bAnd .u32 (a : Int) 1 = ((a % 2 : Nat) : Int) := by
 show IntKind.u32.wrap (((BitVec.ofInt 32 (a : Int)) &&& (BitVec.ofNat 32 1)).toNat : Int) = _
 rw [BitVec.ofInt_natCast, BitVec.toNat_and, BitVec.toNat_ofNat, BitVec.toNat_ofNat]
 rw [Nat.mod_eq_of_lt (show a < 2 ^ 32 from ha), Nat.mod_eq_of_lt (show 1 < 2 ^ 32 by decide), Nat.and_one_is_mod]
 exact wrap32 (by omega)
def nstep (c : Nat) : Nat := (c / 2) ^^^ (if c % 2 = 1 then 3988292384 else 0)
def nit : Nat → Nat → Nat
 | 0, c => c
 | n + 1, c => nit n (nstep c)
theorem nstep_lt {c : Nat} (h : c < 4294967296) : nstep c < 4294967296 := by
 unfold nstep
 refine Nat.xor_lt_two_pow (n := 32) (show c / 2 < 2 ^ 32 by omega) ?_
 split <;> decide
theorem nit_lt : ∀ (n c : Nat), c < 4294967296 → nit n c < 4294967296
 | 0, c, h => h
 | n + 1, c, h => nit_lt n _ (nstep_lt h)
theorem half {a : Nat} : Int.fdiv (a : Int) 2 = ((a / 2 : Nat) : Int) := by
 rw [Int.fdiv_eq_ediv_of_nonneg _ (by omega)]
 omega
theorem crcStep_nat {c : Nat} (h : c < 4294967296) : crcStep (c : Int) = (nstep c : Int) := by
 unfold crcStep nstep
 rw [and32 h, half]
 by_cases h1 : c % 2 = 1
 ·rw [h1, if_pos rfl, show W .u32 (3988292384 * ((1 : Nat) : Int)) = ((3988292384 : Nat) : Int) from by decide]
  exact xor32 (by omega) (by decide)
 ·have h0 : c % 2 = 0 := by omega
  rw [h0, if_neg (by decide), show W .u32 (3988292384 * ((0 : Nat) : Int)) = ((0 : Nat) : Int) from by decide]
  exact xor32 (by omega) (by decide)
theorem crc8_nat : ∀ (n c : Nat), c < 4294967296 → crc8 n (c : Int) = (nit n c : Int)
 | 0, c, h => rfl
 | n + 1, c, h => by rw [crc8, crcStep_nat h, crc8_nat n _ (nstep_lt h)]; rfl
theorem xor_par (a b : Nat) : (a ^^^ b) % 2 = 1 ↔ ¬ (a % 2 = 1 ↔ b % 2 = 1) := by
 have h : (a ^^^ b).testBit 0 = (a.testBit 0 ^^ b.testBit 0) := Nat.testBit_xor a b 0
 rw [Nat.testBit_zero, Nat.testBit_zero, Nat.testBit_zero] at h
 by_cases h1 : a % 2 = 1 <;> by_cases h2 : b % 2 = 1 <;> simp [h1, h2] at h ⊢ <;> omega
theorem xor_half (a b : Nat) : (a ^^^ b) / 2 = (a / 2) ^^^ (b / 2) := by
 have h := @Nat.shiftRight_xor_distrib 1 a b
 rw [Nat.shiftRight_eq_div_pow, Nat.shiftRight_eq_div_pow, Nat.shiftRight_eq_div_pow] at h
 exact h
theorem x4 (a b p q : Nat) : (a ^^^ b) ^^^ (p ^^^ q) = (a ^^^ p) ^^^ (b ^^^ q) := by
 rw [Nat.xor_assoc, Nat.xor_assoc, ← Nat.xor_assoc b p q, Nat.xor_comm b p, Nat.xor_assoc p b q]
theorem nstep_xor (a b : Nat) : nstep (a ^^^ b) = nstep a ^^^ nstep b := by
 unfold nstep
 rw [xor_half, x4 (a / 2) _ (b / 2) _]
 congr 1
 by_cases h1 : a % 2 = 1 <;> by_cases h2 : b % 2 = 1
 ·rw [if_neg (by rw [xor_par]; simp [h1, h2]), if_pos h1, if_pos h2]; rfl
 ·rw [if_pos (by rw [xor_par]; simp [h1, h2]), if_pos h1, if_neg h2]; rfl
 ·rw [if_pos (by rw [xor_par]; simp [h1, h2]), if_neg h1, if_pos h2]; rfl
 ·rw [if_neg (by rw [xor_par]; simp [h1, h2]), if_neg h1, if_neg h2]; rfl
theorem nit_xor : ∀ (n a b : Nat), nit n (a ^^^ b) = nit n a ^^^ nit n b
 | 0, _, _ => rfl
 | n + 1, a, b => by rw [nit, nstep_xor, nit_xor n]; rfl
theorem nstep_even (m : Nat) : nstep (2 * m) = m := by
 unfold nstep
 rw [if_neg (by omega), show 2 * m / 2 = m by omega, Nat.xor_zero]
theorem nit8_high (h : Nat) : nit 8 (256 * h) = h := by
 rw [show 256 * h = 2 * (2 * (2 * (2 * (2 * (2 * (2 * (2 * h))))))) by omega]
 simp only [nit, nstep_even]
theorem split256 (c : Nat) : c = (256 * (c / 256)) ^^^ (c % 256) := by
 refine Nat.eq_of_testBit_eq fun i => ?_
 have hc : c = 2 ^ 8 * (c / 256) + c % 256 := by omega
 have hl : c % 256 < 2 ^ 8 := by omega
 rw [Nat.testBit_xor]
 conv => lhs; rw [hc]
 rw [Nat.testBit_two_pow_mul_add _ hl, show 256 * (c / 256) = 2 ^ 8 * (c / 256) from rfl, Nat.testBit_two_pow_mul]
 by_cases hi : i < 8
 ·rw [if_pos hi]
  simp [show ¬ 8 ≤ i by omega]
 ·rw [if_neg hi]
  have : (c % 256).testBit i = false := Nat.testBit_lt_two_pow (Nat.lt_of_lt_of_le hl (Nat.pow_le_pow_right (by decide) (by omega)))
  simp [show 8 ≤ i by omega, this]
/-- One byte more. -/
def rstep (c : Nat) (x : Int) : Nat := nit 8 (c ^^^ x.toNat)
theorem rstep_lt {c : Nat} {x : Int} (hc : c < 4294967296) (hx : 0 ≤ x ∧ x ≤ 255) : rstep c x < 4294967296 := nit_lt 8 _ (Nat.xor_lt_two_pow (n := 32) hc (by omega))
theorem tab_at {j : Nat} (h : j < 256) : crcTab.getD j 0 = (nit 8 j : Int) := by
 have e : W .u32 ((j : Nat) : Int) = ((j : Nat) : Int) := wrap32 (by omega)
 rw [List.getD_eq_getElem?_getD]
 unfold crcTab
 rw [List.getElem?_map, List.getElem?_range h]
 simp only [Option.map_some, Option.getD_some]
 rw [e]
 exact crc8_nat 8 j (by omega)
theorem wrap8 {n : Nat} : IntKind.u8.wrap (n : Int) = ((n % 256 : Nat) : Int) := by
 have h2 : (2 : Int) ^ 8 = 256 := by decide
 unfold IntKind.wrap
 simp only [IntKind.bits, IntKind.signed, h2, Bool.false_and, Bool.false_eq_true, if_false]
 omega
theorem xor8 {a b : Nat} (ha : a < 256) (hb : b < 256) : bXor .u8 (a : Int) (b : Int) = ((a ^^^ b : Nat) : Int) := by
 have hx : a ^^^ b < 256 := Nat.xor_lt_two_pow (n := 8) ha hb
 show IntKind.u8.wrap (((BitVec.ofInt 8 (a : Int)) ^^^ (BitVec.ofInt 8 (b : Int))).toNat : Int) = _
 rw [BitVec.ofInt_natCast, BitVec.ofInt_natCast, BitVec.toNat_xor, BitVec.toNat_ofNat, BitVec.toNat_ofNat]
 rw [Nat.mod_eq_of_lt (show a < 2 ^ 8 from ha), Nat.mod_eq_of_lt (show b < 2 ^ 8 from hb), wrap8, Nat.mod_eq_of_lt hx]
theorem ckStep_nat {c : Nat} {x : Int} (hc : c < 4294967296) (hx : 0 ≤ x ∧ x ≤ 255) : ckStep (c : Int) x = (rstep c x : Int) := by
 obtain ⟨b, rfl⟩ : ∃ b : Nat, x = (b : Int) := ⟨x.toNat, by omega⟩
 have hb : b < 256 := by omega
 have hm : c % 256 < 256 := Nat.mod_lt _ (by decide)
 have hx8 : c % 256 ^^^ b < 256 := Nat.xor_lt_two_pow (n := 8) hm hb
 unfold ckStep rstep
 have e1 : Int.fdiv (c : Int) 256 = ((c / 256 : Nat) : Int) := by
  rw [Int.fdiv_eq_ediv_of_nonneg _ (by omega)]
  omega
 have e2 : W .u8 (c : Int) = ((c % 256 : Nat) : Int) := wrap8
 rw [e1, e2, xor8 hm hb, Int.toNat_natCast, Int.toNat_natCast, tab_at hx8, xor32 (by omega) (nit_lt 8 _ (by omega))]
 congr 1
 conv => rhs; rw [split256 c, Nat.xor_assoc, nit_xor, nit8_high]
theorem fold_nat : ∀ (l : List Int) (c : Nat), c < 4294967296 → (∀ x ∈ l, 0 ≤ x ∧ x ≤ 255) → l.foldl ckStep (c : Int) = ((l.foldl rstep c : Nat) : Int) ∧ l.foldl rstep c < 4294967296
 | [], c, h, _ => ⟨rfl, h⟩
 | x :: r, c, h, hx => by
  have h1 := hx x List.mem_cons_self
  rw [List.foldl_cons, List.foldl_cons, ckStep_nat h h1]
  exact fold_nat r _ (rstep_lt h h1) (fun y hy => hx y (List.mem_cons_of_mem _ hy))
/-! ### bit by bit -/
theorem refcrc_s0 (n : Nat) {c i : Nat} (hc : c < 4294967296) (hi : i < 8) : armillaryref27_Checksum.s0 n (c : Int) (i : Int) = some (.inl ((nstep c : Int), ((i + 1 : Nat) : Int))) := by
 unfold armillaryref27_Checksum.s0 nstep
 rw [show decide ((i : Int) < 8) = true from decide_eq_true (by omega), wr64s i (by omega), and32 hc, half]
 by_cases h1 : c % 2 = 1
 ·rw [h1, if_pos rfl]
  have := xor32 (a := c / 2) (b := 3988292384) (by omega) (by decide)
  rw [show ((3988292384 : Nat) : Int) = 3988292384 from rfl] at this
  rw [this]
  rfl
 ·have h0 : c % 2 = 0 := by omega
  rw [h0, if_neg (by decide), Nat.xor_zero]
  rfl
theorem refcrc_l0 : ∀ (r i c : Nat), i + r = 8 → c < 4294967296 → EvL (fun n k => armillaryref27_Checksum.l0 n k (c : Int) (i : Int)) ((nit r c : Nat) : Int) := by
 intro r
 induction r with
 | zero =>
  intro i c hi hc
  obtain rfl : i = 8 := by omega
  exact EvL.done (L := fun n k (s : Int × Int) => armillaryref27_Checksum.l0 n k s.1 s.2) (S := fun n s => armillaryref27_Checksum.s0 n s.1 s.2) (fun _ _ _ => rfl) (s := ((c : Int), ((8 : Nat) : Int))) (Ev.of fun n => rfl)
 | succ r ih =>
  intro i c hi hc
  exact EvL.step (L := fun n k (s : Int × Int) => armillaryref27_Checksum.l0 n k s.1 s.2) (S := fun n s => armillaryref27_Checksum.s0 n s.1 s.2) (fun _ _ _ => rfl) (s := ((c : Int), (i : Int))) (s' := ((nstep c : Int), ((i + 1 : Nat) : Int))) (Ev.of fun n => refcrc_s0 n hc (by omega)) (ih (i + 1) (nstep c) (by omega) (nstep_lt hc))
theorem foldlt : ∀ (l : List Int) (c : Nat), c < 4294967296 → (∀ x ∈ l, byte x) → l.foldl rstep c < 4294967296
 | [], c, h, _ => h
 | x :: r, c, h, hx => foldlt r _ (rstep_lt h (hx x List.mem_cons_self)) (fun y hy => hx y (List.mem_cons_of_mem _ hy))
theorem refcrc_ev {b : List Int} (hl : b.length < 4611686018427387904) (hb : ∀ x ∈ b, byte x) : Ev (fun k => armillaryref27_Checksum k b) (crc b) := by
 have hpre : ∀ i, ((b.take i).foldl rstep 4294967295) < 4294967296 := fun i => foldlt _ _ (by decide) (fun x hx => hb x (List.mem_of_mem_take hx))
 unfold armillaryref27_Checksum
 refine Ev.bind (a := ((b.foldl rstep 4294967295 : Nat) : Int)) (loop_run (L := fun n k (s : Int × Int) => armillaryref27_Checksum.l1 n k s.1 s.2 b) (S := fun n s => armillaryref27_Checksum.s1 n s.1 s.2 b) (fun _ _ _ => rfl)
  (fun i => ((((b.take i).foldl rstep 4294967295 : Nat) : Int), (i : Int))) b.length _ (fun i hi => ?_) (Ev.of fun n => ?_)) (Ev.cast (Ev.ret _) ?_)
 ·have hx := hb b[i] (List.getElem_mem hi)
  have hc := hpre i
  obtain ⟨x, hxn⟩ : ∃ x : Nat, b[i] = (x : Int) := ⟨(b[i]).toNat, by have := hx.1; omega⟩
  have hx2 : x < 256 := by have := hx.2; omega
  show Ev (fun n => armillaryref27_Checksum.s1 n (((b.take i).foldl rstep 4294967295 : Nat) : Int) (i : Int) b) (.inl ((((b.take (i + 1)).foldl rstep 4294967295 : Nat) : Int), ((i + 1 : Nat) : Int)))
  unfold armillaryref27_Checksum.s1
  refine Ev.T (decide_eq_true (by omega)) (Ev.ck (inbN hi) ?_)
  rw [getD_int hi, wr64s i (by omega), hxn, show W .u32 ((x : Nat) : Int) = ((x : Nat) : Int) from wrap32 (by omega), xor32 hc (by omega)]
  refine Ev.bind (refcrc_l0 8 0 _ rfl (Nat.xor_lt_two_pow (n := 32) hc (by omega))).diag (Ev.cast (Ev.ret _) ?_)
  rw [List.take_add_one, List.getElem?_eq_getElem hi, List.foldl_append]
  simp only [Option.toList_some, List.foldl_cons, List.foldl_nil]
  congr 2
  unfold rstep
  rw [hxn]
  rfl
 ·show armillaryref27_Checksum.s1 n (((b.take b.length).foldl rstep 4294967295 : Nat) : Int) (b.length : Int) b = _
  unfold armillaryref27_Checksum.s1
  rw [show decide ((b.length : Int) < (b.length : Int)) = false from decide_eq_false (by omega), List.take_length]
  rfl
 ·unfold crc
  obtain ⟨h1, h2⟩ := fold_nat b 4294967295 (by decide) hb
  rw [show ((4294967295 : Nat) : Int) = 4294967295 from rfl] at h1
  rw [h1]
  have e1 := xor32 (a := b.foldl rstep 4294967295) (b := 4294967295) h2 (by decide)
  have e2 := xor32 (a := 4294967295) (b := b.foldl rstep 4294967295) (by decide) h2
  rw [show ((4294967295 : Nat) : Int) = 4294967295 from rfl] at e1 e2
  rw [e1, e2, Nat.xor_comm]

/-! ### encodings -/
theorem refValid_eq (e : Ent) : armillaryref27_ValidEntry e = some (encOk e) := validEntry_eq e
theorem refvar_l1 : ∀ (j : Nat) (u : Int) (x : List Int), 0 ≤ u → u < 128 ^ (j + 1) → x.length + j ≤ 1000000 → ∃ r : Int × List Int, EvL (fun n k => armillaryref27_AppendVarint.l1 n k u x) r ∧ r.2.length ≤ x.length + j ∧ r.2 ++ [W .u8 r.1] = x ++ vl j u := by
 intro j
 induction j with
 | zero =>
  intro u x h0 h1 hl
  refine ⟨(u, x), EvL.done (L := fun n k (s : Int × List Int) => armillaryref27_AppendVarint.l1 n k s.1 s.2) (S := fun n s => armillaryref27_AppendVarint.s1 n s.1 s.2) (fun _ _ _ => rfl) (s := (u, x)) (Ev.of fun n => ?_), Nat.le_refl _, rfl⟩
  unfold armillaryref27_AppendVarint.s1
  rw [show decide (u ≥ 128) = false from decide_eq_false (by omega)]
  rfl
 | succ j ih =>
  intro u x h0 h1 hl
  by_cases h : u ≥ 128
  ·obtain ⟨d0, d1⟩ := fdiv128 h0 h1
   obtain ⟨r, r1, r2, r3⟩ := ih (Int.fdiv u 128) (x ++ [bOr .u8 (W .u8 u) 128]) d0 d1 (by simp; omega)
   refine ⟨r, EvL.step (L := fun n k (s : Int × List Int) => armillaryref27_AppendVarint.l1 n k s.1 s.2) (S := fun n s => armillaryref27_AppendVarint.s1 n s.1 s.2) (fun _ _ _ => rfl) (s := (u, x)) (s' := (Int.fdiv u 128, x ++ [bOr .u8 (W .u8 u) 128])) (Ev.of fun n => ?_) r1, by simp at r2; omega, ?_⟩
   ·show armillaryref27_AppendVarint.s1 n u x = _
    unfold armillaryref27_AppendVarint.s1
    rw [show decide (u ≥ 128) = true from decide_eq_true h, roomT (n := x.length + 1) (by omega) (by omega)]
    rfl
   ·rw [r3, vl, if_pos h]
    simp
  ·refine ⟨(u, x), EvL.done (L := fun n k (s : Int × List Int) => armillaryref27_AppendVarint.l1 n k s.1 s.2) (S := fun n s => armillaryref27_AppendVarint.s1 n s.1 s.2) (fun _ _ _ => rfl) (s := (u, x)) (Ev.of fun n => ?_), Nat.le_add_right _ _, by rw [vl, if_neg h]⟩
   unfold armillaryref27_AppendVarint.s1
   rw [show decide (u ≥ 128) = false from decide_eq_false (by omega)]
   rfl
theorem refvar_ev {n : Int} {x : List Int} (h0 : 0 ≤ n) (h1 : n ≤ 20000) (hx : x.length ≤ 100000) : Ev (fun k => armillaryref27_AppendVarint k x n) (x ++ vl 2 (n * 2)) := by
 obtain ⟨m, rfl⟩ : ∃ m : Nat, n = (m : Int) := ⟨n.toNat, by omega⟩
 have e2 : W .u64 (m : Int) = (m : Int) := wrap64 (by omega)
 have e3 : W .u64 ((m : Int) * 2) = (m : Int) * 2 := by
  rw [show (m : Int) * 2 = ((m * 2 : Nat) : Int) by omega]
  exact wrap64 (by omega)
 obtain ⟨r, r1, r2, r3⟩ := refvar_l1 2 ((m : Int) * 2) ([] ++ x) (by omega) (by omega) (by simp; omega)
 unfold armillaryref27_AppendVarint armillaryref27_AppendVarint.j0
 rw [e2, e3]
 refine Ev.bind (Ev.F (decide_eq_false (by omega)) (Ev.ret _)) (Ev.ck (roomT (by omega) (by omega)) (Ev.bind r1.diag (Ev.ck (roomT (by simp at r2; omega) (by simp at r2; omega)) (Ev.cast (Ev.ret _) ?_))))
 rw [r3, List.nil_append]
theorem refenc_ev (e : Ent) : Ev (fun k => armillaryref27_EncodeEntry k e) (encR e) := by
 unfold armillaryref27_EncodeEntry encR
 simp only [refValid_eq, Option.bind_some]
 cases h : encOk e with
 | false => exact Ev.ret _
 | true =>
  obtain ⟨r1, r2, r3, r4, r5⟩ := (encOk_iff e).1 h
  have l1 := vl_len 2 (e.1 * 2)
  have l2 := vl_len 2 ((e.2.1.size : Int) * 2)
  have l3 := vl_len 2 ((e.2.2.length : Int) * 2)
  have hlen : (bytesOf e.2.1).length = e.2.1.size := bytesOf_length e.2.1
  rw [if_pos rfl]
  refine Ev.F rfl (Ev.bind (refvar_ev (by omega) (by omega) (by simp)) (Ev.bind (refvar_ev (by omega) (by omega) (by simp; omega)) (Ev.ck (decide_eq_true (by omega)) (Ev.ck (roomT (by simp only [List.length_append, List.length_nil]; omega) (by simp only [List.length_append, List.length_nil]; omega)) (Ev.bind (refvar_ev (by omega) r5 (by simp only [List.length_append, List.length_nil]; omega)) (Ev.ck (roomT (by simp only [List.length_append, List.length_nil]; omega) (by simp only [List.length_append, List.length_nil]; omega)) (Ev.cast (Ev.ret _) ?_)))))))
  unfold encB
  rw [List.nil_append]
theorem refLeader_eq (n v : Int) : armillaryref29_Leader n v = some (leadM n v) := leader_eq n v
theorem refMaxF_eq {n : Int} (h1 : 1 ≤ n) (h2 : n ≤ 13) : armillaryref29_MaxFaulty n = some (maxF n) := maxF_eq h1 h2
/-! ### what the reference decides -/
/-! ### sameness -/
theorem same_self (e : Ent) : armillaryref27_Same e e = some true := by
 unfold armillaryref27_Same
 simp
theorem sameM_self (m : Msg) : armillaryref27_SameMessage m m = some true := by
 unfold armillaryref27_SameMessage
 simp only [beq_self_eq_true, cond_true, same_self, Option.bind_some]
theorem sameLog_ev {l : List Ent} (hl : l.length < 4611686018427387904) : Ev (fun k => armillaryref30_SameLog k l l) true := by
 unfold armillaryref30_SameLog
 refine Ev.F (by simp) ?_
 have hrun : Ev (fun k => armillaryref30_SameLog.l0 k k 0 l l) (.inr ()) := by
  refine loop_run (L := fun k j (s : Int) => armillaryref30_SameLog.l0 k j s l l) (S := fun k s => armillaryref30_SameLog.s0 k s l l) (fun _ _ _ => rfl) (fun j => (j : Int)) l.length _ (fun i hi => Ev.of fun k => ?_) (Ev.of fun k => ?_)
  ·show armillaryref30_SameLog.s0 k (i : Int) l l = _
   unfold armillaryref30_SameLog.s0
   rw [show decide ((i : Int) < (l.length : Int)) = true from decide_eq_true (by omega), inbN hi, wr64s i (by omega), same_self]
   rfl
  ·show armillaryref30_SameLog.s0 k (l.length : Int) l l = _
   unfold armillaryref30_SameLog.s0
   rw [show decide ((l.length : Int) < (l.length : Int)) = false from decide_eq_false (by omega)]
   rfl
 exact Ev.bind hrun (Ev.ret _)
theorem sameMsgs_ev {l : List Msg} (hl : l.length < 4611686018427387904) : Ev (fun k => armillaryref30_SameMessages k l l) true := by
 unfold armillaryref30_SameMessages
 refine Ev.F (by simp) ?_
 have hrun : Ev (fun k => armillaryref30_SameMessages.l0 k k 0 l l) (.inr ()) := by
  refine loop_run (L := fun k j (s : Int) => armillaryref30_SameMessages.l0 k j s l l) (S := fun k s => armillaryref30_SameMessages.s0 k s l l) (fun _ _ _ => rfl) (fun j => (j : Int)) l.length _ (fun i hi => Ev.of fun k => ?_) (Ev.of fun k => ?_)
  ·show armillaryref30_SameMessages.s0 k (i : Int) l l = _
   unfold armillaryref30_SameMessages.s0
   rw [show decide ((i : Int) < (l.length : Int)) = true from decide_eq_true (by omega), inbN hi, wr64s i (by omega), sameM_self]
   rfl
  ·show armillaryref30_SameMessages.s0 k (l.length : Int) l l = _
   unfold armillaryref30_SameMessages.s0
   rw [show decide ((l.length : Int) < (l.length : Int)) = false from decide_eq_false (by omega)]
   rfl
 exact Ev.bind hrun (Ev.ret _)
theorem sameR_ev {r : Rep} (h : Sz r) : Ev (fun k => armillaryref30_Same k r r) true := by
 have h1 := h.t
 have h2 := h.s
 have h3 := h.g
 unfold armillaryref30_Same
 refine Ev.T (by simp) (Ev.T (by simp) (Ev.T (by simp) (Ev.bind (sameMsgs_ev (l := rT r) (by omega)) (Ev.T rfl (Ev.bind (sameMsgs_ev (l := rS r) (by omega)) (Ev.T rfl (Ev.bind (sameLog_ev (l := rL r) (by omega)) (Ev.ret _))))))))
end Go.Proofs.YtfecniimkgkmfaaGreat
namespace Go.Proofs.YtfecniimkgkmfaaGreat
open Go Go.RowKit Go.Proofs.YtfecniimkgkmfaaGreat.RW
open Go.Proofs.YtfecniimkgkmfaaGreat.AM hiding lk
set_option linter.unusedVariables false
set_option maxRecDepth 100000
/-- A search that ends with what it found. -/
theorem search_run {α γ ρ : Type} {L : Nat → Nat → Int × γ → Option ρ} {S : Nat → Int × γ → Option ((Int × γ) ⊕ ρ)}
  (hL : ∀ n k s, L n (k + 1) s = (S n s).bind fun z => sm z (fun z => L n k z) some) (l : List α) (c : γ) (p : α → Bool) (hit : α → ρ) (miss : ρ) (hlen : l.length < 4611686018427387904)
  (hS : ∀ i (h : i < l.length), Ev (fun n => S n ((i : Int), c)) (bif p l[i] then .inr (hit l[i]) else .inl (((i + 1 : Nat) : Int), c)))
  (hE : Ev (fun n => S n ((l.length : Int), c)) (.inr miss)) :
  Ev (fun n => L n n ((0 : Int), c)) (match l.find? p with | some x => hit x | none => miss) := by
 cases hf : l.findIdx? p with
 | none =>
  have hf' := List.findIdx?_eq_none_iff.1 hf
  rw [idx_none hf]
  refine loop_run hL (fun i => ((i : Int), c)) l.length miss (fun i hi => ?_) hE
  have := hS i hi
  rw [hf' l[i] (List.getElem_mem hi)] at this
  exact this
 | some j =>
  obtain ⟨hj, hp, hb⟩ := List.findIdx?_eq_some_iff_getElem.1 hf
  obtain ⟨_, hx⟩ := idx_some hf
  rw [hx]
  refine loop_run hL (fun i => ((i : Int), c)) j (hit l[j]) (fun i hi => ?_) ?_
  ·have := hS i (by omega)
   rw [show p l[i] = false from by simpa using hb i hi] at this
   exact this
  ·have := hS j hj
   rw [hp] at this
   exact this
theorem any_find {α : Type} (p : α → Bool) (l : List α) : l.any p = (l.find? p).isSome := by
 rw [← idx_any]
 cases h : l.findIdx? p with
 | none => rw [idx_none h]; rfl
 | some j => obtain ⟨_, hx⟩ := idx_some h; rw [hx]; rfl
/-! ### sending, searching -/
def saidR (r : Rep) (k v q : Int) : Bool := (rS r).any fun x => (x.1 == k) && ((x.2.2.1 == v) && (x.2.2.2.1 == q))
/-! ### rule 1: the least view -/
def bstep (r : Rep) (st : Int × Ent) (m : Msg) : Int × Ent := if cview r m = true ∧ ¬ (st.1 ≥ 0 ∧ mV m ≥ st.1) then (match cand r (mV m) with | some p => (mV m, mE p) | none => st) else st
def bestM (r : Rep) : Int × Ent := (rT r).foldl (bstep r) (-1, zE)
/-! ### rule 2: the view that enough have reached -/
def cntGe (l : List Int) (x : Int) : Nat := (l.filter fun y => decide (y ≥ x)).length
def jstep (l : List Int) (f : Int) (v x : Int) : Int := if (cntGe l x : Int) > f then iMax v x else v
/-! ### rules 3 and 4 -/
/-! ### until none applies -/
/-! ### the operations -/
theorem rnew_eq (i n : Int) : armillaryref30_New i n = some (newM i n) := rfl
end Go.Proofs.YtfecniimkgkmfaaGreat
namespace Go.Proofs.YtfecniimkgkmfaaGreat
open Go Go.RowKit Go.Proofs.YtfecniimkgkmfaaGreat.RW
open Go.Proofs.YtfecniimkgkmfaaGreat.AM hiding lk
set_option linter.unusedVariables false
set_option maxRecDepth 100000

abbrev Evt : Type := S45
/-- The state of a network: the liars, the replicas, what is under way, and to whom. -/
structure Nw where
 X : List Int
 L : List Rep
 W : List Msg
 T : List Int
abbrev Nw.tup (w : Nw) : List Int × List Rep × List Msg × List Int := (w.X, w.L, w.W, w.T)
def ofS (s : S31) : Nw := ⟨s.2.2.2, s.1, s.2.1, s.2.2.1⟩
abbrev Nw.toS (w : Nw) : S31 := (w.L, w.W, w.T, w.X)
abbrev zR : Rep := z56

/-! ### a number in a list -/
theorem index_ev (l : List Int) (x : Int) (hl : l.length < 4611686018427387904) : Ev (fun n => slices_Index_int_int n l x) (match l.findIdx? (fun y => x == y) with | some j => (j : Int) | none => -1) := by
 have hf := find_run (L := fun n j (s : Int × Unit) => (slices_Index_int_int.l0 n j s.1 l x (l.length : Int)).map (fun z => match z with | .inl i => .inl (i, ()) | .inr u => .inr u)) (S := fun n s => (slices_Index_int_int.s0 n s.1 l x (l.length : Int)).map (fun z => match z with | .inl i => .inl (i, ()) | .inr (.inl i) => .inr (.inl (i, ())) | .inr (.inr u) => .inr (.inr u)))
  (fun n k s => by
   show (slices_Index_int_int.l0 n (k + 1) s.1 l x (l.length : Int)).map _ = _
   rw [slices_Index_int_int.l0]
   cases slices_Index_int_int.s0 n s.1 l x (l.length : Int) with
   | none => rfl
   | some z => rcases z with i | i | u <;> rfl)
  l () (fun y => x == y) hl (fun i hi => Ev.of fun n => ?_) (Ev.of fun n => ?_)
 ·obtain ⟨K, hK⟩ := hf
  refine ⟨K, fun n hn => ?_⟩
  have h := hK n hn
  unfold slices_Index_int_int
  revert h
  show (slices_Index_int_int.l0 n n 0 l x (l.length : Int)).map _ = _ → (slices_Index_int_int.l0 n n 0 l x (l.length : Int)).bind _ = _
  cases slices_Index_int_int.l0 n n 0 l x (l.length : Int) with
  | none => intro h; cases h
  | some z =>
   intro h
   cases hfi : l.findIdx? (fun y => x == y) with
   | none =>
    rw [hfi] at h
    rcases z with i | u
    ·cases h
    ·rfl
   | some j =>
    rw [hfi] at h
    rcases z with i | u
    ·simp only [Option.map_some, Option.some.injEq, Sum.inl.injEq, Prod.mk.injEq] at h
     show some i = some (j : Int)
     rw [h.1]
    ·cases h
 ·show (slices_Index_int_int.s0 n (i : Int) l x (l.length : Int)).map _ = _
  unfold slices_Index_int_int.s0
  rw [show decide ((i : Int) < (l.length : Int)) = true from decide_eq_true (by omega), inbN hi, getD_int hi, wr64s i (by omega)]
  simp only [cond_true, AM.ck]
  cases (x == l[i]) <;> rfl
 ·show (slices_Index_int_int.s0 n (l.length : Int) l x (l.length : Int)).map _ = _
  unfold slices_Index_int_int.s0
  rw [show decide ((l.length : Int) < (l.length : Int)) = false from decide_eq_false (by omega)]
  rfl
theorem contains_ev (l : List Int) (x : Int) (hl : l.length < 4611686018427387904) : Ev (fun n => slices_Contains_int_int n l x) (l.contains x) := by
 unfold slices_Contains_int_int
 refine Ev.bind (index_ev l x hl) ?_
 have : l.contains x = (l.findIdx? (fun y => x == y)).isSome := by
  rw [idx_any]
  induction l with
  | nil => rfl
  | cons a l ih => simp only [List.contains_cons, List.any_cons]; rw [ih (by simp at hl; omega)]
 rw [this]
 cases l.findIdx? (fun y => x == y) with
 | none => exact Ev.ret _
 | some j => exact Ev.cast (Ev.ret _) (by simp)

/-! ### posting -/
def postN (w : Nw) (m : Msg) (t : Int) : Nw := if w.W.length < 4096 then ⟨w.X, w.L, w.W ++ [m], w.T ++ [t]⟩ else w
/-- As many receivers as messages, not too many. -/
structure Fit (w : Nw) : Prop where
 wt : w.W.length = w.T.length
 le : w.W.length ≤ 4096
 ln : w.L.length ≤ 13
 xl : w.X.length ≤ 13
theorem post_eq {w : Nw} (h : Fit w) (m : Msg) (t : Int) : simnet_network_post m t w.X w.L w.W w.T = some (w.X, (postN w m t).W, (postN w m t).T) := by
 have h1 := h.wt; have h2 := h.le
 unfold simnet_network_post postN
 by_cases hc : w.W.length < 4096
 ·rw [show decide ((w.W.length : Int) < 4096) = true from decide_eq_true (by omega), if_pos hc]
  simp only [cond_true]
  rw [roomT (n := w.W.length + 1) (b := 88) (by omega) (by omega), roomT (n := w.T.length + 1) (b := 8) (by omega) (by omega)]
  rfl
 ·rw [show decide ((w.W.length : Int) < 4096) = false from decide_eq_false (by omega), if_neg hc]
  rfl
theorem post_X (w : Nw) (m : Msg) (t : Int) : (postN w m t).X = w.X := by unfold postN; split <;> rfl
theorem post_L (w : Nw) (m : Msg) (t : Int) : (postN w m t).L = w.L := by unfold postN; split <;> rfl
theorem Fit.post {w : Nw} (h : Fit w) (m : Msg) (t : Int) : Fit (postN w m t) := by
 unfold postN
 split
 ·rename_i hc
  exact ⟨by simp [h.wt], by simp; omega, h.ln, h.xl⟩
 ·exact h
/-- To all. -/
def postsN (k : Nat) (w : Nw) (m : Msg) : Nw := (List.range k).foldl (fun w i => postN w m (i : Nat)) w
theorem postsN_succ (k : Nat) (w : Nw) (m : Msg) : postsN (k + 1) w m = postN (postsN k w m) m (k : Nat) := by
 unfold postsN
 rw [List.range_succ, List.foldl_append]
 rfl
theorem posts_X (w : Nw) (m : Msg) : ∀ k, (postsN k w m).X = w.X
 | 0 => rfl
 | k + 1 => by rw [postsN_succ, post_X, posts_X w m k]
theorem posts_L (w : Nw) (m : Msg) : ∀ k, (postsN k w m).L = w.L
 | 0 => rfl
 | k + 1 => by rw [postsN_succ, post_L, posts_L w m k]
theorem Fit.posts {w : Nw} (h : Fit w) (m : Msg) : ∀ k, Fit (postsN k w m)
 | 0 => h
 | k + 1 => by rw [postsN_succ]; exact (h.posts m k).post m _
theorem posts_ev {w : Nw} (h : Fit w) (m : Msg) : Ev (fun n => simnet_network_send.l0 n n 0 (w.L.length : Int) w.X m w.L w.W w.T) (w.X, m, w.L, (postsN w.L.length w m).W, (postsN w.L.length w m).T) := by
 have hl := h.ln
 refine loop_run (σ := Int × List Int × Msg × List Rep × List Msg × List Int) (L := fun n k s => simnet_network_send.l0 n k s.1 (w.L.length : Int) s.2.1 s.2.2.1 s.2.2.2.1 s.2.2.2.2.1 s.2.2.2.2.2) (S := fun n s => simnet_network_send.s0 n s.1 (w.L.length : Int) s.2.1 s.2.2.1 s.2.2.2.1 s.2.2.2.2.1 s.2.2.2.2.2) (fun _ _ _ => rfl)
  (fun i => ((i : Int), w.X, m, w.L, (postsN i w m).W, (postsN i w m).T)) w.L.length _ (fun i hi => Ev.of fun n => ?_) (Ev.of fun n => ?_)
 ·show simnet_network_send.s0 n (i : Int) (w.L.length : Int) w.X m w.L (postsN i w m).W (postsN i w m).T = _
  unfold simnet_network_send.s0
  rw [show decide ((i : Int) < (w.L.length : Int)) = true from decide_eq_true (by omega)]
  have hp := post_eq (h.posts m i) m (i : Nat)
  rw [posts_X, posts_L] at hp
  simp only [cond_true]
  rw [hp, wr64s i (by omega), postsN_succ]
  rfl
 ·show simnet_network_send.s0 n (w.L.length : Int) (w.L.length : Int) w.X m w.L (postsN w.L.length w m).W (postsN w.L.length w m).T = _
  unfold simnet_network_send.s0
  rw [show decide ((w.L.length : Int) < (w.L.length : Int)) = false from decide_eq_false (by omega)]
  rfl
def sendN (w : Nw) (l : List Msg) : Nw := l.foldl (fun w m => postsN w.L.length w m) w
theorem send_keep : ∀ (l : List Msg) (w : Nw), (sendN w l).X = w.X ∧ (sendN w l).L = w.L
 | [], w => ⟨rfl, rfl⟩
 | m :: l, w => by
  have h := send_keep l (postsN w.L.length w m)
  rw [posts_X, posts_L] at h
  exact h
theorem Fit.send : ∀ (l : List Msg) {w : Nw}, Fit w → Fit (sendN w l)
 | [], _, h => h
 | m :: l, w, h => Fit.send l (h.posts m w.L.length)
theorem send_ev {w : Nw} (h : Fit w) (l : List Msg) (hl : l.length < 4611686018427387904) : Ev (fun n => simnet_network_send n l w.X w.L w.W w.T) (sendN w l).tup := by
 unfold simnet_network_send
 have hf := fold_run (γ := List Int × List Rep × List Msg × List Int) (L := fun n k s => simnet_network_send.l1 n k s.1 l (l.length : Int) s.2.1 s.2.2.1 s.2.2.2.1 s.2.2.2.2) (S := fun n s => simnet_network_send.s1 n s.1 l (l.length : Int) s.2.1 s.2.2.1 s.2.2.2.1 s.2.2.2.2) (fun _ _ _ => rfl)
  l (fun (s : List Int × List Rep × List Msg × List Int) m => (postsN s.2.1.length ⟨s.1, s.2.1, s.2.2.1, s.2.2.2⟩ m).tup) w.tup (sendN w l).tup hl (fun i hi => ?_) ?_
 ·exact Ev.bind hf (Ev.ret _)
 ·have key : ∀ (l : List Msg) (w : Nw), l.foldl (fun (s : List Int × List Rep × List Msg × List Int) m => (postsN s.2.1.length ⟨s.1, s.2.1, s.2.2.1, s.2.2.2⟩ m).tup) w.tup = (sendN w l).tup := by
   intro l
   induction l with
   | nil => intro w; rfl
   | cons m l ih => intro w; exact ih (postsN w.L.length w m)
  rw [key (l.take i) w]
  have hk := send_keep (l.take i) w
  have hF := Fit.send (l.take i) h
  generalize hq : sendN w (l.take i) = q at hk hF ⊢
  show Ev (fun n => simnet_network_send.s1 n (i : Int) l (l.length : Int) q.X q.L q.W q.T) _
  unfold simnet_network_send.s1
  rw [show decide ((i : Int) < (l.length : Int)) = true from decide_eq_true (by omega), inbN hi, getD_int hi, wr64s i (by omega)]
  refine Ev.T rfl (Ev.ck rfl (Ev.bind (posts_ev hF l[i]) (Ev.cast (Ev.ret _) ?_)))
  show Sum.inl (((i + 1 : Nat) : Int), q.X, q.L, (postsN q.L.length q l[i]).W, (postsN q.L.length q l[i]).T) = Sum.inl (((i + 1 : Nat) : Int), (postsN q.L.length q l[i]).tup)
  rw [Nw.tup, posts_X, posts_L]
 ·have key : ∀ (l : List Msg) (w : Nw), l.foldl (fun (s : List Int × List Rep × List Msg × List Int) m => (postsN s.2.1.length ⟨s.1, s.2.1, s.2.2.1, s.2.2.2⟩ m).tup) w.tup = (sendN w l).tup := by
   intro l
   induction l with
   | nil => intro w; rfl
   | cons m l ih => intro w; exact ih (postsN w.L.length w m)
  rw [key l w]
  refine Ev.of fun n => ?_
  show simnet_network_send.s1 n (l.length : Int) l (l.length : Int) _ _ _ _ = _
  unfold simnet_network_send.s1
  rw [show decide ((l.length : Int) < (l.length : Int)) = false from decide_eq_false (by omega)]
  rfl

/-! ### honest replicas, messages under way -/
def honN (w : Nw) (i : Int) : Bool := decide (0 ≤ i) && (decide (i < (w.L.length : Int)) && !(w.X.contains i))
theorem honest_ev {w : Nw} (h : Fit w) (i : Int) : Ev (fun n => simnet_network_honest n i w.X w.L w.W w.T) (honN w i) := by
 have hx := h.xl
 unfold simnet_network_honest honN
 by_cases h0 : 0 ≤ i
 ·rw [show decide (i ≥ 0) = true from decide_eq_true h0]
  refine Ev.T rfl ?_
  by_cases h1 : i < (w.L.length : Int)
  ·rw [show decide (i < (w.L.length : Int)) = true from decide_eq_true h1]
   exact Ev.T rfl (Ev.bind (contains_ev w.X i (by omega)) (Ev.cast (Ev.ret _) (by simp)))
  ·rw [show decide (i < (w.L.length : Int)) = false from decide_eq_false h1]
   exact Ev.F rfl (Ev.ret _)
 ·rw [show decide (i ≥ 0) = false from decide_eq_false h0]
  exact Ev.F rfl (Ev.ret _)
theorem honN_in {w : Nw} {i : Int} (h : honN w i = true) : 0 ≤ i ∧ i < (w.L.length : Int) ∧ w.X.contains i = false := by
 unfold honN at h
 simpa using h
def wayN (w : Nw) (a : Int) : Bool := decide (0 ≤ a) && decide (a < (w.W.length : Int))
theorem way_eq (w : Nw) (e : Evt) : simnet_network_inTransit e w.X w.L w.W w.T = some (wayN w e.2.1) := by
 unfold simnet_network_inTransit wayN
 by_cases h0 : 0 ≤ e.2.1
 ·rw [show decide (e.2.1 ≥ 0) = true from decide_eq_true h0]; simp
 ·rw [show decide (e.2.1 ≥ 0) = false from decide_eq_false h0]; simp
theorem wayN_in {w : Nw} {a : Int} (h : wayN w a = true) : 0 ≤ a ∧ a < (w.W.length : Int) := by unfold wayN at h; simpa using h
def removeN (w : Nw) (a : Int) : Nw := ⟨w.X, w.L, w.W.take a.toNat ++ w.W.drop (a.toNat + 1), w.T.take a.toNat ++ w.T.drop (a.toNat + 1)⟩
theorem delF_eq {α : Type} (l : List α) {a : Int} (h0 : 0 ≤ a) (h1 : a < (l.length : Int)) (h2 : l.length < 4611686018427387904) : delF l a (W .i64 (a + 1)) = some (l.take a.toNat ++ l.drop (a.toNat + 1)) := by
 obtain ⟨k, rfl⟩ := Int.eq_ofNat_of_zero_le h0
 have hk : k < l.length := by omega
 rw [wr64s k (by omega)]
 unfold delF
 rw [show (decide (0 ≤ (k : Int)) && (decide ((k : Int) ≤ ((k + 1 : Nat) : Int)) && decide (((k + 1 : Nat) : Int) ≤ (l.length : Int)))) = true by simp only [Bool.and_eq_true, decide_eq_true_eq]; omega]
 rfl
theorem remove_eq {w : Nw} (h : Fit w) {a : Int} (ha : wayN w a = true) : simnet_network_remove a w.X w.L w.W w.T = some (w.W.getD a.toNat zM, w.T.getD a.toNat 0, w.X, (removeN w a).W, (removeN w a).T) := by
 have h1 := h.wt; have h2 := h.le
 obtain ⟨h3, h4⟩ := wayN_in ha
 unfold simnet_network_remove
 rw [inbT h3 h4, inbT h3 (by omega : a < (w.T.length : Int))]
 show (api_Message_95 a (W .i64 (a + 1)) w.W).bind _ = _
 unfold api_Message_95 slices_Delete_int_int
 rw [delF_eq w.W h3 h4 (by omega), delF_eq w.T h3 (by omega) (by omega)]
 rfl
theorem Fit.remove {w : Nw} (h : Fit w) {a : Int} (ha : wayN w a = true) : Fit (removeN w a) := by
 have h1 := h.wt; have h2 := h.le
 obtain ⟨h3, h4⟩ := wayN_in ha
 refine ⟨?_, ?_, h.ln, h.xl⟩
 ·simp only [removeN, List.length_append, List.length_take, List.length_drop]; omega
 ·simp only [removeN, List.length_append, List.length_take, List.length_drop]; omega
end Go.Proofs.YtfecniimkgkmfaaGreat
namespace Go.Proofs.YtfecniimkgkmfaaGreat
open Go Go.RowKit Go.Proofs.YtfecniimkgkmfaaGreat.RW
open Go.Proofs.YtfecniimkgkmfaaGreat.AM hiding lk
set_option linter.unusedVariables false
set_option maxRecDepth 100000

/-! ### what an operation of a replica leaves -/
theorem handle_took {r : Rep} (h : Inv r) {m : Msg} (hb : bytesE (mE m)) (hl : (rT r).length < 1000000) : rT (handleM r m) = rT r ∨ rT (handleM r m) = rT r ++ [m] := by
 unfold handleM
 split
 ·rename_i hc
  exact .inr (prog_stps (take_inv h hc.1 hc.2 hb hl)).grows.t
 ·exact .inl rfl
/-- What an operation leaves as it was, and what it lets grow. -/
structure Keeps (r q : Rep) : Prop where
 i : rI q = rI r
 n : rN q = rN r
 v : rV r ≤ rV q
 s : rS r <+: rS q
 l : rL r <+: rL q
theorem Grows.keeps {r q : Rep} (h : Grows r q) : Keeps r q := ⟨h.i, h.n, h.v, h.s, h.l⟩
theorem Keeps.refl (r : Rep) : Keeps r r := (Grows.refl r).keeps
theorem handle_keeps {r : Rep} (h : Inv r) {m : Msg} (hb : bytesE (mE m)) (hl : (rT r).length < 1000000) : Keeps r (handleM r m) := by
 unfold handleM
 split
 ·rename_i hc
  have := (prog_stps (take_inv h hc.1 hc.2 hb hl)).grows
  exact ⟨this.i, this.n, this.v, this.s, this.l⟩
 ·exact .refl r
theorem handle_len {r : Rep} (h : Inv r) {m : Msg} (hb : bytesE (mE m)) (hl : (rT r).length < 1000000) : (rT (handleM r m)).length ≤ (rT r).length + 1 := by
 rcases handle_took h hb hl with e | e
 ·rw [e]; omega
 ·rw [e]; simp

/-! ### what is so of a network -/
structure NInv (n : Int) (c : Nat) (w : Nw) : Prop where
 fit : Fit w
 n1 : 1 ≤ n
 n2 : n ≤ 13
 len : (w.L.length : Int) = n
 rep : ∀ i (hi : i < w.L.length), Inv w.L[i] ∧ rI w.L[i] = (i : Int) ∧ rN w.L[i] = n ∧ (rT w.L[i]).length ≤ c
 wb : ∀ m ∈ w.W, bytesE (mE m)
 tl : ∀ t ∈ w.T, 0 ≤ t ∧ t < n
variable {n : Int} {c : Nat} {w : Nw}
theorem NInv.mono {c' : Nat} (h : NInv n c w) (hc : c ≤ c') : NInv n c' w := ⟨h.fit, h.n1, h.n2, h.len, fun i hi => ⟨(h.rep i hi).1, (h.rep i hi).2.1, (h.rep i hi).2.2.1, Nat.le_trans (h.rep i hi).2.2.2 hc⟩, h.wb, h.tl⟩
theorem NInv.post (h : NInv n c w) {m : Msg} (hm : bytesE (mE m)) {t : Int} (ht : 0 ≤ t ∧ t < n) : NInv n c (postN w m t) := by
 have hf := h.fit.post m t
 unfold postN at hf ⊢
 split
 ·rename_i hc
  rw [if_pos hc] at hf
  refine ⟨hf, h.n1, h.n2, h.len, h.rep, fun x hx => ?_, fun x hx => ?_⟩
  ·rcases List.mem_append.1 hx with hx | hx
   ·exact h.wb x hx
   ·rw [List.mem_singleton.1 hx]; exact hm
  ·rcases List.mem_append.1 hx with hx | hx
   ·exact h.tl x hx
   ·rw [List.mem_singleton.1 hx]; exact ht
 ·exact h
theorem NInv.posts (h : NInv n c w) {m : Msg} (hm : bytesE (mE m)) : ∀ k : Nat, (k : Int) ≤ n → NInv n c (postsN k w m)
 | 0, _ => h
 | k + 1, hk => by rw [postsN_succ]; exact (h.posts hm k (by omega)).post hm (by omega)
theorem NInv.send : ∀ (l : List Msg) {w : Nw}, NInv n c w → (∀ m ∈ l, bytesE (mE m)) → NInv n c (sendN w l)
 | [], _, h, _ => h
 | m :: l, w, h, hl => NInv.send l (h.posts (hl m List.mem_cons_self) w.L.length (by rw [h.len]; exact Int.le_refl _)) (fun x hx => hl x (List.mem_cons_of_mem _ hx))
def repN (w : Nw) (i : Int) : Rep := w.L.getD i.toNat zR
theorem NInv.at (h : NInv n c w) {i : Int} (h0 : 0 ≤ i) (h1 : i < n) : Inv (repN w i) ∧ rI (repN w i) = i ∧ rN (repN w i) = n ∧ (rT (repN w i)).length ≤ c := by
 have hl := h.len
 have hi : i.toNat < w.L.length := by omega
 have := h.rep i.toNat hi
 unfold repN
 rw [getD_lt hi]
 exact ⟨this.1, by rw [this.2.1]; omega, this.2.2⟩
/-- One replica is another. -/
def setN (w : Nw) (i : Int) (q : Rep) : Nw := ⟨w.X, w.L.set i.toNat q, w.W, w.T⟩
theorem NInv.set (h : NInv n c w) {i : Int} (h0 : 0 ≤ i) (h1 : i < n) {q : Rep} {c' : Nat} (hc : c ≤ c') (hq : Inv q) (hi : rI q = i) (hn : rN q = n) (ht : (rT q).length ≤ c') : NInv n c' (setN w i q) := by
 have hl := h.len
 refine ⟨⟨h.fit.wt, h.fit.le, ?_, h.fit.xl⟩, h.n1, h.n2, ?_, fun j hj => ?_, h.wb, h.tl⟩
 ·show (w.L.set i.toNat q).length ≤ 13
  rw [List.length_set]; exact h.fit.ln
 ·show ((w.L.set i.toNat q).length : Int) = n
  rw [List.length_set]; exact hl
 ·have hj' : j < w.L.length := by have : j < (w.L.set i.toNat q).length := hj; rwa [List.length_set] at this
  have key : ∀ x, (w.L.set i.toNat q)[j]? = some x → Inv x ∧ rI x = (j : Int) ∧ rN x = n ∧ (rT x).length ≤ c' := by
   intro x hx
   by_cases e : i.toNat = j
   ·subst e
    rw [List.getElem?_set_self hj'] at hx
    obtain rfl := Option.some.inj hx
    exact ⟨hq, by rw [hi]; omega, hn, ht⟩
   ·rw [List.getElem?_set_ne e, List.getElem?_eq_getElem hj'] at hx
    obtain rfl := Option.some.inj hx
    have := h.rep j hj'
    exact ⟨this.1, this.2.1, this.2.2.1, Nat.le_trans this.2.2.2 hc⟩
  exact key _ (List.getElem?_eq_getElem hj)
/-- One replica acts, and what it says more is sent. -/
def actN (w : Nw) (i : Int) (q : Rep) : Nw := sendN (setN w i q) ((rS q).drop (rS (repN w i)).length)
theorem NInv.act (h : NInv n c w) {i : Int} (h0 : 0 ≤ i) (h1 : i < n) {q : Rep} {c' : Nat} (hc : c ≤ c') (hq : Inv q) (hk : Keeps (repN w i) q) (ht : (rT q).length ≤ c') : NInv n c' (actN w i q) := by
 have ha := h.at h0 h1
 exact NInv.send _ (h.set h0 h1 hc hq (hk.i.trans ha.2.1) (hk.n.trans ha.2.2.1) ht) (fun m hm => hq.bs m (List.mem_of_mem_drop hm))
theorem act_ev (h : NInv n c w) {i : Int} {q : Rep} (hq : Inv q) : Ev (fun k => simnet_network_send k ((rS q).drop (rS (repN w i)).length) w.X (w.L.set i.toNat q) w.W w.T) (actN w i q).tup := by
 have hs := hq.size
 unfold C0 at hs
 exact send_ev (w := setN w i q) ⟨h.fit.wt, h.fit.le, by show (w.L.set i.toNat q).length ≤ 13; rw [List.length_set]; exact h.fit.ln, h.fit.xl⟩ _ (by rw [List.length_drop]; omega)
theorem NInv.hon (h : NInv n c w) {i : Int} (hi : honN w i = true) : 0 ≤ i ∧ i < n ∧ inb i w.L.length = true := by
 obtain ⟨h0, h1, _⟩ := honN_in hi
 exact ⟨h0, by rw [← h.len]; exact h1, inbT h0 h1⟩
theorem NInv.remove (h : NInv n c w) {a : Int} (ha : wayN w a = true) : NInv n c (removeN w a) ∧ bytesE (mE (w.W.getD a.toNat zM)) ∧ 0 ≤ w.T.getD a.toNat 0 ∧ w.T.getD a.toNat 0 < n := by
 obtain ⟨h3, h4⟩ := wayN_in ha
 have hwt := h.fit.wt
 have ha1 : a.toNat < w.W.length := by omega
 have ha2 : a.toNat < w.T.length := by omega
 refine ⟨⟨h.fit.remove ha, h.n1, h.n2, h.len, h.rep, fun x hx => ?_, fun x hx => ?_⟩, ?_, ?_⟩
 ·rcases List.mem_append.1 hx with hx | hx
  ·exact h.wb x (List.mem_of_mem_take hx)
  ·exact h.wb x (List.mem_of_mem_drop hx)
 ·rcases List.mem_append.1 hx with hx | hx
  ·exact h.tl x (List.mem_of_mem_take hx)
  ·exact h.tl x (List.mem_of_mem_drop hx)
 ·rw [getD_lt ha1]; exact h.wb _ (List.getElem_mem _)
 ·rw [getD_lt ha2]; exact h.tl _ (List.getElem_mem _)

/-! ### the events -/
def deliverN (w : Nw) (a : Int) : Nw :=
 if wayN w a = true then
  if honN (removeN w a) (w.T.getD a.toNat 0) = true then actN (removeN w a) (w.T.getD a.toNat 0) (handleM (repN w (w.T.getD a.toNat 0)) (w.W.getD a.toNat zM)) else removeN w a
 else w
def loseN (w : Nw) (a : Int) : Nw := if wayN w a = true then removeN w a else w
def doubleN (w : Nw) (a : Int) : Nw := if wayN w a = true then postN w (w.W.getD a.toNat zM) (w.T.getD a.toNat 0) else w
def crashN (w : Nw) (i : Int) : Nw := if honN w i = true then setN w i (recM (repN w i)) else w
def timeoutN (w : Nw) (i : Int) : Nw := if honN w i = true then actN w i (timeoutM (repN w i)) else w
def askN (w : Nw) (i : Int) (e : Ent) : Nw := if honN w i = true then actN w i (proposeM (repN w i) e) else w
def forgeN (w : Nw) (i : Int) (m : Msg) : Nw := if w.X.contains (mF m) = true ∧ 0 ≤ i ∧ i < (w.L.length : Int) then postN w m i else w
def evN (w : Nw) (e : Evt) : Nw :=
 if e.1 = 1 then deliverN w e.2.1 else if e.1 = 2 then loseN w e.2.1 else if e.1 = 3 then doubleN w e.2.1 else if e.1 = 4 then crashN w e.2.2.1
 else if e.1 = 5 then timeoutN w e.2.2.1 else if e.1 = 6 then askN w e.2.2.1 (mE e.2.2.2) else if e.1 = 7 then forgeN w e.2.2.1 e.2.2.2 else w
theorem NInv.deliver (h : NInv n c w) (hc : c < 1000000) (a : Int) : NInv n (c + 1) (deliverN w a) := by
 unfold deliverN
 split
 ·rename_i ha
  obtain ⟨h1, h2, h3, h4⟩ := h.remove ha
  split
  ·rename_i hh
   have hr := h.at h3 h4
   exact h1.act h3 h4 (Nat.le_succ c) (handle_inv hr.1 h2 (by omega)) (handle_keeps hr.1 h2 (by omega)) (Nat.le_trans (handle_len hr.1 h2 (by omega)) (by have := hr.2.2.2; omega))
  ·exact h1.mono (Nat.le_succ c)
 ·exact h.mono (Nat.le_succ c)
theorem NInv.lose (h : NInv n c w) (a : Int) : NInv n c (loseN w a) := by
 unfold loseN
 split
 ·rename_i ha; exact (h.remove ha).1
 ·exact h
theorem NInv.double (h : NInv n c w) (a : Int) : NInv n c (doubleN w a) := by
 unfold doubleN
 split
 ·rename_i ha
  obtain ⟨_, h2, h3, h4⟩ := h.remove ha
  exact h.post h2 ⟨h3, h4⟩
 ·exact h
theorem NInv.crash (h : NInv n c w) (i : Int) : NInv n c (crashN w i) := by
 unfold crashN
 split
 ·rename_i hi
  obtain ⟨h0, h1, _⟩ := h.hon hi
  have hr := h.at h0 h1
  exact h.set h0 h1 (Nat.le_refl c) (rec_inv hr.1) hr.2.1 hr.2.2.1 (Nat.zero_le _)
 ·exact h
theorem NInv.timeout (h : NInv n c w) (i : Int) : NInv n c (timeoutN w i) := by
 unfold timeoutN
 split
 ·rename_i hi
  obtain ⟨h0, h1, _⟩ := h.hon hi
  have hr := h.at h0 h1
  have hg := timeout_grows hr.1
  exact h.act h0 h1 (Nat.le_refl c) (timeout_inv hr.1) hg.keeps (by rw [hg.t]; exact hr.2.2.2)
 ·exact h
theorem NInv.ask (h : NInv n c w) (i : Int) {e : Ent} (he : bytesE e) : NInv n c (askN w i e) := by
 unfold askN
 split
 ·rename_i hi
  obtain ⟨h0, h1, _⟩ := h.hon hi
  have hr := h.at h0 h1
  have hg := propose_grows (repN w i) e
  exact h.act h0 h1 (Nat.le_refl c) (propose_inv hr.1 he) hg.keeps (by rw [hg.t]; exact hr.2.2.2)
 ·exact h
theorem NInv.forge (h : NInv n c w) (i : Int) {m : Msg} (hm : bytesE (mE m)) : NInv n c (forgeN w i m) := by
 unfold forgeN
 split
 ·rename_i hi
  exact h.post hm ⟨hi.2.1, by rw [← h.len]; exact hi.2.2⟩
 ·exact h
theorem NInv.ev (h : NInv n c w) (hc : c < 1000000) {e : Evt} (he : bytesE (mE e.2.2.2)) : NInv n (c + 1) (evN w e) := by
 unfold evN
 repeat' split
 ·exact h.deliver hc _
 ·exact (h.lose _).mono (Nat.le_succ c)
 ·exact (h.double _).mono (Nat.le_succ c)
 ·exact (h.crash _).mono (Nat.le_succ c)
 ·exact (h.timeout _).mono (Nat.le_succ c)
 ·exact (h.ask _ he).mono (Nat.le_succ c)
 ·exact (h.forge _ he).mono (Nat.le_succ c)
 ·exact h.mono (Nat.le_succ c)

/-! ### the program's events -/
theorem deliver_ev (h : NInv n c w) (hc : c < 1000000) (e : Evt) : Ev (fun k => simnet_network_deliver k e w.X w.L w.W w.T) (deliverN w e.2.1).tup := by
 unfold simnet_network_deliver deliverN
 refine Ev.bind (Ev.of fun _ => way_eq w e) ?_
 cases ha : wayN w e.2.1 with
 | false => exact Ev.T rfl (Ev.ret _)
 | true =>
  obtain ⟨h1, h2, h3, h4⟩ := h.remove ha
  refine Ev.F rfl (Ev.bind (Ev.of fun _ => remove_eq h.fit ha) ?_)
  refine Ev.bind (honest_ev h1.fit _) ?_
  rw [if_pos rfl]
  cases hh : honN (removeN w e.2.1) (w.T.getD e.2.1.toNat 0) with
  | false => exact Ev.T rfl (Ev.ret _)
  | true =>
   rw [if_pos rfl]
   have hr := h.at h3 h4
   have hin := (h1.hon hh).2.2
   refine Ev.F rfl (Ev.ck hin (Ev.bind (handle_ev hr.1 h2 (by omega)) (Ev.ck hin (Ev.bind (act_ev h1 (i := w.T.getD e.2.1.toNat 0) (handle_inv hr.1 h2 (by omega))) (Ev.ret _)))))
theorem lose_ev (h : NInv n c w) (e : Evt) : simnet_network_lose e w.X w.L w.W w.T = some ((loseN w e.2.1).X, (loseN w e.2.1).W, (loseN w e.2.1).T) := by
 unfold simnet_network_lose loseN
 rw [way_eq]
 cases ha : wayN w e.2.1 with
 | false => rfl
 | true =>
  show (simnet_network_remove e.2.1 w.X w.L w.W w.T).bind _ = _
  rw [remove_eq h.fit ha]
  rfl
theorem double_ev (h : NInv n c w) (e : Evt) : simnet_network_double e w.X w.L w.W w.T = some ((doubleN w e.2.1).X, (doubleN w e.2.1).W, (doubleN w e.2.1).T) := by
 unfold simnet_network_double doubleN
 rw [way_eq]
 cases ha : wayN w e.2.1 with
 | false => rfl
 | true =>
  obtain ⟨h3, h4⟩ := wayN_in ha
  have hwt := h.fit.wt
  show AM.ck (inb e.2.1 w.W.length) (AM.ck (inb e.2.1 w.T.length) ((simnet_network_post (w.W.getD e.2.1.toNat zM) (w.T.getD e.2.1.toNat 0) w.X w.L w.W w.T).bind _)) = _
  rw [inbT h3 h4, inbT h3 (by omega : e.2.1 < (w.T.length : Int)), post_eq h.fit, if_pos rfl, post_X]
  rfl
theorem crash_ev (h : NInv n c w) (e : Evt) : Ev (fun k => simnet_network_crash k e w.X w.L w.W w.T) (crashN w e.2.2.1).L := by
 unfold simnet_network_crash crashN
 refine Ev.bind (honest_ev h.fit _) ?_
 cases hi : honN w e.2.2.1 with
 | false => exact Ev.F rfl (Ev.ret _)
 | true =>
  have hin := (h.hon hi).2.2
  exact Ev.T rfl (Ev.ck hin (Ev.bind (Ev.of fun _ => rec_eq (repN w e.2.2.1)) (Ev.ck hin (Ev.ret _))))
theorem timeoutN_ev (h : NInv n c w) (e : Evt) : Ev (fun k => simnet_network_timeout k e w.X w.L w.W w.T) (timeoutN w e.2.2.1).tup := by
 unfold simnet_network_timeout timeoutN
 refine Ev.bind (honest_ev h.fit _) ?_
 cases hi : honN w e.2.2.1 with
 | false => exact Ev.F rfl (Ev.ret _)
 | true =>
  obtain ⟨h0, h1, hin⟩ := h.hon hi
  have hr := h.at h0 h1
  rw [if_pos rfl]
  exact Ev.T rfl (Ev.ck hin (Ev.bind (timeout_ev hr.1) (Ev.ck hin (Ev.bind (act_ev h (i := e.2.2.1) (timeout_inv hr.1)) (Ev.ret _)))))
theorem askN_ev (h : NInv n c w) {e : Evt} (he : bytesE (mE e.2.2.2)) : Ev (fun k => simnet_network_ask k e w.X w.L w.W w.T) (askN w e.2.2.1 (mE e.2.2.2)).tup := by
 unfold simnet_network_ask askN
 refine Ev.bind (honest_ev h.fit _) ?_
 cases hi : honN w e.2.2.1 with
 | false => exact Ev.F rfl (Ev.ret _)
 | true =>
  obtain ⟨h0, h1, hin⟩ := h.hon hi
  have hr := h.at h0 h1
  rw [if_pos rfl]
  exact Ev.T rfl (Ev.ck hin (Ev.bind (propose_ev hr.1 (mE e.2.2.2)) (Ev.ck hin (Ev.bind (act_ev h (i := e.2.2.1) (propose_inv hr.1 he)) (Ev.ret _)))))
theorem forge_ev (h : NInv n c w) (e : Evt) : Ev (fun k => simnet_network_forge k e w.X w.L w.W w.T) ((forgeN w e.2.2.1 e.2.2.2).X, (forgeN w e.2.2.1 e.2.2.2).W, (forgeN w e.2.2.1 e.2.2.2).T) := by
 have hx := h.fit.xl
 unfold simnet_network_forge forgeN simnet_network_forge.j0
 refine Ev.bind (a := decide (w.X.contains (mF e.2.2.2) = true ∧ 0 ≤ e.2.2.1 ∧ e.2.2.1 < (w.L.length : Int))) (Ev.bind (contains_ev w.X (mF e.2.2.2) (by omega)) ?_) ?_
 ·cases hcn : w.X.contains (mF e.2.2.2) with
  | false => exact Ev.F rfl (Ev.cast (Ev.ret _) (by simp))
  | true =>
   refine Ev.T rfl ?_
   by_cases h0 : 0 ≤ e.2.2.1
   ·exact Ev.T (decide_eq_true h0) (Ev.cast (Ev.ret _) (by simp [h0]))
   ·exact Ev.F (decide_eq_false h0) (Ev.cast (Ev.ret _) (by simp [h0]))
 ·by_cases hc : w.X.contains (mF e.2.2.2) = true ∧ 0 ≤ e.2.2.1 ∧ e.2.2.1 < (w.L.length : Int)
  ·rw [if_pos hc]
   refine Ev.T (decide_eq_true hc) (Ev.bind (Ev.of fun _ => post_eq h.fit e.2.2.2 e.2.2.1) ?_)
   rw [post_X]
   exact Ev.ret _
  ·rw [if_neg hc]
   exact Ev.F (decide_eq_false hc) (Ev.ret _)
end Go.Proofs.YtfecniimkgkmfaaGreat
namespace Go.Proofs.YtfecniimkgkmfaaGreat
open Go Go.RowKit Go.Proofs.YtfecniimkgkmfaaGreat.RW
open Go.Proofs.YtfecniimkgkmfaaGreat.AM hiding lk
set_option linter.unusedVariables false
set_option maxRecDepth 100000
variable {n : Int} {c : Nat} {w : Nw}

theorem cloneF_eq {α : Type} {b : Nat} {l : List α} (h : l.length * b ≤ 140737488355328) : cloneF b l = some l := by
 unfold cloneF
 rw [decide_eq_true h]
 rfl
theorem open_eq (h : Fit w) : simnet_open w.toS = some w.tup := by
 have h1 := h.wt; have h2 := h.le; have h3 := h.ln
 unfold simnet_open
 have e1 : api_Replica w.L = some w.L := cloneF_eq (by omega)
 have e2 : api_Message_72 w.W = some w.W := cloneF_eq (by omega)
 have e3 : slices_Clone_int_int w.T = some w.T := cloneF_eq (by omega)
 show (api_Replica w.L).bind _ = _
 rw [e1]
 show (api_Message_72 w.W).bind _ = _
 rw [e2]
 show (slices_Clone_int_int w.T).bind _ = _
 rw [e3]
 rfl
def runN (w : Nw) (l : List Evt) : Nw := l.foldl evN w
theorem NInv.run : ∀ (l : List Evt) {c : Nat} {w : Nw}, NInv n c w → c + l.length ≤ 1000000 → (∀ e ∈ l, bytesE (mE e.2.2.2)) → NInv n (c + l.length) (runN w l)
 | [], _, _, h, _, _ => h
 | e :: l, c, w, h, hc, hl => by
  simp only [List.length_cons] at hc ⊢
  have := NInv.run l (h.ev (by omega) (hl e List.mem_cons_self)) (by omega) (fun x hx => hl x (List.mem_cons_of_mem _ hx))
  rw [show c + (l.length + 1) = c + 1 + l.length by omega]
  exact this
theorem crash_keep (w : Nw) (i : Int) : (crashN w i).X = w.X ∧ (crashN w i).W = w.W ∧ (crashN w i).T = w.T := by unfold crashN; split <;> exact ⟨rfl, rfl, rfl⟩
theorem lose_L (w : Nw) (i : Int) : (loseN w i).L = w.L := by unfold loseN; split <;> rfl
theorem double_L (w : Nw) (i : Int) : (doubleN w i).L = w.L := by unfold doubleN; split; exact post_L _ _ _; rfl
theorem forge_L (w : Nw) (i : Int) (m : Msg) : (forgeN w i m).L = w.L := by unfold forgeN; split; exact post_L _ _ _; rfl
theorem run_s0 (h : NInv n c w) (hc : c < 1000000) {l : List Evt} {i : Nat} (hi : i < l.length) (hl : l.length < 4611686018427387904) (he : bytesE (mE l[i].2.2.2)) :
  Ev (fun k => simnet_Run.s0 k (i : Int) l (l.length : Int) w.X w.L w.W w.T) (.inl (((i + 1 : Nat) : Int), (evN w l[i]).tup)) := by
 unfold simnet_Run.s0
 rw [show decide ((i : Int) < (l.length : Int)) = true from decide_eq_true (by omega), inbN hi, getD_int hi, wr64s i (by omega)]
 refine Ev.T rfl (Ev.ck rfl ?_)
 generalize l[i] = e at he
 unfold evN
 by_cases h1 : e.1 = 1
 ·rw [if_pos h1]; exact Ev.T (decide_eq_true h1) (Ev.bind (deliver_ev h hc e) (Ev.ret _))
 rw [if_neg h1]; refine Ev.F (decide_eq_false h1) ?_
 by_cases h2 : e.1 = 2
 ·rw [if_pos h2]
  refine Ev.T (decide_eq_true h2) (Ev.bind (Ev.of fun _ => lose_ev h e) (Ev.cast (Ev.ret _) ?_))
  rw [Nw.tup, lose_L]
 rw [if_neg h2]; refine Ev.F (decide_eq_false h2) ?_
 by_cases h3 : e.1 = 3
 ·rw [if_pos h3]
  refine Ev.T (decide_eq_true h3) (Ev.bind (Ev.of fun _ => double_ev h e) (Ev.cast (Ev.ret _) ?_))
  rw [Nw.tup, double_L]
 rw [if_neg h3]; refine Ev.F (decide_eq_false h3) ?_
 by_cases h4 : e.1 = 4
 ·rw [if_pos h4]
  refine Ev.T (decide_eq_true h4) (Ev.bind (crash_ev h e) (Ev.cast (Ev.ret _) ?_))
  obtain ⟨k1, k2, k3⟩ := crash_keep w e.2.2.1
  rw [Nw.tup, k1, k2, k3]
 rw [if_neg h4]; refine Ev.F (decide_eq_false h4) ?_
 by_cases h5 : e.1 = 5
 ·rw [if_pos h5]; exact Ev.T (decide_eq_true h5) (Ev.bind (timeoutN_ev h e) (Ev.ret _))
 rw [if_neg h5]; refine Ev.F (decide_eq_false h5) ?_
 by_cases h6 : e.1 = 6
 ·rw [if_pos h6]; exact Ev.T (decide_eq_true h6) (Ev.bind (askN_ev h he) (Ev.ret _))
 rw [if_neg h6]; refine Ev.F (decide_eq_false h6) ?_
 by_cases h7 : e.1 = 7
 ·rw [if_pos h7]
  refine Ev.T (decide_eq_true h7) (Ev.bind (forge_ev h e) (Ev.cast (Ev.ret _) ?_))
  rw [Nw.tup, forge_L]
 rw [if_neg h7]; exact Ev.F (decide_eq_false h7) (Ev.ret _)
theorem run_tup (l : List Evt) (w : Nw) : l.foldl (fun (s : List Int × List Rep × List Msg × List Int) e => (evN ⟨s.1, s.2.1, s.2.2.1, s.2.2.2⟩ e).tup) w.tup = (runN w l).tup := by
 induction l generalizing w with
 | nil => rfl
 | cons m l ih => exact ih (evN w m)
theorem run_ev (h : NInv n c w) {l : List Evt} (hc : c + l.length ≤ 1000000) (hl : ∀ e ∈ l, bytesE (mE e.2.2.2)) : Ev (fun k => simnet_Run k w.toS l) (runN w l).tup := by
 unfold simnet_Run
 refine Ev.bind (Ev.of fun _ => open_eq h.fit) (Ev.bind (a := ()) (Ev.of fun _ => rfl) ?_)
 have hf := fold_run (γ := List Int × List Rep × List Msg × List Int) (L := fun n k s => simnet_Run.l0 n k s.1 l (l.length : Int) s.2.1 s.2.2.1 s.2.2.2.1 s.2.2.2.2) (S := fun n s => simnet_Run.s0 n s.1 l (l.length : Int) s.2.1 s.2.2.1 s.2.2.2.1 s.2.2.2.2) (fun _ _ _ => rfl)
  l (fun (s : List Int × List Rep × List Msg × List Int) e => (evN ⟨s.1, s.2.1, s.2.2.1, s.2.2.2⟩ e).tup) w.tup (runN w l).tup (by omega) (fun i hi => ?_) ?_
 ·exact Ev.bind hf (Ev.ret _)
 ·rw [run_tup (l.take i) w]
  have hk := NInv.run (l.take i) h (by rw [List.length_take]; omega) (fun e he => hl e (List.mem_of_mem_take he))
  rw [List.length_take] at hk
  exact run_s0 hk (by omega) hi (by omega) (hl _ (List.getElem_mem hi))
 ·rw [run_tup l w]
  refine Ev.of fun n => ?_
  show simnet_Run.s0 n (l.length : Int) l (l.length : Int) _ _ _ _ = _
  unfold simnet_Run.s0
  rw [show decide ((l.length : Int) < (l.length : Int)) = false from decide_eq_false (by omega)]
  rfl
theorem apply_ev (h : NInv n c w) {e : Evt} (hc : c + 1 ≤ 1000000) (he : bytesE (mE e.2.2.2)) : Ev (fun k => simnet_Apply k w.toS e) (evN w e).tup := by
 unfold simnet_Apply
 exact Ev.bind (run_ev h (l := [e]) hc (fun x hx => by rw [List.mem_singleton.1 hx]; exact he)) (Ev.ret _)

/-! ### draining -/
def drainN : Nat → Nw → Nw
 | 0, w => w
 | k + 1, w => if w.W.length = 0 then w else drainN k (deliverN w 0)
def zEv : Evt := (0, 0, 0, 0, 0, 0, 0, 0, 0, (⟨#[]⟩ : ByteArray), ([] : List Int))
end Go.Proofs.YtfecniimkgkmfaaGreat
namespace Go.Proofs.YtfecniimkgkmfaaGreat
open Go Go.RowKit Go.Proofs.YtfecniimkgkmfaaGreat.RW
open Go.Proofs.YtfecniimkgkmfaaGreat.AM hiding lk
set_option linter.unusedVariables false
set_option maxRecDepth 100000
theorem wf_u8 {x : Int} (h : (Lit.int .u8 x).wf = true) : 0 ≤ x ∧ x ≤ 255 := by
 simpa [Lit.wf, IntKind.min, IntKind.max, IntKind.signed, IntKind.bits] using h
theorem and64N (x : Int) (m : Nat) (hm : m < 9223372036854775808) : 0 ≤ bAnd .i64 x (m : Int) ∧ bAnd .i64 x (m : Int) ≤ m := by
 have e : bAnd .i64 x (m : Int) = IntKind.i64.wrap (((BitVec.ofInt 64 x) &&& (BitVec.ofInt 64 (m : Int))).toNat : Int) := rfl
 have hle : ((BitVec.ofInt 64 x) &&& (BitVec.ofInt 64 (m : Int))).toNat ≤ m := by
  rw [BitVec.ofInt_natCast, BitVec.toNat_and, BitVec.toNat_ofNat, Nat.mod_eq_of_lt (show m < 2 ^ 64 by omega)]
  exact Nat.and_le_right
 have hw := wr64 (n := ((((BitVec.ofInt 64 x) &&& (BitVec.ofInt 64 (m : Int))).toNat : Nat) : Int)) (by omega) (by omega)
 unfold W at hw
 rw [e, hw]
 omega
theorem and64 (x c : Int) (h0 : 0 ≤ c) (h1 : c < 9223372036854775808) : 0 ≤ bAnd .i64 x c ∧ bAnd .i64 x c ≤ c := by
 have := and64N x c.toNat (by omega)
 rwa [show ((c.toNat : Nat) : Int) = c from by omega] at this
def keyB (b : Int) : ByteArray := [(⟨#[97]⟩ : ByteArray), (⟨#[98]⟩ : ByteArray), (⟨#[99]⟩ : ByteArray)].getD (b.tmod 3).toNat (⟨#[]⟩ : ByteArray)
def entM (b : Int) : Ent := (1, keyB b, [])
theorem entM_bytes (b : Int) : bytesE (entM b) := fun y hy => by cases hy
theorem mod3_in {b : Int} (h : 0 ≤ b) : inb (b.tmod 3) 3 = true := by
 rw [Int.tmod_eq_emod_of_nonneg h]
 exact inbT (by omega) (by show b % 3 < 3; omega)
theorem entry_eq {b : Int} (h : 0 ≤ b) : armillaryref30_entry b = some (entM b) := by
 unfold armillaryref30_entry
 simp only [List.length_cons, List.length_nil]
 rw [mod3_in h]
 rfl
def madeM (m : Msg) (b n : Int) : Msg :=
 if 1 + bAnd .i64 m.1 3 = 1 then (1, leadM n (bAnd .i64 m.2.2.1 3), bAnd .i64 m.2.2.1 3, bAnd .i64 m.2.2.2.1 1, crc (encR (entM b)).2, entM b)
 else if 1 + bAnd .i64 m.1 3 = 4 then (4, (bAnd .i64 m.2.1 255).tmod n, bAnd .i64 m.2.2.1 3, 0, 0, zE)
 else (1 + bAnd .i64 m.1 3, (bAnd .i64 m.2.1 255).tmod n, bAnd .i64 m.2.2.1 3, bAnd .i64 m.2.2.2.1 1, crc (encR (entM b)).2, zE)
theorem made_ev (m : Msg) {b n : Int} (hb : 0 ≤ b) (h1 : 1 ≤ n) : Ev (fun k => armillaryref30_MadeMessage k m b n) (madeM m b n) := by
 have h3 := and64 m.1 3 (by decide) (by decide)
 have hcrc := refcrc_ev (b := (encR (entM b)).2) (by have := encR_len (entM b); omega) (encR_byte (entM_bytes b))
 unfold armillaryref30_MadeMessage madeM
 rw [wr64 (n := 1 + bAnd .i64 m.1 3) (by omega) (by omega)]
 refine Ev.ck (by rw [decide_eq_false (by omega)]; rfl) (Ev.bind (Ev.of fun _ => entry_eq hb) (Ev.bind (refenc_ev _) ?_))
 by_cases c1 : 1 + bAnd .i64 m.1 3 = 1
 ·rw [if_pos c1]
  exact Ev.T (by simpa using c1) (Ev.bind (Ev.of fun _ => refLeader_eq _ _) (Ev.bind hcrc (Ev.cast (Ev.ret _) (by rw [c1]))))
 ·rw [if_neg c1]
  refine Ev.F (by simpa using c1) ?_
  by_cases c4 : 1 + bAnd .i64 m.1 3 = 4
  ·rw [if_pos c4]
   exact Ev.T (by simpa using c4) (Ev.cast (Ev.ret _) (by rw [c4]))
  ·rw [if_neg c4]
   exact Ev.F (by simpa using c4) (Ev.bind hcrc (Ev.ret _))
theorem made_bytes (m : Msg) (b n : Int) : bytesE (mE (madeM m b n)) := by
 unfold madeM
 split
 ·exact entM_bytes b
 ·split
  ·exact bytes_zE
  ·exact bytes_zE
/-! ### one operation -/

/-! ### a number in a list, for the reference -/
theorem rcontains_ev (l : List Int) (x : Int) (hl : l.length < 4611686018427387904) : Ev (fun n => armillaryref31_Contains n l x) (l.contains x) := by
 have hf := search_run (γ := Unit) (ρ := Bool) (L := fun n j (s : Int × Unit) => (armillaryref31_Contains.l0 n j s.1 l x).map (fun z => match z with | .inl b => b | .inr _ => false))
  (S := fun n s => (armillaryref31_Contains.s0 n s.1 l x).map (fun z => match z with | .inl i => .inl (i, ()) | .inr (.inl b) => .inr b | .inr (.inr _) => .inr false))
  (fun n k s => by
   show (armillaryref31_Contains.l0 n (k + 1) s.1 l x).map _ = _
   rw [armillaryref31_Contains.l0]
   cases armillaryref31_Contains.s0 n s.1 l x with
   | none => rfl
   | some z => rcases z with i | b | u <;> rfl)
  l () (fun y => y == x) (fun _ => true) false hl (fun i hi => Ev.of fun n => ?_) (Ev.of fun n => ?_)
 ·have e : l.contains x = (match l.find? (fun y => y == x) with | some _ => true | none => false) := by
   have h1 := any_find (fun y => y == x) l
   have h2 : l.contains x = l.any (fun y => y == x) := by
    rw [List.contains_eq_any_beq]
    exact congrArg (fun f => l.any f) (funext fun y => by rw [Bool.eq_iff_iff, beq_iff_eq, beq_iff_eq]; exact eq_comm)
   rw [h2, h1]
   cases l.find? (fun y => y == x) <;> rfl
  rw [e]
  cases hfi : l.find? (fun y => y == x)
  all_goals
  rw [hfi] at hf
  obtain ⟨K, hK⟩ := hf
  refine ⟨K, fun n hn => ?_⟩
  have h := hK n hn
  unfold armillaryref31_Contains
  revert h
  show (armillaryref31_Contains.l0 n n 0 l x).map _ = _ → (armillaryref31_Contains.l0 n n 0 l x).bind _ = _
  cases armillaryref31_Contains.l0 n n 0 l x with
  | none => intro h; cases h
  | some z =>
   intro h
   rcases z with b | u
   ·exact h
   ·exact h
 ·show (armillaryref31_Contains.s0 n (i : Int) l x).map _ = _
  unfold armillaryref31_Contains.s0
  rw [show decide ((i : Int) < (l.length : Int)) = true from decide_eq_true (by omega), inbN hi, getD_int hi, wr64s i (by omega)]
  simp only [cond_true, AM.ck]
  cases (l[i] == x) <;> rfl
 ·show (armillaryref31_Contains.s0 n (l.length : Int) l x).map _ = _
  unfold armillaryref31_Contains.s0
  rw [show decide ((l.length : Int) < (l.length : Int)) = false from decide_eq_false (by omega)]
  rfl
theorem rcontains2_ev (l : List Int) (x : Int) (hl : l.length < 4611686018427387904) : Ev (fun n => armillaryref31_Contains_2 n x l) (l.contains x, l) := by
 unfold armillaryref31_Contains_2
 have hf := search_run (γ := List Int) (L := fun n j s => armillaryref31_Contains_2.l0 n j s.1 x s.2) (S := fun n s => armillaryref31_Contains_2.s0 n s.1 x s.2) (fun _ _ _ => rfl)
  l l (fun y => y == x) (fun _ => (Sum.inl (true, l) : (Bool × List Int) ⊕ List Int)) (.inr l) hl (fun i hi => Ev.of fun n => ?_) (Ev.of fun n => ?_)
 ·refine Ev.bind hf ?_
  have e : l.contains x = (l.find? (fun y => y == x)).isSome := by
   rw [← any_find, List.contains_eq_any_beq]
   exact congrArg (fun f => l.any f) (funext fun y => by rw [Bool.eq_iff_iff, beq_iff_eq, beq_iff_eq]; exact eq_comm)
  rw [e]
  cases l.find? (fun y => y == x) with
  | none => exact Ev.ret _
  | some j => exact Ev.ret _
 ·show armillaryref31_Contains_2.s0 n (i : Int) x l = _
  unfold armillaryref31_Contains_2.s0
  rw [show decide ((i : Int) < (l.length : Int)) = true from decide_eq_true (by omega), inbN hi, getD_int hi, wr64s i (by omega)]
  simp only [cond_true, AM.ck]
  cases (l[i] == x) <;> rfl
 ·show armillaryref31_Contains_2.s0 n (l.length : Int) x l = _
  unfold armillaryref31_Contains_2.s0
  rw [show decide ((l.length : Int) < (l.length : Int)) = false from decide_eq_false (by omega)]
  rfl
end Go.Proofs.YtfecniimkgkmfaaGreat
