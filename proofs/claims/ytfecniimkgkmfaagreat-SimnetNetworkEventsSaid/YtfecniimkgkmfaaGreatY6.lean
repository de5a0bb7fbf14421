/- Words of the walk, the functions' walks and plain laws, joined; no conditions beyond those that the theorems name. -/
import Derived.Test.YtfecniimkgkmfaaGreatY4
import Derived.Test.YtfecniimkgkmfaaGreatY5
set_option linter.unusedVariables false
namespace Go.Proofs.YtfecniimkgkmfaaGreat
open Go Go.RowKit Go.Proofs.YtfecniimkgkmfaaGreat.RW Go.Proofs.YtfecniimkgkmfaaGreat.AM

namespace api_Message
noncomputable abbrev F : List (Nat × FragD) := []
theorem Fok : AllF Tryz.prog (F) := trivial
end api_Message
open api_Message in
noncomputable def api_Message (t0 : List S43) : Option (List S43) :=
ck (decide ((t0.length : Int) = (t0.length : Int))) <|
ck (inb (t0.length : Int) (t0.length + 1)) <|
some (t0.take (t0.length : Int).toNat)
noncomputable def api_Message.d : FragD := ⟨⟨[(0, ph (.row c43))], []⟩, [⟨1, ⟨[(0, .w (.c (.full c43)))], []⟩, List S43, fun x => x.1.1, fun r => ((r, ()), ()), fun _ => rfl⟩], fun x => api_Message x.1.1⟩
open api_Message in
theorem api_Message.ok : FunOK Tryz.prog 100 (api_Message.d) := funR ⟨Tryz.prog, 9, F, [], [], []⟩ Tryz.f100 (by kernel_rfl) (by kernel_rfl) (by kernel_rfl) (Fok) trivial noL (by kernel_rfl) (fun x => by kernel_rfl)

namespace replica_machine_send
noncomputable abbrev F : List (Nat × FragD) := [(100, api_Message.d)]
theorem Fok : AllF Tryz.prog (F) := ⟨api_Message.ok, trivial⟩
end replica_machine_send
open replica_machine_send in
noncomputable def replica_machine_send (t1 : S43) (o0 : S56) : Option (Int × Int × Int × List S43 × List S41 × List S43) :=
(api_Message o0.2.2.2.2.1).bind fun z1 =>
ck (room (z1.length + 1) 88) <|
some (o0.1, o0.2.1, o0.2.2.1, o0.2.2.2.1, o0.2.2.2.2.2, (z1 ++ [(t1.1, o0.1, t1.2.2)]))
noncomputable def replica_machine_send.d : FragD := ⟨⟨[(0, pp 0), (1, pst c43)], [.stb 130 c56]⟩, [⟨1, ⟨[(0, .tup [])], [.blk 130 [.h (.int .i64), .h (.int .i64), .h (.int .i64), .h (.row c43), .sl 1, .h (.row c41)], .row 43 c43]⟩, Int × Int × Int × List S43 × List S41 × List S43, fun x => (x.2.1.1, x.2.1.2.1, x.2.1.2.2.1, x.2.1.2.2.2.1, x.2.1.2.2.2.2.2.1, x.2.2.1), fun r => (((), ()), ((r.1, r.2.1, r.2.2.1, r.2.2.2.1, (), r.2.2.2.2.1, ()), r.2.2.2.2.2, ())), fun _ => rfl⟩], fun x => replica_machine_send x.1.2.1 x.2.1⟩
open replica_machine_send in
theorem replica_machine_send.ok : FunOK Tryz.prog 108 (replica_machine_send.d) := funR ⟨Tryz.prog, 23, F, [], [], []⟩ Tryz.f108 (by kernel_rfl) (by kernel_rfl) (by kernel_rfl) (Fok) trivial noL (by kernel_rfl) (fun x => by kernel_rfl)

namespace replica_Propose
noncomputable abbrev K := cBody Tryz.f94
noncomputable abbrev F (n : Nat) : List (Nat × FragD) := [(109, codec_EncodeEntry.d n), (110, quorum_Leader.d), (111, replica_machine_position.d), (112, replica_machine_sent.d n), (114, replica_machine_slot.d), (113, quorum_HighestPrepared.d n), (115, codec_Checksum.d), (108, replica_machine_send.d)]
theorem Fok (n : Nat) : AllF Tryz.prog (F n) := ⟨codec_EncodeEntry.ok n, quorum_Leader.ok, replica_machine_position.ok, replica_machine_sent.ok n, replica_machine_slot.ok, quorum_HighestPrepared.ok n, codec_Checksum.ok, replica_machine_send.ok, trivial⟩
noncomputable def j0 (n : Nat) (o0 : S56) (o1 : S41) (o2 : S56) : Option S41 :=
(replica_machine_slot o0.2.2.1 o2).bind fun z5 =>
(quorum_HighestPrepared n o0.2.2.2.1 o0.2.1 z5).bind fun z6 =>
bif z6.2 then
some z6.1
else
some o1
noncomputable def D0 (n : Nat) : FragD := ⟨⟨[(2, pp 0), (3, pp 1), (7, pp 2)], [.stb 56 c56, .stb 41 c41, .stb 130 c56]⟩, [⟨0, ⟨[], [.same, .stb 41 c41, .same]⟩, S41, fun x => x.2.2.1, fun r => ((), ((), r, (), ())), fun _ => rfl⟩], fun x => j0 n x.2.1 x.2.2.1 x.2.2.2.1⟩
set_option maxRecDepth 1000000 in
theorem T0 (n : Nat) : FragOK Tryz.prog 87 (atN K 400 62) (D0 n) := fragR ⟨Tryz.prog, 87, F n, [], [], []⟩ (Fok n) trivial noL 62 (by kernel_rfl) (fun x => by kernel_rfl)
noncomputable abbrev r0 (n : Nat) : List (Nat × FragD) := (62, D0 n) :: []
theorem R0 (n : Nat) : AllFr Tryz.prog 87 K (r0 n) := ⟨T0 n, trivial⟩
end replica_Propose
open replica_Propose in
noncomputable def replica_Propose (n : Nat) (t0 : S56) (t1 : S41) : Option (Int × Int × Int × List S43 × List S43 × List S41 × List S43 × Int) :=
(codec_EncodeEntry n t1).bind fun z1 =>
(quorum_Leader t0.2.1 t0.2.2.1).bind fun z2 =>
bif z2 != t0.1 then
some (t0.1, t0.2.1, t0.2.2.1, t0.2.2.2.1, t0.2.2.2.2.1, t0.2.2.2.2.2, ([] : List S43), 290)
else
(replica_machine_position t0).bind fun z3 =>
bif decide (z3 ≥ 1000) then
some (t0.1, t0.2.1, t0.2.2.1, t0.2.2.2.1, t0.2.2.2.2.1, t0.2.2.2.2.2, ([] : List S43), 2)
else
bif z1.1 != 0 then
some (t0.1, t0.2.1, t0.2.2.1, t0.2.2.2.1, t0.2.2.2.2.1, t0.2.2.2.2.2, ([] : List S43), 1)
else
(replica_machine_sent n 1 t0).bind fun z4 =>
bif z4.1 then
some (t0.1, t0.2.1, t0.2.2.1, t0.2.2.2.1, t0.2.2.2.2.1, t0.2.2.2.2.2, ([] : List S43), 321)
else
(j0 n t0 t1 z4.2).bind fun z7 =>
(codec_EncodeEntry n z7).bind fun z8 =>
(replica_machine_position z4.2).bind fun z9 =>
(codec_Checksum z8.2).bind fun z10 =>
(replica_machine_send (1, 0, t0.2.2.1, z9, z10, z7) z4.2).bind fun z11 =>
ck (inb (t0.2.2.2.2.1.length : Int) (z11.2.2.2.2.2.length + 1)) <|
some (z11.1, z11.2.1, z11.2.2.1, z11.2.2.2.1, z11.2.2.2.2.2, z11.2.2.2.2.1, (z11.2.2.2.2.2.drop (t0.2.2.2.2.1.length : Int).toNat), 0)
noncomputable def replica_Propose.d (n : Nat) : FragD := ⟨⟨[(0, pst c56), (1, pst c41)], []⟩, [⟨1, ⟨[(0, .tup [.agg [.h (.int .i64), .h (.int .i64), .h (.int .i64), .h (.row c43), .h (.row c43), .h (.row c41)], .c (.h (.row c43)), .c (.h (.int .i64))])], []⟩, Int × Int × Int × List S43 × List S43 × List S41 × List S43 × Int, fun x => (x.1.1.1.1, x.1.1.1.2.1, x.1.1.1.2.2.1, x.1.1.1.2.2.2.1, x.1.1.1.2.2.2.2.1, x.1.1.1.2.2.2.2.2.1, x.1.1.2.1, x.1.1.2.2.1), fun r => ((((r.1, r.2.1, r.2.2.1, r.2.2.2.1, r.2.2.2.2.1, r.2.2.2.2.2.1, ()), r.2.2.2.2.2.2.1, r.2.2.2.2.2.2.2, ()), ()), ()), fun _ => rfl⟩], fun x => replica_Propose n x.1.1 x.1.2.1⟩
open replica_Propose in
set_option maxRecDepth 1000000 in
theorem replica_Propose.ok (n : Nat) : FunOK Tryz.prog 94 (replica_Propose.d n) := funR ⟨Tryz.prog, 87, F n, (r0 n), [], []⟩ Tryz.f94 (by kernel_rfl) (by kernel_rfl) (by kernel_rfl) (Fok n) (R0 n) noL (by kernel_rfl) (fun x => by kernel_rfl)

namespace simnet_network_send
noncomputable abbrev K := cBody Tryz.f82
noncomputable abbrev F (n : Nat) : List (Nat × FragD) := [(91, simnet_network_post.d)]
theorem Fok (n : Nat) : AllF Tryz.prog (F n) := ⟨simnet_network_post.ok, trivial⟩
noncomputable def s0 (n : Nat) (t19 : Int) (t18 : Int) (o0 : List Int) (o1 : S43) (o2 : List S56) (o3 : List S43) (o4 : List Int) : Option ((Int × List Int × S43 × List S56 × List S43 × List Int) ⊕ (List Int × S43 × List S56 × List S43 × List Int)) :=
bif decide (t19 < t18) then
(simnet_network_post o1 t19 o0 o2 o3 o4).bind fun z1 =>
some (.inl (W .i64 (t19 + 1), z1.1, o1, o2, z1.2.1, z1.2.2))
else
some (.inr (o0, o1, o2, o3, o4))
noncomputable def l0 (n : Nat) : Nat → Int → Int → List Int → S43 → List S56 → List S43 → List Int → Option (List Int × S43 × List S56 × List S43 × List Int)
| 0, _, _, _, _, _, _, _ => none
| k + 1, t19, t18, o0, o1, o2, o3, o4 => (s0 n t19 t18 o0 o1 o2 o3 o4).bind fun z => sm z (fun z => l0 n k z.1 t18 z.2.1 z.2.2.1 z.2.2.2.1 z.2.2.2.2.1 z.2.2.2.2.2) some
noncomputable def L0 (n : Nat) : LoopD := ⟨[(0, pp 0), (5, pp 1), (19, pi)], [(18, pi)], [.blk 92 [.sl 2, .sl 3, .sl 4, .h (.row (.int .i64))], .stb 43 c43, .row 56 c56, .row 43 c43, .row 3 (.int .i64)], Int × List Int × S43 × List S56 × List S43 × List Int, fun x => (x.1.2.2.1, x.2.1.2.2.2.1, x.2.2.1, x.2.2.2.1, x.2.2.2.2.1, x.2.2.2.2.2.1), fun r => (((), (), r.1, ()), (((), (), (), r.2.1, ()), r.2.2.1, r.2.2.2.1, r.2.2.2.2.1, r.2.2.2.2.2, ())), fun _ => rfl, ⟨4, ⟨[], [.blk 92 [.sl 2, .sl 5, .sl 6, .h (.row (.int .i64))], .stb 43 c43, .row 56 c56, .gone, .gone, .row 43 c43, .row 3 (.int .i64)]⟩, List Int × S43 × List S56 × List S43 × List Int, fun x => (x.2.1.2.2.2.1, x.2.2.1, x.2.2.2.1, x.2.2.2.2.2.2.1, x.2.2.2.2.2.2.2.1), fun r => ((), (((), (), (), r.1, ()), r.2.1, r.2.2.1, (), (), r.2.2.2.1, r.2.2.2.2, ())), fun _ => rfl⟩, [], fun x => s0 n x.1.2.2.1 x.1.2.2.2.1 x.2.1.2.2.2.1 x.2.2.1 x.2.2.2.1 x.2.2.2.2.1 x.2.2.2.2.2.1, [0, 1, 2]⟩
set_option maxRecDepth 1000000 in
theorem T0 (n : Nat) : FragOK Tryz.prog 28 (atN K 400 1638) ((L0 n).loopD fun x => l0 n n x.1.2.2.1 x.1.2.2.2.1 x.2.1.2.2.2.1 x.2.2.1 x.2.2.2.1 x.2.2.2.2.1 x.2.2.2.2.2.1) := loopR (L0 n) 1638 (by kernel_rfl) (by kernel_rfl) (fragK ⟨Tryz.prog, 28, F n, [], [], []⟩ (Fok n) trivial noL 3276 (by kernel_rfl) (fun x => by kernel_rfl)) (fun k x => l0 n k x.1.2.2.1 x.1.2.2.2.1 x.2.1.2.2.2.1 x.2.2.1 x.2.2.2.1 x.2.2.2.2.1 x.2.2.2.2.2.1) (fun x => by kernel_rfl) (fun k x => by kernel_rfl) n
noncomputable abbrev r0 (n : Nat) : List (Nat × FragD) := (1638, ((L0 n).loopD fun x => l0 n n x.1.2.2.1 x.1.2.2.2.1 x.2.1.2.2.2.1 x.2.2.1 x.2.2.2.1 x.2.2.2.2.1 x.2.2.2.2.2.1)) :: []
theorem R0 (n : Nat) : AllFr Tryz.prog 28 K (r0 n) := ⟨T0 n, trivial⟩
noncomputable def s1 (n : Nat) (t9 : Int) (t7 : List S43) (t8 : Int) (o0 : List Int) (o1 : List S56) (o2 : List S43) (o3 : List Int) : Option ((Int × List Int × List S56 × List S43 × List Int) ⊕ (List Int × List S56 × List S43 × List Int)) :=
bif decide (t9 < t8) then
ck (inb t9 t7.length) <|
(l0 n n 0 (o1.length : Int) o0 ((t7.getD t9.toNat z43).1, ((t7.getD t9.toNat z43).2).1, (((t7.getD t9.toNat z43).2).2).1, ((((t7.getD t9.toNat z43).2).2).2).1, (((((t7.getD t9.toNat z43).2).2).2).2).1, ((((((t7.getD t9.toNat z43).2).2).2).2).2).1, (((((((t7.getD t9.toNat z43).2).2).2).2).2).2)) o1 o2 o3).bind fun z2 =>
some (.inl (W .i64 (t9 + 1), z2.1, z2.2.2.1, z2.2.2.2.1, z2.2.2.2.2))
else
some (.inr (o0, o1, o2, o3))
noncomputable def l1 (n : Nat) : Nat → Int → List S43 → Int → List Int → List S56 → List S43 → List Int → Option (List Int × List S56 × List S43 × List Int)
| 0, _, _, _, _, _, _, _ => none
| k + 1, t9, t7, t8, o0, o1, o2, o3 => (s1 n t9 t7 t8 o0 o1 o2 o3).bind fun z => sm z (fun z => l1 n k z.1 t7 t8 z.2.1 z.2.2.1 z.2.2.2.1 z.2.2.2.2) some
noncomputable def L1 (n : Nat) : LoopD := ⟨[(0, pp 0), (9, pi)], [(7, ph (.row c43)), (8, pi)], [.blk 92 [.sl 1, .sl 2, .sl 3, .h (.row (.int .i64))], .row 56 c56, .row 43 c43, .row 3 (.int .i64)], Int × List Int × List S56 × List S43 × List Int, fun x => (x.1.2.1, x.2.1.2.2.2.1, x.2.2.1, x.2.2.2.1, x.2.2.2.2.1), fun r => (((), r.1, ()), (((), (), (), r.2.1, ()), r.2.2.1, r.2.2.2.1, r.2.2.2.2, ())), fun _ => rfl, ⟨2, ⟨[], [.blk 92 [.sl 1, .sl 4, .sl 5, .h (.row (.int .i64))], .row 56 c56, .gone, .gone, .row 43 c43, .row 3 (.int .i64)]⟩, List Int × List S56 × List S43 × List Int, fun x => (x.2.1.2.2.2.1, x.2.2.1, x.2.2.2.2.2.1, x.2.2.2.2.2.2.1), fun r => ((), (((), (), (), r.1, ()), r.2.1, (), (), r.2.2.1, r.2.2.2, ())), fun _ => rfl⟩, [], fun x => s1 n x.1.2.1 x.1.2.2.1 x.1.2.2.2.1 x.2.1.2.2.2.1 x.2.2.1 x.2.2.2.1 x.2.2.2.2.1, [0, 1]⟩
set_option maxRecDepth 1000000 in
theorem T1 (n : Nat) : FragOK Tryz.prog 28 (atN K 400 6) ((L1 n).loopD fun x => l1 n n x.1.2.1 x.1.2.2.1 x.1.2.2.2.1 x.2.1.2.2.2.1 x.2.2.1 x.2.2.2.1 x.2.2.2.2.1) := loopR (L1 n) 6 (by kernel_rfl) (by kernel_rfl) (fragK ⟨Tryz.prog, 28, F n, (r0 n), [], []⟩ (Fok n) (R0 n) noL 12 (by kernel_rfl) (fun x => by kernel_rfl)) (fun k x => l1 n k x.1.2.1 x.1.2.2.1 x.1.2.2.2.1 x.2.1.2.2.2.1 x.2.2.1 x.2.2.2.1 x.2.2.2.2.1) (fun x => by kernel_rfl) (fun k x => by kernel_rfl) n
noncomputable abbrev r1 (n : Nat) : List (Nat × FragD) := (6, ((L1 n).loopD fun x => l1 n n x.1.2.1 x.1.2.2.1 x.1.2.2.2.1 x.2.1.2.2.2.1 x.2.2.1 x.2.2.2.1 x.2.2.2.2.1)) :: (r0 n)
theorem R1 (n : Nat) : AllFr Tryz.prog 28 K (r1 n) := ⟨T1 n, R0 n⟩
end simnet_network_send
open simnet_network_send in
noncomputable def simnet_network_send (n : Nat) (t1 : List S43) (o0 : List Int) (o1 : List S56) (o2 : List S43) (o3 : List Int) : Option (List Int × List S56 × List S43 × List Int) :=
(l1 n n 0 t1 (t1.length : Int) o0 o1 o2 o3).bind fun z3 =>
some (z3.1, z3.2.1, z3.2.2.1, z3.2.2.2)
noncomputable def simnet_network_send.d (n : Nat) : FragD := ⟨⟨[(0, pp 0), (1, ph (.row c43))], [.blk 92 [.sl 1, .sl 2, .sl 3, .h (.row (.int .i64))], .row 56 c56, .row 43 c43, .row 3 (.int .i64)]⟩, [⟨1, ⟨[(0, .tup [])], [.blk 92 [.sl 1, .sl 4, .sl 5, .h (.row (.int .i64))], .row 56 c56, .gone, .gone, .row 43 c43, .row 3 (.int .i64)]⟩, List Int × List S56 × List S43 × List Int, fun x => (x.2.1.2.2.2.1, x.2.2.1, x.2.2.2.2.2.1, x.2.2.2.2.2.2.1), fun r => (((), ()), (((), (), (), r.1, ()), r.2.1, (), (), r.2.2.1, r.2.2.2, ())), fun _ => rfl⟩], fun x => simnet_network_send n x.1.2.1 x.2.1.2.2.2.1 x.2.2.1 x.2.2.2.1 x.2.2.2.2.1⟩
open simnet_network_send in
set_option maxRecDepth 1000000 in
theorem simnet_network_send.ok (n : Nat) : FunOK Tryz.prog 82 (simnet_network_send.d n) := funR ⟨Tryz.prog, 28, F n, (r1 n), [], []⟩ Tryz.f82 (by kernel_rfl) (by kernel_rfl) (by kernel_rfl) (Fok n) (R1 n) noL (by kernel_rfl) (fun x => by kernel_rfl)

namespace simnet_network_ask
noncomputable abbrev F (n : Nat) : List (Nat × FragD) := [(51, simnet_network_honest.d n), (94, replica_Propose.d n), (82, simnet_network_send.d n)]
theorem Fok (n : Nat) : AllF Tryz.prog (F n) := ⟨simnet_network_honest.ok n, replica_Propose.ok n, simnet_network_send.ok n, trivial⟩
end simnet_network_ask
open simnet_network_ask in
noncomputable def simnet_network_ask (n : Nat) (t1 : S45) (o0 : List Int) (o1 : List S56) (o2 : List S43) (o3 : List Int) : Option (List Int × List S56 × List S43 × List Int) :=
(simnet_network_honest n t1.2.2.1 o0 o1 o2 o3).bind fun z1 =>
bif z1 then
ck (inb t1.2.2.1 o1.length) <|
(replica_Propose n (o1.getD t1.2.2.1.toNat z56) t1.2.2.2.2.2.2.2.2).bind fun z3 =>
ck (inb t1.2.2.1 o1.length) <|
(simnet_network_send n z3.2.2.2.2.2.2.1 o0 (o1.set t1.2.2.1.toNat (z3.1, z3.2.1, z3.2.2.1, z3.2.2.2.1, z3.2.2.2.2.1, z3.2.2.2.2.2.1)) o2 o3).bind fun z5 =>
some (z5.1, z5.2.1, z5.2.2.1, z5.2.2.2)
else
some (o0, o1, o2, o3)
noncomputable def simnet_network_ask.d (n : Nat) : FragD := ⟨⟨[(0, pp 0), (1, pst c45)], [.blk 92 [.sl 1, .sl 2, .sl 3, .h (.row (.int .i64))], .row 56 c56, .row 43 c43, .row 3 (.int .i64)]⟩, [⟨1, ⟨[(0, .tup [])], [.blk 92 [.sl 1, .sl 4, .sl 5, .h (.row (.int .i64))], .row 56 c56, .gone, .gone, .row 43 c43, .row 3 (.int .i64)]⟩, List Int × List S56 × List S43 × List Int, fun x => (x.2.1.2.2.2.1, x.2.2.1, x.2.2.2.2.2.1, x.2.2.2.2.2.2.1), fun r => (((), ()), (((), (), (), r.1, ()), r.2.1, (), (), r.2.2.1, r.2.2.2, ())), fun _ => rfl⟩], fun x => simnet_network_ask n x.1.2.1 x.2.1.2.2.2.1 x.2.2.1 x.2.2.2.1 x.2.2.2.2.1⟩
open simnet_network_ask in
set_option maxRecDepth 1000000 in
theorem simnet_network_ask.ok (n : Nat) : FunOK Tryz.prog 77 (simnet_network_ask.d n) := funR ⟨Tryz.prog, 40, F n, [], [], []⟩ Tryz.f77 (by kernel_rfl) (by kernel_rfl) (by kernel_rfl) (Fok n) trivial noL (by kernel_rfl) (fun x => by kernel_rfl)

namespace replica_rules
noncomputable abbrev F : List (Nat × FragD) := []
theorem Fok : AllF Tryz.prog (F) := trivial
end replica_rules
open replica_rules in
noncomputable def replica_rules : Option Unit :=
some ()
noncomputable def replica_rules.d : FragD := ⟨⟨[], []⟩, [⟨1, ⟨[(0, .w (.c (.sb 0 4)))], [.blk 143 [.fn 130 [] [], .fn 131 [] [], .fn 132 [] [], .fn 133 [] []]]⟩, Unit, fun _ => (), fun _ => (((), ()), (((), (), (), (), ()), ())), fun _ => rfl⟩], fun _ => replica_rules⟩
open replica_rules in
theorem replica_rules.ok : FunOK Tryz.prog 118 (replica_rules.d) := funR ⟨Tryz.prog, 2, F, [], [], []⟩ Tryz.f118 (by kernel_rfl) (by kernel_rfl) (by kernel_rfl) (Fok) trivial noL (by kernel_rfl) (fun x => by kernel_rfl)




namespace replica_withSum
noncomputable abbrev F : List (Nat × FragD) := []
theorem Fok : AllF Tryz.prog (F) := trivial
end replica_withSum
open replica_withSum in
noncomputable def replica_withSum (t0 : Int) : Option Int :=
some t0
noncomputable def replica_withSum.d : FragD := ⟨⟨[(0, ph (.int .u32))], []⟩, [⟨1, ⟨[(0, .w (.c (.fn 151 [] [(0, 0)])))], [.stb 39 (.int .u32)]⟩, Int, fun x => x.2.1, fun r => (((), ()), (r, ())), fun _ => rfl⟩], fun x => replica_withSum x.1.1⟩
open replica_withSum in
theorem replica_withSum.ok : FunOK Tryz.prog 142 (replica_withSum.d) := funR ⟨Tryz.prog, 4, F, [], [], []⟩ Tryz.f142 (by kernel_rfl) (by kernel_rfl) (by kernel_rfl) (Fok) trivial noL (by kernel_rfl) (fun x => by kernel_rfl)

namespace replica_withSum_1
noncomputable abbrev F : List (Nat × FragD) := []
theorem Fok : AllF Tryz.prog (F) := trivial
end replica_withSum_1
open replica_withSum_1 in
noncomputable def replica_withSum_1 (t0 : S43) (o0 : Int) : Option Bool :=
some (t0.2.2.2.2.1 == o0)
noncomputable def replica_withSum_1.d : FragD := ⟨⟨[(0, pst c43), (1, pp 0)], [.stb 39 (.int .u32)]⟩, [⟨1, ⟨[(0, pb)], [.same]⟩, Bool, fun x => x.1.1, fun r => ((r, ()), ((), ())), fun _ => rfl⟩], fun x => replica_withSum_1 x.1.1 x.2.1⟩
open replica_withSum_1 in
theorem replica_withSum_1.ok : FunOK Tryz.prog 151 (replica_withSum_1.d) := funR ⟨Tryz.prog, 8, F, [], [], []⟩ Tryz.f151 (by kernel_rfl) (by kernel_rfl) (by kernel_rfl) (Fok) trivial noL (by kernel_rfl) (fun x => by kernel_rfl)

namespace replica_machine_proposal_1
noncomputable abbrev F : List (Nat × FragD) := [(111, replica_machine_position.d), (151, replica_withSum_1.d)]
theorem Fok : AllF Tryz.prog (F) := ⟨replica_machine_position.ok, replica_withSum_1.ok, trivial⟩
end replica_machine_proposal_1
open replica_machine_proposal_1 in
noncomputable def replica_machine_proposal_1 (t0 : S43) (o2 : S56) (o3 : Int) : Option Bool :=
bif t0.1 == 1 then
(replica_machine_position o2).bind fun z1 =>
bif t0.2.2.2.1 == z1 then
(replica_withSum_1 t0 o3).bind fun z2 =>
some z2
else
some false
else
some false
noncomputable def replica_machine_proposal_1.d : FragD := ⟨⟨[(0, pst c43), (1, pp 0), (2, pp 1)], [.blk 128 [.ptr 2 0], .blk 126 [.fn 151 [] [(3, 0)]], .stb 130 c56, .stb 39 (.int .u32)]⟩, [⟨1, ⟨[(0, pb)], [.same, .same, .same, .same]⟩, Bool, fun x => x.1.1, fun r => ((r, ()), ((), (), (), (), ())), fun _ => rfl⟩], fun x => replica_machine_proposal_1 x.1.1 x.2.2.2.1 x.2.2.2.2.1⟩
open replica_machine_proposal_1 in
theorem replica_machine_proposal_1.ok : FunOK Tryz.prog 150 (replica_machine_proposal_1.d) := funR ⟨Tryz.prog, 20, F, [], [], []⟩ Tryz.f150 (by kernel_rfl) (by kernel_rfl) (by kernel_rfl) (Fok) trivial noL (by kernel_rfl) (fun x => by kernel_rfl)

namespace api_Message_117_2
noncomputable abbrev K := cBody Tryz.f117
noncomputable abbrev F (n : Nat) : List (Nat × FragD) := [(150, replica_machine_proposal_1.d)]
theorem Fok (n : Nat) : AllF Tryz.prog (F n) := ⟨replica_machine_proposal_1.ok, trivial⟩
noncomputable def s0 (n : Nat) (t8 : Int) (t0 : List S43) (t7 : Int) (o2 : S56) (o3 : Int) : Option ((Int × S56 × Int) ⊕ ((Int × S56 × Int) ⊕ (S56 × Int))) :=
bif decide (t8 < t7) then
ck (inb t8 t0.length) <|
(replica_machine_proposal_1 ((t0.getD t8.toNat z43).1, ((t0.getD t8.toNat z43).2).1, (((t0.getD t8.toNat z43).2).2).1, ((((t0.getD t8.toNat z43).2).2).2).1, (((((t0.getD t8.toNat z43).2).2).2).2).1, ((((((t0.getD t8.toNat z43).2).2).2).2).2).1, (((((((t0.getD t8.toNat z43).2).2).2).2).2).2)) o2 o3).bind fun z1 =>
bif z1 then
some (.inr (.inl (t8, o2, o3)))
else
some (.inl (W .i64 (t8 + 1), o2, o3))
else
some (.inr (.inr (o2, o3)))
noncomputable def l0 (n : Nat) : Nat → Int → List S43 → Int → S56 → Int → Option ((Int × S56 × Int) ⊕ (S56 × Int))
| 0, _, _, _, _, _ => none
| k + 1, t8, t0, t7, o2, o3 => (s0 n t8 t0 t7 o2 o3).bind fun z => sm z (fun z => l0 n k z.1 t0 t7 z.2.1 z.2.2) some
noncomputable def L0 (n : Nat) : LoopD := ⟨[(1, .w (.c (.fn 150 [] [(0, 0), (1, 0)]))), (8, pi)], [(0, ph (.row c43)), (7, pi)], [.blk 128 [.ptr 2 0], .blk 126 [.fn 151 [] [(3, 0)]], .stb 130 c56, .stb 39 (.int .u32)], Int × S56 × Int, fun x => (x.1.2.1, x.2.2.2.1, x.2.2.2.2.1), fun r => (((), r.1, ()), (((), ()), ((), ()), r.2.1, r.2.2, ())), fun _ => rfl, ⟨1, ⟨[(4, pi)], [.blk 128 [.ptr 2 0], .blk 126 [.fn 151 [] [(3, 0)]], .stb 130 c56, .stb 39 (.int .u32)]⟩, Int × S56 × Int, fun x => (x.1.1, x.2.2.2.1, x.2.2.2.2.1), fun r => ((r.1, ()), (((), ()), ((), ()), r.2.1, r.2.2, ())), fun _ => rfl⟩, [⟨2, ⟨[], [.blk 128 [.ptr 2 0], .blk 126 [.fn 151 [] [(3, 0)]], .stb 130 c56, .stb 39 (.int .u32)]⟩, S56 × Int, fun x => (x.2.2.2.1, x.2.2.2.2.1), fun r => ((), (((), ()), ((), ()), r.1, r.2, ())), fun _ => rfl⟩], fun x => s0 n x.1.2.1 x.1.2.2.1 x.1.2.2.2.1 x.2.2.2.1 x.2.2.2.2.1, [0, 1, 2, 3]⟩
theorem T0 (n : Nat) : FragOK Tryz.prog 19 (atN K 400 26) ((L0 n).loopD fun x => l0 n n x.1.2.1 x.1.2.2.1 x.1.2.2.2.1 x.2.2.2.1 x.2.2.2.2.1) := loopR (L0 n) 26 (by kernel_rfl) (by kernel_rfl) (fragK ⟨Tryz.prog, 19, F n, [], [], []⟩ (Fok n) trivial noL 52 (by kernel_rfl) (fun x => by kernel_rfl)) (fun k x => l0 n k x.1.2.1 x.1.2.2.1 x.1.2.2.2.1 x.2.2.2.1 x.2.2.2.2.1) (fun x => by kernel_rfl) (fun k x => by kernel_rfl) n
noncomputable abbrev r0 (n : Nat) : List (Nat × FragD) := (26, ((L0 n).loopD fun x => l0 n n x.1.2.1 x.1.2.2.1 x.1.2.2.2.1 x.2.2.2.1 x.2.2.2.2.1)) :: []
theorem R0 (n : Nat) : AllFr Tryz.prog 19 K (r0 n) := ⟨T0 n, trivial⟩
end api_Message_117_2
open api_Message_117_2 in
noncomputable def api_Message_117_2 (n : Nat) (t0 : List S43) (o2 : S56) (o3 : Int) : Option (Int × S56 × Int) :=
(l0 n n 0 t0 (t0.length : Int) o2 o3).bind fun z2 =>
sm z2 (fun z3 =>
some (z3.1, z3.2.1, z3.2.2)) fun z4 =>
some ((-1), z4.1, z4.2)
noncomputable def api_Message_117_2.d (n : Nat) : FragD := ⟨⟨[(0, ph (.row c43)), (1, .w (.c (.fn 150 [] [(0, 0), (1, 0)])))], [.blk 128 [.ptr 2 0], .blk 126 [.fn 151 [] [(3, 0)]], .stb 130 c56, .stb 39 (.int .u32)]⟩, [⟨1, ⟨[(0, pi)], [.blk 128 [.ptr 2 0], .blk 126 [.fn 151 [] [(3, 0)]], .stb 130 c56, .stb 39 (.int .u32)]⟩, Int × S56 × Int, fun x => (x.1.1, x.2.2.2.1, x.2.2.2.2.1), fun r => ((r.1, ()), (((), ()), ((), ()), r.2.1, r.2.2, ())), fun _ => rfl⟩], fun x => api_Message_117_2 n x.1.1 x.2.2.2.1 x.2.2.2.2.1⟩
open api_Message_117_2 in
theorem api_Message_117_2.ok (n : Nat) : FunOK Tryz.prog 117 (api_Message_117_2.d n) := funR ⟨Tryz.prog, 19, F n, (r0 n), [], []⟩ Tryz.f117 (by kernel_rfl) (by kernel_rfl) (by kernel_rfl) (Fok n) (R0 n) noL (by kernel_rfl) (fun x => by kernel_rfl)

namespace replica_machine_proposal
noncomputable abbrev F (n : Nat) : List (Nat × FragD) := [(117, api_Message_117_2.d n)]
theorem Fok (n : Nat) : AllF Tryz.prog (F n) := ⟨api_Message_117_2.ok n, trivial⟩
end replica_machine_proposal
open replica_machine_proposal in
noncomputable def replica_machine_proposal (n : Nat) (o0 : S56) (o1 : Int) : Option (S43 × Bool × S56 × Int) :=
(api_Message_117_2 n o0.2.2.2.1 o0 o1).bind fun z1 =>
bif decide (z1.1 < 0) then
some ((0, 0, 0, 0, 0, 0, (⟨#[]⟩ : ByteArray), ([] : List Int)), false, z1.2.1, z1.2.2)
else
ck (inb z1.1 z1.2.1.2.2.2.1.length) <|
some ((z1.2.1.2.2.2.1.getD z1.1.toNat z43), true, z1.2.1, z1.2.2)
noncomputable def replica_machine_proposal.d (n : Nat) : FragD := ⟨⟨[(0, pp 0), (1, .w (.c (.fn 151 [] [(1, 0)])))], [.stb 130 c56, .stb 39 (.int .u32)]⟩, [⟨1, ⟨[(0, .tup [.st c43, .c (.h .bool)])], [.stb 130 c56, .stb 39 (.int .u32)]⟩, S43 × Bool × S56 × Int, fun x => (x.1.1.1, x.1.1.2.1, x.2.1, x.2.2.1), fun r => (((r.1, r.2.1, ()), ()), (r.2.2.1, r.2.2.2, ())), fun _ => rfl⟩], fun x => replica_machine_proposal n x.2.1 x.2.2.1⟩
open replica_machine_proposal in
theorem replica_machine_proposal.ok (n : Nat) : FunOK Tryz.prog 141 (replica_machine_proposal.d n) := funR ⟨Tryz.prog, 25, F n, [], [], []⟩ Tryz.f141 (by kernel_rfl) (by kernel_rfl) (by kernel_rfl) (Fok n) trivial noL (by kernel_rfl) (fun x => by kernel_rfl)

namespace api_Entry
noncomputable abbrev F : List (Nat × FragD) := []
theorem Fok : AllF Tryz.prog (F) := trivial
end api_Entry
open api_Entry in
noncomputable def api_Entry (t0 : List S41) : Option (List S41) :=
ck (decide ((t0.length : Int) = (t0.length : Int))) <|
ck (inb (t0.length : Int) (t0.length + 1)) <|
some (t0.take (t0.length : Int).toNat)
noncomputable def api_Entry.d : FragD := ⟨⟨[(0, ph (.row c41))], []⟩, [⟨1, ⟨[(0, .w (.c (.full c41)))], []⟩, List S41, fun x => x.1.1, fun r => ((r, ()), ()), fun _ => rfl⟩], fun x => api_Entry x.1.1⟩
open api_Entry in
theorem api_Entry.ok : FunOK Tryz.prog 143 (api_Entry.d) := funR ⟨Tryz.prog, 9, F, [], [], []⟩ Tryz.f143 (by kernel_rfl) (by kernel_rfl) (by kernel_rfl) (Fok) trivial noL (by kernel_rfl) (fun x => by kernel_rfl)

namespace replica_machine_commit
noncomputable abbrev K := cBody Tryz.f130
noncomputable abbrev F (n : Nat) : List (Nat × FragD) := [(111, replica_machine_position.d), (138, slices_Sort_int_int.d), (139, slices_Compact_int_int.d), (114, replica_machine_slot.d), (140, quorum_Committed.d n), (142, replica_withSum.d), (141, replica_machine_proposal.d n), (143, api_Entry.d)]
theorem Fok (n : Nat) : AllF Tryz.prog (F n) := ⟨replica_machine_position.ok, slices_Sort_int_int.ok, slices_Compact_int_int.ok, replica_machine_slot.ok, quorum_Committed.ok n, replica_withSum.ok, replica_machine_proposal.ok n, api_Entry.ok, trivial⟩
noncomputable def s0 (n : Nat) (t18 : Int) (t16 : List S43) (t17 : Int) (o0 : S56) (o1 : List Int) : Option ((Int × S56 × List Int) ⊕ (S56 × List Int)) :=
bif decide (t18 < t17) then
ck (inb t18 t16.length) <|
bif (((t16.getD t18.toNat z43).1) == 3) then
(replica_machine_position o0).bind fun z2 =>
bif ((((((t16.getD t18.toNat z43).2).2).2).1) == z2) then
ck (room (o1.length + 1) 8) <|
some (.inl (W .i64 (t18 + 1), o0, o1 ++ [(((t16.getD t18.toNat z43).2).2).1]))
else
some (.inl (W .i64 (t18 + 1), o0, o1))
else
some (.inl (W .i64 (t18 + 1), o0, o1))
else
some (.inr (o0, o1))
noncomputable def l0 (n : Nat) : Nat → Int → List S43 → Int → S56 → List Int → Option (S56 × List Int)
| 0, _, _, _, _, _ => none
| k + 1, t18, t16, t17, o0, o1 => (s0 n t18 t16 t17 o0 o1).bind fun z => sm z (fun z => l0 n k z.1 t16 t17 z.2.1 z.2.2) some
noncomputable def L0 (n : Nat) : LoopD := ⟨[(0, pp 0), (3, po 1), (18, pi)], [(16, ph (.row c43)), (17, pi)], [.stb 130 c56, .row 3 (.int .i64)], Int × S56 × List Int, fun x => (x.1.2.2.1, x.2.1, x.2.2.1), fun r => (((), (), r.1, ()), (r.2.1, r.2.2, ())), fun _ => rfl, ⟨2, ⟨[(3, po 2)], [.stb 130 c56, .gone, .row 3 (.int .i64)]⟩, S56 × List Int, fun x => (x.2.1, x.2.2.2.1), fun r => (((), ()), (r.1, (), r.2, ())), fun _ => rfl⟩, [], fun x => s0 n x.1.2.2.1 x.1.2.2.2.1 x.1.2.2.2.2.1 x.2.1 x.2.2.1, [0]⟩
theorem T0 (n : Nat) : FragOK Tryz.prog 89 (atN K 400 58) ((L0 n).loopD fun x => l0 n n x.1.2.2.1 x.1.2.2.2.1 x.1.2.2.2.2.1 x.2.1 x.2.2.1) := loopR (L0 n) 58 (by kernel_rfl) (by kernel_rfl) (fragK ⟨Tryz.prog, 89, F n, [], [], []⟩ (Fok n) trivial noL 116 (by kernel_rfl) (fun x => by kernel_rfl)) (fun k x => l0 n k x.1.2.2.1 x.1.2.2.2.1 x.1.2.2.2.2.1 x.2.1 x.2.2.1) (fun x => by kernel_rfl) (fun k x => by kernel_rfl) n
noncomputable abbrev r0 (n : Nat) : List (Nat × FragD) := (58, ((L0 n).loopD fun x => l0 n n x.1.2.2.1 x.1.2.2.2.1 x.1.2.2.2.2.1 x.2.1 x.2.2.1)) :: []
theorem R0 (n : Nat) : AllFr Tryz.prog 89 K (r0 n) := ⟨T0 n, trivial⟩
noncomputable def s1 (n : Nat) (t43 : Int) (t42 : Int) (o0 : S56) (o1 : List Int) : Option ((Int × S56 × List Int) ⊕ ((Bool × Int × Int × Int × List S43 × List S43 × List Int × List S41) ⊕ (S56 × List Int))) :=
bif decide (t43 < t42) then
ck (inb t43 o1.length) <|
(replica_machine_slot (o1.getD t43.toNat 0) o0).bind fun z8 =>
(quorum_Committed n o0.2.2.2.1 o0.2.1 z8).bind fun z9 =>
bif !z9.2 then
some (.inl (W .i64 (t43 + 1), o0, o1))
else
(replica_withSum z9.1).bind fun z10 =>
(replica_machine_proposal n o0 z10).bind fun z11 =>
bif z11.2.1 then
(api_Entry z11.2.2.1.2.2.2.2.2).bind fun z12 =>
ck (room (z12.length + 1) 48) <|
some (.inr (.inl (true, z11.2.2.1.1, z11.2.2.1.2.1, z11.2.2.1.2.2.1, z11.2.2.1.2.2.2.1, z11.2.2.1.2.2.2.2.1, o1, z12 ++ [z11.1.2.2.2.2.2])))
else
some (.inl (W .i64 (t43 + 1), z11.2.2.1, o1))
else
some (.inr (.inr (o0, o1)))
noncomputable def l1 (n : Nat) : Nat → Int → Int → S56 → List Int → Option ((Bool × Int × Int × Int × List S43 × List S43 × List Int × List S41) ⊕ (S56 × List Int))
| 0, _, _, _, _ => none
| k + 1, t43, t42, o0, o1 => (s1 n t43 t42 o0 o1).bind fun z => sm z (fun z => l1 n k z.1 t42 z.2.1 z.2.2) some
noncomputable def L1 (n : Nat) : LoopD := ⟨[(0, pp 0), (41, po 1), (43, pi)], [(42, pi)], [.stb 130 c56, .row 3 (.int .i64)], Int × S56 × List Int, fun x => (x.1.2.2.1, x.2.1, x.2.2.1), fun r => (((), (), r.1, ()), (r.2.1, r.2.2, ())), fun _ => rfl, ⟨1, ⟨[(2, pb)], [.blk 130 [.h (.int .i64), .h (.int .i64), .h (.int .i64), .h (.row c43), .h (.row c43), .sl 2], .row 3 (.int .i64), .row 41 c41]⟩, Bool × Int × Int × Int × List S43 × List S43 × List Int × List S41, fun x => (x.1.1, x.2.1.1, x.2.1.2.1, x.2.1.2.2.1, x.2.1.2.2.2.1, x.2.1.2.2.2.2.1, x.2.2.1, x.2.2.2.1), fun r => ((r.1, ()), ((r.2.1, r.2.2.1, r.2.2.2.1, r.2.2.2.2.1, r.2.2.2.2.2.1, (), ()), r.2.2.2.2.2.2.1, r.2.2.2.2.2.2.2, ())), fun _ => rfl⟩, [⟨4, ⟨[], [.stb 130 c56, .row 3 (.int .i64)]⟩, S56 × List Int, fun x => (x.2.1, x.2.2.1), fun r => ((), (r.1, r.2, ())), fun _ => rfl⟩], fun x => s1 n x.1.2.2.1 x.1.2.2.2.1 x.2.1 x.2.2.1, [0, 1]⟩
theorem T1 (n : Nat) : FragOK Tryz.prog 89 (atN K 400 250) ((L1 n).loopD fun x => l1 n n x.1.2.2.1 x.1.2.2.2.1 x.2.1 x.2.2.1) := loopR (L1 n) 250 (by kernel_rfl) (by kernel_rfl) (fragK ⟨Tryz.prog, 89, F n, (r0 n), [], []⟩ (Fok n) (R0 n) noL 500 (by kernel_rfl) (fun x => by kernel_rfl)) (fun k x => l1 n k x.1.2.2.1 x.1.2.2.2.1 x.2.1 x.2.2.1) (fun x => by kernel_rfl) (fun k x => by kernel_rfl) n
noncomputable abbrev r1 (n : Nat) : List (Nat × FragD) := (250, ((L1 n).loopD fun x => l1 n n x.1.2.2.1 x.1.2.2.2.1 x.2.1 x.2.2.1)) :: (r0 n)
theorem R1 (n : Nat) : AllFr Tryz.prog 89 K (r1 n) := ⟨T1 n, R0 n⟩
end replica_machine_commit
open replica_machine_commit in
noncomputable def replica_machine_commit (n : Nat) (o0 : S56) : Option (Bool × Int × Int × Int × List S43 × List S43 × List S41) :=
(l0 n n 0 o0.2.2.2.1 (o0.2.2.2.1.length : Int) o0 ([] : List Int)).bind fun z5 =>
(slices_Sort_int_int z5.2).bind fun z6 =>
(slices_Compact_int_int z6).bind fun z7 =>
(l1 n n 0 (z7.length : Int) z5.1 z7).bind fun z13 =>
sm z13 (fun z14 =>
some (z14.1, z14.2.1, z14.2.2.1, z14.2.2.2.1, z14.2.2.2.2.1, z14.2.2.2.2.2.1, z14.2.2.2.2.2.2.2)) fun z15 =>
some (false, z15.1.1, z15.1.2.1, z15.1.2.2.1, z15.1.2.2.2.1, z15.1.2.2.2.2.1, z15.1.2.2.2.2.2)
noncomputable def replica_machine_commit.d (n : Nat) : FragD := ⟨⟨[(0, pp 0)], [.stb 130 c56]⟩, [⟨1, ⟨[(0, pb)], [.blk 130 [.h (.int .i64), .h (.int .i64), .h (.int .i64), .h (.row c43), .h (.row c43), .h (.row c41)]]⟩, Bool × Int × Int × Int × List S43 × List S43 × List S41, fun x => (x.1.1, x.2.1.1, x.2.1.2.1, x.2.1.2.2.1, x.2.1.2.2.2.1, x.2.1.2.2.2.2.1, x.2.1.2.2.2.2.2.1), fun r => ((r.1, ()), ((r.2.1, r.2.2.1, r.2.2.2.1, r.2.2.2.2.1, r.2.2.2.2.2.1, r.2.2.2.2.2.2, ()), ())), fun _ => rfl⟩], fun x => replica_machine_commit n x.2.1⟩
open replica_machine_commit in
theorem replica_machine_commit.ok (n : Nat) : FunOK Tryz.prog 130 (replica_machine_commit.d n) := funR ⟨Tryz.prog, 89, F n, (r1 n), [], []⟩ Tryz.f130 (by kernel_rfl) (by kernel_rfl) (by kernel_rfl) (Fok n) (R1 n) noL (by kernel_rfl) (fun x => by kernel_rfl)

namespace replica_machine_progress_1
noncomputable abbrev F (n : Nat) : List (Nat × FragD) := [(130, replica_machine_commit.d n)]
theorem Fok (n : Nat) : AllF Tryz.prog (F n) := ⟨replica_machine_commit.ok n, trivial⟩
end replica_machine_progress_1
open replica_machine_progress_1 in
noncomputable def replica_machine_progress_1 (n : Nat) (o1 : S56) : Option (Bool × S56) :=
(replica_machine_commit n o1).bind fun z1 =>
some (z1.1, z1.2)
noncomputable def replica_machine_progress_1.d (n : Nat) : FragD := ⟨⟨[(0, .w (.c (.fn 130 [] []))), (1, pp 0)], [.blk 128 [.ptr 1 0], .stb 130 c56]⟩, [⟨1, ⟨[(0, pb)], [.same, .stb 130 c56]⟩, Bool × S56, fun x => (x.1.1, x.2.2.1), fun r => ((r.1, ()), ((), r.2, ())), fun _ => rfl⟩], fun x => replica_machine_progress_1 n x.2.2.1⟩
open replica_machine_progress_1 in
theorem replica_machine_progress_1.ok (n : Nat) : FunOK Tryz.prog 119 (replica_machine_progress_1.d n) := funR ⟨Tryz.prog, 7, F n, [], [], []⟩ Tryz.f119 (by kernel_rfl) (by kernel_rfl) (by kernel_rfl) (Fok n) trivial noL (by kernel_rfl) (fun x => by kernel_rfl)

namespace replica_machine_join
noncomputable abbrev K := cBody Tryz.f131
noncomputable abbrev F (n : Nat) : List (Nat × FragD) := [(138, slices_Sort_int_int.d), (37, quorum_MaxFaulty.d), (108, replica_machine_send.d)]
theorem Fok (n : Nat) : AllF Tryz.prog (F n) := ⟨slices_Sort_int_int.ok, quorum_MaxFaulty.ok, replica_machine_send.ok, trivial⟩
noncomputable def s0 (n : Nat) (t19 : Int) (t17 : List S43) (t18 : Int) (o0 : List Int) : Option ((Int × List Int) ⊕ (List Int)) :=
bif decide (t19 < t18) then
ck (inb t19 t17.length) <|
bif (((t17.getD t19.toNat z43).1) == 4) then
ck (inb (((t17.getD t19.toNat z43).2).1) o0.length) <|
ck (inb (((t17.getD t19.toNat z43).2).1) o0.length) <|
some (.inl (W .i64 (t19 + 1), (o0.set (((t17.getD t19.toNat z43).2).1).toNat (iMax (o0.getD (((t17.getD t19.toNat z43).2).1).toNat 0) ((((t17.getD t19.toNat z43).2).2).1)))))
else
some (.inl (W .i64 (t19 + 1), o0))
else
some (.inr o0)
noncomputable def l0 (n : Nat) : Nat → Int → List S43 → Int → List Int → Option (List Int)
| 0, _, _, _, _ => none
| k + 1, t19, t17, t18, o0 => (s0 n t19 t17 t18 o0).bind fun z => sm z (fun z => l0 n k z.1 t17 t18 z.2) some
noncomputable def L0 (n : Nat) : LoopD := ⟨[(3, po 0), (19, pi)], [(17, ph (.row c43)), (18, pi)], [.row 3 (.int .i64)], Int × List Int, fun x => (x.1.2.1, x.2.1), fun r => (((), r.1, ()), (r.2, ())), fun _ => rfl, ⟨2, ⟨[], [.row 3 (.int .i64)]⟩, List Int, fun x => x.2.1, fun r => ((), (r, ())), fun _ => rfl⟩, [], fun x => s0 n x.1.2.1 x.1.2.2.1 x.1.2.2.2.1 x.2.1, [0]⟩
theorem T0 (n : Nat) : FragOK Tryz.prog 73 (atN K 400 58) ((L0 n).loopD fun x => l0 n n x.1.2.1 x.1.2.2.1 x.1.2.2.2.1 x.2.1) := loopR (L0 n) 58 (by kernel_rfl) (by kernel_rfl) (fragK ⟨Tryz.prog, 73, F n, [], [], []⟩ (Fok n) trivial noL 116 (by kernel_rfl) (fun x => by kernel_rfl)) (fun k x => l0 n k x.1.2.1 x.1.2.2.1 x.1.2.2.2.1 x.2.1) (fun x => by kernel_rfl) (fun k x => by kernel_rfl) n
noncomputable abbrev r0 (n : Nat) : List (Nat × FragD) := (58, ((L0 n).loopD fun x => l0 n n x.1.2.1 x.1.2.2.1 x.1.2.2.2.1 x.2.1)) :: []
theorem R0 (n : Nat) : AllFr Tryz.prog 73 K (r0 n) := ⟨T0 n, trivial⟩
end replica_machine_join
open replica_machine_join in
noncomputable def replica_machine_join (n : Nat) (o0 : S56) : Option (Bool × Int × Int × Int × List S43 × List S43 × List S41) :=
ck (decide (0 ≤ o0.2.1 ∧ o0.2.1 ≤ o0.2.1)) <|
ck (room o0.2.1.toNat 8) <|
(l0 n n 0 o0.2.2.2.1 (o0.2.2.2.1.length : Int) (List.replicate o0.2.1.toNat 0)).bind fun z6 =>
(slices_Sort_int_int z6).bind fun z7 =>
(quorum_MaxFaulty o0.2.1).bind fun z8 =>
let v9 := W .i64 ((W .i64 (o0.2.1 - 1)) - z8);
ck (inb v9 z7.length) <|
bif (decide ((z7.getD v9.toNat 0) ≤ o0.2.2.1)) then
some (false, o0.1, o0.2.1, o0.2.2.1, o0.2.2.2.1, o0.2.2.2.2.1, o0.2.2.2.2.2)
else
(replica_machine_send (4, 0, z7.getD v9.toNat 0, 0, 0, 0, (⟨#[]⟩ : ByteArray), ([] : List Int)) (o0.1, o0.2.1, z7.getD v9.toNat 0, o0.2.2.2)).bind fun z11 =>
some (true, z11.1, z11.2.1, z11.2.2.1, z11.2.2.2.1, z11.2.2.2.2.2, z11.2.2.2.2.1)
noncomputable def replica_machine_join.d (n : Nat) : FragD := ⟨⟨[(0, pp 0)], [.stb 130 c56]⟩, [⟨1, ⟨[(0, pb)], [.blk 130 [.h (.int .i64), .h (.int .i64), .h (.int .i64), .h (.row c43), .h (.row c43), .h (.row c41)]]⟩, Bool × Int × Int × Int × List S43 × List S43 × List S41, fun x => (x.1.1, x.2.1.1, x.2.1.2.1, x.2.1.2.2.1, x.2.1.2.2.2.1, x.2.1.2.2.2.2.1, x.2.1.2.2.2.2.2.1), fun r => ((r.1, ()), ((r.2.1, r.2.2.1, r.2.2.2.1, r.2.2.2.2.1, r.2.2.2.2.2.1, r.2.2.2.2.2.2, ()), ())), fun _ => rfl⟩], fun x => replica_machine_join n x.2.1⟩
open replica_machine_join in
theorem replica_machine_join.ok (n : Nat) : FunOK Tryz.prog 131 (replica_machine_join.d n) := funR ⟨Tryz.prog, 73, F n, (r0 n), [], []⟩ Tryz.f131 (by kernel_rfl) (by kernel_rfl) (by kernel_rfl) (Fok n) (R0 n) noL (by kernel_rfl) (fun x => by kernel_rfl)

namespace replica_machine_progress_1_2
noncomputable abbrev F (n : Nat) : List (Nat × FragD) := [(131, replica_machine_join.d n)]
theorem Fok (n : Nat) : AllF Tryz.prog (F n) := ⟨replica_machine_join.ok n, trivial⟩
end replica_machine_progress_1_2
open replica_machine_progress_1_2 in
noncomputable def replica_machine_progress_1_2 (n : Nat) (o1 : S56) : Option (Bool × S56) :=
(replica_machine_join n o1).bind fun z1 =>
some (z1.1, z1.2)
noncomputable def replica_machine_progress_1_2.d (n : Nat) : FragD := ⟨⟨[(0, .w (.c (.fn 131 [] []))), (1, pp 0)], [.blk 128 [.ptr 1 0], .stb 130 c56]⟩, [⟨1, ⟨[(0, pb)], [.same, .stb 130 c56]⟩, Bool × S56, fun x => (x.1.1, x.2.2.1), fun r => ((r.1, ()), ((), r.2, ())), fun _ => rfl⟩], fun x => replica_machine_progress_1_2 n x.2.2.1⟩
open replica_machine_progress_1_2 in
theorem replica_machine_progress_1_2.ok (n : Nat) : FunOK Tryz.prog 119 (replica_machine_progress_1_2.d n) := funR ⟨Tryz.prog, 7, F n, [], [], []⟩ Tryz.f119 (by kernel_rfl) (by kernel_rfl) (by kernel_rfl) (Fok n) trivial noL (by kernel_rfl) (fun x => by kernel_rfl)

namespace replica_machine_prepare_1
noncomputable abbrev F : List (Nat × FragD) := []
theorem Fok : AllF Tryz.prog (F) := trivial
end replica_machine_prepare_1
open replica_machine_prepare_1 in
noncomputable def replica_machine_prepare_1 (t0 : S43) (o1 : S56) : Option Bool :=
some (t0.2.2.1 == o1.2.2.1)
noncomputable def replica_machine_prepare_1.d : FragD := ⟨⟨[(0, pst c43), (1, pp 0)], [.blk 128 [.ptr 1 0], .stb 130 c56]⟩, [⟨1, ⟨[(0, pb)], [.same, .same]⟩, Bool, fun x => x.1.1, fun r => ((r, ()), ((), (), ())), fun _ => rfl⟩], fun x => replica_machine_prepare_1 x.1.1 x.2.2.1⟩
open replica_machine_prepare_1 in
theorem replica_machine_prepare_1.ok : FunOK Tryz.prog 144 (replica_machine_prepare_1.d) := funR ⟨Tryz.prog, 12, F, [], [], []⟩ Tryz.f144 (by kernel_rfl) (by kernel_rfl) (by kernel_rfl) (Fok) trivial noL (by kernel_rfl) (fun x => by kernel_rfl)

namespace replica_machine_proposal_1_2
noncomputable abbrev F : List (Nat × FragD) := [(111, replica_machine_position.d), (144, replica_machine_prepare_1.d)]
theorem Fok : AllF Tryz.prog (F) := ⟨replica_machine_position.ok, replica_machine_prepare_1.ok, trivial⟩
end replica_machine_proposal_1_2
open replica_machine_proposal_1_2 in
noncomputable def replica_machine_proposal_1_2 (t0 : S43) (o2 : S56) : Option Bool :=
bif t0.1 == 1 then
(replica_machine_position o2).bind fun z1 =>
bif t0.2.2.2.1 == z1 then
(replica_machine_prepare_1 t0 o2).bind fun z2 =>
some z2
else
some false
else
some false
noncomputable def replica_machine_proposal_1_2.d : FragD := ⟨⟨[(0, pst c43), (1, pp 0), (2, pp 1)], [.blk 128 [.ptr 2 0], .blk 126 [.fn 144 [] [(3, 0)]], .stb 130 c56, .blk 128 [.ptr 2 0]]⟩, [⟨1, ⟨[(0, pb)], [.same, .same, .same, .same]⟩, Bool, fun x => x.1.1, fun r => ((r, ()), ((), (), (), (), ())), fun _ => rfl⟩], fun x => replica_machine_proposal_1_2 x.1.1 x.2.2.2.1⟩
open replica_machine_proposal_1_2 in
theorem replica_machine_proposal_1_2.ok : FunOK Tryz.prog 150 (replica_machine_proposal_1_2.d) := funR ⟨Tryz.prog, 20, F, [], [], []⟩ Tryz.f150 (by kernel_rfl) (by kernel_rfl) (by kernel_rfl) (Fok) trivial noL (by kernel_rfl) (fun x => by kernel_rfl)

namespace api_Message_117_3
noncomputable abbrev K := cBody Tryz.f117
noncomputable abbrev F (n : Nat) : List (Nat × FragD) := [(150, replica_machine_proposal_1_2.d)]
theorem Fok (n : Nat) : AllF Tryz.prog (F n) := ⟨replica_machine_proposal_1_2.ok, trivial⟩
noncomputable def s0 (n : Nat) (t8 : Int) (t0 : List S43) (t7 : Int) (o2 : S56) : Option ((Int × S56) ⊕ ((Int × S56) ⊕ S56)) :=
bif decide (t8 < t7) then
ck (inb t8 t0.length) <|
(replica_machine_proposal_1_2 ((t0.getD t8.toNat z43).1, ((t0.getD t8.toNat z43).2).1, (((t0.getD t8.toNat z43).2).2).1, ((((t0.getD t8.toNat z43).2).2).2).1, (((((t0.getD t8.toNat z43).2).2).2).2).1, ((((((t0.getD t8.toNat z43).2).2).2).2).2).1, (((((((t0.getD t8.toNat z43).2).2).2).2).2).2)) o2).bind fun z1 =>
bif z1 then
some (.inr (.inl (t8, o2)))
else
some (.inl (W .i64 (t8 + 1), o2))
else
some (.inr (.inr o2))
noncomputable def l0 (n : Nat) : Nat → Int → List S43 → Int → S56 → Option ((Int × S56) ⊕ S56)
| 0, _, _, _, _ => none
| k + 1, t8, t0, t7, o2 => (s0 n t8 t0 t7 o2).bind fun z => sm z (fun z => l0 n k z.1 t0 t7 z.2) some
noncomputable def L0 (n : Nat) : LoopD := ⟨[(1, .w (.c (.fn 150 [] [(0, 0), (1, 0)]))), (8, pi)], [(0, ph (.row c43)), (7, pi)], [.blk 128 [.ptr 2 0], .blk 126 [.fn 144 [] [(3, 0)]], .stb 130 c56, .blk 128 [.ptr 2 0]], Int × S56, fun x => (x.1.2.1, x.2.2.2.1), fun r => (((), r.1, ()), (((), ()), ((), ()), r.2, ((), ()), ())), fun _ => rfl, ⟨1, ⟨[(4, pi)], [.blk 128 [.ptr 2 0], .blk 126 [.fn 144 [] [(3, 0)]], .stb 130 c56, .blk 128 [.ptr 2 0]]⟩, Int × S56, fun x => (x.1.1, x.2.2.2.1), fun r => ((r.1, ()), (((), ()), ((), ()), r.2, ((), ()), ())), fun _ => rfl⟩, [⟨2, ⟨[], [.blk 128 [.ptr 2 0], .blk 126 [.fn 144 [] [(3, 0)]], .stb 130 c56, .blk 128 [.ptr 2 0]]⟩, S56, fun x => x.2.2.2.1, fun r => ((), (((), ()), ((), ()), r, ((), ()), ())), fun _ => rfl⟩], fun x => s0 n x.1.2.1 x.1.2.2.1 x.1.2.2.2.1 x.2.2.2.1, [0, 1, 2, 3]⟩
theorem T0 (n : Nat) : FragOK Tryz.prog 19 (atN K 400 26) ((L0 n).loopD fun x => l0 n n x.1.2.1 x.1.2.2.1 x.1.2.2.2.1 x.2.2.2.1) := loopR (L0 n) 26 (by kernel_rfl) (by kernel_rfl) (fragK ⟨Tryz.prog, 19, F n, [], [], []⟩ (Fok n) trivial noL 52 (by kernel_rfl) (fun x => by kernel_rfl)) (fun k x => l0 n k x.1.2.1 x.1.2.2.1 x.1.2.2.2.1 x.2.2.2.1) (fun x => by kernel_rfl) (fun k x => by kernel_rfl) n
noncomputable abbrev r0 (n : Nat) : List (Nat × FragD) := (26, ((L0 n).loopD fun x => l0 n n x.1.2.1 x.1.2.2.1 x.1.2.2.2.1 x.2.2.2.1)) :: []
theorem R0 (n : Nat) : AllFr Tryz.prog 19 K (r0 n) := ⟨T0 n, trivial⟩
end api_Message_117_3
open api_Message_117_3 in
noncomputable def api_Message_117_3 (n : Nat) (t0 : List S43) (o2 : S56) : Option (Int × S56) :=
(l0 n n 0 t0 (t0.length : Int) o2).bind fun z2 =>
sm z2 (fun z3 =>
some (z3.1, z3.2)) fun z4 =>
some ((-1), z4)
noncomputable def api_Message_117_3.d (n : Nat) : FragD := ⟨⟨[(0, ph (.row c43)), (1, .w (.c (.fn 150 [] [(0, 0), (1, 0)])))], [.blk 128 [.ptr 2 0], .blk 126 [.fn 144 [] [(3, 0)]], .stb 130 c56, .blk 128 [.ptr 2 0]]⟩, [⟨1, ⟨[(0, pi)], [.blk 128 [.ptr 2 0], .blk 126 [.fn 144 [] [(3, 0)]], .stb 130 c56, .blk 128 [.ptr 2 0]]⟩, Int × S56, fun x => (x.1.1, x.2.2.2.1), fun r => ((r.1, ()), (((), ()), ((), ()), r.2, ((), ()), ())), fun _ => rfl⟩], fun x => api_Message_117_3 n x.1.1 x.2.2.2.1⟩
open api_Message_117_3 in
theorem api_Message_117_3.ok (n : Nat) : FunOK Tryz.prog 117 (api_Message_117_3.d n) := funR ⟨Tryz.prog, 19, F n, (r0 n), [], []⟩ Tryz.f117 (by kernel_rfl) (by kernel_rfl) (by kernel_rfl) (Fok n) (R0 n) noL (by kernel_rfl) (fun x => by kernel_rfl)

namespace replica_machine_proposal_2
noncomputable abbrev F (n : Nat) : List (Nat × FragD) := [(117, api_Message_117_3.d n)]
theorem Fok (n : Nat) : AllF Tryz.prog (F n) := ⟨api_Message_117_3.ok n, trivial⟩
end replica_machine_proposal_2
open replica_machine_proposal_2 in
noncomputable def replica_machine_proposal_2 (n : Nat) (o0 : S56) : Option (S43 × Bool × S56) :=
(api_Message_117_3 n o0.2.2.2.1 o0).bind fun z1 =>
bif decide (z1.1 < 0) then
some ((0, 0, 0, 0, 0, 0, (⟨#[]⟩ : ByteArray), ([] : List Int)), false, z1.2)
else
ck (inb z1.1 z1.2.2.2.2.1.length) <|
some ((z1.2.2.2.2.1.getD z1.1.toNat z43), true, z1.2)
noncomputable def replica_machine_proposal_2.d (n : Nat) : FragD := ⟨⟨[(0, pp 0), (1, .w (.c (.fn 144 [] [(1, 0)])))], [.stb 130 c56, .blk 128 [.ptr 0 0]]⟩, [⟨1, ⟨[(0, .tup [.st c43, .c (.h .bool)])], [.stb 130 c56, .blk 128 [.ptr 0 0]]⟩, S43 × Bool × S56, fun x => (x.1.1.1, x.1.1.2.1, x.2.1), fun r => (((r.1, r.2.1, ()), ()), (r.2.2, ((), ()), ())), fun _ => rfl⟩], fun x => replica_machine_proposal_2 n x.2.1⟩
open replica_machine_proposal_2 in
theorem replica_machine_proposal_2.ok (n : Nat) : FunOK Tryz.prog 141 (replica_machine_proposal_2.d n) := funR ⟨Tryz.prog, 25, F n, [], [], []⟩ Tryz.f141 (by kernel_rfl) (by kernel_rfl) (by kernel_rfl) (Fok n) trivial noL (by kernel_rfl) (fun x => by kernel_rfl)


namespace replica_machine_acceptable_1
noncomputable abbrev K := cBody Tryz.f152
noncomputable abbrev F (n : Nat) : List (Nat × FragD) := [(111, replica_machine_position.d), (114, replica_machine_slot.d), (146, quorum_Prepared.d n)]
theorem Fok (n : Nat) : AllF Tryz.prog (F n) := ⟨replica_machine_position.ok, replica_machine_slot.ok, quorum_Prepared.ok n, trivial⟩
noncomputable def j0 (n : Nat) (o1 : S43) (o2 : S43) (o3 : S56) : Option (Unit ⊕ Bool) :=
bif o2.1 != 2 then
some (.inr false)
else
(replica_machine_position o3).bind fun z1 =>
bif o2.2.2.2.1 != z1 then
some (.inr false)
else
bif (decide (o2.2.2.1 ≤ o1.2.2.1)) then
some (.inr false)
else
bif (decide (o2.2.2.1 ≥ o3.2.2.1)) then
some (.inr false)
else
some (.inl ())
noncomputable def D0 (n : Nat) : FragD := ⟨⟨[(1, pp 0), (2, pp 1), (4, pp 2)], [.blk 128 [.ptr 3 0], .stb 43 c43, .stb 43 c43, .stb 130 c56]⟩, [⟨0, ⟨[], [.same, .same, .same, .same]⟩, Unit, fun _ => (), fun _ => ((), ((), (), (), (), ())), fun _ => rfl⟩, ⟨1, ⟨[(5, pb)], [.same, .same, .same, .same]⟩, Bool, fun x => x.1.1, fun r => ((r, ()), ((), (), (), (), ())), fun _ => rfl⟩], fun x => j0 n x.2.2.1 x.2.2.2.1 x.2.2.2.2.1⟩
theorem T0 (n : Nat) : FragOK Tryz.prog 59 (atN K 400 6) (D0 n) := fragR ⟨Tryz.prog, 59, F n, [], [], []⟩ (Fok n) trivial noL 6 (by kernel_rfl) (fun x => by kernel_rfl)
noncomputable abbrev r0 (n : Nat) : List (Nat × FragD) := (6, D0 n) :: []
theorem R0 (n : Nat) : AllFr Tryz.prog 59 K (r0 n) := ⟨T0 n, trivial⟩
end replica_machine_acceptable_1
open replica_machine_acceptable_1 in
noncomputable def replica_machine_acceptable_1 (n : Nat) (t0 : S43) (o1 : S43) (o2 : Int) (o3 : S56) : Option Bool :=
(j0 n o1 t0 o3).bind fun z4 =>
sm z4 (fun z5 =>
(replica_machine_slot t0.2.2.1 o3).bind fun z7 =>
(quorum_Prepared n o3.2.2.2.1 o3.2.1 z7).bind fun z8 =>
bif z8.2 then
some (z8.1 == o2)
else
some false) fun z6 =>
some z6
noncomputable def replica_machine_acceptable_1.d (n : Nat) : FragD := ⟨⟨[(0, pst c43), (1, pp 0), (2, pp 1), (3, pp 2)], [.blk 128 [.ptr 3 0], .stb 43 c43, .stb 39 (.int .u32), .stb 130 c56]⟩, [⟨1, ⟨[(0, pb)], [.same, .same, .same, .same]⟩, Bool, fun x => x.1.1, fun r => ((r, ()), ((), (), (), (), ())), fun _ => rfl⟩], fun x => replica_machine_acceptable_1 n x.1.1 x.2.2.1 x.2.2.2.1 x.2.2.2.2.1⟩
open replica_machine_acceptable_1 in
theorem replica_machine_acceptable_1.ok (n : Nat) : FunOK Tryz.prog 152 (replica_machine_acceptable_1.d n) := funR ⟨Tryz.prog, 59, F n, (r0 n), [], []⟩ Tryz.f152 (by kernel_rfl) (by kernel_rfl) (by kernel_rfl) (Fok n) (R0 n) noL (by kernel_rfl) (fun x => by kernel_rfl)

namespace api_Message_117_4
noncomputable abbrev K := cBody Tryz.f117
noncomputable abbrev F (n : Nat) : List (Nat × FragD) := [(152, replica_machine_acceptable_1.d n)]
theorem Fok (n : Nat) : AllF Tryz.prog (F n) := ⟨replica_machine_acceptable_1.ok n, trivial⟩
noncomputable def s0 (n : Nat) (t8 : Int) (t0 : List S43) (t7 : Int) (o1 : S43) (o2 : Int) (o3 : S56) : Option ((Int × S43 × Int × S56) ⊕ ((Int × S43 × Int × S56) ⊕ (S43 × Int × S56))) :=
bif decide (t8 < t7) then
ck (inb t8 t0.length) <|
(replica_machine_acceptable_1 n ((t0.getD t8.toNat z43).1, ((t0.getD t8.toNat z43).2).1, (((t0.getD t8.toNat z43).2).2).1, ((((t0.getD t8.toNat z43).2).2).2).1, (((((t0.getD t8.toNat z43).2).2).2).2).1, ((((((t0.getD t8.toNat z43).2).2).2).2).2).1, (((((((t0.getD t8.toNat z43).2).2).2).2).2).2)) o1 o2 o3).bind fun z1 =>
bif z1 then
some (.inr (.inl (t8, o1, o2, o3)))
else
some (.inl (W .i64 (t8 + 1), o1, o2, o3))
else
some (.inr (.inr (o1, o2, o3)))
noncomputable def l0 (n : Nat) : Nat → Int → List S43 → Int → S43 → Int → S56 → Option ((Int × S43 × Int × S56) ⊕ (S43 × Int × S56))
| 0, _, _, _, _, _, _ => none
| k + 1, t8, t0, t7, o1, o2, o3 => (s0 n t8 t0 t7 o1 o2 o3).bind fun z => sm z (fun z => l0 n k z.1 t0 t7 z.2.1 z.2.2.1 z.2.2.2) some
noncomputable def L0 (n : Nat) : LoopD := ⟨[(1, .w (.c (.fn 152 [] [(0, 0), (1, 0), (2, 0)]))), (8, pi)], [(0, ph (.row c43)), (7, pi)], [.blk 128 [.ptr 3 0], .stb 43 c43, .stb 39 (.int .u32), .stb 130 c56], Int × S43 × Int × S56, fun x => (x.1.2.1, x.2.2.1, x.2.2.2.1, x.2.2.2.2.1), fun r => (((), r.1, ()), (((), ()), r.2.1, r.2.2.1, r.2.2.2, ())), fun _ => rfl, ⟨1, ⟨[(4, pi)], [.blk 128 [.ptr 3 0], .stb 43 c43, .stb 39 (.int .u32), .stb 130 c56]⟩, Int × S43 × Int × S56, fun x => (x.1.1, x.2.2.1, x.2.2.2.1, x.2.2.2.2.1), fun r => ((r.1, ()), (((), ()), r.2.1, r.2.2.1, r.2.2.2, ())), fun _ => rfl⟩, [⟨2, ⟨[], [.blk 128 [.ptr 3 0], .stb 43 c43, .stb 39 (.int .u32), .stb 130 c56]⟩, S43 × Int × S56, fun x => (x.2.2.1, x.2.2.2.1, x.2.2.2.2.1), fun r => ((), (((), ()), r.1, r.2.1, r.2.2, ())), fun _ => rfl⟩], fun x => s0 n x.1.2.1 x.1.2.2.1 x.1.2.2.2.1 x.2.2.1 x.2.2.2.1 x.2.2.2.2.1, [0, 1, 2, 3]⟩
theorem T0 (n : Nat) : FragOK Tryz.prog 19 (atN K 400 26) ((L0 n).loopD fun x => l0 n n x.1.2.1 x.1.2.2.1 x.1.2.2.2.1 x.2.2.1 x.2.2.2.1 x.2.2.2.2.1) := loopR (L0 n) 26 (by kernel_rfl) (by kernel_rfl) (fragK ⟨Tryz.prog, 19, F n, [], [], []⟩ (Fok n) trivial noL 52 (by kernel_rfl) (fun x => by kernel_rfl)) (fun k x => l0 n k x.1.2.1 x.1.2.2.1 x.1.2.2.2.1 x.2.2.1 x.2.2.2.1 x.2.2.2.2.1) (fun x => by kernel_rfl) (fun k x => by kernel_rfl) n
noncomputable abbrev r0 (n : Nat) : List (Nat × FragD) := (26, ((L0 n).loopD fun x => l0 n n x.1.2.1 x.1.2.2.1 x.1.2.2.2.1 x.2.2.1 x.2.2.2.1 x.2.2.2.2.1)) :: []
theorem R0 (n : Nat) : AllFr Tryz.prog 19 K (r0 n) := ⟨T0 n, trivial⟩
end api_Message_117_4
open api_Message_117_4 in
noncomputable def api_Message_117_4 (n : Nat) (t0 : List S43) (o1 : S43) (o2 : Int) (o3 : S56) : Option (Int × S43 × Int × S56) :=
(l0 n n 0 t0 (t0.length : Int) o1 o2 o3).bind fun z2 =>
sm z2 (fun z3 =>
some (z3.1, z3.2.1, z3.2.2.1, z3.2.2.2)) fun z4 =>
some ((-1), z4.1, z4.2.1, z4.2.2)
noncomputable def api_Message_117_4.d (n : Nat) : FragD := ⟨⟨[(0, ph (.row c43)), (1, .w (.c (.fn 152 [] [(0, 0), (1, 0), (2, 0)])))], [.blk 128 [.ptr 3 0], .stb 43 c43, .stb 39 (.int .u32), .stb 130 c56]⟩, [⟨1, ⟨[(0, pi)], [.blk 128 [.ptr 3 0], .stb 43 c43, .stb 39 (.int .u32), .stb 130 c56]⟩, Int × S43 × Int × S56, fun x => (x.1.1, x.2.2.1, x.2.2.2.1, x.2.2.2.2.1), fun r => ((r.1, ()), (((), ()), r.2.1, r.2.2.1, r.2.2.2, ())), fun _ => rfl⟩], fun x => api_Message_117_4 n x.1.1 x.2.2.1 x.2.2.2.1 x.2.2.2.2.1⟩
open api_Message_117_4 in
theorem api_Message_117_4.ok (n : Nat) : FunOK Tryz.prog 117 (api_Message_117_4.d n) := funR ⟨Tryz.prog, 19, F n, (r0 n), [], []⟩ Tryz.f117 (by kernel_rfl) (by kernel_rfl) (by kernel_rfl) (Fok n) (R0 n) noL (by kernel_rfl) (fun x => by kernel_rfl)

namespace api_Message_99_2
noncomputable abbrev F (n : Nat) : List (Nat × FragD) := [(117, api_Message_117_4.d n)]
theorem Fok (n : Nat) : AllF Tryz.prog (F n) := ⟨api_Message_117_4.ok n, trivial⟩
end api_Message_99_2
open api_Message_99_2 in
noncomputable def api_Message_99_2 (n : Nat) (t0 : List S43) (o1 : S43) (o2 : Int) (o3 : S56) : Option (Bool × S43 × Int × S56) :=
(api_Message_117_4 n t0 o1 o2 o3).bind fun z1 =>
some (decide (z1.1 ≥ 0), z1.2.1, z1.2.2.1, z1.2.2.2)
noncomputable def api_Message_99_2.d (n : Nat) : FragD := ⟨⟨[(0, ph (.row c43)), (1, .w (.c (.fn 152 [] [(0, 0), (1, 0), (2, 0)])))], [.blk 128 [.ptr 3 0], .stb 43 c43, .stb 39 (.int .u32), .stb 130 c56]⟩, [⟨1, ⟨[(0, pb)], [.blk 128 [.ptr 3 0], .stb 43 c43, .stb 39 (.int .u32), .stb 130 c56]⟩, Bool × S43 × Int × S56, fun x => (x.1.1, x.2.2.1, x.2.2.2.1, x.2.2.2.2.1), fun r => ((r.1, ()), (((), ()), r.2.1, r.2.2.1, r.2.2.2, ())), fun _ => rfl⟩], fun x => api_Message_99_2 n x.1.1 x.2.2.1 x.2.2.2.1 x.2.2.2.2.1⟩
open api_Message_99_2 in
theorem api_Message_99_2.ok (n : Nat) : FunOK Tryz.prog 99 (api_Message_99_2.d n) := funR ⟨Tryz.prog, 9, F n, [], [], []⟩ Tryz.f99 (by kernel_rfl) (by kernel_rfl) (by kernel_rfl) (Fok n) trivial noL (by kernel_rfl) (fun x => by kernel_rfl)

namespace replica_machine_acceptable
noncomputable abbrev K := cBody Tryz.f145
noncomputable abbrev F (n : Nat) : List (Nat × FragD) := [(111, replica_machine_position.d), (99, api_Message_99_2.d n)]
theorem Fok (n : Nat) : AllF Tryz.prog (F n) := ⟨replica_machine_position.ok, api_Message_99_2.ok n, trivial⟩
noncomputable def j0 (n : Nat) (t13 : List S43) (t15 : Int) (o1 : S43) (o2 : S56) : Option S43 :=
ck (inb t15 t13.length) <|
bif (((t13.getD t15.toNat z43).1) == 3) then
(replica_machine_position o2).bind fun z2 =>
bif ((((((t13.getD t15.toNat z43).2).2).2).1) == z2) then
bif (decide (((((t13.getD t15.toNat z43).2).2).1) > o1.2.2.1)) then
some ((t13.getD t15.toNat z43).1, ((t13.getD t15.toNat z43).2).1, (((t13.getD t15.toNat z43).2).2).1, ((((t13.getD t15.toNat z43).2).2).2).1, (((((t13.getD t15.toNat z43).2).2).2).2).1, ((((((t13.getD t15.toNat z43).2).2).2).2).2).1, (((((((t13.getD t15.toNat z43).2).2).2).2).2).2))
else
some o1
else
some o1
else
some o1
noncomputable def D0 (n : Nat) : FragD := ⟨⟨[(2, pp 0), (5, pp 1), (13, ph (.row c43)), (15, pi)], [.blk 128 [.ptr 2 0], .stb 43 c43, .stb 130 c56]⟩, [⟨0, ⟨[], [.same, .stb 43 c43, .same]⟩, S43, fun x => x.2.2.1, fun r => ((), ((), r, (), ())), fun _ => rfl⟩], fun x => j0 n x.1.2.2.1 x.1.2.2.2.1 x.2.2.1 x.2.2.2.1⟩
theorem T0 (n : Nat) : FragOK Tryz.prog 54 (atN K 400 934) (D0 n) := fragR ⟨Tryz.prog, 54, F n, [], [], []⟩ (Fok n) trivial noL 934 (by kernel_rfl) (fun x => by kernel_rfl)
noncomputable abbrev r0 (n : Nat) : List (Nat × FragD) := (934, D0 n) :: []
theorem R0 (n : Nat) : AllFr Tryz.prog 54 K (r0 n) := ⟨T0 n, trivial⟩
noncomputable def s1 (n : Nat) (t15 : Int) (t13 : List S43) (t14 : Int) (o1 : S43) (o2 : S56) : Option ((Int × S43 × S56) ⊕ (S43 × S56)) :=
bif decide (t15 < t14) then
(j0 n t13 t15 o1 o2).bind fun z5 =>
some (.inl (W .i64 (t15 + 1), z5, o2))
else
some (.inr (o1, o2))
noncomputable def l1 (n : Nat) : Nat → Int → List S43 → Int → S43 → S56 → Option (S43 × S56)
| 0, _, _, _, _, _ => none
| k + 1, t15, t13, t14, o1, o2 => (s1 n t15 t13 t14 o1 o2).bind fun z => sm z (fun z => l1 n k z.1 t13 t14 z.2.1 z.2.2) some
noncomputable def L1 (n : Nat) : LoopD := ⟨[(2, pp 0), (5, pp 1), (15, pi)], [(13, ph (.row c43)), (14, pi)], [.blk 128 [.ptr 2 0], .stb 43 c43, .stb 130 c56], Int × S43 × S56, fun x => (x.1.2.2.1, x.2.2.1, x.2.2.2.1), fun r => (((), (), r.1, ()), (((), ()), r.2.1, r.2.2, ())), fun _ => rfl, ⟨2, ⟨[], [.blk 128 [.ptr 2 0], .stb 43 c43, .stb 130 c56]⟩, S43 × S56, fun x => (x.2.2.1, x.2.2.2.1), fun r => ((), (((), ()), r.1, r.2, ())), fun _ => rfl⟩, [], fun x => s1 n x.1.2.2.1 x.1.2.2.2.1 x.1.2.2.2.2.1 x.2.2.1 x.2.2.2.1, [0, 1, 2]⟩
theorem T1 (n : Nat) : FragOK Tryz.prog 54 (atN K 400 58) ((L1 n).loopD fun x => l1 n n x.1.2.2.1 x.1.2.2.2.1 x.1.2.2.2.2.1 x.2.2.1 x.2.2.2.1) := loopR (L1 n) 58 (by kernel_rfl) (by kernel_rfl) (fragK ⟨Tryz.prog, 54, F n, (r0 n), [], []⟩ (Fok n) (R0 n) noL 116 (by kernel_rfl) (fun x => by kernel_rfl)) (fun k x => l1 n k x.1.2.2.1 x.1.2.2.2.1 x.1.2.2.2.2.1 x.2.2.1 x.2.2.2.1) (fun x => by kernel_rfl) (fun k x => by kernel_rfl) n
noncomputable abbrev r1 (n : Nat) : List (Nat × FragD) := (58, ((L1 n).loopD fun x => l1 n n x.1.2.2.1 x.1.2.2.2.1 x.1.2.2.2.2.1 x.2.2.1 x.2.2.2.1)) :: (r0 n)
theorem R1 (n : Nat) : AllFr Tryz.prog 54 K (r1 n) := ⟨T1 n, R0 n⟩
noncomputable def j2 (n : Nat) (o0 : Int) (o1 : S43) : Option (Unit ⊕ Bool) :=
bif decide (o1.2.2.1 < 0) then
some (.inr true)
else
bif o1.2.2.2.2.1 == o0 then
some (.inr true)
else
some (.inl ())
noncomputable def D2 (n : Nat) : FragD := ⟨⟨[(3, pp 0), (5, pp 1)], [.stb 39 (.int .u32), .stb 43 c43]⟩, [⟨0, ⟨[], [.same, .same]⟩, Unit, fun _ => (), fun _ => ((), ((), (), ())), fun _ => rfl⟩, ⟨1, ⟨[(4, pb)], [.same, .same]⟩, Bool, fun x => x.1.1, fun r => ((r, ()), ((), (), ())), fun _ => rfl⟩], fun x => j2 n x.2.1 x.2.2.1⟩
theorem T2 (n : Nat) : FragOK Tryz.prog 54 (atN K 400 30) (D2 n) := fragR ⟨Tryz.prog, 54, F n, (r1 n), [], []⟩ (Fok n) (R1 n) noL 30 (by kernel_rfl) (fun x => by kernel_rfl)
noncomputable abbrev r2 (n : Nat) : List (Nat × FragD) := (30, D2 n) :: (r1 n)
theorem R2 (n : Nat) : AllFr Tryz.prog 54 K (r2 n) := ⟨T2 n, R1 n⟩
end replica_machine_acceptable
open replica_machine_acceptable in
noncomputable def replica_machine_acceptable (n : Nat) (t1 : Int) (o0 : S56) : Option (Bool × S56) :=
(l1 n n 0 o0.2.2.2.2.1 (o0.2.2.2.2.1.length : Int) (0, 0, (-1), 0, 0, 0, (⟨#[]⟩ : ByteArray), ([] : List Int)) o0).bind fun z6 =>
(j2 n t1 z6.1).bind fun z7 =>
sm z7 (fun z8 =>
(api_Message_99_2 n z6.2.2.2.2.1 z6.1 t1 z6.2).bind fun z10 =>
some (z10.1, z10.2.2.2)) fun z9 =>
some (z9, z6.2)
noncomputable def replica_machine_acceptable.d (n : Nat) : FragD := ⟨⟨[(0, pp 0), (1, ph (.int .u32))], [.stb 130 c56]⟩, [⟨1, ⟨[(0, pb)], [.stb 130 c56]⟩, Bool × S56, fun x => (x.1.1, x.2.1), fun r => ((r.1, ()), (r.2, ())), fun _ => rfl⟩], fun x => replica_machine_acceptable n x.1.2.1 x.2.1⟩
open replica_machine_acceptable in
theorem replica_machine_acceptable.ok (n : Nat) : FunOK Tryz.prog 145 (replica_machine_acceptable.d n) := funR ⟨Tryz.prog, 54, F n, (r2 n), [], []⟩ Tryz.f145 (by kernel_rfl) (by kernel_rfl) (by kernel_rfl) (Fok n) (R2 n) noL (by kernel_rfl) (fun x => by kernel_rfl)

namespace replica_machine_prepare
noncomputable abbrev K := cBody Tryz.f132
noncomputable abbrev F (n : Nat) : List (Nat × FragD) := [(141, replica_machine_proposal_2.d n), (111, replica_machine_position.d), (112, replica_machine_sent.d n), (145, replica_machine_acceptable.d n), (108, replica_machine_send.d)]
theorem Fok (n : Nat) : AllF Tryz.prog (F n) := ⟨replica_machine_proposal_2.ok n, replica_machine_position.ok, replica_machine_sent.ok n, replica_machine_acceptable.ok n, replica_machine_send.ok, trivial⟩
noncomputable def j0 (n : Nat) (t4 : Bool) (o1 : S43) (o2 : S56) : Option (S56 ⊕ (Bool × S56)) :=
bif !t4 then
some (.inr (false, o2))
else
(replica_machine_position o2).bind fun z2 =>
bif decide (z2 ≥ 1000) then
some (.inr (false, o2))
else
(replica_machine_sent n 2 o2).bind fun z3 =>
bif z3.1 then
some (.inr (false, z3.2))
else
(replica_machine_acceptable n o1.2.2.2.2.1 z3.2).bind fun z4 =>
bif !z4.1 then
some (.inr (false, z4.2))
else
some (.inl z4.2)
noncomputable def D0 (n : Nat) : FragD := ⟨⟨[(1, pp 0), (3, pp 1), (4, pb)], [.blk 128 [.ptr 2 0], .stb 43 c43, .stb 130 c56]⟩, [⟨0, ⟨[], [.same, .same, .stb 130 c56]⟩, S56, fun x => x.2.2.2.1, fun r => ((), ((), (), r, ())), fun _ => rfl⟩, ⟨1, ⟨[(2, pb)], [.same, .same, .stb 130 c56]⟩, Bool × S56, fun x => (x.1.1, x.2.2.2.1), fun r => ((r.1, ()), ((), (), r.2, ())), fun _ => rfl⟩], fun x => j0 n x.1.2.2.1 x.2.2.1 x.2.2.2.1⟩
set_option maxRecDepth 1000000 in
theorem T0 (n : Nat) : FragOK Tryz.prog 41 (atN K 400 14) (D0 n) := fragR ⟨Tryz.prog, 41, F n, [], [], []⟩ (Fok n) trivial noL 14 (by kernel_rfl) (fun x => by kernel_rfl)
noncomputable abbrev r0 (n : Nat) : List (Nat × FragD) := (14, D0 n) :: []
theorem R0 (n : Nat) : AllFr Tryz.prog 41 K (r0 n) := ⟨T0 n, trivial⟩
end replica_machine_prepare
open replica_machine_prepare in
noncomputable def replica_machine_prepare (n : Nat) (o0 : S56) : Option (Bool × Int × Int × Int × List S43 × List S43 × List S41) :=
(replica_machine_proposal_2 n o0).bind fun z1 =>
(j0 n z1.2.1 z1.1 z1.2.2).bind fun z5 =>
sm z5 (fun z6 =>
(replica_machine_position z6).bind fun z8 =>
(replica_machine_send (2, 0, z6.2.2.1, z8, z1.1.2.2.2.2.1, 0, (⟨#[]⟩ : ByteArray), ([] : List Int)) z6).bind fun z9 =>
some (true, z9.1, z9.2.1, z9.2.2.1, z9.2.2.2.1, z9.2.2.2.2.2, z9.2.2.2.2.1)) fun z7 =>
some (z7.1, z7.2.1, z7.2.2.1, z7.2.2.2.1, z7.2.2.2.2.1, z7.2.2.2.2.2.1, z7.2.2.2.2.2.2)
noncomputable def replica_machine_prepare.d (n : Nat) : FragD := ⟨⟨[(0, pp 0)], [.stb 130 c56]⟩, [⟨1, ⟨[(0, pb)], [.blk 130 [.h (.int .i64), .h (.int .i64), .h (.int .i64), .h (.row c43), .h (.row c43), .h (.row c41)]]⟩, Bool × Int × Int × Int × List S43 × List S43 × List S41, fun x => (x.1.1, x.2.1.1, x.2.1.2.1, x.2.1.2.2.1, x.2.1.2.2.2.1, x.2.1.2.2.2.2.1, x.2.1.2.2.2.2.2.1), fun r => ((r.1, ()), ((r.2.1, r.2.2.1, r.2.2.2.1, r.2.2.2.2.1, r.2.2.2.2.2.1, r.2.2.2.2.2.2, ()), ())), fun _ => rfl⟩], fun x => replica_machine_prepare n x.2.1⟩
open replica_machine_prepare in
set_option maxRecDepth 1000000 in
theorem replica_machine_prepare.ok (n : Nat) : FunOK Tryz.prog 132 (replica_machine_prepare.d n) := funR ⟨Tryz.prog, 41, F n, (r0 n), [], []⟩ Tryz.f132 (by kernel_rfl) (by kernel_rfl) (by kernel_rfl) (Fok n) (R0 n) noL (by kernel_rfl) (fun x => by kernel_rfl)
end Go.Proofs.YtfecniimkgkmfaaGreat
set_option linter.unusedVariables false
namespace Go.Proofs.YtfecniimkgkmfaaGreat
open Go Go.RowKit Go.Proofs.YtfecniimkgkmfaaGreat.RW Go.Proofs.YtfecniimkgkmfaaGreat.AM
namespace replica_machine_progress_1_3
noncomputable abbrev F (n : Nat) : List (Nat × FragD) := [(132, replica_machine_prepare.d n)]
theorem Fok (n : Nat) : AllF Tryz.prog (F n) := ⟨replica_machine_prepare.ok n, trivial⟩
end replica_machine_progress_1_3
open replica_machine_progress_1_3 in
noncomputable def replica_machine_progress_1_3 (n : Nat) (o1 : S56) : Option (Bool × S56) :=
(replica_machine_prepare n o1).bind fun z1 =>
some (z1.1, z1.2)
noncomputable def replica_machine_progress_1_3.d (n : Nat) : FragD := ⟨⟨[(0, .w (.c (.fn 132 [] []))), (1, pp 0)], [.blk 128 [.ptr 1 0], .stb 130 c56]⟩, [⟨1, ⟨[(0, pb)], [.same, .stb 130 c56]⟩, Bool × S56, fun x => (x.1.1, x.2.2.1), fun r => ((r.1, ()), ((), r.2, ())), fun _ => rfl⟩], fun x => replica_machine_progress_1_3 n x.2.2.1⟩
open replica_machine_progress_1_3 in
set_option maxRecDepth 1000000 in
theorem replica_machine_progress_1_3.ok (n : Nat) : FunOK Tryz.prog 119 (replica_machine_progress_1_3.d n) := funR ⟨Tryz.prog, 7, F n, [], [], []⟩ Tryz.f119 (by kernel_rfl) (by kernel_rfl) (by kernel_rfl) (Fok n) trivial noL (by kernel_rfl) (fun x => by kernel_rfl)

namespace replica_machine_lock
noncomputable abbrev K := cBody Tryz.f133
noncomputable abbrev F (n : Nat) : List (Nat × FragD) := [(114, replica_machine_slot.d), (146, quorum_Prepared.d n), (112, replica_machine_sent.d n), (142, replica_withSum.d), (141, replica_machine_proposal.d n), (111, replica_machine_position.d), (108, replica_machine_send.d)]
theorem Fok (n : Nat) : AllF Tryz.prog (F n) := ⟨replica_machine_slot.ok, quorum_Prepared.ok n, replica_machine_sent.ok n, replica_withSum.ok, replica_machine_proposal.ok n, replica_machine_position.ok, replica_machine_send.ok, trivial⟩
noncomputable def j0 (n : Nat) (t4 : Bool) (o0 : S56) : Option (S56 ⊕ (Bool × S56)) :=
bif !t4 then
some (.inr (false, o0))
else
(replica_machine_sent n 3 o0).bind fun z3 =>
bif z3.1 then
some (.inr (false, z3.2))
else
some (.inl z3.2)
noncomputable def D0 (n : Nat) : FragD := ⟨⟨[(0, pp 0), (4, pb)], [.stb 130 c56]⟩, [⟨0, ⟨[], [.stb 130 c56]⟩, S56, fun x => x.2.1, fun r => ((), (r, ())), fun _ => rfl⟩, ⟨1, ⟨[(2, pb)], [.stb 130 c56]⟩, Bool × S56, fun x => (x.1.1, x.2.1), fun r => ((r.1, ()), (r.2, ())), fun _ => rfl⟩], fun x => j0 n x.1.2.1 x.2.1⟩
theorem T0 (n : Nat) : FragOK Tryz.prog 54 (atN K 400 14) (D0 n) := fragR ⟨Tryz.prog, 54, F n, [], [], []⟩ (Fok n) trivial noL 14 (by kernel_rfl) (fun x => by kernel_rfl)
noncomputable abbrev r0 (n : Nat) : List (Nat × FragD) := (14, D0 n) :: []
theorem R0 (n : Nat) : AllFr Tryz.prog 54 K (r0 n) := ⟨T0 n, trivial⟩
end replica_machine_lock
open replica_machine_lock in
noncomputable def replica_machine_lock (n : Nat) (o0 : S56) : Option (Bool × Int × Int × Int × List S43 × List S43 × List S41) :=
(replica_machine_slot o0.2.2.1 o0).bind fun z1 =>
(quorum_Prepared n o0.2.2.2.1 o0.2.1 z1).bind fun z2 =>
(j0 n z2.2 o0).bind fun z4 =>
sm z4 (fun z5 =>
(replica_withSum z2.1).bind fun z7 =>
(replica_machine_proposal n z5 z7).bind fun z8 =>
bif !z8.2.1 then
some (false, z8.2.2.1.1, z8.2.2.1.2.1, z8.2.2.1.2.2.1, z8.2.2.1.2.2.2.1, z8.2.2.1.2.2.2.2.1, z8.2.2.1.2.2.2.2.2)
else
(replica_machine_position z8.2.2.1).bind fun z9 =>
(replica_machine_send (3, 0, z8.2.2.1.2.2.1, z9, z2.1, 0, (⟨#[]⟩ : ByteArray), ([] : List Int)) z8.2.2.1).bind fun z10 =>
some (true, z10.1, z10.2.1, z10.2.2.1, z10.2.2.2.1, z10.2.2.2.2.2, z10.2.2.2.2.1)) fun z6 =>
some (z6.1, z6.2.1, z6.2.2.1, z6.2.2.2.1, z6.2.2.2.2.1, z6.2.2.2.2.2.1, z6.2.2.2.2.2.2)
noncomputable def replica_machine_lock.d (n : Nat) : FragD := ⟨⟨[(0, pp 0)], [.stb 130 c56]⟩, [⟨1, ⟨[(0, pb)], [.blk 130 [.h (.int .i64), .h (.int .i64), .h (.int .i64), .h (.row c43), .h (.row c43), .h (.row c41)]]⟩, Bool × Int × Int × Int × List S43 × List S43 × List S41, fun x => (x.1.1, x.2.1.1, x.2.1.2.1, x.2.1.2.2.1, x.2.1.2.2.2.1, x.2.1.2.2.2.2.1, x.2.1.2.2.2.2.2.1), fun r => ((r.1, ()), ((r.2.1, r.2.2.1, r.2.2.2.1, r.2.2.2.2.1, r.2.2.2.2.2.1, r.2.2.2.2.2.2, ()), ())), fun _ => rfl⟩], fun x => replica_machine_lock n x.2.1⟩
open replica_machine_lock in
theorem replica_machine_lock.ok (n : Nat) : FunOK Tryz.prog 133 (replica_machine_lock.d n) := funR ⟨Tryz.prog, 54, F n, (r0 n), [], []⟩ Tryz.f133 (by kernel_rfl) (by kernel_rfl) (by kernel_rfl) (Fok n) (R0 n) noL (by kernel_rfl) (fun x => by kernel_rfl)

namespace replica_machine_progress_1_4
noncomputable abbrev F (n : Nat) : List (Nat × FragD) := [(133, replica_machine_lock.d n)]
theorem Fok (n : Nat) : AllF Tryz.prog (F n) := ⟨replica_machine_lock.ok n, trivial⟩
end replica_machine_progress_1_4
open replica_machine_progress_1_4 in
noncomputable def replica_machine_progress_1_4 (n : Nat) (o1 : S56) : Option (Bool × S56) :=
(replica_machine_lock n o1).bind fun z1 =>
some (z1.1, z1.2)
noncomputable def replica_machine_progress_1_4.d (n : Nat) : FragD := ⟨⟨[(0, .w (.c (.fn 133 [] []))), (1, pp 0)], [.blk 128 [.ptr 1 0], .stb 130 c56]⟩, [⟨1, ⟨[(0, pb)], [.same, .stb 130 c56]⟩, Bool × S56, fun x => (x.1.1, x.2.2.1), fun r => ((r.1, ()), ((), r.2, ())), fun _ => rfl⟩], fun x => replica_machine_progress_1_4 n x.2.2.1⟩
open replica_machine_progress_1_4 in
theorem replica_machine_progress_1_4.ok (n : Nat) : FunOK Tryz.prog 119 (replica_machine_progress_1_4.d n) := funR ⟨Tryz.prog, 7, F n, [], [], []⟩ Tryz.f119 (by kernel_rfl) (by kernel_rfl) (by kernel_rfl) (Fok n) trivial noL (by kernel_rfl) (fun x => by kernel_rfl)

namespace replica_machine_bool_134
noncomputable abbrev F (n : Nat) : List (Nat × FragD) := [(119, replica_machine_progress_1.d n), (119, replica_machine_progress_1_2.d n), (119, replica_machine_progress_1_3.d n), (119, replica_machine_progress_1_4.d n)]
theorem Fok (n : Nat) : AllF Tryz.prog (F n) := ⟨replica_machine_progress_1.ok n, replica_machine_progress_1_2.ok n, replica_machine_progress_1_3.ok n, replica_machine_progress_1_4.ok n, trivial⟩
end replica_machine_bool_134
open replica_machine_bool_134 in
noncomputable def replica_machine_bool_134 (n : Nat) (o2 : S56) : Option (Int × S56) :=
(replica_machine_progress_1 n o2).bind fun z1 =>
bif z1.1 then
some (0, z1.2)
else
(replica_machine_progress_1_2 n z1.2).bind fun z2 =>
bif z2.1 then
some (1, z2.2)
else
(replica_machine_progress_1_3 n z2.2).bind fun z3 =>
bif z3.1 then
some (2, z3.2)
else
(replica_machine_progress_1_4 n z3.2).bind fun z4 =>
bif z4.1 then
some (3, z4.2)
else
some ((-1), z4.2)
noncomputable def replica_machine_bool_134.d (n : Nat) : FragD := ⟨⟨[(0, .w (.c (.sb 0 4))), (1, .w (.c (.fn 119 [] [(1, 0)])))], [.blk 143 [.fn 130 [] [], .fn 131 [] [], .fn 132 [] [], .fn 133 [] []], .blk 128 [.ptr 2 0], .stb 130 c56]⟩, [⟨1, ⟨[(0, pi)], [.same, .same, .stb 130 c56]⟩, Int × S56, fun x => (x.1.1, x.2.2.2.1), fun r => ((r.1, ()), ((), (), r.2, ())), fun _ => rfl⟩], fun x => replica_machine_bool_134 n x.2.2.2.1⟩
open replica_machine_bool_134 in
set_option maxRecDepth 1000000 in
theorem replica_machine_bool_134.ok (n : Nat) : FunOK Tryz.prog 134 (replica_machine_bool_134.d n) := funR ⟨Tryz.prog, 19, F n, [], [], [(26, 4)]⟩ Tryz.f134 (by kernel_rfl) (by kernel_rfl) (by kernel_rfl) (Fok n) trivial noL (by kernel_rfl) (fun x => by kernel_rfl)

namespace replica_machine_bool
noncomputable abbrev F (n : Nat) : List (Nat × FragD) := [(134, replica_machine_bool_134.d n)]
theorem Fok (n : Nat) : AllF Tryz.prog (F n) := ⟨replica_machine_bool_134.ok n, trivial⟩
end replica_machine_bool
open replica_machine_bool in
noncomputable def replica_machine_bool (n : Nat) (o2 : S56) : Option (Bool × S56) :=
(replica_machine_bool_134 n o2).bind fun z1 =>
some (decide (z1.1 ≥ 0), z1.2)
noncomputable def replica_machine_bool.d (n : Nat) : FragD := ⟨⟨[(0, .w (.c (.sb 0 4))), (1, .w (.c (.fn 119 [] [(1, 0)])))], [.blk 143 [.fn 130 [] [], .fn 131 [] [], .fn 132 [] [], .fn 133 [] []], .blk 128 [.ptr 2 0], .stb 130 c56]⟩, [⟨1, ⟨[(0, pb)], [.blk 143 [.fn 130 [] [], .fn 131 [] [], .fn 132 [] [], .fn 133 [] []], .same, .stb 130 c56]⟩, Bool × S56, fun x => (x.1.1, x.2.2.2.1), fun r => ((r.1, ()), (((), (), (), (), ()), (), r.2, ())), fun _ => rfl⟩], fun x => replica_machine_bool n x.2.2.2.1⟩
open replica_machine_bool in
set_option maxRecDepth 1000000 in
theorem replica_machine_bool.ok (n : Nat) : FunOK Tryz.prog 120 (replica_machine_bool.d n) := funR ⟨Tryz.prog, 9, F n, [], [], []⟩ Tryz.f120 (by kernel_rfl) (by kernel_rfl) (by kernel_rfl) (Fok n) trivial noL (by kernel_rfl) (fun x => by kernel_rfl)

namespace replica_machine_progress
noncomputable abbrev K := cBody Tryz.f101
noncomputable abbrev F (n : Nat) : List (Nat × FragD) := [(118, replica_rules.d), (120, replica_machine_bool.d n)]
theorem Fok (n : Nat) : AllF Tryz.prog (F n) := ⟨replica_rules.ok, replica_machine_bool.ok n, trivial⟩
noncomputable def s0 (n : Nat) (o2 : S56) : Option (S56 ⊕ S56) :=
(replica_machine_bool n o2).bind fun z2 =>
bif z2.1 then
some (.inl z2.2)
else
some (.inr z2.2)
noncomputable def l0 (n : Nat) : Nat → S56 → Option S56
| 0, _ => none
| k + 1, o2 => (s0 n o2).bind fun z => sm z (fun z => l0 n k z) some
noncomputable def L0 (n : Nat) : LoopD := ⟨[(2, .w (.c (.sb 0 4))), (3, .w (.c (.fn 119 [] [(1, 0)])))], [], [.blk 143 [.fn 130 [] [], .fn 131 [] [], .fn 132 [] [], .fn 133 [] []], .blk 128 [.ptr 2 0], .stb 130 c56], S56, fun x => x.2.2.2.1, fun r => (((), (), ()), (((), (), (), (), ()), ((), ()), r, ())), fun _ => rfl, ⟨2, ⟨[], [.blk 143 [.fn 130 [] [], .fn 131 [] [], .fn 132 [] [], .fn 133 [] []], .blk 128 [.ptr 2 0], .stb 130 c56]⟩, S56, fun x => x.2.2.2.1, fun r => ((), (((), (), (), (), ()), ((), ()), r, ())), fun _ => rfl⟩, [], fun x => s0 n x.2.2.2.1, [0, 1, 2]⟩
set_option maxRecDepth 1000000 in
theorem T0 (n : Nat) : FragOK Tryz.prog 9 (atN K 400 30) ((L0 n).loopD fun x => l0 n n x.2.2.2.1) := loopR (L0 n) 30 (by kernel_rfl) (by kernel_rfl) (fragK ⟨Tryz.prog, 9, F n, [], [], []⟩ (Fok n) trivial noL 60 (by kernel_rfl) (fun x => by kernel_rfl)) (fun k x => l0 n k x.2.2.2.1) (fun x => by kernel_rfl) (fun k x => by kernel_rfl) n
noncomputable abbrev r0 (n : Nat) : List (Nat × FragD) := (30, ((L0 n).loopD fun x => l0 n n x.2.2.2.1)) :: []
theorem R0 (n : Nat) : AllFr Tryz.prog 9 K (r0 n) := ⟨T0 n, trivial⟩
end replica_machine_progress
open replica_machine_progress in
noncomputable def replica_machine_progress (n : Nat) (o0 : S56) : Option S56 :=
(replica_rules).bind fun _ =>
(l0 n n o0).bind fun z3 =>
some z3
noncomputable def replica_machine_progress.d (n : Nat) : FragD := ⟨⟨[(0, pp 0)], [.stb 130 c56]⟩, [⟨1, ⟨[(0, .tup [])], [.stb 130 c56]⟩, S56, fun x => x.2.1, fun r => (((), ()), (r, ())), fun _ => rfl⟩], fun x => replica_machine_progress n x.2.1⟩
open replica_machine_progress in
set_option maxRecDepth 1000000 in
theorem replica_machine_progress.ok (n : Nat) : FunOK Tryz.prog 101 (replica_machine_progress.d n) := funR ⟨Tryz.prog, 9, F n, (r0 n), [], []⟩ Tryz.f101 (by kernel_rfl) (by kernel_rfl) (by kernel_rfl) (Fok n) (R0 n) noL (by kernel_rfl) (fun x => by kernel_rfl)

namespace replica_Timeout
noncomputable abbrev F (n : Nat) : List (Nat × FragD) := [(108, replica_machine_send.d), (101, replica_machine_progress.d n)]
theorem Fok (n : Nat) : AllF Tryz.prog (F n) := ⟨replica_machine_send.ok, replica_machine_progress.ok n, trivial⟩
end replica_Timeout
open replica_Timeout in
noncomputable def replica_Timeout (n : Nat) (t0 : S56) : Option (S56 × List S43) :=
bif (decide (t0.2.2.1 ≥ 1048576)) then
some (t0, ([] : List S43))
else
(replica_machine_send (4, 0, W .i64 (t0.2.2.1 + 1), 0, 0, 0, (⟨#[]⟩ : ByteArray), ([] : List Int)) (t0.1, t0.2.1, W .i64 (t0.2.2.1 + 1), t0.2.2.2)).bind fun z2 =>
(replica_machine_progress n (z2.1, z2.2.1, z2.2.2.1, z2.2.2.2.1, z2.2.2.2.2.2, z2.2.2.2.2.1)).bind fun z3 =>
ck (inb (t0.2.2.2.2.1.length : Int) (z3.2.2.2.2.1.length + 1)) <|
some (z3, (z3.2.2.2.2.1.drop (t0.2.2.2.2.1.length : Int).toNat))
noncomputable def replica_Timeout.d (n : Nat) : FragD := ⟨⟨[(0, pst c56)], []⟩, [⟨1, ⟨[(0, .tup [.st c56, .c (.h (.row c43))])], []⟩, S56 × List S43, fun x => (x.1.1.1, x.1.1.2.1), fun r => (((r.1, r.2, ()), ()), ()), fun _ => rfl⟩], fun x => replica_Timeout n x.1.1⟩
open replica_Timeout in
set_option maxRecDepth 1000000 in
theorem replica_Timeout.ok (n : Nat) : FunOK Tryz.prog 93 (replica_Timeout.d n) := funR ⟨Tryz.prog, 44, F n, [], [], []⟩ Tryz.f93 (by kernel_rfl) (by kernel_rfl) (by kernel_rfl) (Fok n) trivial noL (by kernel_rfl) (fun x => by kernel_rfl)

namespace simnet_network_timeout
noncomputable abbrev F (n : Nat) : List (Nat × FragD) := [(51, simnet_network_honest.d n), (93, replica_Timeout.d n), (82, simnet_network_send.d n)]
theorem Fok (n : Nat) : AllF Tryz.prog (F n) := ⟨simnet_network_honest.ok n, replica_Timeout.ok n, simnet_network_send.ok n, trivial⟩
end simnet_network_timeout
open simnet_network_timeout in
noncomputable def simnet_network_timeout (n : Nat) (t1 : S45) (o0 : List Int) (o1 : List S56) (o2 : List S43) (o3 : List Int) : Option (List Int × List S56 × List S43 × List Int) :=
(simnet_network_honest n t1.2.2.1 o0 o1 o2 o3).bind fun z1 =>
bif z1 then
ck (inb t1.2.2.1 o1.length) <|
(replica_Timeout n (o1.getD t1.2.2.1.toNat z56)).bind fun z3 =>
ck (inb t1.2.2.1 o1.length) <|
(simnet_network_send n z3.2 o0 (o1.set t1.2.2.1.toNat z3.1) o2 o3).bind fun z5 =>
some (z5.1, z5.2.1, z5.2.2.1, z5.2.2.2)
else
some (o0, o1, o2, o3)
noncomputable def simnet_network_timeout.d (n : Nat) : FragD := ⟨⟨[(0, pp 0), (1, pst c45)], [.blk 92 [.sl 1, .sl 2, .sl 3, .h (.row (.int .i64))], .row 56 c56, .row 43 c43, .row 3 (.int .i64)]⟩, [⟨1, ⟨[(0, .tup [])], [.blk 92 [.sl 1, .sl 4, .sl 5, .h (.row (.int .i64))], .row 56 c56, .gone, .gone, .row 43 c43, .row 3 (.int .i64)]⟩, List Int × List S56 × List S43 × List Int, fun x => (x.2.1.2.2.2.1, x.2.2.1, x.2.2.2.2.2.1, x.2.2.2.2.2.2.1), fun r => (((), ()), (((), (), (), r.1, ()), r.2.1, (), (), r.2.2.1, r.2.2.2, ())), fun _ => rfl⟩], fun x => simnet_network_timeout n x.1.2.1 x.2.1.2.2.2.1 x.2.2.1 x.2.2.2.1 x.2.2.2.2.1⟩
open simnet_network_timeout in
set_option maxRecDepth 1000000 in
theorem simnet_network_timeout.ok (n : Nat) : FunOK Tryz.prog 76 (simnet_network_timeout.d n) := funR ⟨Tryz.prog, 35, F n, [], [], []⟩ Tryz.f76 (by kernel_rfl) (by kernel_rfl) (by kernel_rfl) (Fok n) trivial noL (by kernel_rfl) (fun x => by kernel_rfl)

namespace replica_Recover
noncomputable abbrev F : List (Nat × FragD) := []
theorem Fok : AllF Tryz.prog (F) := trivial
end replica_Recover
open replica_Recover in
noncomputable def replica_Recover (t0 : S56) : Option S56 :=
some (t0.1, t0.2.1, t0.2.2.1, ([] : List S43), t0.2.2.2.2)
noncomputable def replica_Recover.d : FragD := ⟨⟨[(0, pst c56)], []⟩, [⟨1, ⟨[(0, pst c56)], []⟩, S56, fun x => x.1.1, fun r => ((r, ()), ()), fun _ => rfl⟩], fun x => replica_Recover x.1.1⟩
open replica_Recover in
theorem replica_Recover.ok : FunOK Tryz.prog 92 (replica_Recover.d) := funR ⟨Tryz.prog, 5, F, [], [], []⟩ Tryz.f92 (by kernel_rfl) (by kernel_rfl) (by kernel_rfl) (Fok) trivial noL (by kernel_rfl) (fun x => by kernel_rfl)

namespace simnet_network_crash
noncomputable abbrev F (n : Nat) : List (Nat × FragD) := [(51, simnet_network_honest.d n), (92, replica_Recover.d)]
theorem Fok (n : Nat) : AllF Tryz.prog (F n) := ⟨simnet_network_honest.ok n, replica_Recover.ok, trivial⟩
end simnet_network_crash
open simnet_network_crash in
noncomputable def simnet_network_crash (n : Nat) (t1 : S45) (o0 : List Int) (o1 : List S56) (o2 : List S43) (o3 : List Int) : Option (List S56) :=
(simnet_network_honest n t1.2.2.1 o0 o1 o2 o3).bind fun z1 =>
bif z1 then
ck (inb t1.2.2.1 o1.length) <|
(replica_Recover (o1.getD t1.2.2.1.toNat z56)).bind fun z3 =>
ck (inb t1.2.2.1 o1.length) <|
some (o1.set t1.2.2.1.toNat z3)
else
some o1
noncomputable def simnet_network_crash.d (n : Nat) : FragD := ⟨⟨[(0, pp 0), (1, pst c45)], [.blk 92 [.sl 1, .sl 2, .sl 3, .h (.row (.int .i64))], .row 56 c56, .row 43 c43, .row 3 (.int .i64)]⟩, [⟨1, ⟨[(0, .tup [])], [.same, .row 56 c56, .same, .same]⟩, List S56, fun x => x.2.2.1, fun r => (((), ()), ((), r, (), (), ())), fun _ => rfl⟩], fun x => simnet_network_crash n x.1.2.1 x.2.1.2.2.2.1 x.2.2.1 x.2.2.2.1 x.2.2.2.2.1⟩
open simnet_network_crash in
theorem simnet_network_crash.ok (n : Nat) : FunOK Tryz.prog 75 (simnet_network_crash.d n) := funR ⟨Tryz.prog, 26, F n, [], [], []⟩ Tryz.f75 (by kernel_rfl) (by kernel_rfl) (by kernel_rfl) (Fok n) trivial noL (by kernel_rfl) (fun x => by kernel_rfl)

namespace simnet_network_inTransit
noncomputable abbrev F : List (Nat × FragD) := []
theorem Fok : AllF Tryz.prog (F) := trivial
end simnet_network_inTransit
open simnet_network_inTransit in
noncomputable def simnet_network_inTransit (t1 : S45) (o0 : List Int) (o1 : List S56) (o2 : List S43) (o3 : List Int) : Option Bool :=
bif decide (t1.2.1 ≥ 0) then
some (decide (t1.2.1 < (o2.length : Int)))
else
some false
noncomputable def simnet_network_inTransit.d : FragD := ⟨⟨[(0, pp 0), (1, pst c45)], [.blk 92 [.sl 1, .sl 2, .sl 3, .h (.row (.int .i64))], .row 56 c56, .row 43 c43, .row 3 (.int .i64)]⟩, [⟨1, ⟨[(0, pb)], [.same, .same, .same, .same]⟩, Bool, fun x => x.1.1, fun r => ((r, ()), ((), (), (), (), ())), fun _ => rfl⟩], fun x => simnet_network_inTransit x.1.2.1 x.2.1.2.2.2.1 x.2.2.1 x.2.2.2.1 x.2.2.2.2.1⟩
open simnet_network_inTransit in
theorem simnet_network_inTransit.ok : FunOK Tryz.prog 79 (simnet_network_inTransit.d) := funR ⟨Tryz.prog, 19, F, [], [], []⟩ Tryz.f79 (by kernel_rfl) (by kernel_rfl) (by kernel_rfl) (Fok) trivial noL (by kernel_rfl) (fun x => by kernel_rfl)

namespace simnet_network_double
noncomputable abbrev F : List (Nat × FragD) := [(79, simnet_network_inTransit.d), (91, simnet_network_post.d)]
theorem Fok : AllF Tryz.prog (F) := ⟨simnet_network_inTransit.ok, simnet_network_post.ok, trivial⟩
end simnet_network_double
open simnet_network_double in
noncomputable def simnet_network_double (t1 : S45) (o0 : List Int) (o1 : List S56) (o2 : List S43) (o3 : List Int) : Option (List Int × List S43 × List Int) :=
(simnet_network_inTransit t1 o0 o1 o2 o3).bind fun z1 =>
bif z1 then
ck (inb t1.2.1 o2.length) <|
ck (inb t1.2.1 o3.length) <|
(simnet_network_post ((o2.getD t1.2.1.toNat z43).1, ((o2.getD t1.2.1.toNat z43).2).1, (((o2.getD t1.2.1.toNat z43).2).2).1, ((((o2.getD t1.2.1.toNat z43).2).2).2).1, (((((o2.getD t1.2.1.toNat z43).2).2).2).2).1, ((((((o2.getD t1.2.1.toNat z43).2).2).2).2).2).1, (((((((o2.getD t1.2.1.toNat z43).2).2).2).2).2).2)) (o3.getD t1.2.1.toNat 0) o0 o1 o2 o3).bind fun z2 =>
some (z2.1, z2.2.1, z2.2.2)
else
some (o0, o2, o3)
noncomputable def simnet_network_double.d : FragD := ⟨⟨[(0, pp 0), (1, pst c45)], [.blk 92 [.sl 1, .sl 2, .sl 3, .h (.row (.int .i64))], .row 56 c56, .row 43 c43, .row 3 (.int .i64)]⟩, [⟨1, ⟨[(0, .tup [])], [.blk 92 [.sl 1, .sl 4, .sl 5, .h (.row (.int .i64))], .same, .gone, .gone, .row 43 c43, .row 3 (.int .i64)]⟩, List Int × List S43 × List Int, fun x => (x.2.1.2.2.2.1, x.2.2.2.2.2.1, x.2.2.2.2.2.2.1), fun r => (((), ()), (((), (), (), r.1, ()), (), (), (), r.2.1, r.2.2, ())), fun _ => rfl⟩], fun x => simnet_network_double x.1.2.1 x.2.1.2.2.2.1 x.2.2.1 x.2.2.2.1 x.2.2.2.2.1⟩
open simnet_network_double in
set_option maxRecDepth 1000000 in
theorem simnet_network_double.ok : FunOK Tryz.prog 74 (simnet_network_double.d) := funR ⟨Tryz.prog, 27, F, [], [], []⟩ Tryz.f74 (by kernel_rfl) (by kernel_rfl) (by kernel_rfl) (Fok) trivial noL (by kernel_rfl) (fun x => by kernel_rfl)

namespace api_Message_95W
noncomputable def K : Code := cBody Tryz.f95
noncomputable def O : List Oper := cOps (cL (cR (cR (cR (cR K)))))
noncomputable def an : List Nat := [0, 0, 3, 0, 0, 24, 63, 127]
theorem anE : ancs O [] = an := by kernel_rfl
theorem anO : drawOk O an 6 = true := by kernel_rfl
noncomputable def ul : List Ld := []
noncomputable def ug (a0 : List (TC.I c43)) (Aa0 : Option Addr) (ca0 : Nat) (a1 a2 : Int) : List (Nat × ((Nat → Wt) → Value)) := [(2, fun u => .slice Aa0 ((a1).toNat) ca0), (5, fun u => .slice (slA Aa0 (a2).toNat ca0 8) (a0.length - (a2).toNat) (ca0 - (a2).toNat))]
noncomputable def uq (a0 : List (TC.I c43)) (Aa0 : Option Addr) (ca0 : Nat) (a1 a2 : Int) (u : Nat → Wt) : Option (List Value × List (Nat × Value) × List (Nat × Nat)) := qSim Tryz.prog [] [] O ⟨33, []⟩ (Ld.vl ul) (ug a0 Aa0 ca0 a1 a2) u [.no, .no, .no, .no, .no, .no] 0 (O.take 6) [(7, i6 (a0.length : Int)), (0, .slice Aa0 a0.length ca0), (1, i6 a1), (2, i6 a2)]
noncomputable def us (a0 : List (TC.I c43)) (Aa0 : Option Addr) (ca0 : Nat) (a1 a2 : Int) (u : Nat → Wt) : List Value := [.slice Aa0 a0.length ca0, i6 a1, .slice Aa0 ((a1).toNat) ca0, .slice Aa0 a0.length ca0, i6 a2, .slice (slA Aa0 (a2).toNat ca0 8) (a0.length - (a2).toNat) (ca0 - (a2).toNat)]
noncomputable def uf (a0 : List (TC.I c43)) (Aa0 : Option Addr) (ca0 : Nat) (a1 a2 : Int) (i : Nat) (u : Nat → Wt) : List (Nat × Value) := foldPut ⟨33, []⟩ [(7, i6 (a0.length : Int)), (0, .slice Aa0 a0.length ca0), (1, i6 a1), (2, i6 a2)] (O.take i) (((us a0 Aa0 ca0 a1 a2) u).take i)
theorem uv (a0 : List (TC.I c43)) (Aa0 : Option Addr) (ca0 : Nat) (a1 a2 : Int) (u : Nat → Wt) : (uq a0 Aa0 ca0 a1 a2 u).map (fun x => (x.1, x.2.1)) = some ((us a0 Aa0 ca0 a1 a2) u, (uf a0 Aa0 ca0 a1 a2 6) u) := by kernel_rfl
theorem ue (a0 : List (TC.I c43)) (Aa0 : Option Addr) (ca0 : Nat) (a1 a2 : Int) (u : Nat → Wt) : (uq a0 Aa0 ca0 a1 a2 u).map (fun x => x.2.2.map (·.1)) = (uq a0 Aa0 ca0 a1 a2 u).map (fun x => x.2.2.map (·.2)) := by kernel_rfl
set_option maxRecDepth 100000 in
set_option maxHeartbeats 8000000 in
theorem walk (S : Nat → Prop) (I0 : Imm) (a0 : List (TC.I c43)) (Aa0 : Option Addr) (ca0 : Nat) (csa0 : List Value) (a1 a2 : Int) (w : World) (hs : Sat ⟨w, S, I0⟩ I0 w.heap.size [] [orow 43 (TC.sz c43) Aa0 a0.length ca0 csa0] w) (hpa0 : Reps (TC.ty c43) I0 a0 csa0) (hd1 : 0 ≤ a1) (hd2 : a1 ≤ a2) (hd3 : a2 ≤ (a0.length : Int)) :
  Calls Tryz.prog 95 [.slice Aa0 a0.length ca0, i6 a1, i6 a2].toArray w fun e' w' => ∃ v, e' = .returned v ∧ ∃ J cs', v = .slice Aa0 (a0.take a1.toNat ++ a0.drop a2.toNat).length ca0 ∧ Sat ⟨w, S, I0⟩ J w'.heap.size [] [orow 43 (TC.sz c43) Aa0 (a0.take a1.toNat ++ a0.drop a2.toNat).length ca0 cs'] w' ∧ Reps (TC.ty c43) J (a0.take a1.toNat ++ a0.drop a2.toNat) cs' := by
 change Sat ⟨w, S, I0⟩ I0 w.heap.size [] [orow 43 8 Aa0 a0.length ca0 csa0] w at hs
 refine calls_bodyL Tryz.func95 (by kernel_rfl) 33 (by kernel_rfl) (by kernel_rfl) ⟨w, S, I0⟩ I0 [] [orow 43 8 Aa0 a0.length ca0 csa0] [(0, .slice Aa0 a0.length ca0), (1, i6 a1), (2, i6 a2)] (by kernel_rfl) hs ?_
 generalize w.heap.size = nx0
 show OK _ K _ _ _ _ _ _ _ _
 refine OK.sr ?_
 refine RL.st 1 [(0, .slice Aa0 a0.length ca0), (1, i6 a1), (2, i6 a2)] ?_
 refine OK.sr ?_
 refine RL.s 5 [(12, i6 (a0.length : Int)), (10, i6 a2), (9, i6 a1), (8, .slice Aa0 a0.length ca0), (0, .slice Aa0 a0.length ca0), (1, i6 a1), (2, i6 a2)] ?_
 refine RL.slice3 (T := 29) (e := 43) (S := Aa0) (n := a0.length) (cap := ca0) (lo := a1) (hi := a2) (mx := (a0.length : Int)) 8 .i64 .i64 .i64 (some 13) (by kernel_rfl) (by kernel_rfl) (by kernel_rfl) (by kernel_rfl) hd1 hd2 hd3 (fun w hs => hs.own_le' 0 (e := 43) (sz := 8) (S := Aa0) (n := a0.length) (cap := ca0) (cs := csa0) (by kernel_rfl) (Int.le_refl _)) (K' := [(13, .slice (slA Aa0 (a1).toNat ((a0.length : Int)).toNat 8) ((a2).toNat - (a1).toNat) (((a0.length : Int)).toNat - (a1).toNat)), (12, i6 (a0.length : Int)), (10, i6 a2), (9, i6 a1), (8, .slice Aa0 a0.length ca0), (0, .slice Aa0 a0.length ca0), (1, i6 a1), (2, i6 a2)]) (by kernel_rfl) ?_
 refine RL.nil (by kernel_rfl) ?_
 refine QN.sub (K' := [(0, .slice Aa0 a0.length ca0), (1, i6 a1), (2, i6 a2)]) (L' := []) (by kernel_rfl) .slnil (.refl _) ?_
 refine QN.then_ ?_
 refine OK.sq ?_
 refine OK.sr ?_
 refine RL.st 3 [(16, .bool (a1 == a2)), (0, .slice Aa0 a0.length ca0), (1, i6 a1), (2, i6 a2)] ?_
 refine OK.cd (a1 == a2) (fun hb => ?_) (fun hb => ?_)
 ·skip
  have hc := (beq_iff_eq.1 hb)
  clear hb
  subst hc
  refine OK.sr ?_
  refine RL.st 2 [(6, .slice Aa0 a0.length ca0)] ?_
  refine OK.re ?_
  refine QN.thenR ?_
  refine QN.body rfl [] (RFacts.nil _ _ _) (.no) (.slice Aa0 a0.length ca0) (by kernel_rfl) (by kernel_rfl) (by kernel_rfl) ?_ _ (.inr rfl)
  rw [List.take_append_drop]
  exact fun w' hs' => ⟨_, rfl, I0, csa0, rfl, ((hs'.fin.selB [] (by kernel_rfl)).sel [0] (by kernel_rfl)), hpa0⟩
 ·skip
  clear hb
  refine OK.skt ?_
  refine OK.sr ?_
  refine RL.st 3 [(7, i6 (a0.length : Int)), (0, .slice Aa0 a0.length ca0), (1, i6 a1), (2, i6 a2)] ?_
  refine OK.sq ?_
  refine OK.ownLe 0 (e := 43) (sz := 8) (S := Aa0) (n := a0.length) (cap := ca0) (cs := csa0) (by kernel_rfl) (fun hle1 => ?_)
  have hd5 : a1 ≤ (a0.length : Int) := Int.le_trans hd2 hd3
  have hd6 : 0 ≤ a2 := Int.le_trans hd1 hd2
  refine OK.drawnC 5 6 O an (by kernel_rfl) (by kernel_rfl) ul (ug a0 Aa0 ca0 a1 a2) [] (RI.nil _) [.no, .no, .no, .no, .no, .no] anE anO (by kernel_rfl) (by kernel_rfl) (us a0 Aa0 ca0 a1 a2) (uf a0 Aa0 ca0 a1 a2 6) (uv a0 Aa0 ca0 a1 a2) (ue a0 Aa0 ca0 a1 a2) [] framesOk.nil ?_ [uf a0 Aa0 ca0 a1 a2 2, uf a0 Aa0 ca0 a1 a2 5] (framesOk.cons (fun u => rfl) (framesOk.cons (fun u => rfl) framesOk.nil)) ?_ ?_
  ·refine LoudsG.nil
  ·refine Givens.cons (fun u w =>  ?_) (fun _ _ _ => rfl) (Givens.cons (fun u w =>  ?_) (fun _ _ _ => rfl) (Givens.nil))
   ·exact giv_ownH (T := 29) (e := 43) (l := a0) (S := Aa0) (cap := ca0) (hi := a1) 8 .i64 (by kernel_rfl) (by kernel_rfl) (by kernel_rfl) hle1 hd1 hd5 w
   ·exact giv_ownL (T := 29) (e := 43) (l := a0) (S := Aa0) (cap := ca0) (lo := a2) 8 .i64 (by kernel_rfl) (by kernel_rfl) (by kernel_rfl) hd6 hd3 w
  intro u I1 nx1 hi1 hF
  clear hF
  refine RL.norm (K' := [(25, .slice (slA Aa0 (a2).toNat ca0 8) (a0.length - (a2).toNat) (ca0 - (a2).toNat)), (24, i6 a2), (23, .slice Aa0 a0.length ca0), (22, .slice Aa0 ((a1).toNat) ca0), (21, i6 a1), (20, .slice Aa0 a0.length ca0), (7, i6 (a0.length : Int)), (0, .slice Aa0 a0.length ca0), (1, i6 a1), (2, i6 a2)]) (X' := [orow 43 8 Aa0 a0.length ca0 csa0]) (by kernel_rfl) rfl rfl rfl ?_
  refine RL.delA (T := 29) (e := 43) 8 29 (S := Aa0) ca0 csa0 (TC.ty c43) a0 0 (a1).toNat (a2).toNat (some 26) (by kernel_rfl) (by kernel_rfl) (by kernel_rfl) (by kernel_rfl) rfl (by kernel_rfl) (Reps.ext hi1 hpa0) (by omega) (by omega) (fun cs1 nx2 hp1 => ?_)
  have hle : (a0.take a1.toNat ++ a0.drop a2.toNat).length ≤ a0.length := by simp only [List.length_append, List.length_take, List.length_drop]; omega
  generalize a0.take a1.toNat ++ a0.drop a2.toNat = r at hp1 hle ⊢
  refine RL.sub (K' := [(26, .slice Aa0 r.length ca0), (24, i6 a2), (21, i6 a1), (7, i6 (a0.length : Int)), (1, i6 a1), (2, i6 a2)]) (L' := []) (X' := [orow 43 8 Aa0 r.length ca0 cs1]) (by kernel_rfl) (.refl _) (.refl _) ?_
  refine RL.st 1 [(0, .slice Aa0 r.length ca0), (7, i6 (a0.length : Int))] ?_
  refine OK.sr ?_
  refine RL.s 4 [(30, i6 (a0.length : Int)), (29, i6 (r.length : Int)), (27, .slice Aa0 r.length ca0), (0, .slice Aa0 r.length ca0)] ?_
  refine RL.slice2 (T := 29) (e := 43) (S := Aa0) (n := r.length) (cap := ca0) (lo := (r.length : Int)) (hi := (a0.length : Int)) 8 .i64 .i64 (some 31) (by kernel_rfl) (by kernel_rfl) (by kernel_rfl) (by kernel_rfl) (by omega) (by omega) (fun w hs => by omega) (K' := [(31, .slice (slA Aa0 ((r.length : Int)).toNat ca0 8) (((a0.length : Int)).toNat - ((r.length : Int)).toNat) (ca0 - ((r.length : Int)).toNat)), (30, i6 (a0.length : Int)), (29, i6 (r.length : Int)), (27, .slice Aa0 r.length ca0), (0, .slice Aa0 r.length ca0)]) (by kernel_rfl) ?_
  refine RL.clearT (T := 29) (e := 43) 8 0 (a0.length - r.length) 0 (S := Aa0) (n := r.length) (cap := ca0) (cs := cs1) (.agg #[.int .i64 0, .int .i64 0, .int .i64 0, .int .i64 0, .int .u32 0, .int .i64 0, .string ⟨#[]⟩, .slice none 0 0]) (by kernel_rfl) (by kernel_rfl) (by kernel_rfl) (by kernel_rfl) (by kernel_rfl) (by decide) (by kernel_rfl) (by omega) ?_
  refine RL.norm (K' := [(31, .slice (slA Aa0 ((r.length : Int)).toNat ca0 8) (((a0.length : Int)).toNat - ((r.length : Int)).toNat) (ca0 - ((r.length : Int)).toNat)), (30, i6 (a0.length : Int)), (29, i6 (r.length : Int)), (27, .slice Aa0 r.length ca0), (0, .slice Aa0 r.length ca0)]) (by kernel_rfl) rfl rfl rfl ?_
  refine RL.nil (by kernel_rfl) ?_
  refine QN.sub (K' := [(0, .slice Aa0 r.length ca0)]) (L' := []) (by kernel_rfl) .slnil (.refl _) ?_
  refine QN.then_ ?_
  refine OK.sr ?_
  refine RL.st 2 [(6, .slice Aa0 r.length ca0)] ?_
  refine OK.re ?_
  refine QN.body rfl [] (RFacts.nil _ _ _) (.no) (.slice Aa0 r.length ca0) (by kernel_rfl) (by kernel_rfl) (by kernel_rfl) ?_ _ (.inr rfl)
  exact fun w' hs' => ⟨_, rfl, I1, cs1, rfl, ((hs'.fin.selB [] (by kernel_rfl)).sel [0] (by kernel_rfl)), hp1⟩
end api_Message_95W
def api_Message_95 (i j : Int) (l : List S43) : Option (List S43) := delF l i j
noncomputable abbrev api_Message_95.d : FragD := delD 43 c43 fun l i j => api_Message_95 i j l
theorem api_Message_95.ok : FunOK Tryz.prog 95 api_Message_95.d := del_ok (c := c43) (fun l i j => api_Message_95 i j l) (fun _ _ _ => rfl) api_Message_95W.walk

namespace slices_Delete_int_intW
noncomputable def K : Code := cBody Tryz.f96
noncomputable def O : List Oper := cOps (cL (cR (cR (cR (cR K)))))
noncomputable def an : List Nat := [0, 0, 3, 0, 0, 24, 63, 127]
theorem anE : ancs O [] = an := by kernel_rfl
theorem anO : drawOk O an 6 = true := by kernel_rfl
noncomputable def ul : List Ld := []
noncomputable def ug (a0 : List (TC.I (.int .i64))) (Aa0 : Option Addr) (ca0 : Nat) (a1 a2 : Int) : List (Nat × ((Nat → Wt) → Value)) := [(2, fun u => .slice Aa0 ((a1).toNat) ca0), (5, fun u => .slice (slA Aa0 (a2).toNat ca0 1) (a0.length - (a2).toNat) (ca0 - (a2).toNat))]
noncomputable def uq (a0 : List (TC.I (.int .i64))) (Aa0 : Option Addr) (ca0 : Nat) (a1 a2 : Int) (u : Nat → Wt) : Option (List Value × List (Nat × Value) × List (Nat × Nat)) := qSim Tryz.prog [] [] O ⟨33, []⟩ (Ld.vl ul) (ug a0 Aa0 ca0 a1 a2) u [.no, .no, .no, .no, .no, .no] 0 (O.take 6) [(7, i6 (a0.length : Int)), (0, .slice Aa0 a0.length ca0), (1, i6 a1), (2, i6 a2)]
noncomputable def us (a0 : List (TC.I (.int .i64))) (Aa0 : Option Addr) (ca0 : Nat) (a1 a2 : Int) (u : Nat → Wt) : List Value := [.slice Aa0 a0.length ca0, i6 a1, .slice Aa0 ((a1).toNat) ca0, .slice Aa0 a0.length ca0, i6 a2, .slice (slA Aa0 (a2).toNat ca0 1) (a0.length - (a2).toNat) (ca0 - (a2).toNat)]
noncomputable def uf (a0 : List (TC.I (.int .i64))) (Aa0 : Option Addr) (ca0 : Nat) (a1 a2 : Int) (i : Nat) (u : Nat → Wt) : List (Nat × Value) := foldPut ⟨33, []⟩ [(7, i6 (a0.length : Int)), (0, .slice Aa0 a0.length ca0), (1, i6 a1), (2, i6 a2)] (O.take i) (((us a0 Aa0 ca0 a1 a2) u).take i)
theorem uv (a0 : List (TC.I (.int .i64))) (Aa0 : Option Addr) (ca0 : Nat) (a1 a2 : Int) (u : Nat → Wt) : (uq a0 Aa0 ca0 a1 a2 u).map (fun x => (x.1, x.2.1)) = some ((us a0 Aa0 ca0 a1 a2) u, (uf a0 Aa0 ca0 a1 a2 6) u) := by kernel_rfl
theorem ue (a0 : List (TC.I (.int .i64))) (Aa0 : Option Addr) (ca0 : Nat) (a1 a2 : Int) (u : Nat → Wt) : (uq a0 Aa0 ca0 a1 a2 u).map (fun x => x.2.2.map (·.1)) = (uq a0 Aa0 ca0 a1 a2 u).map (fun x => x.2.2.map (·.2)) := by kernel_rfl
set_option maxRecDepth 100000 in
set_option maxHeartbeats 8000000 in
theorem walk (S : Nat → Prop) (I0 : Imm) (a0 : List (TC.I (.int .i64))) (Aa0 : Option Addr) (ca0 : Nat) (csa0 : List Value) (a1 a2 : Int) (w : World) (hs : Sat ⟨w, S, I0⟩ I0 w.heap.size [] [orow 3 (TC.sz (.int .i64)) Aa0 a0.length ca0 csa0] w) (hpa0 : Reps (TC.ty (.int .i64)) I0 a0 csa0) (hd1 : 0 ≤ a1) (hd2 : a1 ≤ a2) (hd3 : a2 ≤ (a0.length : Int)) :
  Calls Tryz.prog 96 [.slice Aa0 a0.length ca0, i6 a1, i6 a2].toArray w fun e' w' => ∃ v, e' = .returned v ∧ ∃ J cs', v = .slice Aa0 (a0.take a1.toNat ++ a0.drop a2.toNat).length ca0 ∧ Sat ⟨w, S, I0⟩ J w'.heap.size [] [orow 3 (TC.sz (.int .i64)) Aa0 (a0.take a1.toNat ++ a0.drop a2.toNat).length ca0 cs'] w' ∧ Reps (TC.ty (.int .i64)) J (a0.take a1.toNat ++ a0.drop a2.toNat) cs' := by
 change Sat ⟨w, S, I0⟩ I0 w.heap.size [] [orow 3 1 Aa0 a0.length ca0 csa0] w at hs
 refine calls_bodyL Tryz.func96 (by kernel_rfl) 33 (by kernel_rfl) (by kernel_rfl) ⟨w, S, I0⟩ I0 [] [orow 3 1 Aa0 a0.length ca0 csa0] [(0, .slice Aa0 a0.length ca0), (1, i6 a1), (2, i6 a2)] (by kernel_rfl) hs ?_
 generalize w.heap.size = nx0
 show OK _ K _ _ _ _ _ _ _ _
 refine OK.sr ?_
 refine RL.st 1 [(0, .slice Aa0 a0.length ca0), (1, i6 a1), (2, i6 a2)] ?_
 refine OK.sr ?_
 refine RL.s 5 [(12, i6 (a0.length : Int)), (10, i6 a2), (9, i6 a1), (8, .slice Aa0 a0.length ca0), (0, .slice Aa0 a0.length ca0), (1, i6 a1), (2, i6 a2)] ?_
 refine RL.slice3 (T := 26) (e := 3) (S := Aa0) (n := a0.length) (cap := ca0) (lo := a1) (hi := a2) (mx := (a0.length : Int)) 1 .i64 .i64 .i64 (some 13) (by kernel_rfl) (by kernel_rfl) (by kernel_rfl) (by kernel_rfl) hd1 hd2 hd3 (fun w hs => hs.own_le' 0 (e := 3) (sz := 1) (S := Aa0) (n := a0.length) (cap := ca0) (cs := csa0) (by kernel_rfl) (Int.le_refl _)) (K' := [(13, .slice (slA Aa0 (a1).toNat ((a0.length : Int)).toNat 1) ((a2).toNat - (a1).toNat) (((a0.length : Int)).toNat - (a1).toNat)), (12, i6 (a0.length : Int)), (10, i6 a2), (9, i6 a1), (8, .slice Aa0 a0.length ca0), (0, .slice Aa0 a0.length ca0), (1, i6 a1), (2, i6 a2)]) (by kernel_rfl) ?_
 refine RL.nil (by kernel_rfl) ?_
 refine QN.sub (K' := [(0, .slice Aa0 a0.length ca0), (1, i6 a1), (2, i6 a2)]) (L' := []) (by kernel_rfl) .slnil (.refl _) ?_
 refine QN.then_ ?_
 refine OK.sq ?_
 refine OK.sr ?_
 refine RL.st 3 [(16, .bool (a1 == a2)), (0, .slice Aa0 a0.length ca0), (1, i6 a1), (2, i6 a2)] ?_
 refine OK.cd (a1 == a2) (fun hb => ?_) (fun hb => ?_)
 ·skip
  have hc := (beq_iff_eq.1 hb)
  clear hb
  subst hc
  refine OK.sr ?_
  refine RL.st 2 [(6, .slice Aa0 a0.length ca0)] ?_
  refine OK.re ?_
  refine QN.thenR ?_
  refine QN.body rfl [] (RFacts.nil _ _ _) (.no) (.slice Aa0 a0.length ca0) (by kernel_rfl) (by kernel_rfl) (by kernel_rfl) ?_ _ (.inr rfl)
  rw [List.take_append_drop]
  exact fun w' hs' => ⟨_, rfl, I0, csa0, rfl, ((hs'.fin.selB [] (by kernel_rfl)).sel [0] (by kernel_rfl)), hpa0⟩
 ·skip
  clear hb
  refine OK.skt ?_
  refine OK.sr ?_
  refine RL.st 3 [(7, i6 (a0.length : Int)), (0, .slice Aa0 a0.length ca0), (1, i6 a1), (2, i6 a2)] ?_
  refine OK.sq ?_
  refine OK.ownLe 0 (e := 3) (sz := 1) (S := Aa0) (n := a0.length) (cap := ca0) (cs := csa0) (by kernel_rfl) (fun hle1 => ?_)
  have hd5 : a1 ≤ (a0.length : Int) := Int.le_trans hd2 hd3
  have hd6 : 0 ≤ a2 := Int.le_trans hd1 hd2
  refine OK.drawnC 5 6 O an (by kernel_rfl) (by kernel_rfl) ul (ug a0 Aa0 ca0 a1 a2) [] (RI.nil _) [.no, .no, .no, .no, .no, .no] anE anO (by kernel_rfl) (by kernel_rfl) (us a0 Aa0 ca0 a1 a2) (uf a0 Aa0 ca0 a1 a2 6) (uv a0 Aa0 ca0 a1 a2) (ue a0 Aa0 ca0 a1 a2) [] framesOk.nil ?_ [uf a0 Aa0 ca0 a1 a2 2, uf a0 Aa0 ca0 a1 a2 5] (framesOk.cons (fun u => rfl) (framesOk.cons (fun u => rfl) framesOk.nil)) ?_ ?_
  ·refine LoudsG.nil
  ·refine Givens.cons (fun u w =>  ?_) (fun _ _ _ => rfl) (Givens.cons (fun u w =>  ?_) (fun _ _ _ => rfl) (Givens.nil))
   ·exact giv_ownH (T := 26) (e := 3) (l := a0) (S := Aa0) (cap := ca0) (hi := a1) 1 .i64 (by kernel_rfl) (by kernel_rfl) (by kernel_rfl) hle1 hd1 hd5 w
   ·exact giv_ownL (T := 26) (e := 3) (l := a0) (S := Aa0) (cap := ca0) (lo := a2) 1 .i64 (by kernel_rfl) (by kernel_rfl) (by kernel_rfl) hd6 hd3 w
  intro u I1 nx1 hi1 hF
  clear hF
  refine RL.norm (K' := [(25, .slice (slA Aa0 (a2).toNat ca0 1) (a0.length - (a2).toNat) (ca0 - (a2).toNat)), (24, i6 a2), (23, .slice Aa0 a0.length ca0), (22, .slice Aa0 ((a1).toNat) ca0), (21, i6 a1), (20, .slice Aa0 a0.length ca0), (7, i6 (a0.length : Int)), (0, .slice Aa0 a0.length ca0), (1, i6 a1), (2, i6 a2)]) (X' := [orow 3 1 Aa0 a0.length ca0 csa0]) (by kernel_rfl) rfl rfl rfl ?_
  refine RL.delA (T := 26) (e := 3) 1 26 (S := Aa0) ca0 csa0 (TC.ty (.int .i64)) a0 0 (a1).toNat (a2).toNat (some 26) (by kernel_rfl) (by kernel_rfl) (by kernel_rfl) (by kernel_rfl) rfl (by kernel_rfl) (Reps.ext hi1 hpa0) (by omega) (by omega) (fun cs1 nx2 hp1 => ?_)
  have hle : (a0.take a1.toNat ++ a0.drop a2.toNat).length ≤ a0.length := by simp only [List.length_append, List.length_take, List.length_drop]; omega
  generalize a0.take a1.toNat ++ a0.drop a2.toNat = r at hp1 hle ⊢
  refine RL.sub (K' := [(26, .slice Aa0 r.length ca0), (24, i6 a2), (21, i6 a1), (7, i6 (a0.length : Int)), (1, i6 a1), (2, i6 a2)]) (L' := []) (X' := [orow 3 1 Aa0 r.length ca0 cs1]) (by kernel_rfl) (.refl _) (.refl _) ?_
  refine RL.st 1 [(0, .slice Aa0 r.length ca0), (7, i6 (a0.length : Int))] ?_
  refine OK.sr ?_
  refine RL.s 4 [(30, i6 (a0.length : Int)), (29, i6 (r.length : Int)), (27, .slice Aa0 r.length ca0), (0, .slice Aa0 r.length ca0)] ?_
  refine RL.slice2 (T := 26) (e := 3) (S := Aa0) (n := r.length) (cap := ca0) (lo := (r.length : Int)) (hi := (a0.length : Int)) 1 .i64 .i64 (some 31) (by kernel_rfl) (by kernel_rfl) (by kernel_rfl) (by kernel_rfl) (by omega) (by omega) (fun w hs => by omega) (K' := [(31, .slice (slA Aa0 ((r.length : Int)).toNat ca0 1) (((a0.length : Int)).toNat - ((r.length : Int)).toNat) (ca0 - ((r.length : Int)).toNat)), (30, i6 (a0.length : Int)), (29, i6 (r.length : Int)), (27, .slice Aa0 r.length ca0), (0, .slice Aa0 r.length ca0)]) (by kernel_rfl) ?_
  refine RL.clearT (T := 26) (e := 3) 1 0 (a0.length - r.length) 0 (S := Aa0) (n := r.length) (cap := ca0) (cs := cs1) (.int .i64 0) (by kernel_rfl) (by kernel_rfl) (by kernel_rfl) (by kernel_rfl) (by kernel_rfl) (by decide) (by kernel_rfl) (by omega) ?_
  refine RL.norm (K' := [(31, .slice (slA Aa0 ((r.length : Int)).toNat ca0 1) (((a0.length : Int)).toNat - ((r.length : Int)).toNat) (ca0 - ((r.length : Int)).toNat)), (30, i6 (a0.length : Int)), (29, i6 (r.length : Int)), (27, .slice Aa0 r.length ca0), (0, .slice Aa0 r.length ca0)]) (by kernel_rfl) rfl rfl rfl ?_
  refine RL.nil (by kernel_rfl) ?_
  refine QN.sub (K' := [(0, .slice Aa0 r.length ca0)]) (L' := []) (by kernel_rfl) .slnil (.refl _) ?_
  refine QN.then_ ?_
  refine OK.sr ?_
  refine RL.st 2 [(6, .slice Aa0 r.length ca0)] ?_
  refine OK.re ?_
  refine QN.body rfl [] (RFacts.nil _ _ _) (.no) (.slice Aa0 r.length ca0) (by kernel_rfl) (by kernel_rfl) (by kernel_rfl) ?_ _ (.inr rfl)
  exact fun w' hs' => ⟨_, rfl, I1, cs1, rfl, ((hs'.fin.selB [] (by kernel_rfl)).sel [0] (by kernel_rfl)), hp1⟩
end slices_Delete_int_intW
def slices_Delete_int_int (i j : Int) (l : List Int) : Option (List Int) := delF l i j
noncomputable abbrev slices_Delete_int_int.d : FragD := delD 3 (.int .i64) fun l i j => slices_Delete_int_int i j l
theorem slices_Delete_int_int.ok : FunOK Tryz.prog 96 slices_Delete_int_int.d := del_ok (c := (.int .i64)) (fun l i j => slices_Delete_int_int i j l) (fun _ _ _ => rfl) slices_Delete_int_intW.walk

namespace simnet_network_remove
noncomputable abbrev F : List (Nat × FragD) := [(95, api_Message_95.d), (96, slices_Delete_int_int.d)]
theorem Fok : AllF Tryz.prog (F) := ⟨api_Message_95.ok, slices_Delete_int_int.ok, trivial⟩
end simnet_network_remove
open simnet_network_remove in
noncomputable def simnet_network_remove (t1 : Int) (o0 : List Int) (o1 : List S56) (o2 : List S43) (o3 : List Int) : Option (S43 × Int × List Int × List S43 × List Int) :=
ck (inb t1 o2.length) <|
ck (inb t1 o3.length) <|
(api_Message_95 t1 (W .i64 (t1 + 1)) o2).bind fun z1 =>
(slices_Delete_int_int t1 (W .i64 (t1 + 1)) o3).bind fun z2 =>
some (((o2.getD t1.toNat z43).1, ((o2.getD t1.toNat z43).2).1, (((o2.getD t1.toNat z43).2).2).1, ((((o2.getD t1.toNat z43).2).2).2).1, (((((o2.getD t1.toNat z43).2).2).2).2).1, ((((((o2.getD t1.toNat z43).2).2).2).2).2).1, (((((((o2.getD t1.toNat z43).2).2).2).2).2).2)), o3.getD t1.toNat 0, o0, z1, z2)
noncomputable def simnet_network_remove.d : FragD := ⟨⟨[(0, pp 0), (1, pi)], [.blk 92 [.sl 1, .sl 2, .sl 3, .h (.row (.int .i64))], .row 56 c56, .row 43 c43, .row 3 (.int .i64)]⟩, [⟨1, ⟨[(0, .tup [.st c43, .c (.h (.int .i64))])], [.blk 92 [.sl 1, .sl 4, .sl 5, .h (.row (.int .i64))], .same, .gone, .gone, .row 43 c43, .row 3 (.int .i64)]⟩, S43 × Int × List Int × List S43 × List Int, fun x => (x.1.1.1, x.1.1.2.1, x.2.1.2.2.2.1, x.2.2.2.2.2.1, x.2.2.2.2.2.2.1), fun r => (((r.1, r.2.1, ()), ()), (((), (), (), r.2.2.1, ()), (), (), (), r.2.2.2.1, r.2.2.2.2, ())), fun _ => rfl⟩], fun x => simnet_network_remove x.1.2.1 x.2.1.2.2.2.1 x.2.2.1 x.2.2.2.1 x.2.2.2.2.1⟩
open simnet_network_remove in
theorem simnet_network_remove.ok : FunOK Tryz.prog 80 (simnet_network_remove.d) := funR ⟨Tryz.prog, 52, F, [], [], []⟩ Tryz.f80 (by kernel_rfl) (by kernel_rfl) (by kernel_rfl) (Fok) trivial noL (by kernel_rfl) (fun x => by kernel_rfl)

namespace simnet_network_lose
noncomputable abbrev F : List (Nat × FragD) := [(79, simnet_network_inTransit.d), (80, simnet_network_remove.d)]
theorem Fok : AllF Tryz.prog (F) := ⟨simnet_network_inTransit.ok, simnet_network_remove.ok, trivial⟩
end simnet_network_lose
open simnet_network_lose in
noncomputable def simnet_network_lose (t1 : S45) (o0 : List Int) (o1 : List S56) (o2 : List S43) (o3 : List Int) : Option (List Int × List S43 × List Int) :=
(simnet_network_inTransit t1 o0 o1 o2 o3).bind fun z1 =>
bif z1 then
(simnet_network_remove t1.2.1 o0 o1 o2 o3).bind fun z2 =>
some (z2.2.2.1, z2.2.2.2.1, z2.2.2.2.2)
else
some (o0, o2, o3)
noncomputable def simnet_network_lose.d : FragD := ⟨⟨[(0, pp 0), (1, pst c45)], [.blk 92 [.sl 1, .sl 2, .sl 3, .h (.row (.int .i64))], .row 56 c56, .row 43 c43, .row 3 (.int .i64)]⟩, [⟨1, ⟨[(0, .tup [])], [.blk 92 [.sl 1, .sl 4, .sl 5, .h (.row (.int .i64))], .same, .gone, .gone, .row 43 c43, .row 3 (.int .i64)]⟩, List Int × List S43 × List Int, fun x => (x.2.1.2.2.2.1, x.2.2.2.2.2.1, x.2.2.2.2.2.2.1), fun r => (((), ()), (((), (), (), r.1, ()), (), (), (), r.2.1, r.2.2, ())), fun _ => rfl⟩], fun x => simnet_network_lose x.1.2.1 x.2.1.2.2.2.1 x.2.2.1 x.2.2.2.1 x.2.2.2.2.1⟩
open simnet_network_lose in
theorem simnet_network_lose.ok : FunOK Tryz.prog 73 (simnet_network_lose.d) := funR ⟨Tryz.prog, 11, F, [], [], []⟩ Tryz.f73 (by kernel_rfl) (by kernel_rfl) (by kernel_rfl) (Fok) trivial noL (by kernel_rfl) (fun x => by kernel_rfl)

namespace replica_Handle_1
noncomputable abbrev F : List (Nat × FragD) := []
theorem Fok : AllF Tryz.prog (F) := trivial
end replica_Handle_1
open replica_Handle_1 in
noncomputable def replica_Handle_1 (t0 : S43) (o0 : S43) : Option Bool :=
bif t0.1 == o0.1 then
bif t0.2.1 == o0.2.1 then
bif t0.2.2.1 == o0.2.2.1 then
some (t0.2.2.2.1 == o0.2.2.2.1)
else
some false
else
some false
else
some false
noncomputable def replica_Handle_1.d : FragD := ⟨⟨[(0, pst c43), (1, pp 0)], [.stb 43 c43]⟩, [⟨1, ⟨[(0, pb)], [.same]⟩, Bool, fun x => x.1.1, fun r => ((r, ()), ((), ())), fun _ => rfl⟩], fun x => replica_Handle_1 x.1.1 x.2.1⟩
open replica_Handle_1 in
theorem replica_Handle_1.ok : FunOK Tryz.prog 97 (replica_Handle_1.d) := funR ⟨Tryz.prog, 30, F, [], [], []⟩ Tryz.f97 (by kernel_rfl) (by kernel_rfl) (by kernel_rfl) (Fok) trivial noL (by kernel_rfl) (fun x => by kernel_rfl)

namespace api_Message_117_5
noncomputable abbrev K := cBody Tryz.f117
noncomputable abbrev F (n : Nat) : List (Nat × FragD) := [(97, replica_Handle_1.d)]
theorem Fok (n : Nat) : AllF Tryz.prog (F n) := ⟨replica_Handle_1.ok, trivial⟩
noncomputable def s0 (n : Nat) (t8 : Int) (t0 : List S43) (t7 : Int) (o0 : S43) : Option ((Int × S43) ⊕ ((Int × S43) ⊕ S43)) :=
bif decide (t8 < t7) then
ck (inb t8 t0.length) <|
(replica_Handle_1 ((t0.getD t8.toNat z43).1, ((t0.getD t8.toNat z43).2).1, (((t0.getD t8.toNat z43).2).2).1, ((((t0.getD t8.toNat z43).2).2).2).1, (((((t0.getD t8.toNat z43).2).2).2).2).1, ((((((t0.getD t8.toNat z43).2).2).2).2).2).1, (((((((t0.getD t8.toNat z43).2).2).2).2).2).2)) o0).bind fun z1 =>
bif z1 then
some (.inr (.inl (t8, o0)))
else
some (.inl (W .i64 (t8 + 1), o0))
else
some (.inr (.inr o0))
noncomputable def l0 (n : Nat) : Nat → Int → List S43 → Int → S43 → Option ((Int × S43) ⊕ S43)
| 0, _, _, _, _ => none
| k + 1, t8, t0, t7, o0 => (s0 n t8 t0 t7 o0).bind fun z => sm z (fun z => l0 n k z.1 t0 t7 z.2) some
noncomputable def L0 (n : Nat) : LoopD := ⟨[(1, .w (.c (.fn 97 [] [(0, 0)]))), (8, pi)], [(0, ph (.row c43)), (7, pi)], [.stb 43 c43], Int × S43, fun x => (x.1.2.1, x.2.1), fun r => (((), r.1, ()), (r.2, ())), fun _ => rfl, ⟨1, ⟨[(4, pi)], [.stb 43 c43]⟩, Int × S43, fun x => (x.1.1, x.2.1), fun r => ((r.1, ()), (r.2, ())), fun _ => rfl⟩, [⟨2, ⟨[], [.stb 43 c43]⟩, S43, fun x => x.2.1, fun r => ((), (r, ())), fun _ => rfl⟩], fun x => s0 n x.1.2.1 x.1.2.2.1 x.1.2.2.2.1 x.2.1, [0]⟩
theorem T0 (n : Nat) : FragOK Tryz.prog 19 (atN K 400 26) ((L0 n).loopD fun x => l0 n n x.1.2.1 x.1.2.2.1 x.1.2.2.2.1 x.2.1) := loopR (L0 n) 26 (by kernel_rfl) (by kernel_rfl) (fragK ⟨Tryz.prog, 19, F n, [], [], []⟩ (Fok n) trivial noL 52 (by kernel_rfl) (fun x => by kernel_rfl)) (fun k x => l0 n k x.1.2.1 x.1.2.2.1 x.1.2.2.2.1 x.2.1) (fun x => by kernel_rfl) (fun k x => by kernel_rfl) n
noncomputable abbrev r0 (n : Nat) : List (Nat × FragD) := (26, ((L0 n).loopD fun x => l0 n n x.1.2.1 x.1.2.2.1 x.1.2.2.2.1 x.2.1)) :: []
theorem R0 (n : Nat) : AllFr Tryz.prog 19 K (r0 n) := ⟨T0 n, trivial⟩
end api_Message_117_5
open api_Message_117_5 in
noncomputable def api_Message_117_5 (n : Nat) (t0 : List S43) (o0 : S43) : Option (Int × S43) :=
(l0 n n 0 t0 (t0.length : Int) o0).bind fun z2 =>
sm z2 (fun z3 =>
some (z3.1, z3.2)) fun z4 =>
some ((-1), z4)
noncomputable def api_Message_117_5.d (n : Nat) : FragD := ⟨⟨[(0, ph (.row c43)), (1, .w (.c (.fn 97 [] [(0, 0)])))], [.stb 43 c43]⟩, [⟨1, ⟨[(0, pi)], [.stb 43 c43]⟩, Int × S43, fun x => (x.1.1, x.2.1), fun r => ((r.1, ()), (r.2, ())), fun _ => rfl⟩], fun x => api_Message_117_5 n x.1.1 x.2.1⟩
open api_Message_117_5 in
theorem api_Message_117_5.ok (n : Nat) : FunOK Tryz.prog 117 (api_Message_117_5.d n) := funR ⟨Tryz.prog, 19, F n, (r0 n), [], []⟩ Tryz.f117 (by kernel_rfl) (by kernel_rfl) (by kernel_rfl) (Fok n) (R0 n) noL (by kernel_rfl) (fun x => by kernel_rfl)

namespace api_Message_99_3
noncomputable abbrev F (n : Nat) : List (Nat × FragD) := [(117, api_Message_117_5.d n)]
theorem Fok (n : Nat) : AllF Tryz.prog (F n) := ⟨api_Message_117_5.ok n, trivial⟩
end api_Message_99_3
open api_Message_99_3 in
noncomputable def api_Message_99_3 (n : Nat) (t0 : List S43) (o0 : S43) : Option (Bool × S43) :=
(api_Message_117_5 n t0 o0).bind fun z1 =>
some (decide (z1.1 ≥ 0), z1.2)
noncomputable def api_Message_99_3.d (n : Nat) : FragD := ⟨⟨[(0, ph (.row c43)), (1, .w (.c (.fn 97 [] [(0, 0)])))], [.stb 43 c43]⟩, [⟨1, ⟨[(0, pb)], [.stb 43 c43]⟩, Bool × S43, fun x => (x.1.1, x.2.1), fun r => ((r.1, ()), (r.2, ())), fun _ => rfl⟩], fun x => api_Message_99_3 n x.1.1 x.2.1⟩
open api_Message_99_3 in
theorem api_Message_99_3.ok (n : Nat) : FunOK Tryz.prog 99 (api_Message_99_3.d n) := funR ⟨Tryz.prog, 9, F n, [], [], []⟩ Tryz.f99 (by kernel_rfl) (by kernel_rfl) (by kernel_rfl) (Fok n) trivial noL (by kernel_rfl) (fun x => by kernel_rfl)

namespace replica_Handle
noncomputable abbrev K := cBody Tryz.f81
noncomputable abbrev F (n : Nat) : List (Nat × FragD) := [(98, quorum_Valid.d n), (99, api_Message_99_3.d n), (100, api_Message.d), (101, replica_machine_progress.d n)]
theorem Fok (n : Nat) : AllF Tryz.prog (F n) := ⟨quorum_Valid.ok n, api_Message_99_3.ok n, api_Message.ok, replica_machine_progress.ok n, trivial⟩
noncomputable def j0 (n : Nat) (o0 : S56) (o1 : S43) (o2 : S56) : Option (S43 ⊕ (S43 × S56 × List S43)) :=
(quorum_Valid n o1 o0.2.1).bind fun z1 =>
bif !z1 then
some (.inr (o1, o0, ([] : List S43)))
else
(api_Message_99_3 n o0.2.2.2.1 o1).bind fun z2 =>
bif z2.1 then
some (.inr (z2.2, o0, ([] : List S43)))
else
some (.inl z2.2)
noncomputable def D0 (n : Nat) : FragD := ⟨⟨[(2, pp 0), (3, pp 1), (4, pp 2), (6, .w (.c (.fn 97 [] [(1, 0)])))], [.stb 56 c56, .stb 43 c43, .stb 56 c56]⟩, [⟨0, ⟨[], [.same, .stb 43 c43, .same]⟩, S43, fun x => x.2.2.1, fun r => ((), ((), r, (), ())), fun _ => rfl⟩, ⟨1, ⟨[(5, po 3)], [.same, .stb 43 c43, .stb 56 c56, .row 43 c43]⟩, S43 × S56 × List S43, fun x => (x.2.2.1, x.2.2.2.1, x.2.2.2.2.1), fun r => (((), ()), ((), r.1, r.2.1, r.2.2, ())), fun _ => rfl⟩], fun x => j0 n x.2.1 x.2.2.1 x.2.2.2.1⟩
set_option maxRecDepth 1000000 in
theorem T0 (n : Nat) : FragOK Tryz.prog 52 (atN K 400 14) (D0 n) := fragR ⟨Tryz.prog, 52, F n, [], [], []⟩ (Fok n) trivial noL 14 (by kernel_rfl) (fun x => by kernel_rfl)
noncomputable abbrev r0 (n : Nat) : List (Nat × FragD) := (14, D0 n) :: []
theorem R0 (n : Nat) : AllFr Tryz.prog 52 K (r0 n) := ⟨T0 n, trivial⟩
end replica_Handle
open replica_Handle in
noncomputable def replica_Handle (n : Nat) (t0 : S56) (t1 : S43) : Option (S56 × List S43) :=
(j0 n t0 t1 (0, 0, 0, ([] : List S43), ([] : List S43), ([] : List S41))).bind fun z3 =>
sm z3 (fun z4 =>
(api_Message t0.2.2.2.1).bind fun z6 =>
ck (room (z6.length + 1) 88) <|
(replica_machine_progress n (t0.1, t0.2.1, t0.2.2.1, z6 ++ [z4], t0.2.2.2.2)).bind fun z7 =>
ck (inb (t0.2.2.2.2.1.length : Int) (z7.2.2.2.2.1.length + 1)) <|
some (z7, (z7.2.2.2.2.1.drop (t0.2.2.2.2.1.length : Int).toNat))) fun z5 =>
some (z5.2.1, z5.2.2)
noncomputable def replica_Handle.d (n : Nat) : FragD := ⟨⟨[(0, pst c56), (1, pst c43)], []⟩, [⟨1, ⟨[(0, .tup [.st c56, .c (.h (.row c43))])], []⟩, S56 × List S43, fun x => (x.1.1.1, x.1.1.2.1), fun r => (((r.1, r.2, ()), ()), ()), fun _ => rfl⟩], fun x => replica_Handle n x.1.1 x.1.2.1⟩
open replica_Handle in
set_option maxRecDepth 1000000 in
theorem replica_Handle.ok (n : Nat) : FunOK Tryz.prog 81 (replica_Handle.d n) := funR ⟨Tryz.prog, 52, F n, (r0 n), [], []⟩ Tryz.f81 (by kernel_rfl) (by kernel_rfl) (by kernel_rfl) (Fok n) (R0 n) noL (by kernel_rfl) (fun x => by kernel_rfl)

namespace simnet_network_deliver
noncomputable abbrev F (n : Nat) : List (Nat × FragD) := [(79, simnet_network_inTransit.d), (80, simnet_network_remove.d), (51, simnet_network_honest.d n), (81, replica_Handle.d n), (82, simnet_network_send.d n)]
theorem Fok (n : Nat) : AllF Tryz.prog (F n) := ⟨simnet_network_inTransit.ok, simnet_network_remove.ok, simnet_network_honest.ok n, replica_Handle.ok n, simnet_network_send.ok n, trivial⟩
end simnet_network_deliver
open simnet_network_deliver in
noncomputable def simnet_network_deliver (n : Nat) (t1 : S45) (o0 : List Int) (o1 : List S56) (o2 : List S43) (o3 : List Int) : Option (List Int × List S56 × List S43 × List Int) :=
(simnet_network_inTransit t1 o0 o1 o2 o3).bind fun z1 =>
bif !z1 then
some (o0, o1, o2, o3)
else
(simnet_network_remove t1.2.1 o0 o1 o2 o3).bind fun z2 =>
(simnet_network_honest n z2.2.1 z2.2.2.1 o1 z2.2.2.2.1 z2.2.2.2.2).bind fun z3 =>
bif !z3 then
some (z2.2.2.1, o1, z2.2.2.2.1, z2.2.2.2.2)
else
ck (inb z2.2.1 o1.length) <|
(replica_Handle n ((o1.getD z2.2.1.toNat z56).1, ((o1.getD z2.2.1.toNat z56).2).1, (((o1.getD z2.2.1.toNat z56).2).2).1, ((((o1.getD z2.2.1.toNat z56).2).2).2).1, (((((o1.getD z2.2.1.toNat z56).2).2).2).2)) z2.1).bind fun z4 =>
ck (inb z2.2.1 o1.length) <|
(simnet_network_send n z4.2 z2.2.2.1 (o1.set z2.2.1.toNat z4.1) z2.2.2.2.1 z2.2.2.2.2).bind fun z5 =>
some (z5.1, z5.2.1, z5.2.2.1, z5.2.2.2)
noncomputable def simnet_network_deliver.d (n : Nat) : FragD := ⟨⟨[(0, pp 0), (1, pst c45)], [.blk 92 [.sl 1, .sl 2, .sl 3, .h (.row (.int .i64))], .row 56 c56, .row 43 c43, .row 3 (.int .i64)]⟩, [⟨1, ⟨[(0, .tup [])], [.blk 92 [.sl 1, .sl 4, .sl 5, .h (.row (.int .i64))], .row 56 c56, .gone, .gone, .row 43 c43, .row 3 (.int .i64)]⟩, List Int × List S56 × List S43 × List Int, fun x => (x.2.1.2.2.2.1, x.2.2.1, x.2.2.2.2.2.1, x.2.2.2.2.2.2.1), fun r => (((), ()), (((), (), (), r.1, ()), r.2.1, (), (), r.2.2.1, r.2.2.2, ())), fun _ => rfl⟩], fun x => simnet_network_deliver n x.1.2.1 x.2.1.2.2.2.1 x.2.2.1 x.2.2.2.1 x.2.2.2.2.1⟩
open simnet_network_deliver in
set_option maxRecDepth 1000000 in
theorem simnet_network_deliver.ok (n : Nat) : FunOK Tryz.prog 56 (simnet_network_deliver.d n) := funR ⟨Tryz.prog, 47, F n, [], [], []⟩ Tryz.f56 (by kernel_rfl) (by kernel_rfl) (by kernel_rfl) (Fok n) trivial noL (by kernel_rfl) (fun x => by kernel_rfl)

namespace simnet_Run
noncomputable abbrev K := cBody Tryz.f20
noncomputable abbrev F (n : Nat) : List (Nat × FragD) := [(50, simnet_open.d), (55, simnet_handlers.d), (78, simnet_network_forge.d n), (77, simnet_network_ask.d n), (76, simnet_network_timeout.d n), (75, simnet_network_crash.d n), (74, simnet_network_double.d), (73, simnet_network_lose.d), (56, simnet_network_deliver.d n)]
theorem Fok (n : Nat) : AllF Tryz.prog (F n) := ⟨simnet_open.ok, simnet_handlers.ok, simnet_network_forge.ok n, simnet_network_ask.ok n, simnet_network_timeout.ok n, simnet_network_crash.ok n, simnet_network_double.ok, simnet_network_lose.ok, simnet_network_deliver.ok n, trivial⟩
noncomputable def s0 (n : Nat) (t16 : Int) (t14 : List S45) (t15 : Int) (o0 : List Int) (o1 : List S56) (o2 : List S43) (o3 : List Int) : Option ((Int × List Int × List S56 × List S43 × List Int) ⊕ (List Int × List S56 × List S43 × List Int)) :=
bif decide (t16 < t15) then
ck (inb t16 t14.length) <|
bif decide ((t14.getD t16.toNat z45).1 = 1) then
(simnet_network_deliver n ((t14.getD t16.toNat z45).1, ((t14.getD t16.toNat z45).2).1, (((t14.getD t16.toNat z45).2).2).1, ((((t14.getD t16.toNat z45).2).2).2).1, (((((t14.getD t16.toNat z45).2).2).2).2).1, ((((((t14.getD t16.toNat z45).2).2).2).2).2).1, (((((((t14.getD t16.toNat z45).2).2).2).2).2).2).1, ((((((((t14.getD t16.toNat z45).2).2).2).2).2).2).2).1, (((((((((t14.getD t16.toNat z45).2).2).2).2).2).2).2).2).1, ((((((((((t14.getD t16.toNat z45).2).2).2).2).2).2).2).2).2)) o0 o1 o2 o3).bind fun z9 =>
some (.inl (W .i64 (t16 + 1), z9.1, z9.2.1, z9.2.2.1, z9.2.2.2))
else
bif decide ((t14.getD t16.toNat z45).1 = 2) then
(simnet_network_lose ((t14.getD t16.toNat z45).1, ((t14.getD t16.toNat z45).2).1, (((t14.getD t16.toNat z45).2).2).1, ((((t14.getD t16.toNat z45).2).2).2).1, (((((t14.getD t16.toNat z45).2).2).2).2).1, ((((((t14.getD t16.toNat z45).2).2).2).2).2).1, (((((((t14.getD t16.toNat z45).2).2).2).2).2).2).1, ((((((((t14.getD t16.toNat z45).2).2).2).2).2).2).2).1, (((((((((t14.getD t16.toNat z45).2).2).2).2).2).2).2).2).1, ((((((((((t14.getD t16.toNat z45).2).2).2).2).2).2).2).2).2)) o0 o1 o2 o3).bind fun z8 =>
some (.inl (W .i64 (t16 + 1), z8.1, o1, z8.2.1, z8.2.2))
else
bif decide ((t14.getD t16.toNat z45).1 = 3) then
(simnet_network_double ((t14.getD t16.toNat z45).1, ((t14.getD t16.toNat z45).2).1, (((t14.getD t16.toNat z45).2).2).1, ((((t14.getD t16.toNat z45).2).2).2).1, (((((t14.getD t16.toNat z45).2).2).2).2).1, ((((((t14.getD t16.toNat z45).2).2).2).2).2).1, (((((((t14.getD t16.toNat z45).2).2).2).2).2).2).1, ((((((((t14.getD t16.toNat z45).2).2).2).2).2).2).2).1, (((((((((t14.getD t16.toNat z45).2).2).2).2).2).2).2).2).1, ((((((((((t14.getD t16.toNat z45).2).2).2).2).2).2).2).2).2)) o0 o1 o2 o3).bind fun z7 =>
some (.inl (W .i64 (t16 + 1), z7.1, o1, z7.2.1, z7.2.2))
else
bif decide ((t14.getD t16.toNat z45).1 = 4) then
(simnet_network_crash n ((t14.getD t16.toNat z45).1, ((t14.getD t16.toNat z45).2).1, (((t14.getD t16.toNat z45).2).2).1, ((((t14.getD t16.toNat z45).2).2).2).1, (((((t14.getD t16.toNat z45).2).2).2).2).1, ((((((t14.getD t16.toNat z45).2).2).2).2).2).1, (((((((t14.getD t16.toNat z45).2).2).2).2).2).2).1, ((((((((t14.getD t16.toNat z45).2).2).2).2).2).2).2).1, (((((((((t14.getD t16.toNat z45).2).2).2).2).2).2).2).2).1, ((((((((((t14.getD t16.toNat z45).2).2).2).2).2).2).2).2).2)) o0 o1 o2 o3).bind fun z6 =>
some (.inl (W .i64 (t16 + 1), o0, z6, o2, o3))
else
bif decide ((t14.getD t16.toNat z45).1 = 5) then
(simnet_network_timeout n ((t14.getD t16.toNat z45).1, ((t14.getD t16.toNat z45).2).1, (((t14.getD t16.toNat z45).2).2).1, ((((t14.getD t16.toNat z45).2).2).2).1, (((((t14.getD t16.toNat z45).2).2).2).2).1, ((((((t14.getD t16.toNat z45).2).2).2).2).2).1, (((((((t14.getD t16.toNat z45).2).2).2).2).2).2).1, ((((((((t14.getD t16.toNat z45).2).2).2).2).2).2).2).1, (((((((((t14.getD t16.toNat z45).2).2).2).2).2).2).2).2).1, ((((((((((t14.getD t16.toNat z45).2).2).2).2).2).2).2).2).2)) o0 o1 o2 o3).bind fun z5 =>
some (.inl (W .i64 (t16 + 1), z5.1, z5.2.1, z5.2.2.1, z5.2.2.2))
else
bif decide ((t14.getD t16.toNat z45).1 = 6) then
(simnet_network_ask n ((t14.getD t16.toNat z45).1, ((t14.getD t16.toNat z45).2).1, (((t14.getD t16.toNat z45).2).2).1, ((((t14.getD t16.toNat z45).2).2).2).1, (((((t14.getD t16.toNat z45).2).2).2).2).1, ((((((t14.getD t16.toNat z45).2).2).2).2).2).1, (((((((t14.getD t16.toNat z45).2).2).2).2).2).2).1, ((((((((t14.getD t16.toNat z45).2).2).2).2).2).2).2).1, (((((((((t14.getD t16.toNat z45).2).2).2).2).2).2).2).2).1, ((((((((((t14.getD t16.toNat z45).2).2).2).2).2).2).2).2).2)) o0 o1 o2 o3).bind fun z4 =>
some (.inl (W .i64 (t16 + 1), z4.1, z4.2.1, z4.2.2.1, z4.2.2.2))
else
bif decide ((t14.getD t16.toNat z45).1 = 7) then
(simnet_network_forge n ((t14.getD t16.toNat z45).1, ((t14.getD t16.toNat z45).2).1, (((t14.getD t16.toNat z45).2).2).1, ((((t14.getD t16.toNat z45).2).2).2).1, (((((t14.getD t16.toNat z45).2).2).2).2).1, ((((((t14.getD t16.toNat z45).2).2).2).2).2).1, (((((((t14.getD t16.toNat z45).2).2).2).2).2).2).1, ((((((((t14.getD t16.toNat z45).2).2).2).2).2).2).2).1, (((((((((t14.getD t16.toNat z45).2).2).2).2).2).2).2).2).1, ((((((((((t14.getD t16.toNat z45).2).2).2).2).2).2).2).2).2)) o0 o1 o2 o3).bind fun z3 =>
some (.inl (W .i64 (t16 + 1), z3.1, o1, z3.2.1, z3.2.2))
else
some (.inl (W .i64 (t16 + 1), o0, o1, o2, o3))
else
some (.inr (o0, o1, o2, o3))
noncomputable def l0 (n : Nat) : Nat → Int → List S45 → Int → List Int → List S56 → List S43 → List Int → Option (List Int × List S56 × List S43 × List Int)
| 0, _, _, _, _, _, _, _ => none
| k + 1, t16, t14, t15, o0, o1, o2, o3 => (s0 n t16 t14 t15 o0 o1 o2 o3).bind fun z => sm z (fun z => l0 n k z.1 t14 t15 z.2.1 z.2.2.1 z.2.2.2.1 z.2.2.2.2) some
noncomputable def L0 (n : Nat) : LoopD := ⟨[(5, pp 0), (6, .w (.c (.kn (.mp .i64 [(1, 56), (2, 73), (3, 74), (4, 75), (5, 76), (6, 77), (7, 78)])))), (16, pi)], [(14, ph (.row c45)), (15, pi)], [.blk 92 [.sl 1, .sl 2, .sl 3, .h (.row (.int .i64))], .row 56 c56, .row 43 c43, .row 3 (.int .i64)], Int × List Int × List S56 × List S43 × List Int, fun x => (x.1.2.2.1, x.2.1.2.2.2.1, x.2.2.1, x.2.2.2.1, x.2.2.2.2.1), fun r => (((), (), r.1, ()), (((), (), (), r.2.1, ()), r.2.2.1, r.2.2.2.1, r.2.2.2.2, ())), fun _ => rfl, ⟨2, ⟨[], [.blk 92 [.sl 1, .sl 4, .sl 5, .h (.row (.int .i64))], .row 56 c56, .gone, .gone, .row 43 c43, .row 3 (.int .i64)]⟩, List Int × List S56 × List S43 × List Int, fun x => (x.2.1.2.2.2.1, x.2.2.1, x.2.2.2.2.2.1, x.2.2.2.2.2.2.1), fun r => ((), (((), (), (), r.1, ()), r.2.1, (), (), r.2.2.1, r.2.2.2, ())), fun _ => rfl⟩, [], fun x => s0 n x.1.2.2.1 x.1.2.2.2.1 x.1.2.2.2.2.1 x.2.1.2.2.2.1 x.2.2.1 x.2.2.2.1 x.2.2.2.2.1, [0, 1]⟩
set_option maxRecDepth 1000000 in
theorem T0 (n : Nat) : FragOK Tryz.prog 37 (atN K 400 58) ((L0 n).loopD fun x => l0 n n x.1.2.2.1 x.1.2.2.2.1 x.1.2.2.2.2.1 x.2.1.2.2.2.1 x.2.2.1 x.2.2.2.1 x.2.2.2.2.1) := loopR (L0 n) 58 (by kernel_rfl) (by kernel_rfl) (fragK ⟨Tryz.prog, 37, F n, [], [], []⟩ (Fok n) trivial noL 116 (by kernel_rfl) (fun x => by kernel_rfl)) (fun k x => l0 n k x.1.2.2.1 x.1.2.2.2.1 x.1.2.2.2.2.1 x.2.1.2.2.2.1 x.2.2.1 x.2.2.2.1 x.2.2.2.2.1) (fun x => by kernel_rfl) (fun k x => by kernel_rfl) n
noncomputable abbrev r0 (n : Nat) : List (Nat × FragD) := (58, ((L0 n).loopD fun x => l0 n n x.1.2.2.1 x.1.2.2.2.1 x.1.2.2.2.2.1 x.2.1.2.2.2.1 x.2.2.1 x.2.2.2.1 x.2.2.2.2.1)) :: []
theorem R0 (n : Nat) : AllFr Tryz.prog 37 K (r0 n) := ⟨T0 n, trivial⟩
end simnet_Run
open simnet_Run in
noncomputable def simnet_Run (n : Nat) (t0 : S31) (t1 : List S45) : Option (List Int × List S56 × List S43 × List Int) :=
(simnet_open t0).bind fun z1 =>
(simnet_handlers).bind fun _ =>
(l0 n n 0 t1 (t1.length : Int) z1.1 z1.2.1 z1.2.2.1 z1.2.2.2).bind fun z10 =>
some (z10.1, z10.2.1, z10.2.2.1, z10.2.2.2)
noncomputable def simnet_Run.d (n : Nat) : FragD := ⟨⟨[(0, pst c31), (1, ph (.row c45))], []⟩, [⟨1, ⟨[(0, .w (.agg [.sl 0, .sl 1, .sl 2, .h (.row (.int .i64))]))], [.row 56 c56, .row 43 c43, .row 3 (.int .i64)]⟩, List Int × List S56 × List S43 × List Int, fun x => (x.1.1.2.2.2.1, x.2.1, x.2.2.1, x.2.2.2.1), fun r => ((((), (), (), r.1, ()), ()), (r.2.1, r.2.2.1, r.2.2.2, ())), fun _ => rfl⟩], fun x => simnet_Run n x.1.1 x.1.2.1⟩
open simnet_Run in
set_option maxRecDepth 1000000 in
theorem simnet_Run.ok (n : Nat) : FunOK Tryz.prog 20 (simnet_Run.d n) := funR ⟨Tryz.prog, 37, F n, (r0 n), [], []⟩ Tryz.f20 (by kernel_rfl) (by kernel_rfl) (by kernel_rfl) (Fok n) (R0 n) noL (by kernel_rfl) (fun x => by kernel_rfl)
end Go.Proofs.YtfecniimkgkmfaaGreat
set_option linter.unusedVariables false
namespace Go.Proofs.YtfecniimkgkmfaaGreat
open Go Go.RowKit Go.Proofs.YtfecniimkgkmfaaGreat.RW Go.Proofs.YtfecniimkgkmfaaGreat.AM
namespace simnet_Apply
noncomputable abbrev F (n : Nat) : List (Nat × FragD) := [(20, simnet_Run.d n)]
theorem Fok (n : Nat) : AllF Tryz.prog (F n) := ⟨simnet_Run.ok n, trivial⟩
end simnet_Apply
open simnet_Apply in
noncomputable def simnet_Apply (n : Nat) (t0 : S31) (t1 : S45) : Option (List Int × List S56 × List S43 × List Int) :=
(simnet_Run n t0 [t1]).bind fun z1 =>
some (z1.1, z1.2.1, z1.2.2.1, z1.2.2.2)
noncomputable def simnet_Apply.d (n : Nat) : FragD := ⟨⟨[(0, pst c31), (1, pst c45)], []⟩, [⟨1, ⟨[(0, .w (.agg [.sl 0, .sl 1, .sl 2, .h (.row (.int .i64))]))], [.row 56 c56, .row 43 c43, .row 3 (.int .i64)]⟩, List Int × List S56 × List S43 × List Int, fun x => (x.1.1.2.2.2.1, x.2.1, x.2.2.1, x.2.2.2.1), fun r => ((((), (), (), r.1, ()), ()), (r.2.1, r.2.2.1, r.2.2.2, ())), fun _ => rfl⟩], fun x => simnet_Apply n x.1.1 x.1.2.1⟩
open simnet_Apply in
set_option maxRecDepth 1000000 in
theorem simnet_Apply.ok (n : Nat) : FunOK Tryz.prog 16 (simnet_Apply.d n) := funR ⟨Tryz.prog, 9, F n, [], [], []⟩ Tryz.f16 (by kernel_rfl) (by kernel_rfl) (by kernel_rfl) (Fok n) trivial noL (by kernel_rfl) (fun x => by kernel_rfl)

namespace simnet_Drain
noncomputable abbrev K := cBody Tryz.f21
noncomputable abbrev F (n : Nat) : List (Nat × FragD) := [(50, simnet_open.d), (56, simnet_network_deliver.d n)]
theorem Fok (n : Nat) : AllF Tryz.prog (F n) := ⟨simnet_open.ok, simnet_network_deliver.ok n, trivial⟩
noncomputable def s0 (n : Nat) (t6 : Int) (t1 : Int) (o0 : List Int) (o1 : List S56) (o2 : List S43) (o3 : List Int) : Option ((Int × List Int × List S56 × List S43 × List Int) ⊕ (List Int × List S56 × List S43 × List Int)) :=
bif decide (t6 < t1) then
bif (decide ((o2.length : Int) > 0)) then
(simnet_network_deliver n (0, 0, 0, 0, 0, 0, 0, 0, 0, (⟨#[]⟩ : ByteArray), ([] : List Int)) o0 o1 o2 o3).bind fun z3 =>
some (.inl (W .i64 (t6 + 1), z3.1, z3.2.1, z3.2.2.1, z3.2.2.2))
else
some (.inr (o0, o1, o2, o3))
else
some (.inr (o0, o1, o2, o3))
noncomputable def l0 (n : Nat) : Nat → Int → Int → List Int → List S56 → List S43 → List Int → Option (List Int × List S56 × List S43 × List Int)
| 0, _, _, _, _, _, _ => none
| k + 1, t6, t1, o0, o1, o2, o3 => (s0 n t6 t1 o0 o1 o2 o3).bind fun z => sm z (fun z => l0 n k z.1 t1 z.2.1 z.2.2.1 z.2.2.2.1 z.2.2.2.2) some
noncomputable def L0 (n : Nat) : LoopD := ⟨[(5, pp 0), (6, pi)], [(1, pi)], [.blk 92 [.sl 1, .sl 2, .sl 3, .h (.row (.int .i64))], .row 56 c56, .row 43 c43, .row 3 (.int .i64)], Int × List Int × List S56 × List S43 × List Int, fun x => (x.1.2.1, x.2.1.2.2.2.1, x.2.2.1, x.2.2.2.1, x.2.2.2.2.1), fun r => (((), r.1, ()), (((), (), (), r.2.1, ()), r.2.2.1, r.2.2.2.1, r.2.2.2.2, ())), fun _ => rfl, ⟨2, ⟨[], [.blk 92 [.sl 1, .sl 4, .sl 5, .h (.row (.int .i64))], .row 56 c56, .gone, .gone, .row 43 c43, .row 3 (.int .i64)]⟩, List Int × List S56 × List S43 × List Int, fun x => (x.2.1.2.2.2.1, x.2.2.1, x.2.2.2.2.2.1, x.2.2.2.2.2.2.1), fun r => ((), (((), (), (), r.1, ()), r.2.1, (), (), r.2.2.1, r.2.2.2, ())), fun _ => rfl⟩, [], fun x => s0 n x.1.2.1 x.1.2.2.1 x.2.1.2.2.2.1 x.2.2.1 x.2.2.2.1 x.2.2.2.2.1, [0, 1]⟩
set_option maxRecDepth 1000000 in
theorem T0 (n : Nat) : FragOK Tryz.prog 30 (atN K 400 58) ((L0 n).loopD fun x => l0 n n x.1.2.1 x.1.2.2.1 x.2.1.2.2.2.1 x.2.2.1 x.2.2.2.1 x.2.2.2.2.1) := loopR (L0 n) 58 (by kernel_rfl) (by kernel_rfl) (fragK ⟨Tryz.prog, 30, F n, [], [], []⟩ (Fok n) trivial noL 116 (by kernel_rfl) (fun x => by kernel_rfl)) (fun k x => l0 n k x.1.2.1 x.1.2.2.1 x.2.1.2.2.2.1 x.2.2.1 x.2.2.2.1 x.2.2.2.2.1) (fun x => by kernel_rfl) (fun k x => by kernel_rfl) n
noncomputable abbrev r0 (n : Nat) : List (Nat × FragD) := (58, ((L0 n).loopD fun x => l0 n n x.1.2.1 x.1.2.2.1 x.2.1.2.2.2.1 x.2.2.1 x.2.2.2.1 x.2.2.2.2.1)) :: []
theorem R0 (n : Nat) : AllFr Tryz.prog 30 K (r0 n) := ⟨T0 n, trivial⟩
end simnet_Drain
open simnet_Drain in
noncomputable def simnet_Drain (n : Nat) (t0 : S31) (t1 : Int) : Option (List Int × List S56 × List S43 × List Int) :=
(simnet_open t0).bind fun z1 =>
(l0 n n 0 t1 z1.1 z1.2.1 z1.2.2.1 z1.2.2.2).bind fun z4 =>
some (z4.1, z4.2.1, z4.2.2.1, z4.2.2.2)
noncomputable def simnet_Drain.d (n : Nat) : FragD := ⟨⟨[(0, pst c31), (1, pi)], []⟩, [⟨1, ⟨[(0, .w (.agg [.sl 0, .sl 1, .sl 2, .h (.row (.int .i64))]))], [.row 56 c56, .row 43 c43, .row 3 (.int .i64)]⟩, List Int × List S56 × List S43 × List Int, fun x => (x.1.1.2.2.2.1, x.2.1, x.2.2.1, x.2.2.2.1), fun r => ((((), (), (), r.1, ()), ()), (r.2.1, r.2.2.1, r.2.2.2, ())), fun _ => rfl⟩], fun x => simnet_Drain n x.1.1 x.1.2.1⟩
open simnet_Drain in
set_option maxRecDepth 1000000 in
theorem simnet_Drain.ok (n : Nat) : FunOK Tryz.prog 21 (simnet_Drain.d n) := funR ⟨Tryz.prog, 30, F n, (r0 n), [], []⟩ Tryz.f21 (by kernel_rfl) (by kernel_rfl) (by kernel_rfl) (Fok n) (R0 n) noL (by kernel_rfl) (fun x => by kernel_rfl)

namespace armillaryref27_Same
noncomputable abbrev F : List (Nat × FragD) := []
theorem Fok : AllF Tryz.prog (F) := trivial
end armillaryref27_Same
open armillaryref27_Same in
noncomputable def armillaryref27_Same (t0 : S41) (t1 : S41) : Option Bool :=
bif t0.1 == t1.1 then
bif (t0.2.1.toList == t1.2.1.toList) then
some ((strOfNums t0.2.2).toList == (strOfNums t1.2.2).toList)
else
some false
else
some false
noncomputable def armillaryref27_Same.d : FragD := ⟨⟨[(0, pst c41), (1, pst c41)], []⟩, [⟨1, ⟨[(0, pb)], []⟩, Bool, fun x => x.1.1, fun r => ((r, ()), ()), fun _ => rfl⟩], fun x => armillaryref27_Same x.1.1 x.1.2.1⟩
open armillaryref27_Same in
theorem armillaryref27_Same.ok : FunOK Tryz.prog 35 (armillaryref27_Same.d) := funR ⟨Tryz.prog, 26, F, [], [], []⟩ Tryz.f35 (by kernel_rfl) (by kernel_rfl) (by kernel_rfl) (Fok) trivial noL (by kernel_rfl) (fun x => by kernel_rfl)

namespace armillaryref27_SameMessage
noncomputable abbrev F : List (Nat × FragD) := [(35, armillaryref27_Same.d)]
theorem Fok : AllF Tryz.prog (F) := ⟨armillaryref27_Same.ok, trivial⟩
end armillaryref27_SameMessage
open armillaryref27_SameMessage in
noncomputable def armillaryref27_SameMessage (t0 : S43) (t1 : S43) : Option Bool :=
bif t0.1 == t1.1 then
bif t0.2.1 == t1.2.1 then
bif t0.2.2.1 == t1.2.2.1 then
bif t0.2.2.2.1 == t1.2.2.2.1 then
bif (t0.2.2.2.2.1 == t1.2.2.2.2.1) then
(armillaryref27_Same t0.2.2.2.2.2 t1.2.2.2.2.2).bind fun z2 =>
some z2
else
some false
else
some false
else
some false
else
some false
else
some false
noncomputable def armillaryref27_SameMessage.d : FragD := ⟨⟨[(0, pst c43), (1, pst c43)], []⟩, [⟨1, ⟨[(0, pb)], []⟩, Bool, fun x => x.1.1, fun r => ((r, ()), ()), fun _ => rfl⟩], fun x => armillaryref27_SameMessage x.1.1 x.1.2.1⟩
open armillaryref27_SameMessage in
theorem armillaryref27_SameMessage.ok : FunOK Tryz.prog 33 (armillaryref27_SameMessage.d) := funR ⟨Tryz.prog, 45, F, [], [], []⟩ Tryz.f33 (by kernel_rfl) (by kernel_rfl) (by kernel_rfl) (Fok) trivial noL (by kernel_rfl) (fun x => by kernel_rfl)

namespace armillaryref30_SameMessages
noncomputable abbrev K := cBody Tryz.f42
noncomputable abbrev F (n : Nat) : List (Nat × FragD) := [(33, armillaryref27_SameMessage.d)]
theorem Fok (n : Nat) : AllF Tryz.prog (F n) := ⟨armillaryref27_SameMessage.ok, trivial⟩
noncomputable def s0 (n : Nat) (t5 : Int) (t0 : List S43) (t1 : List S43) : Option (Int ⊕ (Bool ⊕ Unit)) :=
bif (decide (t5 < (t0.length : Int))) then
ck (inb t5 t0.length) <|
ck (inb t5 t1.length) <|
(armillaryref27_SameMessage ((t0.getD t5.toNat z43).1, ((t0.getD t5.toNat z43).2).1, (((t0.getD t5.toNat z43).2).2).1, ((((t0.getD t5.toNat z43).2).2).2).1, (((((t0.getD t5.toNat z43).2).2).2).2).1, ((((((t0.getD t5.toNat z43).2).2).2).2).2).1, (((((((t0.getD t5.toNat z43).2).2).2).2).2).2)) ((t1.getD t5.toNat z43).1, ((t1.getD t5.toNat z43).2).1, (((t1.getD t5.toNat z43).2).2).1, ((((t1.getD t5.toNat z43).2).2).2).1, (((((t1.getD t5.toNat z43).2).2).2).2).1, ((((((t1.getD t5.toNat z43).2).2).2).2).2).1, (((((((t1.getD t5.toNat z43).2).2).2).2).2).2))).bind fun z3 =>
bif !z3 then
some (.inr (.inl false))
else
some (.inl (W .i64 (t5 + 1)))
else
some (.inr (.inr ()))
noncomputable def l0 (n : Nat) : Nat → Int → List S43 → List S43 → Option (Bool ⊕ Unit)
| 0, _, _, _ => none
| k + 1, t5, t0, t1 => (s0 n t5 t0 t1).bind fun z => sm z (fun z => l0 n k z t0 t1) some
noncomputable def L0 (n : Nat) : LoopD := ⟨[(5, pi)], [(0, ph (.row c43)), (1, ph (.row c43))], [], Int, fun x => x.1.1, fun r => ((r, ()), ()), fun _ => rfl, ⟨1, ⟨[(4, pb)], []⟩, Bool, fun x => x.1.1, fun r => ((r, ()), ()), fun _ => rfl⟩, [⟨2, ⟨[], []⟩, Unit, fun _ => (), fun _ => ((), ()), fun _ => rfl⟩], fun x => s0 n x.1.1 x.1.2.1 x.1.2.2.1, []⟩
theorem T0 (n : Nat) : FragOK Tryz.prog 27 (atN K 400 58) ((L0 n).loopD fun x => l0 n n x.1.1 x.1.2.1 x.1.2.2.1) := loopR (L0 n) 58 (by kernel_rfl) (by kernel_rfl) (fragK ⟨Tryz.prog, 27, F n, [], [], []⟩ (Fok n) trivial noL 116 (by kernel_rfl) (fun x => by kernel_rfl)) (fun k x => l0 n k x.1.1 x.1.2.1 x.1.2.2.1) (fun x => by kernel_rfl) (fun k x => by kernel_rfl) n
noncomputable abbrev r0 (n : Nat) : List (Nat × FragD) := (58, ((L0 n).loopD fun x => l0 n n x.1.1 x.1.2.1 x.1.2.2.1)) :: []
theorem R0 (n : Nat) : AllFr Tryz.prog 27 K (r0 n) := ⟨T0 n, trivial⟩
end armillaryref30_SameMessages
open armillaryref30_SameMessages in
noncomputable def armillaryref30_SameMessages (n : Nat) (t0 : List S43) (t1 : List S43) : Option Bool :=
bif ((t0.length : Int) != (t1.length : Int)) then
some false
else
(l0 n n 0 t0 t1).bind fun z4 =>
sm z4 (fun z5 =>
some z5) fun z6 =>
some true
noncomputable def armillaryref30_SameMessages.d (n : Nat) : FragD := ⟨⟨[(0, ph (.row c43)), (1, ph (.row c43))], []⟩, [⟨1, ⟨[(0, pb)], []⟩, Bool, fun x => x.1.1, fun r => ((r, ()), ()), fun _ => rfl⟩], fun x => armillaryref30_SameMessages n x.1.1 x.1.2.1⟩
open armillaryref30_SameMessages in
theorem armillaryref30_SameMessages.ok (n : Nat) : FunOK Tryz.prog 42 (armillaryref30_SameMessages.d n) := funR ⟨Tryz.prog, 27, F n, (r0 n), [], []⟩ Tryz.f42 (by kernel_rfl) (by kernel_rfl) (by kernel_rfl) (Fok n) (R0 n) noL (by kernel_rfl) (fun x => by kernel_rfl)

namespace armillaryref30_SameLog
noncomputable abbrev K := cBody Tryz.f32
noncomputable abbrev F (n : Nat) : List (Nat × FragD) := [(35, armillaryref27_Same.d)]
theorem Fok (n : Nat) : AllF Tryz.prog (F n) := ⟨armillaryref27_Same.ok, trivial⟩
noncomputable def s0 (n : Nat) (t5 : Int) (t0 : List S41) (t1 : List S41) : Option (Int ⊕ (Bool ⊕ Unit)) :=
bif (decide (t5 < (t0.length : Int))) then
ck (inb t5 t0.length) <|
ck (inb t5 t1.length) <|
(armillaryref27_Same ((t0.getD t5.toNat z41).1, ((t0.getD t5.toNat z41).2)) ((t1.getD t5.toNat z41).1, ((t1.getD t5.toNat z41).2))).bind fun z3 =>
bif !z3 then
some (.inr (.inl false))
else
some (.inl (W .i64 (t5 + 1)))
else
some (.inr (.inr ()))
noncomputable def l0 (n : Nat) : Nat → Int → List S41 → List S41 → Option (Bool ⊕ Unit)
| 0, _, _, _ => none
| k + 1, t5, t0, t1 => (s0 n t5 t0 t1).bind fun z => sm z (fun z => l0 n k z t0 t1) some
noncomputable def L0 (n : Nat) : LoopD := ⟨[(5, pi)], [(0, ph (.row c41)), (1, ph (.row c41))], [], Int, fun x => x.1.1, fun r => ((r, ()), ()), fun _ => rfl, ⟨1, ⟨[(4, pb)], []⟩, Bool, fun x => x.1.1, fun r => ((r, ()), ()), fun _ => rfl⟩, [⟨2, ⟨[], []⟩, Unit, fun _ => (), fun _ => ((), ()), fun _ => rfl⟩], fun x => s0 n x.1.1 x.1.2.1 x.1.2.2.1, []⟩
theorem T0 (n : Nat) : FragOK Tryz.prog 27 (atN K 400 58) ((L0 n).loopD fun x => l0 n n x.1.1 x.1.2.1 x.1.2.2.1) := loopR (L0 n) 58 (by kernel_rfl) (by kernel_rfl) (fragK ⟨Tryz.prog, 27, F n, [], [], []⟩ (Fok n) trivial noL 116 (by kernel_rfl) (fun x => by kernel_rfl)) (fun k x => l0 n k x.1.1 x.1.2.1 x.1.2.2.1) (fun x => by kernel_rfl) (fun k x => by kernel_rfl) n
noncomputable abbrev r0 (n : Nat) : List (Nat × FragD) := (58, ((L0 n).loopD fun x => l0 n n x.1.1 x.1.2.1 x.1.2.2.1)) :: []
theorem R0 (n : Nat) : AllFr Tryz.prog 27 K (r0 n) := ⟨T0 n, trivial⟩
end armillaryref30_SameLog
open armillaryref30_SameLog in
noncomputable def armillaryref30_SameLog (n : Nat) (t0 : List S41) (t1 : List S41) : Option Bool :=
bif ((t0.length : Int) != (t1.length : Int)) then
some false
else
(l0 n n 0 t0 t1).bind fun z4 =>
sm z4 (fun z5 =>
some z5) fun z6 =>
some true
noncomputable def armillaryref30_SameLog.d (n : Nat) : FragD := ⟨⟨[(0, ph (.row c41)), (1, ph (.row c41))], []⟩, [⟨1, ⟨[(0, pb)], []⟩, Bool, fun x => x.1.1, fun r => ((r, ()), ()), fun _ => rfl⟩], fun x => armillaryref30_SameLog n x.1.1 x.1.2.1⟩
open armillaryref30_SameLog in
theorem armillaryref30_SameLog.ok (n : Nat) : FunOK Tryz.prog 32 (armillaryref30_SameLog.d n) := funR ⟨Tryz.prog, 27, F n, (r0 n), [], []⟩ Tryz.f32 (by kernel_rfl) (by kernel_rfl) (by kernel_rfl) (Fok n) (R0 n) noL (by kernel_rfl) (fun x => by kernel_rfl)

namespace armillaryref30_Same
noncomputable abbrev F (n : Nat) : List (Nat × FragD) := [(42, armillaryref30_SameMessages.d n), (32, armillaryref30_SameLog.d n)]
theorem Fok (n : Nat) : AllF Tryz.prog (F n) := ⟨armillaryref30_SameMessages.ok n, armillaryref30_SameLog.ok n, trivial⟩
end armillaryref30_Same
open armillaryref30_Same in
noncomputable def armillaryref30_Same (n : Nat) (t0 : S56) (t1 : S56) : Option Bool :=
bif t0.1 == t1.1 then
bif t0.2.1 == t1.2.1 then
bif t0.2.2.1 == t1.2.2.1 then
(armillaryref30_SameMessages n t0.2.2.2.1 t1.2.2.2.1).bind fun z1 =>
bif z1 then
(armillaryref30_SameMessages n t0.2.2.2.2.1 t1.2.2.2.2.1).bind fun z2 =>
bif z2 then
(armillaryref30_SameLog n t0.2.2.2.2.2 t1.2.2.2.2.2).bind fun z3 =>
some z3
else
some false
else
some false
else
some false
else
some false
else
some false
noncomputable def armillaryref30_Same.d (n : Nat) : FragD := ⟨⟨[(0, pst c56), (1, pst c56)], []⟩, [⟨1, ⟨[(0, pb)], []⟩, Bool, fun x => x.1.1, fun r => ((r, ()), ()), fun _ => rfl⟩], fun x => armillaryref30_Same n x.1.1 x.1.2.1⟩
open armillaryref30_Same in
theorem armillaryref30_Same.ok (n : Nat) : FunOK Tryz.prog 27 (armillaryref30_Same.d n) := funR ⟨Tryz.prog, 45, F n, [], [], []⟩ Tryz.f27 (by kernel_rfl) (by kernel_rfl) (by kernel_rfl) (Fok n) trivial noL (by kernel_rfl) (fun x => by kernel_rfl)

namespace armillaryref31_Same
noncomputable abbrev K := cBody Tryz.f14
noncomputable abbrev F (n : Nat) : List (Nat × FragD) := [(42, armillaryref30_SameMessages.d n), (27, armillaryref30_Same.d n)]
theorem Fok (n : Nat) : AllF Tryz.prog (F n) := ⟨armillaryref30_SameMessages.ok n, armillaryref30_Same.ok n, trivial⟩
noncomputable def j0 (n : Nat) (o0 : S31) (o1 : S31) : Option (Unit ⊕ Bool) :=
bif ((o0.1.length : Int) != (o1.1.length : Int)) then
some (.inr false)
else
bif ((o0.2.2.1.length : Int) != (o1.2.2.1.length : Int)) then
some (.inr false)
else
bif ((o0.2.2.2.length : Int) != (o1.2.2.2.length : Int)) then
some (.inr false)
else
(armillaryref30_SameMessages n o0.2.1 o1.2.1).bind fun z4 =>
bif !z4 then
some (.inr false)
else
some (.inl ())
noncomputable def D0 (n : Nat) : FragD := ⟨⟨[(2, pp 0), (3, pp 1)], [.stb 31 c31, .stb 31 c31]⟩, [⟨0, ⟨[], [.same, .same]⟩, Unit, fun _ => (), fun _ => ((), ((), (), ())), fun _ => rfl⟩, ⟨1, ⟨[(4, pb)], [.same, .same]⟩, Bool, fun x => x.1.1, fun r => ((r, ()), ((), (), ())), fun _ => rfl⟩], fun x => j0 n x.2.1 x.2.2.1⟩
theorem T0 (n : Nat) : FragOK Tryz.prog 96 (atN K 400 6) (D0 n) := fragR ⟨Tryz.prog, 96, F n, [], [], []⟩ (Fok n) trivial noL 6 (by kernel_rfl) (fun x => by kernel_rfl)
noncomputable abbrev r0 (n : Nat) : List (Nat × FragD) := (6, D0 n) :: []
theorem R0 (n : Nat) : AllFr Tryz.prog 96 K (r0 n) := ⟨T0 n, trivial⟩
noncomputable def s1 (n : Nat) (t5 : Int) (o0 : S31) (o1 : S31) : Option ((Int × S31 × S31) ⊕ ((Bool × S31 × S31) ⊕ (S31 × S31))) :=
bif (decide (t5 < (o0.1.length : Int))) then
ck (inb t5 o0.1.length) <|
ck (inb t5 o1.1.length) <|
(armillaryref30_Same n ((o0.1.getD t5.toNat z56).1, ((o0.1.getD t5.toNat z56).2).1, (((o0.1.getD t5.toNat z56).2).2).1, ((((o0.1.getD t5.toNat z56).2).2).2).1, (((((o0.1.getD t5.toNat z56).2).2).2).2)) ((o1.1.getD t5.toNat z56).1, ((o1.1.getD t5.toNat z56).2).1, (((o1.1.getD t5.toNat z56).2).2).1, ((((o1.1.getD t5.toNat z56).2).2).2).1, (((((o1.1.getD t5.toNat z56).2).2).2).2))).bind fun z9 =>
bif !z9 then
some (.inr (.inl (false, o0, o1)))
else
some (.inl (W .i64 (t5 + 1), o0, o1))
else
some (.inr (.inr (o0, o1)))
noncomputable def l1 (n : Nat) : Nat → Int → S31 → S31 → Option ((Bool × S31 × S31) ⊕ (S31 × S31))
| 0, _, _, _ => none
| k + 1, t5, o0, o1 => (s1 n t5 o0 o1).bind fun z => sm z (fun z => l1 n k z.1 z.2.1 z.2.2) some
noncomputable def L1 (n : Nat) : LoopD := ⟨[(2, pp 0), (3, pp 1), (5, pi)], [], [.stb 31 c31, .stb 31 c31], Int × S31 × S31, fun x => (x.1.2.2.1, x.2.1, x.2.2.1), fun r => (((), (), r.1, ()), (r.2.1, r.2.2, ())), fun _ => rfl, ⟨1, ⟨[(4, pb)], [.stb 31 c31, .stb 31 c31]⟩, Bool × S31 × S31, fun x => (x.1.1, x.2.1, x.2.2.1), fun r => ((r.1, ()), (r.2.1, r.2.2, ())), fun _ => rfl⟩, [⟨2, ⟨[], [.stb 31 c31, .stb 31 c31]⟩, S31 × S31, fun x => (x.2.1, x.2.2.1), fun r => ((), (r.1, r.2, ())), fun _ => rfl⟩], fun x => s1 n x.1.2.2.1 x.2.1 x.2.2.1, [0, 1]⟩
theorem T1 (n : Nat) : FragOK Tryz.prog 96 (atN K 400 58) ((L1 n).loopD fun x => l1 n n x.1.2.2.1 x.2.1 x.2.2.1) := loopR (L1 n) 58 (by kernel_rfl) (by kernel_rfl) (fragK ⟨Tryz.prog, 96, F n, (r0 n), [], []⟩ (Fok n) (R0 n) noL 116 (by kernel_rfl) (fun x => by kernel_rfl)) (fun k x => l1 n k x.1.2.2.1 x.2.1 x.2.2.1) (fun x => by kernel_rfl) (fun k x => by kernel_rfl) n
noncomputable abbrev r1 (n : Nat) : List (Nat × FragD) := (58, ((L1 n).loopD fun x => l1 n n x.1.2.2.1 x.2.1 x.2.2.1)) :: (r0 n)
theorem R1 (n : Nat) : AllFr Tryz.prog 96 K (r1 n) := ⟨T1 n, R0 n⟩
noncomputable def s2 (n : Nat) (t6 : Int) (o0 : S31) (o1 : S31) : Option ((Int × S31 × S31) ⊕ ((Bool × S31 × S31) ⊕ (S31 × S31))) :=
bif (decide (t6 < (o0.2.2.1.length : Int))) then
ck (inb t6 o0.2.2.1.length) <|
ck (inb t6 o1.2.2.1.length) <|
bif ((o0.2.2.1.getD t6.toNat 0) != (o1.2.2.1.getD t6.toNat 0)) then
some (.inr (.inl (false, o0, o1)))
else
some (.inl (W .i64 (t6 + 1), o0, o1))
else
some (.inr (.inr (o0, o1)))
noncomputable def l2 (n : Nat) : Nat → Int → S31 → S31 → Option ((Bool × S31 × S31) ⊕ (S31 × S31))
| 0, _, _, _ => none
| k + 1, t6, o0, o1 => (s2 n t6 o0 o1).bind fun z => sm z (fun z => l2 n k z.1 z.2.1 z.2.2) some
noncomputable def L2 (n : Nat) : LoopD := ⟨[(2, pp 0), (3, pp 1), (6, pi)], [], [.stb 31 c31, .stb 31 c31], Int × S31 × S31, fun x => (x.1.2.2.1, x.2.1, x.2.2.1), fun r => (((), (), r.1, ()), (r.2.1, r.2.2, ())), fun _ => rfl, ⟨1, ⟨[(4, pb)], [.stb 31 c31, .stb 31 c31]⟩, Bool × S31 × S31, fun x => (x.1.1, x.2.1, x.2.2.1), fun r => ((r.1, ()), (r.2.1, r.2.2, ())), fun _ => rfl⟩, [⟨4, ⟨[], [.stb 31 c31, .stb 31 c31]⟩, S31 × S31, fun x => (x.2.1, x.2.2.1), fun r => ((), (r.1, r.2, ())), fun _ => rfl⟩], fun x => s2 n x.1.2.2.1 x.2.1 x.2.2.1, [0, 1]⟩
theorem T2 (n : Nat) : FragOK Tryz.prog 96 (atN K 400 122) ((L2 n).loopD fun x => l2 n n x.1.2.2.1 x.2.1 x.2.2.1) := loopR (L2 n) 122 (by kernel_rfl) (by kernel_rfl) (fragK ⟨Tryz.prog, 96, F n, (r1 n), [], []⟩ (Fok n) (R1 n) noL 244 (by kernel_rfl) (fun x => by kernel_rfl)) (fun k x => l2 n k x.1.2.2.1 x.2.1 x.2.2.1) (fun x => by kernel_rfl) (fun k x => by kernel_rfl) n
noncomputable abbrev r2 (n : Nat) : List (Nat × FragD) := (122, ((L2 n).loopD fun x => l2 n n x.1.2.2.1 x.2.1 x.2.2.1)) :: (r1 n)
theorem R2 (n : Nat) : AllFr Tryz.prog 96 K (r2 n) := ⟨T2 n, R1 n⟩
noncomputable def s3 (n : Nat) (t7 : Int) (o0 : S31) (o1 : S31) : Option ((Int × S31 × S31) ⊕ ((Bool × S31 × S31) ⊕ (S31 × S31))) :=
bif (decide (t7 < (o0.2.2.2.length : Int))) then
ck (inb t7 o0.2.2.2.length) <|
ck (inb t7 o1.2.2.2.length) <|
bif ((o0.2.2.2.getD t7.toNat 0) != (o1.2.2.2.getD t7.toNat 0)) then
some (.inr (.inl (false, o0, o1)))
else
some (.inl (W .i64 (t7 + 1), o0, o1))
else
some (.inr (.inr (o0, o1)))
noncomputable def l3 (n : Nat) : Nat → Int → S31 → S31 → Option ((Bool × S31 × S31) ⊕ (S31 × S31))
| 0, _, _, _ => none
| k + 1, t7, o0, o1 => (s3 n t7 o0 o1).bind fun z => sm z (fun z => l3 n k z.1 z.2.1 z.2.2) some
noncomputable def L3 (n : Nat) : LoopD := ⟨[(2, pp 0), (3, pp 1), (7, pi)], [], [.stb 31 c31, .stb 31 c31], Int × S31 × S31, fun x => (x.1.2.2.1, x.2.1, x.2.2.1), fun r => (((), (), r.1, ()), (r.2.1, r.2.2, ())), fun _ => rfl, ⟨1, ⟨[(4, pb)], [.stb 31 c31, .stb 31 c31]⟩, Bool × S31 × S31, fun x => (x.1.1, x.2.1, x.2.2.1), fun r => ((r.1, ()), (r.2.1, r.2.2, ())), fun _ => rfl⟩, [⟨6, ⟨[], [.stb 31 c31, .stb 31 c31]⟩, S31 × S31, fun x => (x.2.1, x.2.2.1), fun r => ((), (r.1, r.2, ())), fun _ => rfl⟩], fun x => s3 n x.1.2.2.1 x.2.1 x.2.2.1, [0, 1]⟩
theorem T3 (n : Nat) : FragOK Tryz.prog 96 (atN K 400 250) ((L3 n).loopD fun x => l3 n n x.1.2.2.1 x.2.1 x.2.2.1) := loopR (L3 n) 250 (by kernel_rfl) (by kernel_rfl) (fragK ⟨Tryz.prog, 96, F n, (r2 n), [], []⟩ (Fok n) (R2 n) noL 500 (by kernel_rfl) (fun x => by kernel_rfl)) (fun k x => l3 n k x.1.2.2.1 x.2.1 x.2.2.1) (fun x => by kernel_rfl) (fun k x => by kernel_rfl) n
noncomputable abbrev r3 (n : Nat) : List (Nat × FragD) := (250, ((L3 n).loopD fun x => l3 n n x.1.2.2.1 x.2.1 x.2.2.1)) :: (r2 n)
theorem R3 (n : Nat) : AllFr Tryz.prog 96 K (r3 n) := ⟨T3 n, R2 n⟩
end armillaryref31_Same
open armillaryref31_Same in
noncomputable def armillaryref31_Same (n : Nat) (t0 : S31) (t1 : S31) : Option Bool :=
(j0 n t0 t1).bind fun z5 =>
sm z5 (fun z6 =>
(l1 n n 0 t0 t1).bind fun z10 =>
sm z10 (fun z11 =>
some z11.1) fun z12 =>
(l2 n n 0 z12.1 z12.2).bind fun z15 =>
sm z15 (fun z16 =>
some z16.1) fun z17 =>
(l3 n n 0 z17.1 z17.2).bind fun z20 =>
sm z20 (fun z21 =>
some z21.1) fun z22 =>
some true) fun z7 =>
some z7
noncomputable def armillaryref31_Same.d (n : Nat) : FragD := ⟨⟨[(0, pst c31), (1, pst c31)], []⟩, [⟨1, ⟨[(0, pb)], []⟩, Bool, fun x => x.1.1, fun r => ((r, ()), ()), fun _ => rfl⟩], fun x => armillaryref31_Same n x.1.1 x.1.2.1⟩
open armillaryref31_Same in
theorem armillaryref31_Same.ok (n : Nat) : FunOK Tryz.prog 14 (armillaryref31_Same.d n) := funR ⟨Tryz.prog, 96, F n, (r3 n), [], []⟩ Tryz.f14 (by kernel_rfl) (by kernel_rfl) (by kernel_rfl) (Fok n) (R3 n) noL (by kernel_rfl) (fun x => by kernel_rfl)

namespace slices_Equal_byte_byte
noncomputable abbrev K := cBody Tryz.f53
noncomputable abbrev F (n : Nat) : List (Nat × FragD) := []
theorem Fok (n : Nat) : AllF Tryz.prog (F n) := trivial
noncomputable def s0 (n : Nat) (t13 : Int) (t0 : List Int) (t1 : List Int) (t12 : Int) : Option (Int ⊕ (Bool ⊕ Unit)) :=
bif decide (t13 < t12) then
ck (inb t13 t0.length) <|
ck (inb t13 t1.length) <|
bif ((t0.getD t13.toNat 0) != (t1.getD t13.toNat 0)) then
some (.inr (.inl false))
else
some (.inl (W .i64 (t13 + 1)))
else
some (.inr (.inr ()))
noncomputable def l0 (n : Nat) : Nat → Int → List Int → List Int → Int → Option (Bool ⊕ Unit)
| 0, _, _, _, _ => none
| k + 1, t13, t0, t1, t12 => (s0 n t13 t0 t1 t12).bind fun z => sm z (fun z => l0 n k z t0 t1 t12) some
noncomputable def L0 (n : Nat) : LoopD := ⟨[(13, pi)], [(0, ph (.row (.int .u8))), (1, ph (.row (.int .u8))), (12, pi)], [], Int, fun x => x.1.1, fun r => ((r, ()), ()), fun _ => rfl, ⟨1, ⟨[(4, pb)], []⟩, Bool, fun x => x.1.1, fun r => ((r, ()), ()), fun _ => rfl⟩, [⟨2, ⟨[], []⟩, Unit, fun _ => (), fun _ => ((), ()), fun _ => rfl⟩], fun x => s0 n x.1.1 x.1.2.1 x.1.2.2.1 x.1.2.2.2.1, []⟩
theorem T0 (n : Nat) : FragOK Tryz.prog 26 (atN K 400 58) ((L0 n).loopD fun x => l0 n n x.1.1 x.1.2.1 x.1.2.2.1 x.1.2.2.2.1) := loopR (L0 n) 58 (by kernel_rfl) (by kernel_rfl) (fragK ⟨Tryz.prog, 26, F n, [], [], []⟩ (Fok n) trivial noL 116 (by kernel_rfl) (fun x => by kernel_rfl)) (fun k x => l0 n k x.1.1 x.1.2.1 x.1.2.2.1 x.1.2.2.2.1) (fun x => by kernel_rfl) (fun k x => by kernel_rfl) n
noncomputable abbrev r0 (n : Nat) : List (Nat × FragD) := (58, ((L0 n).loopD fun x => l0 n n x.1.1 x.1.2.1 x.1.2.2.1 x.1.2.2.2.1)) :: []
theorem R0 (n : Nat) : AllFr Tryz.prog 26 K (r0 n) := ⟨T0 n, trivial⟩
end slices_Equal_byte_byte
open slices_Equal_byte_byte in
noncomputable def slices_Equal_byte_byte (n : Nat) (t0 : List Int) (t1 : List Int) : Option Bool :=
bif ((t0.length : Int) != (t1.length : Int)) then
some false
else
(l0 n n 0 t0 t1 (t0.length : Int)).bind fun z3 =>
sm z3 (fun z4 =>
some z4) fun z5 =>
some true
noncomputable def slices_Equal_byte_byte.d (n : Nat) : FragD := ⟨⟨[(0, ph (.row (.int .u8))), (1, ph (.row (.int .u8)))], []⟩, [⟨1, ⟨[(0, pb)], []⟩, Bool, fun x => x.1.1, fun r => ((r, ()), ()), fun _ => rfl⟩], fun x => slices_Equal_byte_byte n x.1.1 x.1.2.1⟩
open slices_Equal_byte_byte in
theorem slices_Equal_byte_byte.ok (n : Nat) : FunOK Tryz.prog 53 (slices_Equal_byte_byte.d n) := funR ⟨Tryz.prog, 26, F n, (r0 n), [], []⟩ Tryz.f53 (by kernel_rfl) (by kernel_rfl) (by kernel_rfl) (Fok n) (R0 n) noL (by kernel_rfl) (fun x => by kernel_rfl)

namespace simnet_Consistent_1
noncomputable abbrev F (n : Nat) : List (Nat × FragD) := [(53, slices_Equal_byte_byte.d n)]
theorem Fok (n : Nat) : AllF Tryz.prog (F n) := ⟨slices_Equal_byte_byte.ok n, trivial⟩
end simnet_Consistent_1
open simnet_Consistent_1 in
noncomputable def simnet_Consistent_1 (n : Nat) (t0 : S41) (t1 : S41) : Option Bool :=
bif t0.1 == t1.1 then
bif (t0.2.1.toList == t1.2.1.toList) then
(slices_Equal_byte_byte n t0.2.2 t1.2.2).bind fun z2 =>
some z2
else
some false
else
some false
noncomputable def simnet_Consistent_1.d (n : Nat) : FragD := ⟨⟨[(0, pst c41), (1, pst c41)], []⟩, [⟨1, ⟨[(0, pb)], []⟩, Bool, fun x => x.1.1, fun r => ((r, ()), ()), fun _ => rfl⟩], fun x => simnet_Consistent_1 n x.1.1 x.1.2.1⟩
open simnet_Consistent_1 in
theorem simnet_Consistent_1.ok (n : Nat) : FunOK Tryz.prog 52 (simnet_Consistent_1.d n) := funR ⟨Tryz.prog, 24, F n, [], [], []⟩ Tryz.f52 (by kernel_rfl) (by kernel_rfl) (by kernel_rfl) (Fok n) trivial noL (by kernel_rfl) (fun x => by kernel_rfl)

namespace api_Entry_54
noncomputable abbrev K := cBody Tryz.f54
noncomputable abbrev F (n : Nat) : List (Nat × FragD) := [(52, simnet_Consistent_1.d n)]
theorem Fok (n : Nat) : AllF Tryz.prog (F n) := ⟨simnet_Consistent_1.ok n, trivial⟩
noncomputable def s0 (n : Nat) (t17 : Int) (t1 : List S41) (t15 : List S41) (t16 : Int) : Option (Int ⊕ (Bool ⊕ Unit)) :=
bif decide (t17 < t16) then
ck (inb t17 t15.length) <|
ck (inb t17 t1.length) <|
(simnet_Consistent_1 n ((t15.getD t17.toNat z41).1, ((t15.getD t17.toNat z41).2)) ((t1.getD t17.toNat z41).1, ((t1.getD t17.toNat z41).2))).bind fun z2 =>
bif !z2 then
some (.inr (.inl false))
else
some (.inl (W .i64 (t17 + 1)))
else
some (.inr (.inr ()))
noncomputable def l0 (n : Nat) : Nat → Int → List S41 → List S41 → Int → Option (Bool ⊕ Unit)
| 0, _, _, _, _ => none
| k + 1, t17, t1, t15, t16 => (s0 n t17 t1 t15 t16).bind fun z => sm z (fun z => l0 n k z t1 t15 t16) some
noncomputable def L0 (n : Nat) : LoopD := ⟨[(2, .w (.c (.fn 52 [] []))), (17, pi)], [(1, ph (.row c41)), (15, ph (.row c41)), (16, pi)], [], Int, fun x => x.1.2.1, fun r => (((), r, ()), ()), fun _ => rfl, ⟨1, ⟨[(6, pb)], []⟩, Bool, fun x => x.1.1, fun r => ((r, ()), ()), fun _ => rfl⟩, [⟨2, ⟨[], []⟩, Unit, fun _ => (), fun _ => ((), ()), fun _ => rfl⟩], fun x => s0 n x.1.2.1 x.1.2.2.1 x.1.2.2.2.1 x.1.2.2.2.2.1, []⟩
theorem T0 (n : Nat) : FragOK Tryz.prog 32 (atN K 400 58) ((L0 n).loopD fun x => l0 n n x.1.2.1 x.1.2.2.1 x.1.2.2.2.1 x.1.2.2.2.2.1) := loopR (L0 n) 58 (by kernel_rfl) (by kernel_rfl) (fragK ⟨Tryz.prog, 32, F n, [], [], []⟩ (Fok n) trivial noL 116 (by kernel_rfl) (fun x => by kernel_rfl)) (fun k x => l0 n k x.1.2.1 x.1.2.2.1 x.1.2.2.2.1 x.1.2.2.2.2.1) (fun x => by kernel_rfl) (fun k x => by kernel_rfl) n
noncomputable abbrev r0 (n : Nat) : List (Nat × FragD) := (58, ((L0 n).loopD fun x => l0 n n x.1.2.1 x.1.2.2.1 x.1.2.2.2.1 x.1.2.2.2.2.1)) :: []
theorem R0 (n : Nat) : AllFr Tryz.prog 32 K (r0 n) := ⟨T0 n, trivial⟩
end api_Entry_54
open api_Entry_54 in
noncomputable def api_Entry_54 (n : Nat) (t0 : List S41) (t1 : List S41) : Option Bool :=
bif ((t0.length : Int) != (t1.length : Int)) then
some false
else
(l0 n n 0 t1 t0 (t0.length : Int)).bind fun z3 =>
sm z3 (fun z4 =>
some z4) fun z5 =>
some true
noncomputable def api_Entry_54.d (n : Nat) : FragD := ⟨⟨[(0, ph (.row c41)), (1, ph (.row c41)), (2, .w (.c (.fn 52 [] [])))], []⟩, [⟨1, ⟨[(0, pb)], []⟩, Bool, fun x => x.1.1, fun r => ((r, ()), ()), fun _ => rfl⟩], fun x => api_Entry_54 n x.1.1 x.1.2.1⟩
open api_Entry_54 in
theorem api_Entry_54.ok (n : Nat) : FunOK Tryz.prog 54 (api_Entry_54.d n) := funR ⟨Tryz.prog, 32, F n, (r0 n), [], []⟩ Tryz.f54 (by kernel_rfl) (by kernel_rfl) (by kernel_rfl) (Fok n) (R0 n) noL (by kernel_rfl) (fun x => by kernel_rfl)

namespace simnet_Consistent
noncomputable abbrev K := cBody Tryz.f18
noncomputable abbrev F (n : Nat) : List (Nat × FragD) := [(50, simnet_open.d), (51, simnet_network_honest.d n), (54, api_Entry_54.d n)]
theorem Fok (n : Nat) : AllF Tryz.prog (F n) := ⟨simnet_open.ok, simnet_network_honest.ok n, api_Entry_54.ok n, trivial⟩
noncomputable def j0 (n : Nat) (t7 : List S41) (t8 : List S41) : Option (List S41 × List S41) :=
bif (decide ((t7.length : Int) > (t8.length : Int))) then
some (t8, t7)
else
some (t7, t8)
noncomputable def D0 (n : Nat) : FragD := ⟨⟨[(7, ph (.row c41)), (8, ph (.row c41))], []⟩, [⟨0, ⟨[(7, ph (.row c41)), (8, ph (.row c41))], []⟩, List S41 × List S41, fun x => (x.1.1, x.1.2.1), fun r => ((r.1, r.2, ()), ()), fun _ => rfl⟩], fun x => j0 n x.1.1 x.1.2.1⟩
set_option maxRecDepth 1000000 in
theorem T0 (n : Nat) : FragOK Tryz.prog 44 (atN K 400 62670) (D0 n) := fragR ⟨Tryz.prog, 44, F n, [], [], []⟩ (Fok n) trivial noL 62670 (by kernel_rfl) (fun x => by kernel_rfl)
noncomputable abbrev r0 (n : Nat) : List (Nat × FragD) := (62670, D0 n) :: []
theorem R0 (n : Nat) : AllFr Tryz.prog 44 K (r0 n) := ⟨T0 n, trivial⟩
noncomputable def s1 (n : Nat) (t3 : List S41) (t15 : Int) (t13 : List S56) (t14 : Int) (o0 : List Int) (o1 : List S56) (o2 : List S43) (o3 : List Int) : Option ((List S41 × Int × List Int × List S56 × List S43 × List Int) ⊕ ((Bool × List Int × List S56 × List S43 × List Int) ⊕ (List Int × List S56 × List S43 × List Int))) :=
bif decide (t15 < t14) then
ck (inb t15 t13.length) <|
(simnet_network_honest n t15 o0 o1 o2 o3).bind fun z2 =>
bif !z2 then
some (.inl (t3, W .i64 (t15 + 1), o0, o1, o2, o3))
else
(j0 n t3 ((((((t13.getD t15.toNat z56).2).2).2).2).2)).bind fun z4 =>
ck (inb (z4.1.length : Int) (z4.2.length + 1)) <|
(api_Entry_54 n z4.1 (z4.2.take (z4.1.length : Int).toNat)).bind fun z6 =>
bif !z6 then
some (.inr (.inl (false, o0, o1, o2, o3)))
else
some (.inl (z4.2, W .i64 (t15 + 1), o0, o1, o2, o3))
else
some (.inr (.inr (o0, o1, o2, o3)))
noncomputable def l1 (n : Nat) : Nat → List S41 → Int → List S56 → Int → List Int → List S56 → List S43 → List Int → Option ((Bool × List Int × List S56 × List S43 × List Int) ⊕ (List Int × List S56 × List S43 × List Int))
| 0, _, _, _, _, _, _, _, _ => none
| k + 1, t3, t15, t13, t14, o0, o1, o2, o3 => (s1 n t3 t15 t13 t14 o0 o1 o2 o3).bind fun z => sm z (fun z => l1 n k z.1 z.2.1 t13 t14 z.2.2.1 z.2.2.2.1 z.2.2.2.2.1 z.2.2.2.2.2) some
noncomputable def L1 (n : Nat) : LoopD := ⟨[(3, ph (.row c41)), (4, pp 0), (15, pi)], [(13, ph (.row c56)), (14, pi)], [.blk 92 [.sl 1, .sl 2, .sl 3, .h (.row (.int .i64))], .row 56 c56, .row 43 c43, .row 3 (.int .i64)], List S41 × Int × List Int × List S56 × List S43 × List Int, fun x => (x.1.1, x.1.2.2.1, x.2.1.2.2.2.1, x.2.2.1, x.2.2.2.1, x.2.2.2.2.1), fun r => ((r.1, (), r.2.1, ()), (((), (), (), r.2.2.1, ()), r.2.2.2.1, r.2.2.2.2.1, r.2.2.2.2.2, ())), fun _ => rfl, ⟨1, ⟨[(2, pb)], [.blk 92 [.sl 1, .sl 2, .sl 3, .h (.row (.int .i64))], .row 56 c56, .row 43 c43, .row 3 (.int .i64)]⟩, Bool × List Int × List S56 × List S43 × List Int, fun x => (x.1.1, x.2.1.2.2.2.1, x.2.2.1, x.2.2.2.1, x.2.2.2.2.1), fun r => ((r.1, ()), (((), (), (), r.2.1, ()), r.2.2.1, r.2.2.2.1, r.2.2.2.2, ())), fun _ => rfl⟩, [⟨2, ⟨[], [.blk 92 [.sl 1, .sl 2, .sl 3, .h (.row (.int .i64))], .row 56 c56, .row 43 c43, .row 3 (.int .i64)]⟩, List Int × List S56 × List S43 × List Int, fun x => (x.2.1.2.2.2.1, x.2.2.1, x.2.2.2.1, x.2.2.2.2.1), fun r => ((), (((), (), (), r.1, ()), r.2.1, r.2.2.1, r.2.2.2, ())), fun _ => rfl⟩], fun x => s1 n x.1.1 x.1.2.2.1 x.1.2.2.2.1 x.1.2.2.2.2.1 x.2.1.2.2.2.1 x.2.2.1 x.2.2.2.1 x.2.2.2.2.1, [0, 1, 2, 3]⟩
set_option maxRecDepth 1000000 in
theorem T1 (n : Nat) : FragOK Tryz.prog 44 (atN K 400 122) ((L1 n).loopD fun x => l1 n n x.1.1 x.1.2.2.1 x.1.2.2.2.1 x.1.2.2.2.2.1 x.2.1.2.2.2.1 x.2.2.1 x.2.2.2.1 x.2.2.2.2.1) := loopR (L1 n) 122 (by kernel_rfl) (by kernel_rfl) (fragK ⟨Tryz.prog, 44, F n, (r0 n), [], []⟩ (Fok n) (R0 n) noL 244 (by kernel_rfl) (fun x => by kernel_rfl)) (fun k x => l1 n k x.1.1 x.1.2.2.1 x.1.2.2.2.1 x.1.2.2.2.2.1 x.2.1.2.2.2.1 x.2.2.1 x.2.2.2.1 x.2.2.2.2.1) (fun x => by kernel_rfl) (fun k x => by kernel_rfl) n
noncomputable abbrev r1 (n : Nat) : List (Nat × FragD) := (122, ((L1 n).loopD fun x => l1 n n x.1.1 x.1.2.2.1 x.1.2.2.2.1 x.1.2.2.2.2.1 x.2.1.2.2.2.1 x.2.2.1 x.2.2.2.1 x.2.2.2.2.1)) :: (r0 n)
theorem R1 (n : Nat) : AllFr Tryz.prog 44 K (r1 n) := ⟨T1 n, R0 n⟩
end simnet_Consistent
open simnet_Consistent in
noncomputable def simnet_Consistent (n : Nat) (t0 : S31) : Option Bool :=
(simnet_open t0).bind fun z1 =>
(l1 n n ([] : List S41) 0 t0.1 (t0.1.length : Int) z1.1 z1.2.1 z1.2.2.1 z1.2.2.2).bind fun z7 =>
sm z7 (fun z8 =>
some z8.1) fun z9 =>
some true
noncomputable def simnet_Consistent.d (n : Nat) : FragD := ⟨⟨[(0, pst c31)], []⟩, [⟨1, ⟨[(0, pb)], []⟩, Bool, fun x => x.1.1, fun r => ((r, ()), ()), fun _ => rfl⟩], fun x => simnet_Consistent n x.1.1⟩
open simnet_Consistent in
set_option maxRecDepth 1000000 in
theorem simnet_Consistent.ok (n : Nat) : FunOK Tryz.prog 18 (simnet_Consistent.d n) := funR ⟨Tryz.prog, 44, F n, (r1 n), [], []⟩ Tryz.f18 (by kernel_rfl) (by kernel_rfl) (by kernel_rfl) (Fok n) (R1 n) noL (by kernel_rfl) (fun x => by kernel_rfl)

namespace armillaryref27_ValidEntry
noncomputable abbrev F : List (Nat × FragD) := []
theorem Fok : AllF Tryz.prog (F) := trivial
end armillaryref27_ValidEntry
open armillaryref27_ValidEntry in
noncomputable def armillaryref27_ValidEntry (t0 : S41) : Option Bool :=
bif decide (t0.1 ≥ 1) then
bif decide (t0.1 ≤ 4) then
bif (decide ((t0.2.1.size : Int) ≥ 1)) then
bif (decide ((t0.2.1.size : Int) ≤ 40)) then
some (decide ((t0.2.2.length : Int) ≤ 20000))
else
some false
else
some false
else
some false
else
some false
noncomputable def armillaryref27_ValidEntry.d : FragD := ⟨⟨[(0, pst c41)], []⟩, [⟨1, ⟨[(0, pb)], []⟩, Bool, fun x => x.1.1, fun r => ((r, ()), ()), fun _ => rfl⟩], fun x => armillaryref27_ValidEntry x.1.1⟩
open armillaryref27_ValidEntry in
set_option maxRecDepth 1000000 in
theorem armillaryref27_ValidEntry.ok : FunOK Tryz.prog 57 (armillaryref27_ValidEntry.d) := funR ⟨Tryz.prog, 29, F, [], [], []⟩ Tryz.f57 (by kernel_rfl) (by kernel_rfl) (by kernel_rfl) (Fok) trivial noL (by kernel_rfl) (fun x => by kernel_rfl)

namespace armillaryref27_AppendVarint
noncomputable abbrev K := cBody Tryz.f84
noncomputable abbrev F (n : Nat) : List (Nat × FragD) := []
theorem Fok (n : Nat) : AllF Tryz.prog (F n) := trivial
noncomputable def j0 (n : Nat) (t1 : Int) (t5 : Int) : Option Int :=
bif decide (t1 < 0) then
some (bXor .u64 18446744073709551615 t5)
else
some t5
noncomputable def D0 (n : Nat) : FragD := ⟨⟨[(1, pi), (5, ph (.int .u64))], []⟩, [⟨0, ⟨[(5, ph (.int .u64))], []⟩, Int, fun x => x.1.1, fun r => ((r, ()), ()), fun _ => rfl⟩], fun x => j0 n x.1.1 x.1.2.1⟩
set_option maxRecDepth 1000000 in
theorem T0 (n : Nat) : FragOK Tryz.prog 32 (atN K 400 14) (D0 n) := fragR ⟨Tryz.prog, 32, F n, [], [], []⟩ (Fok n) trivial noL 14 (by kernel_rfl) (fun x => by kernel_rfl)
noncomputable abbrev r0 (n : Nat) : List (Nat × FragD) := (14, D0 n) :: []
theorem R0 (n : Nat) : AllFr Tryz.prog 32 K (r0 n) := ⟨T0 n, trivial⟩
noncomputable def s1 (n : Nat) (t5 : Int) (o0 : List Int) : Option ((Int × List Int) ⊕ (Int × List Int)) :=
bif decide (t5 ≥ 128) then
ck (room (o0.length + 1) 1) <|
some (.inl (Int.fdiv t5 128, (o0 ++ [bOr .u8 (W .u8 t5) 128])))
else
some (.inr (t5, o0))
noncomputable def l1 (n : Nat) : Nat → Int → List Int → Option (Int × List Int)
| 0, _, _ => none
| k + 1, t5, o0 => (s1 n t5 o0).bind fun z => sm z (fun z => l1 n k z.1 z.2) some
noncomputable def L1 (n : Nat) : LoopD := ⟨[(5, ph (.int .u64)), (6, po 0)], [], [.row 5 (.int .u8)], Int × List Int, fun x => (x.1.1, x.2.1), fun r => ((r.1, (), ()), (r.2, ())), fun _ => rfl, ⟨2, ⟨[(5, ph (.int .u64)), (6, po 1)], [.gone, .row 5 (.int .u8)]⟩, Int × List Int, fun x => (x.1.1, x.2.2.1), fun r => ((r.1, (), ()), ((), r.2, ())), fun _ => rfl⟩, [], fun x => s1 n x.1.1 x.2.1, []⟩
set_option maxRecDepth 1000000 in
theorem T1 (n : Nat) : FragOK Tryz.prog 32 (atN K 400 124) ((L1 n).loopD fun x => l1 n n x.1.1 x.2.1) := loopR (L1 n) 124 (by kernel_rfl) (by kernel_rfl) (fragK ⟨Tryz.prog, 32, F n, (r0 n), [], []⟩ (Fok n) (R0 n) noL 248 (by kernel_rfl) (fun x => by kernel_rfl)) (fun k x => l1 n k x.1.1 x.2.1) (fun x => by kernel_rfl) (fun k x => by kernel_rfl) n
noncomputable abbrev r1 (n : Nat) : List (Nat × FragD) := (124, ((L1 n).loopD fun x => l1 n n x.1.1 x.2.1)) :: (r0 n)
theorem R1 (n : Nat) : AllFr Tryz.prog 32 K (r1 n) := ⟨T1 n, R0 n⟩
end armillaryref27_AppendVarint
open armillaryref27_AppendVarint in
noncomputable def armillaryref27_AppendVarint (n : Nat) (t0 : List Int) (t1 : Int) : Option (List Int) :=
(j0 n t1 (W .u64 ((W .u64 t1) * 2))).bind fun z2 =>
ck (room (0 + t0.length) 1) <|
(l1 n n z2 (([] : List Int) ++ t0)).bind fun z4 =>
ck (room (z4.2.length + 1) 1) <|
some (z4.2 ++ [W .u8 z4.1])
noncomputable def armillaryref27_AppendVarint.d (n : Nat) : FragD := ⟨⟨[(0, ph (.row (.int .u8))), (1, pi)], []⟩, [⟨1, ⟨[(0, po 0)], [.row 5 (.int .u8)]⟩, List Int, fun x => x.2.1, fun r => (((), ()), (r, ())), fun _ => rfl⟩], fun x => armillaryref27_AppendVarint n x.1.1 x.1.2.1⟩
open armillaryref27_AppendVarint in
set_option maxRecDepth 1000000 in
theorem armillaryref27_AppendVarint.ok (n : Nat) : FunOK Tryz.prog 84 (armillaryref27_AppendVarint.d n) := funR ⟨Tryz.prog, 32, F n, (r1 n), [], []⟩ Tryz.f84 (by kernel_rfl) (by kernel_rfl) (by kernel_rfl) (Fok n) (R1 n) noL (by kernel_rfl) (fun x => by kernel_rfl)

namespace armillaryref27_EncodeEntry
noncomputable abbrev F (n : Nat) : List (Nat × FragD) := [(57, armillaryref27_ValidEntry.d), (84, armillaryref27_AppendVarint.d n)]
theorem Fok (n : Nat) : AllF Tryz.prog (F n) := ⟨armillaryref27_ValidEntry.ok, armillaryref27_AppendVarint.ok n, trivial⟩
end armillaryref27_EncodeEntry
open armillaryref27_EncodeEntry in
noncomputable def armillaryref27_EncodeEntry (n : Nat) (t0 : S41) : Option (Int × List Int) :=
(armillaryref27_ValidEntry t0).bind fun z1 =>
bif !z1 then
some (1, ([] : List Int))
else
(armillaryref27_AppendVarint n ([] : List Int) t0.1).bind fun z2 =>
(armillaryref27_AppendVarint n z2 (t0.2.1.size : Int)).bind fun z3 =>
ck (decide (t0.2.1.size ≤ 9223372036854775807)) <|
ck (room (z3.length + (bytesOf t0.2.1).length) 1) <|
(armillaryref27_AppendVarint n (z3 ++ (bytesOf t0.2.1)) (t0.2.2.length : Int)).bind fun z4 =>
ck (room (z4.length + t0.2.2.length) 1) <|
some (0, z4 ++ t0.2.2)
noncomputable def armillaryref27_EncodeEntry.d (n : Nat) : FragD := ⟨⟨[(0, pst c41)], []⟩, [⟨1, ⟨[(0, .tup [.c (.sl 0), .c (.h (.int .i64))])], [.row 5 (.int .u8)]⟩, Int × List Int, fun x => (x.1.1.2.1, x.2.1), fun r => ((((), r.1, ()), ()), (r.2, ())), fun _ => rfl⟩], fun x => armillaryref27_EncodeEntry n x.1.1⟩
open armillaryref27_EncodeEntry in
set_option maxRecDepth 1000000 in
theorem armillaryref27_EncodeEntry.ok (n : Nat) : FunOK Tryz.prog 59 (armillaryref27_EncodeEntry.d n) := funR ⟨Tryz.prog, 30, F n, [], [], []⟩ Tryz.f59 (by kernel_rfl) (by kernel_rfl) (by kernel_rfl) (Fok n) trivial noL (by kernel_rfl) (fun x => by kernel_rfl)

namespace armillaryref27_Checksum
noncomputable abbrev K := cBody Tryz.f60
noncomputable abbrev F (n : Nat) : List (Nat × FragD) := []
theorem Fok (n : Nat) : AllF Tryz.prog (F n) := trivial
noncomputable def s0 (n : Nat) (t3 : Int) (t5 : Int) : Option ((Int × Int) ⊕ Int) :=
bif decide (t5 < 8) then
bif (bAnd .u32 t3 1) == 1 then
some (.inl ((bXor .u32 (Int.fdiv t3 2) 3988292384), W .i64 (t5 + 1)))
else
some (.inl (Int.fdiv t3 2, W .i64 (t5 + 1)))
else
some (.inr t3)
noncomputable def l0 (n : Nat) : Nat → Int → Int → Option Int
| 0, _, _ => none
| k + 1, t3, t5 => (s0 n t3 t5).bind fun z => sm z (fun z => l0 n k z.1 z.2) some
noncomputable def L0 (n : Nat) : LoopD := ⟨[(3, ph (.int .u32)), (5, pi)], [], [], Int × Int, fun x => (x.1.1, x.1.2.1), fun r => ((r.1, r.2, ()), ()), fun _ => rfl, ⟨4, ⟨[(3, ph (.int .u32))], []⟩, Int, fun x => x.1.1, fun r => ((r, ()), ()), fun _ => rfl⟩, [], fun x => s0 n x.1.1 x.1.2.1, []⟩
set_option maxRecDepth 1000000 in
theorem T0 (n : Nat) : FragOK Tryz.prog 33 (atN K 400 7462) ((L0 n).loopD fun x => l0 n n x.1.1 x.1.2.1) := loopR (L0 n) 7462 (by kernel_rfl) (by kernel_rfl) (fragK ⟨Tryz.prog, 33, F n, [], [], []⟩ (Fok n) trivial noL 14924 (by kernel_rfl) (fun x => by kernel_rfl)) (fun k x => l0 n k x.1.1 x.1.2.1) (fun x => by kernel_rfl) (fun k x => by kernel_rfl) n
noncomputable abbrev r0 (n : Nat) : List (Nat × FragD) := (7462, ((L0 n).loopD fun x => l0 n n x.1.1 x.1.2.1)) :: []
theorem R0 (n : Nat) : AllFr Tryz.prog 33 K (r0 n) := ⟨T0 n, trivial⟩
noncomputable def s1 (n : Nat) (t3 : Int) (t4 : Int) (t0 : List Int) : Option ((Int × Int) ⊕ Int) :=
bif (decide (t4 < (t0.length : Int))) then
ck (inb t4 t0.length) <|
(l0 n n (bXor .u32 t3 (W .u32 (t0.getD t4.toNat 0))) 0).bind fun z4 =>
some (.inl (z4, W .i64 (t4 + 1)))
else
some (.inr t3)
noncomputable def l1 (n : Nat) : Nat → Int → Int → List Int → Option Int
| 0, _, _, _ => none
| k + 1, t3, t4, t0 => (s1 n t3 t4 t0).bind fun z => sm z (fun z => l1 n k z.1 z.2 t0) some
noncomputable def L1 (n : Nat) : LoopD := ⟨[(3, ph (.int .u32)), (4, pi)], [(0, ph (.row (.int .u8)))], [], Int × Int, fun x => (x.1.1, x.1.2.1), fun r => ((r.1, r.2, ()), ()), fun _ => rfl, ⟨2, ⟨[(3, ph (.int .u32))], []⟩, Int, fun x => x.1.1, fun r => ((r, ()), ()), fun _ => rfl⟩, [], fun x => s1 n x.1.1 x.1.2.1 x.1.2.2.1, []⟩
set_option maxRecDepth 1000000 in
theorem T1 (n : Nat) : FragOK Tryz.prog 33 (atN K 400 58) ((L1 n).loopD fun x => l1 n n x.1.1 x.1.2.1 x.1.2.2.1) := loopR (L1 n) 58 (by kernel_rfl) (by kernel_rfl) (fragK ⟨Tryz.prog, 33, F n, (r0 n), [], []⟩ (Fok n) (R0 n) noL 116 (by kernel_rfl) (fun x => by kernel_rfl)) (fun k x => l1 n k x.1.1 x.1.2.1 x.1.2.2.1) (fun x => by kernel_rfl) (fun k x => by kernel_rfl) n
noncomputable abbrev r1 (n : Nat) : List (Nat × FragD) := (58, ((L1 n).loopD fun x => l1 n n x.1.1 x.1.2.1 x.1.2.2.1)) :: (r0 n)
theorem R1 (n : Nat) : AllFr Tryz.prog 33 K (r1 n) := ⟨T1 n, R0 n⟩
end armillaryref27_Checksum
open armillaryref27_Checksum in
noncomputable def armillaryref27_Checksum (n : Nat) (t0 : List Int) : Option Int :=
(l1 n n 4294967295 0 t0).bind fun z5 =>
some (bXor .u32 z5 4294967295)
noncomputable def armillaryref27_Checksum.d (n : Nat) : FragD := ⟨⟨[(0, ph (.row (.int .u8)))], []⟩, [⟨1, ⟨[(0, ph (.int .u32))], []⟩, Int, fun x => x.1.1, fun r => ((r, ()), ()), fun _ => rfl⟩], fun x => armillaryref27_Checksum n x.1.1⟩
open armillaryref27_Checksum in
set_option maxRecDepth 1000000 in
theorem armillaryref27_Checksum.ok (n : Nat) : FunOK Tryz.prog 60 (armillaryref27_Checksum.d n) := funR ⟨Tryz.prog, 33, F n, (r1 n), [], []⟩ Tryz.f60 (by kernel_rfl) (by kernel_rfl) (by kernel_rfl) (Fok n) (R1 n) noL (by kernel_rfl) (fun x => by kernel_rfl)

namespace armillaryref31_Sum
noncomputable abbrev F (n : Nat) : List (Nat × FragD) := [(59, armillaryref27_EncodeEntry.d n), (60, armillaryref27_Checksum.d n)]
theorem Fok (n : Nat) : AllF Tryz.prog (F n) := ⟨armillaryref27_EncodeEntry.ok n, armillaryref27_Checksum.ok n, trivial⟩
end armillaryref31_Sum
open armillaryref31_Sum in
noncomputable def armillaryref31_Sum (n : Nat) (t0 : S41) : Option Int :=
(armillaryref27_EncodeEntry n t0).bind fun z1 =>
(armillaryref27_Checksum n z1.2).bind fun z2 =>
some z2
noncomputable def armillaryref31_Sum.d (n : Nat) : FragD := ⟨⟨[(0, pst c41)], []⟩, [⟨1, ⟨[(0, ph (.int .u32))], []⟩, Int, fun x => x.1.1, fun r => ((r, ()), ()), fun _ => rfl⟩], fun x => armillaryref31_Sum n x.1.1⟩
open armillaryref31_Sum in
set_option maxRecDepth 1000000 in
theorem armillaryref31_Sum.ok (n : Nat) : FunOK Tryz.prog 36 (armillaryref31_Sum.d n) := funR ⟨Tryz.prog, 12, F n, [], [], []⟩ Tryz.f36 (by kernel_rfl) (by kernel_rfl) (by kernel_rfl) (Fok n) trivial noL (by kernel_rfl) (fun x => by kernel_rfl)

namespace armillarylaw31_sanity
noncomputable abbrev K := cBody Tryz.f11
noncomputable abbrev F (n : Nat) : List (Nat × FragD) := [(12, simnet_New.d n), (30, armillaryref31_Entry.d), (31, armillarylaw31_ask.d), (16, simnet_Apply.d n), (21, simnet_Drain.d n), (35, armillaryref27_Same.d), (14, armillaryref31_Same.d n), (18, simnet_Consistent.d n), (36, armillaryref31_Sum.d n)]
theorem Fok (n : Nat) : AllF Tryz.prog (F n) := ⟨simnet_New.ok n, armillaryref31_Entry.ok, armillarylaw31_ask.ok, simnet_Apply.ok n, simnet_Drain.ok n, armillaryref27_Same.ok, armillaryref31_Same.ok n, simnet_Consistent.ok n, armillaryref31_Sum.ok n, trivial⟩
noncomputable def j0 (n : Nat) (t2 : Int) (o0 : S31) (o1_0 : List S56) (o1_1 : List S43) (o1_2 : List Int) (o1_3 : List Int) (o2 : List Int) (o3 : List S56) (o4 : List S43) (o5 : List Int) : Option (Unit ⊕ Bool) :=
bif t2 != 0 then
some (.inr false)
else
bif (o3.length : Int) != 4 then
some (.inr false)
else
bif (o1_1.length : Int) != 4 then
some (.inr false)
else
bif (o0.1.length : Int) != 4 then
some (.inr false)
else
some (.inl ())
noncomputable def D0 (n : Nat) : FragD := ⟨⟨[(1, pp 0), (2, pi), (11, pp 1), (12, pp 2)], [.stb 31 c31, .blk 31 [.h (.row c56), .h (.row c43), .h (.row (.int .i64)), .h (.row (.int .i64))], .blk 31 [.sl 3, .sl 4, .sl 5, .h (.row (.int .i64))], .row 56 c56, .row 43 c43, .row 3 (.int .i64)]⟩, [⟨0, ⟨[], [.same, .same, .same, .same, .same, .same]⟩, Unit, fun _ => (), fun _ => ((), ((), (), (), (), (), (), ())), fun _ => rfl⟩, ⟨1, ⟨[(0, pb)], [.same, .same, .same, .same, .same, .same]⟩, Bool, fun x => x.1.1, fun r => ((r, ()), ((), (), (), (), (), (), ())), fun _ => rfl⟩], fun x => j0 n x.1.2.1 x.2.1 x.2.2.1.1 x.2.2.1.2.1 x.2.2.1.2.2.1 x.2.2.1.2.2.2.1 x.2.2.2.1.2.2.2.1 x.2.2.2.2.1 x.2.2.2.2.2.1 x.2.2.2.2.2.2.1⟩
set_option maxRecDepth 1000000 in
theorem T0 (n : Nat) : FragOK Tryz.prog 222 (atN K 400 2046) (D0 n) := fragR ⟨Tryz.prog, 222, F n, [], [], []⟩ (Fok n) trivial noL 2046 (by kernel_rfl) (fun x => by kernel_rfl)
noncomputable abbrev r0 (n : Nat) : List (Nat × FragD) := (2046, D0 n) :: []
theorem R0 (n : Nat) : AllFr Tryz.prog 222 K (r0 n) := ⟨T0 n, trivial⟩
end armillarylaw31_sanity
open armillarylaw31_sanity in
noncomputable def armillarylaw31_sanity (n : Nat) : Option Bool :=
(simnet_New n 4 [3]).bind fun z1 =>
(simnet_New n 3 [1]).bind fun z2 =>
(simnet_New n 0 ([] : List Int)).bind fun z3 =>
(simnet_New n 7 [1, 1]).bind fun z4 =>
(simnet_New n 14 ([] : List Int)).bind fun z5 =>
(armillaryref31_Entry 0).bind fun z6 =>
(armillarylaw31_ask 0 z6).bind fun z7 =>
(simnet_Apply n (z1.1, z1.2.1, z1.2.2.1, z1.2.2.2.1) z7).bind fun z8 =>
(simnet_Drain n (z8.2.1, z8.2.2.1, z8.2.2.2, z8.1) 1000).bind fun z9 =>
(armillaryref31_Entry 0).bind fun z10 =>
(armillarylaw31_ask 3 z10).bind fun z11 =>
(simnet_Apply n (z1.1, z1.2.1, z1.2.2.1, z1.2.2.2.1) z11).bind fun z12 =>
(j0 n z1.2.2.2.2 (z1.1, z1.2.1, z1.2.2.1, z1.2.2.2.1) z8.2.1 z8.2.2.1 z8.2.2.2 z8.1 z9.1 z9.2.1 z9.2.2.1 z9.2.2.2).bind fun z13 =>
sm z13 (fun z14 =>
(simnet_Apply n (z1.1, z1.2.1, z1.2.2.1, z1.2.2.2.1) (7, 0, 2, 4, 3, 1, 0, 0, 0, (⟨#[]⟩ : ByteArray), ([] : List Int))).bind fun z16 =>
(simnet_Apply n (z1.1, z1.2.1, z1.2.2.1, z1.2.2.2.1) (7, 0, 2, 4, 1, 1, 0, 0, 0, (⟨#[]⟩ : ByteArray), ([] : List Int))).bind fun z17 =>
ck (room (0 + z9.2.1.length) 96) <|
(armillaryref31_Entry 1).bind fun z18 =>
ck (inb 1 (([] : List S56) ++ z9.2.1).length) <|
bif z2.2.2.2.2 == 1 then
bif z3.2.2.2.2 == 1 then
bif z4.2.2.2.2 == 1 then
bif z5.2.2.2.2 == 1 then
bif ((z1.2.1.length : Int) == 0) then
bif ((z9.2.2.1.length : Int) == 0) then
ck (inb 0 z9.2.1.length) <|
bif ((((((((z9.2.1.getD 0 z56).2).2).2).2).2).length : Int) == 1) then
ck (inb 1 z9.2.1.length) <|
bif ((((((((z9.2.1.getD 1 z56).2).2).2).2).2).length : Int) == 1) then
ck (inb 2 z9.2.1.length) <|
bif ((((((((z9.2.1.getD 2 z56).2).2).2).2).2).length : Int) == 1) then
ck (inb 3 z9.2.1.length) <|
bif ((((((((z9.2.1.getD 3 z56).2).2).2).2).2).length : Int) == 0) then
ck (inb 1 z9.2.1.length) <|
ck (inb 0 ((((((z9.2.1.getD 1 z56).2).2).2).2).2).length) <|
(armillaryref31_Entry 0).bind fun z27 =>
(armillaryref27_Same (((((((z9.2.1.getD 1 z56).2).2).2).2).2).getD 0 z41) z27).bind fun z28 =>
bif z28 then
(armillaryref31_Same n (z12.2.1, z12.2.2.1, z12.2.2.2, z12.1) (z1.1, z1.2.1, z1.2.2.1, z1.2.2.2.1)).bind fun z29 =>
bif z29 then
bif ((z16.2.2.1.length : Int) == 1) then
bif ((z16.2.2.2.length : Int) == 1) then
ck (inb 0 z16.2.2.2.length) <|
bif (z16.2.2.2.getD 0 0) == 2 then
(armillaryref31_Same n (z17.2.1, z17.2.2.1, z17.2.2.2, z17.1) (z1.1, z1.2.1, z1.2.2.1, z1.2.2.2.1)).bind fun z32 =>
bif z32 then
(simnet_Consistent n (z9.2.1, z9.2.2.1, z9.2.2.2, z9.1)).bind fun z33 =>
bif z33 then
(simnet_Consistent n (((([] : List S56) ++ z9.2.1).set 1 (((([] : List S56) ++ z9.2.1).getD 1 z56).1, (((([] : List S56) ++ z9.2.1).getD 1 z56).2).1, ((((([] : List S56) ++ z9.2.1).getD 1 z56).2).2).1, (((((([] : List S56) ++ z9.2.1).getD 1 z56).2).2).2).1, ((((((([] : List S56) ++ z9.2.1).getD 1 z56).2).2).2).2).1, [z18])), z9.2.2.1, z9.2.2.2, z9.1)).bind fun z34 =>
bif !z34 then
(armillaryref31_Entry 0).bind fun z35 =>
(armillaryref31_Sum n z35).bind fun z36 =>
(armillaryref31_Entry 1).bind fun z37 =>
(armillaryref31_Sum n z37).bind fun z38 =>
bif z36 != z38 then
(armillaryref31_Entry 0).bind fun z39 =>
(armillaryref31_Sum n z39).bind fun z40 =>
(armillaryref31_Entry 2).bind fun z41 =>
(armillaryref31_Sum n z41).bind fun z42 =>
bif z40 != z42 then
(armillaryref31_Entry 1).bind fun z43 =>
(armillaryref31_Sum n z43).bind fun z44 =>
(armillaryref31_Entry 2).bind fun z45 =>
(armillaryref31_Sum n z45).bind fun z46 =>
some (z44 != z46)
else
some false
else
some false
else
some false
else
some false
else
some false
else
some false
else
some false
else
some false
else
some false
else
some false
else
some false
else
some false
else
some false
else
some false
else
some false
else
some false
else
some false
else
some false
else
some false
else
some false) fun z15 =>
some z15
noncomputable def armillarylaw31_sanity.d (n : Nat) : FragD := ⟨⟨[], []⟩, [⟨1, ⟨[(0, pb)], []⟩, Bool, fun x => x.1.1, fun r => ((r, ()), ()), fun _ => rfl⟩], fun _ => armillarylaw31_sanity n⟩
open armillarylaw31_sanity in
set_option maxRecDepth 1000000 in
theorem armillarylaw31_sanity.ok (n : Nat) : FunOK Tryz.prog 11 (armillarylaw31_sanity.d n) := funR ⟨Tryz.prog, 222, F n, (r0 n), [], []⟩ Tryz.f11 (by kernel_rfl) (by kernel_rfl) (by kernel_rfl) (Fok n) (R0 n) noL (by kernel_rfl) (fun x => by kernel_rfl)

namespace armillaryref29_replicas
noncomputable abbrev F : List (Nat × FragD) := []
theorem Fok : AllF Tryz.prog (F) := trivial
end armillaryref29_replicas
open armillaryref29_replicas in
noncomputable def armillaryref29_replicas (t0 : Int) : Option Bool :=
bif decide (t0 ≥ 1) then
some (decide (t0 ≤ 13))
else
some false
noncomputable def armillaryref29_replicas.d : FragD := ⟨⟨[(0, pi)], []⟩, [⟨1, ⟨[(0, pb)], []⟩, Bool, fun x => x.1.1, fun r => ((r, ()), ()), fun _ => rfl⟩], fun x => armillaryref29_replicas x.1.1⟩
open armillaryref29_replicas in
theorem armillaryref29_replicas.ok : FunOK Tryz.prog 63 (armillaryref29_replicas.d) := funR ⟨Tryz.prog, 9, F, [], [], []⟩ Tryz.f63 (by kernel_rfl) (by kernel_rfl) (by kernel_rfl) (Fok) trivial noL (by kernel_rfl) (fun x => by kernel_rfl)

namespace armillaryref29_MaxFaulty
noncomputable abbrev F : List (Nat × FragD) := [(63, armillaryref29_replicas.d)]
theorem Fok : AllF Tryz.prog (F) := ⟨armillaryref29_replicas.ok, trivial⟩
end armillaryref29_MaxFaulty
open armillaryref29_MaxFaulty in
noncomputable def armillaryref29_MaxFaulty (t0 : Int) : Option Int :=
(armillaryref29_replicas t0).bind fun z1 =>
bif !z1 then
some 0
else
some (W .i64 ((W .i64 (t0 - 1)).tdiv 3))
noncomputable def armillaryref29_MaxFaulty.d : FragD := ⟨⟨[(0, pi)], []⟩, [⟨1, ⟨[(0, pi)], []⟩, Int, fun x => x.1.1, fun r => ((r, ()), ()), fun _ => rfl⟩], fun x => armillaryref29_MaxFaulty x.1.1⟩
open armillaryref29_MaxFaulty in
theorem armillaryref29_MaxFaulty.ok : FunOK Tryz.prog 41 (armillaryref29_MaxFaulty.d) := funR ⟨Tryz.prog, 9, F, [], [], []⟩ Tryz.f41 (by kernel_rfl) (by kernel_rfl) (by kernel_rfl) (Fok) trivial noL (by kernel_rfl) (fun x => by kernel_rfl)

namespace armillaryref31_Contains
noncomputable abbrev K := cBody Tryz.f26
noncomputable abbrev F (n : Nat) : List (Nat × FragD) := []
theorem Fok (n : Nat) : AllF Tryz.prog (F n) := trivial
noncomputable def s0 (n : Nat) (t5 : Int) (t0 : List Int) (t1 : Int) : Option (Int ⊕ (Bool ⊕ Unit)) :=
bif (decide (t5 < (t0.length : Int))) then
ck (inb t5 t0.length) <|
bif ((t0.getD t5.toNat 0) == t1) then
some (.inr (.inl true))
else
some (.inl (W .i64 (t5 + 1)))
else
some (.inr (.inr ()))
noncomputable def l0 (n : Nat) : Nat → Int → List Int → Int → Option (Bool ⊕ Unit)
| 0, _, _, _ => none
| k + 1, t5, t0, t1 => (s0 n t5 t0 t1).bind fun z => sm z (fun z => l0 n k z t0 t1) some
noncomputable def L0 (n : Nat) : LoopD := ⟨[(5, pi)], [(0, ph (.row (.int .i64))), (1, pi)], [], Int, fun x => x.1.1, fun r => ((r, ()), ()), fun _ => rfl, ⟨1, ⟨[(4, pb)], []⟩, Bool, fun x => x.1.1, fun r => ((r, ()), ()), fun _ => rfl⟩, [⟨2, ⟨[], []⟩, Unit, fun _ => (), fun _ => ((), ()), fun _ => rfl⟩], fun x => s0 n x.1.1 x.1.2.1 x.1.2.2.1, []⟩
theorem T0 (n : Nat) : FragOK Tryz.prog 18 (atN K 400 26) ((L0 n).loopD fun x => l0 n n x.1.1 x.1.2.1 x.1.2.2.1) := loopR (L0 n) 26 (by kernel_rfl) (by kernel_rfl) (fragK ⟨Tryz.prog, 18, F n, [], [], []⟩ (Fok n) trivial noL 52 (by kernel_rfl) (fun x => by kernel_rfl)) (fun k x => l0 n k x.1.1 x.1.2.1 x.1.2.2.1) (fun x => by kernel_rfl) (fun k x => by kernel_rfl) n
noncomputable abbrev r0 (n : Nat) : List (Nat × FragD) := (26, ((L0 n).loopD fun x => l0 n n x.1.1 x.1.2.1 x.1.2.2.1)) :: []
theorem R0 (n : Nat) : AllFr Tryz.prog 18 K (r0 n) := ⟨T0 n, trivial⟩
end armillaryref31_Contains
open armillaryref31_Contains in
noncomputable def armillaryref31_Contains (n : Nat) (t0 : List Int) (t1 : Int) : Option Bool :=
(l0 n n 0 t0 t1).bind fun z3 =>
sm z3 (fun z4 =>
some z4) fun z5 =>
some false
noncomputable def armillaryref31_Contains.d (n : Nat) : FragD := ⟨⟨[(0, ph (.row (.int .i64))), (1, pi)], []⟩, [⟨1, ⟨[(0, pb)], []⟩, Bool, fun x => x.1.1, fun r => ((r, ()), ()), fun _ => rfl⟩], fun x => armillaryref31_Contains n x.1.1 x.1.2.1⟩
open armillaryref31_Contains in
theorem armillaryref31_Contains.ok (n : Nat) : FunOK Tryz.prog 26 (armillaryref31_Contains.d n) := funR ⟨Tryz.prog, 18, F n, (r0 n), [], []⟩ Tryz.f26 (by kernel_rfl) (by kernel_rfl) (by kernel_rfl) (Fok n) (R0 n) noL (by kernel_rfl) (fun x => by kernel_rfl)

namespace armillaryref31_Contains_2
noncomputable abbrev K := cBody Tryz.f26
noncomputable abbrev F (n : Nat) : List (Nat × FragD) := []
theorem Fok (n : Nat) : AllF Tryz.prog (F n) := trivial
noncomputable def s0 (n : Nat) (t5 : Int) (t1 : Int) (o0 : List Int) : Option ((Int × List Int) ⊕ ((Bool × List Int) ⊕ List Int)) :=
bif (decide (t5 < (o0.length : Int))) then
ck (inb t5 o0.length) <|
bif ((o0.getD t5.toNat 0) == t1) then
some (.inr (.inl (true, o0)))
else
some (.inl (W .i64 (t5 + 1), o0))
else
some (.inr (.inr o0))
noncomputable def l0 (n : Nat) : Nat → Int → Int → List Int → Option ((Bool × List Int) ⊕ List Int)
| 0, _, _, _ => none
| k + 1, t5, t1, o0 => (s0 n t5 t1 o0).bind fun z => sm z (fun z => l0 n k z.1 t1 z.2) some
noncomputable def L0 (n : Nat) : LoopD := ⟨[(0, po 0), (5, pi)], [(1, pi)], [.row 3 (.int .i64)], Int × List Int, fun x => (x.1.2.1, x.2.1), fun r => (((), r.1, ()), (r.2, ())), fun _ => rfl, ⟨1, ⟨[(4, pb)], [.row 3 (.int .i64)]⟩, Bool × List Int, fun x => (x.1.1, x.2.1), fun r => ((r.1, ()), (r.2, ())), fun _ => rfl⟩, [⟨2, ⟨[], [.row 3 (.int .i64)]⟩, List Int, fun x => x.2.1, fun r => ((), (r, ())), fun _ => rfl⟩], fun x => s0 n x.1.2.1 x.1.2.2.1 x.2.1, [0]⟩
theorem T0 (n : Nat) : FragOK Tryz.prog 18 (atN K 400 26) ((L0 n).loopD fun x => l0 n n x.1.2.1 x.1.2.2.1 x.2.1) := loopR (L0 n) 26 (by kernel_rfl) (by kernel_rfl) (fragK ⟨Tryz.prog, 18, F n, [], [], []⟩ (Fok n) trivial noL 52 (by kernel_rfl) (fun x => by kernel_rfl)) (fun k x => l0 n k x.1.2.1 x.1.2.2.1 x.2.1) (fun x => by kernel_rfl) (fun k x => by kernel_rfl) n
noncomputable abbrev r0 (n : Nat) : List (Nat × FragD) := (26, ((L0 n).loopD fun x => l0 n n x.1.2.1 x.1.2.2.1 x.2.1)) :: []
theorem R0 (n : Nat) : AllFr Tryz.prog 18 K (r0 n) := ⟨T0 n, trivial⟩
end armillaryref31_Contains_2
open armillaryref31_Contains_2 in
noncomputable def armillaryref31_Contains_2 (n : Nat) (t1 : Int) (o0 : List Int) : Option (Bool × List Int) :=
(l0 n n 0 t1 o0).bind fun z3 =>
sm z3 (fun z4 =>
some (z4.1, z4.2)) fun z5 =>
some (false, z5)
noncomputable def armillaryref31_Contains_2.d (n : Nat) : FragD := ⟨⟨[(0, po 0), (1, pi)], [.row 3 (.int .i64)]⟩, [⟨1, ⟨[(0, pb)], [.row 3 (.int .i64)]⟩, Bool × List Int, fun x => (x.1.1, x.2.1), fun r => ((r.1, ()), (r.2, ())), fun _ => rfl⟩], fun x => armillaryref31_Contains_2 n x.1.2.1 x.2.1⟩
open armillaryref31_Contains_2 in
theorem armillaryref31_Contains_2.ok (n : Nat) : FunOK Tryz.prog 26 (armillaryref31_Contains_2.d n) := funR ⟨Tryz.prog, 18, F n, (r0 n), [], []⟩ Tryz.f26 (by kernel_rfl) (by kernel_rfl) (by kernel_rfl) (Fok n) (R0 n) noL (by kernel_rfl) (fun x => by kernel_rfl)

namespace armillaryref31_Liars
noncomputable abbrev K := cBody Tryz.f23
noncomputable abbrev F (n : Nat) : List (Nat × FragD) := [(41, armillaryref29_MaxFaulty.d), (26, armillaryref31_Contains_2.d n)]
theorem Fok (n : Nat) : AllF Tryz.prog (F n) := ⟨armillaryref29_MaxFaulty.ok, armillaryref31_Contains_2.ok n, trivial⟩
noncomputable def j0 (n : Nat) (t0 : List Int) (t1 : Int) (t6 : Int) (o0 : List Int) : Option (Unit ⊕ Unit) :=
bif (decide (t6 < (t0.length : Int))) then
(armillaryref29_MaxFaulty t1).bind fun z2 =>
bif (decide ((o0.length : Int) < z2)) then
some (.inl ())
else
some (.inr ())
else
some (.inr ())
noncomputable def D0 (n : Nat) : FragD := ⟨⟨[(0, ph (.row (.int .u8))), (1, pi), (5, po 0), (6, pi)], [.row 3 (.int .i64)]⟩, [⟨0, ⟨[], [.same]⟩, Unit, fun _ => (), fun _ => ((), ((), ())), fun _ => rfl⟩, ⟨2, ⟨[], [.same]⟩, Unit, fun _ => (), fun _ => ((), ((), ())), fun _ => rfl⟩], fun x => j0 n x.1.1 x.1.2.1 x.1.2.2.2.1 x.2.1⟩
theorem T0 (n : Nat) : FragOK Tryz.prog 42 (atN K 400 232) (D0 n) := fragR ⟨Tryz.prog, 42, F n, [], [], []⟩ (Fok n) trivial noL 232 (by kernel_rfl) (fun x => by kernel_rfl)
noncomputable abbrev r0 (n : Nat) : List (Nat × FragD) := (232, D0 n) :: []
theorem R0 (n : Nat) : AllFr Tryz.prog 42 K (r0 n) := ⟨T0 n, trivial⟩
noncomputable def s1 (n : Nat) (t6 : Int) (t0 : List Int) (t1 : Int) (o0 : List Int) : Option ((Int × List Int) ⊕ (List Int)) :=
(j0 n t0 t1 t6 o0).bind fun z4 =>
sm z4 (fun z5 =>
ck (inb t6 t0.length) <|
ck (!decide (t1 = 0)) <|
(armillaryref31_Contains_2 n ((W .i64 (t0.getD t6.toNat 0)).tmod t1) o0).bind fun z8 =>
bif !z8.1 then
ck (inb t6 t0.length) <|
ck (!decide (t1 = 0)) <|
ck (room (z8.2.length + 1) 8) <|
some (.inl (W .i64 (t6 + 1), z8.2 ++ [(W .i64 (t0.getD t6.toNat 0)).tmod t1]))
else
some (.inl (W .i64 (t6 + 1), z8.2))) fun z6 =>
some (.inr o0)
noncomputable def l1 (n : Nat) : Nat → Int → List Int → Int → List Int → Option (List Int)
| 0, _, _, _, _ => none
| k + 1, t6, t0, t1, o0 => (s1 n t6 t0 t1 o0).bind fun z => sm z (fun z => l1 n k z.1 t0 t1 z.2) some
noncomputable def L1 (n : Nat) : LoopD := ⟨[(5, po 0), (6, pi)], [(0, ph (.row (.int .u8))), (1, pi)], [.row 3 (.int .i64)], Int × List Int, fun x => (x.1.2.1, x.2.1), fun r => (((), r.1, ()), (r.2, ())), fun _ => rfl, ⟨2, ⟨[(5, po 1)], [.gone, .row 3 (.int .i64)]⟩, List Int, fun x => x.2.2.1, fun r => (((), ()), ((), r, ())), fun _ => rfl⟩, [], fun x => s1 n x.1.2.1 x.1.2.2.1 x.1.2.2.2.1 x.2.1, []⟩
theorem T1 (n : Nat) : FragOK Tryz.prog 42 (atN K 400 58) ((L1 n).loopD fun x => l1 n n x.1.2.1 x.1.2.2.1 x.1.2.2.2.1 x.2.1) := loopR (L1 n) 58 (by kernel_rfl) (by kernel_rfl) (fragK ⟨Tryz.prog, 42, F n, (r0 n), [], []⟩ (Fok n) (R0 n) noL 116 (by kernel_rfl) (fun x => by kernel_rfl)) (fun k x => l1 n k x.1.2.1 x.1.2.2.1 x.1.2.2.2.1 x.2.1) (fun x => by kernel_rfl) (fun k x => by kernel_rfl) n
noncomputable abbrev r1 (n : Nat) : List (Nat × FragD) := (58, ((L1 n).loopD fun x => l1 n n x.1.2.1 x.1.2.2.1 x.1.2.2.2.1 x.2.1)) :: (r0 n)
theorem R1 (n : Nat) : AllFr Tryz.prog 42 K (r1 n) := ⟨T1 n, R0 n⟩
end armillaryref31_Liars
open armillaryref31_Liars in
noncomputable def armillaryref31_Liars (n : Nat) (t0 : List Int) (t1 : Int) : Option (List Int) :=
(l1 n n 0 t0 t1 ([] : List Int)).bind fun z10 =>
some z10
noncomputable def armillaryref31_Liars.d (n : Nat) : FragD := ⟨⟨[(0, ph (.row (.int .u8))), (1, pi)], []⟩, [⟨1, ⟨[(0, po 0)], [.row 3 (.int .i64)]⟩, List Int, fun x => x.2.1, fun r => (((), ()), (r, ())), fun _ => rfl⟩], fun x => armillaryref31_Liars n x.1.1 x.1.2.1⟩
open armillaryref31_Liars in
theorem armillaryref31_Liars.ok (n : Nat) : FunOK Tryz.prog 23 (armillaryref31_Liars.d n) := funR ⟨Tryz.prog, 42, F n, (r1 n), [], []⟩ Tryz.f23 (by kernel_rfl) (by kernel_rfl) (by kernel_rfl) (Fok n) (R1 n) noL (by kernel_rfl) (fun x => by kernel_rfl)
end Go.Proofs.YtfecniimkgkmfaaGreat
