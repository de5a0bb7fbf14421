/- Words of the walk, the functions' walks and plain laws, joined; no conditions beyond those that the theorems name. -/
import Derived.Test.YtfecniimkgkmfaaGreatY1
import Derived.RangeFuncRecord
import Derived.RangeFuncIn
import Derived.RangeFuncStops
import Derived.RangeFuncCalls
import Derived.OrdersIn
import Derived.OwnWalkIn
import Derived.TacticsIn
import Derived.Laws.StructEq
import Derived.RangeFuncLeaves
import Derived.Deep.MidRow
import Derived.Great.BuildSlice
import Derived.Laws.Tables
import Derived.ArgAppend
import Derived.Deep.Upon
namespace Go.Proofs.YtfecniimkgkmfaaGreat.AM
open Go Go.RowKit Go.Proofs.YtfecniimkgkmfaaGreat.RW

/-! ### operands -/
def backC (v : Value) : AW :=
 match v with
 | .agg cs => .agg (cs.toList.map AC.v)
 | v => .c (.v v)
def back (v : Value) : AV :=
 match v with
 | .tuple vs => .tup (vs.toList.map backC)
 | v => .w (backC v)
def exactCs : List AC → Option (List Value)
 | [] => some []
 | .v x :: r => match exactCs r with | some l => some (x :: l) | none => none
 | _ :: _ => none
def exactW : AW → Option Value
 | .c (.v x) => some x
 | .agg l => match exactCs l with | some l => some (.agg l.toArray) | none => none
 | _ => none
def exact : AV → Option Value
 | .w x => exactW x
 | _ => none
def okW : Value → Bool
 | .agg cs => cs.toList.all (·.oneCell')
 | .tuple _ => false
 | _ => true
def okV : Value → Bool
 | .tuple vs => vs.toList.all okW
 | v => okW v
/-- What an operand is told to be. -/
def evA (sl : ASl) : Operand → Option AV
 | .tmp t => lk sl t
 | .const v => bif okV v then some (back v) else none
 | .func f => some (.w (.c (.fn (.func f) [] [])))
 | .global _ => none
def undefA : AV := .tup []
def cellsW : AW → List AC
 | .c a => [a]
 | .agg l => l
def cellsA : AV → Option (List AC)
 | .w x => some (cellsW x)
 | _ => none
def ac (a : AC) : AV := .w (.c a)
def ofAC : Option AV → Option AC
 | some (.w (.c a)) => some a
 | _ => none

/-- An array in line: its elements as pairs. -/
def arrTC (c : TC) : Nat → TC
 | 0 => .unit
 | 1 => c
 | n + 2 => .pair c (arrTC c (n + 1))
section
variable (P : Program)
def szT (t : TypeId) : Option Nat := match P.info? t with | some i => some i.size | none => none
def byT (t : TypeId) : Option Nat := match P.info? t with | some i => some i.bytes | none => none
def aggT (t : TypeId) : Option Bool :=
 match P.underlying t with
 | some (.struct _) => some true
 | some (.array _ _) => some true
 | some _ => some false
 | none => none
def zeroT (t : TypeId) : Option (List AC) := match P.info? t with | some i => (match i.zero with | some z => (bif z.cells.toList.all (·.oneCell') then some (z.cells.toList.map AC.v) else none) | none => none) | none => none
mutual
def tcT : Nat → TypeId → Option TC
 | 0, _ => none
 | n + 1, t =>
  match P.underlying t with
  | some (.int k) => some (.int k)
  | some .bool => some .bool
  | some .string => some .str
  | some (.slice e) => match tcT n e with | some c => some (.row c) | none => none
  | some (.struct fs) => tcF n fs.toList
  | some (.array k e) => match tcT n e with | some c => some (arrTC c k) | none => none
  | _ => none
def tcF : Nat → List Field → Option TC
 | 0, _ => none
 | _, [] => some .unit
 | n + 1, [f] => tcT n f.type
 | n + 1, f :: r => match tcT n f.type with | none => none | some a => match tcF n r with | some b => some (.pair a b) | none => none
end
/-- Part of the cells: a value of type t from cell number off on. -/
def partA (t : TypeId) (cs : List AC) (off : Nat) : Option AW :=
 match aggT P t, szT P t with
 | some true, some n => bif Nat.ble (off + n) cs.length then some (.agg ((cs.drop off).take n)) else none
 | some false, _ => match cs[off]? with | some a => some (.c a) | none => none
 | _, _ => none
/-- New cells over the old. -/
def splice (cs new : List AC) (off : Nat) : Option (List AC) := bif Nat.ble (off + new.length) cs.length then some (cs.take off ++ (new ++ cs.drop (off + new.length))) else none

variable {ρ : Type}
/-- A row, as a list. -/
def rowTr (a : AC) (k : (c : TC) → List c.I → Tr ρ) : Tr ρ :=
 match a with
 | .rd _ c l => k c l
 | .sl o => .look o fun ob =>
  match ob with
  | some (.row _ c l) => k c l
  | some (.frz c l) => k c l
  | _ => .fail
 | _ => .fail
def inb (i : Int) (n : Nat) : Bool := decide (0 ≤ i ∧ i < n)
def room (n b : Nat) : Bool := decide (n * b ≤ 140737488355328 ∧ n ≤ 9223372036854775807)

def freshTr (nb : Nat) (t : Tr ρ) : Tr ρ := .look nb fun ob => match ob with | none => t | some _ => .fail
def ldA (t : TypeId) (a : AC) : Tr AV :=
 match a with
 | .ptr o off => .look o fun ob =>
  match ob with
  | some (.blk _ cs) => match partA P t cs off with | some x => .ret (.w x) [] | none => .fail
  | _ => .fail
 | .pr c x off => match partA P t (c.cells x) off with | some x => .ret (.w x) [] | none => .fail
 | .el o z i off => .look o fun ob =>
  match ob with
  | some (.row _ c l) => (bif Nat.beq c.sz z then match partA P t (c.cells (l.getD i c.dflt)) off with | some x => .ret (.w x) [] | none => .fail else .fail)
  | some (.frz c l) => (bif Nat.beq c.sz z then match partA P t (c.cells (l.getD i c.dflt)) off with | some x => .ret (.w x) [] | none => .fail else .fail)
  | _ => .fail
 | _ => .fail
def stA (t : TypeId) (a : AC) (v : AV) : Tr AV :=
 match cellsA v with
 | none => .fail
 | some new =>
  match szT P t with
  | none => .fail
  | some n =>
   bif Nat.beq new.length n then
    match a with
    | .ptr o off => .look o fun ob =>
     match ob with
     | some (.blk ty cs) => match splice cs new off with | some cs' => .ret undefA [(o, .blk ty cs')] | none => .fail
     | _ => .fail
    | .el o z i off => fzCs new ⟨[], []⟩ fun new s => .look o fun ob =>
     match ob with
     | some (.row e c l) =>
      bif !Nat.beq c.sz z then .fail else
      match splice (c.cells (l.getD i c.dflt)) new off with
      | none => .fail
      | some cs' => match c.ofCs cs' with | some (x, []) => (bif s.fz.any (fun q => Nat.beq q.1 o) then .fail else .ret undefA ((o, .row e c (l.set i x)) :: s.fz)) | _ => .fail
     | _ => .fail
    | _ => .fail
   else .fail
def fldA (s : TypeId) (a : AC) (f : Nat) : Tr AV :=
 match P.underlying s with
 | some (.struct fs) =>
  match fs[f]? with
  | some fd =>
   match szT P fd.type with
   | some (_ + 1) =>
    match a with
    | .ptr o off => .ret (ac (.ptr o (off + fd.offset))) []
    | .pr c x off => .ret (ac (.pr c x (off + fd.offset))) []
    | .el o z i off => .ret (ac (.el o z i (off + fd.offset))) []
    | _ => .fail
   | _ => .fail
  | none => .fail
 | _ => .fail
/-- A map from numbers to functions, asked for a key. -/
def mpTr (i : Int) : List (Int × Nat) → Tr AV
 | [] => .ret (.tup [.c (.v .nilFunc), .c (.v (.bool false))]) []
 | (a, f) :: r => .ite (decide (i = a)) (.ret (.tup [.c (.fn (.func f) [] []), .c (.v (.bool true))]) []) (mpTr i r)
def nilFn (t : TypeId) : Bool := match simQ P [] [] (zeroValue t) .no [] with | some (.nilFunc, []) => true | _ => false
def lookA (t : TypeId) (a : AC) (ki : IntKind) (i : Int) (ok : Bool) : Tr AV :=
 match P.underlying t, a with
 | some (.map kt et), .kn (.mp k l) => (match P.underlying kt with | some (.int k') => (bif decide (k = k') && (decide (k = ki) && (ok && nilFn P et)) then mpTr i l else .fail) | _ => .fail)
 | _, _ => .fail
/-- A row laid out: its elements, told by their cells. -/
def ofRow (c : TC) : Nat → List AC → Option (List c.I)
 | 0, [] => some []
 | n + 1, cs =>
  match c.ofCs cs with
  | some (x, r) => (match ofRow c n r with | some l => some (x :: l) | none => none)
  | none => none
 | _, _ => none
/-- The elements of an array that lies among cells. -/
def arrL (e : TypeId) (n : Nat) (cs : List AC) (off : Nat) : Option ((c : TC) × List c.I) :=
 match tcT P 40 e with
 | some c => bif szT P e == some c.sz && Nat.ble (off + n * c.sz) cs.length then (match ofRow c n ((cs.drop off).take (n * c.sz)) with | some l => some ⟨c, l⟩ | none => none) else none
 | none => none
def idxA (t : TypeId) (a : AC) (i : Int) : Tr AV :=
 match P.underlying t with
 | some (.slice e) =>
  match a with
  | .sb o n => bif szT P e == some 1 then .chk (inb i n) (.ret (ac (.ptr o i.toNat)) []) else .fail
  | .rd _ c l => bif szT P e == some c.sz then .chk (inb i l.length) (.ret (ac (.pr c (l.getD i.toNat c.dflt) 0)) []) else .fail
  | .sl o => .look o fun ob =>
   match ob with
   | some (.row _ c l) => bif szT P e == some c.sz then .chk (inb i l.length) (.ret (ac (.el o c.sz i.toNat 0)) []) else .fail
   | some (.frz c l) => bif szT P e == some c.sz then .chk (inb i l.length) (.ret (ac (.pr c (l.getD i.toNat c.dflt) 0)) []) else .fail
   | _ => .fail
  | _ => .fail
 | _ => .fail
/-- The parts of a struct over its zero value. -/
def fillA (place : Nat → Option (Nat × Nat)) (cs : List AC) : List (Nat × Option AV) → Option (List AC)
 | [] => some cs
 | (i, v) :: r =>
  match place i, v with
  | some (off, n), some v =>
   match cellsA v with
   | some new => bif Nat.beq new.length n then match splice cs new off with | some cs' => fillA place cs' r | none => none else none
   | none => none
  | _, _ => none
def buildA (t : TypeId) (parts : List (Nat × Option AV)) : Tr AV :=
 match P.underlying t, zeroT P t with
 | some (.struct fs), some z =>
  match fillA (fun i => match fs[i]? with | some f => (match szT P f.type with | some n => some (f.offset, n) | none => none) | none => none) z parts with
  | some cs => bif fs.toList.all (fun f => (szT P f.type).isSome) then .ret (.w (.agg cs)) [] else .fail
  | none => .fail
 | _, _ => .fail
def repA (z : List AC) : Nat → List AC
 | 0 => []
 | n + 1 => z ++ repA z n
def bslA (t : TypeId) (len : Nat) (parts : List (Nat × Option AV)) (nb : Nat) : Tr AV :=
 match P.underlying t with
 | some (.slice e) =>
  match zeroT P e, szT P e, tcT P 40 e with
  | some z, some n, some c =>
   match fillA (fun i => some (i * n, n)) (repA z len) parts with
   | some cs => bif Nat.ble (len * n) 16777216 && (Nat.blt 0 n && (Nat.beq n c.sz && Nat.beq z.length n)) then fzCs cs ⟨[], []⟩ fun cs s => match ofRow c len cs with | some l => freshTr nb (.ret (ac (.sl nb)) ((nb, .row e c l) :: s.fz)) | none => .fail else .fail
   | none => .fail
  | some z, some n, none =>
   match fillA (fun i => some (i * n, n)) (repA z len) parts with
   | some cs => bif Nat.ble (len * n) 16777216 && (Nat.blt 0 len && (Nat.beq n 1 && Nat.beq z.length n)) then freshTr nb (.ret (ac (.sb nb len)) [(nb, .blk e cs)]) else .fail
   | none => .fail
  | _, _, _ => .fail
 | _ => .fail
def mkA (t : TypeId) (len cap : Int) (nb : Nat) : Tr AV :=
 match P.underlying t with
 | some (.slice e) =>
  match zeroT P e, byT P e, tcT P 40 e with
  | some z, some b, some c =>
   bif !(szT P e == some c.sz && Nat.beq z.length c.sz) then .fail else
   match c.ofCs z with
   | some (x, []) => .chk (decide (0 ≤ len ∧ len ≤ cap)) (.chk (room cap.toNat b) (freshTr nb (.ret (ac (.sl nb)) [(nb, .row e c (List.replicate len.toNat x))])))
   | _ => .fail
  | _, _, _ => .fail
 | _ => .fail
/-- What is appended, as a list of elements told by c. -/
def srcTr (c : TC) (a : AC) (k : List c.I → Tr ρ) : Tr ρ :=
 match a with
 | .v (.slice none 0 0) => k []
 | a => rowTr a fun _ l => match TC.castL c l with | some l => k l | none => .fail
def appA (ty : TypeId) (d s : AC) (nb : Nat) : Tr AV :=
 match P.underlying ty with
 | some (.slice e) =>
  match tcT P 40 e, byT P e, zeroT P e with
  | some c, some b, some z =>
   bif !(szT P e == some c.sz && Nat.blt 0 c.sz && Nat.beq z.length c.sz) then .fail else
   match d with
   | .sl o => .look o fun ob =>
    match ob with
    | some (.row e' _ l) =>
     bif Nat.beq e e' then
      match TC.castL c l with
      | some l => srcTr c s fun l2 => .chk (room (l.length + l2.length) b) (freshTr nb (.ret (ac (.sl nb)) [(o, .gone), (nb, .row e c (l ++ l2))]))
      | none => .fail
     else .fail
    | _ => .fail
   | .rd true _ l =>
    match TC.castL c l with
    | some l => srcTr c s fun l2 => .chk (!l2.isEmpty) (.chk (room (l.length + l2.length) b) (freshTr nb (.ret (ac (.sl nb)) [(nb, .row e c (l ++ l2))])))
    | none => .fail
   | .v (.slice none 0 0) => srcTr c s fun l2 => .chk (room l2.length b) (freshTr nb (.ret (ac (.sl nb)) [(nb, .row e c l2)]))
   | _ => .fail
  | _, _, _ => .fail
 | _ => .fail
def lenA (t : TypeId) (a : AC) : Tr AV :=
 match P.underlying t with
 | some (.slice _) =>
  match a with
  | .v (.slice none 0 0) => .ret (ac (.v (.int .i64 0))) []
  | .sb _ n => .ret (ac (.v (.int .i64 n))) []
  | a => rowTr a fun _ l => .ret (ac (.v (.int .i64 l.length))) []
 | some .string => (match a with | .v (.string s) => .ret (ac (.v (.int .i64 s.size))) [] | _ => .fail)
 | _ => .fail
def intA : Option AV → Option Int
 | some (.w (.c (.v (.int _ i)))) => some i
 | _ => none
/-- A part of a row: the row never turns from now on. -/
def subTr (c : TC) (l : List c.I) (fz : AMem) (lo hi mx : Option Int) : Tr AV :=
 match lo, hi, mx with
 | none, none, none => .ret (ac (.rd false c l)) fz
 | some lo, none, none => .chk (inb lo (l.length + 1)) (.ret (ac (.rd false c (l.drop lo.toNat))) fz)
 | none, some hi, none => .chk (inb hi (l.length + 1)) (.ret (ac (.rd false c (l.take hi.toNat))) fz)
 | some lo, some hi, none => .chk (inb hi (l.length + 1)) (.chk (inb lo (hi.toNat + 1)) (.ret (ac (.rd false c ((l.take hi.toNat).drop lo.toNat))) fz))
 | none, some hi, some mx => .chk (decide (hi = mx)) (.chk (inb hi (l.length + 1)) (.ret (ac (.rd true c (l.take hi.toNat))) fz))
 | some lo, some hi, some mx => .chk (decide (hi = mx)) (.chk (inb hi (l.length + 1)) (.chk (inb lo (hi.toNat + 1)) (.ret (ac (.rd true c ((l.take hi.toNat).drop lo.toNat))) fz)))
 | _, none, some _ => .fail
def slcA (t : TypeId) (a : AC) (lo hi mx : Option Int) : Tr AV :=
 match P.underlying t with
 | some (.slice e) =>
  match a with
  | .rd _ c l => bif szT P e == some c.sz then subTr c l [] lo hi mx else .fail
  | .sl o => .look o fun ob =>
   match ob with
   | some (.row _ c l) => bif szT P e == some c.sz then subTr c l [(o, .frz c l)] lo hi mx else .fail
   | some (.frz c l) => bif szT P e == some c.sz then subTr c l [] lo hi mx else .fail
   | _ => .fail
  | _ => .fail
 | _ => .fail
def numA (sl : Operand → Option AV) : Option Operand → Option (Option Int)
 | none => some none
 | some y => match intA (sl y) with | some i => some (some i) | none => none
def ptrs : List (Option AV) → Option (List (Nat × Nat))
 | [] => some []
 | some (.w (.c (.ptr o q))) :: r => match ptrs r with | some l => some ((o, q) :: l) | none => none
 | _ => none
/-- What the machine itself does, with told values that are known to the letter. -/
def scalA (sl : Operand → Option AV) (o : Oper) : Tr AV :=
 bif noSelect o.op && o.op.operands.toList.all (fun x => ((sl x).bind exact).isSome) then
  match simQ P [] [] (execOp (fun x => ((sl x).bind exact).getD undef) o) .no [] with
  | some (.value v, _) => bif okV v then .ret (back v) [] else .fail
  | some (.skip, _) => .ret undefA []
  | _ => .fail
 else .fail
def byteT (t : TypeId) : Bool := match P.underlying t with | some (.int .u8) => true | _ => false
/-- Bytes to a string, a string to bytes; the rest the machine does itself. -/
def convA (sl : Operand → Option AV) (o : Oper) (src dst : TypeId) (x : Operand) : Tr AV :=
 match P.underlying src, P.underlying dst, ofAC (sl x) with
 | some (.slice e), some .string, some a => bif byteT P e then rowTr a fun _ l => match TC.castL (.int .u8) l with | some l => .ret (ac (.v (.string (strOfNums l)))) [] | none => .fail else .fail
 | some .string, some (.slice e), some (.v (.string s)) => bif byteT P e then .chk (decide (s.size ≤ 9223372036854775807)) (.ret (ac (.rd false (.int .u8) (bytesOf s))) []) else .fail
 | _, _, _ => scalA P sl o
/-- The arguments, as slots. -/
def argSl : List (Option AV) → Nat → Option ASl
 | [], _ => some []
 | some a :: r, i => match argSl r (i + 1) with | some l => some ((i, a) :: l) | none => none
 | none :: _, _ => none
def capA (l : List (Nat × Nat)) : List (Option AV) := l.map fun p => some (ac (.ptr p.1 p.2))
def fitC : PC → AC → Bool
 | .h _, .v _ => true
 | .h _, .rd .. => true
 | .full _, .rd true .. => true
 | .sl _, .sl _ => true
 | .sb _ n, .sb _ n' => Nat.beq n n'
 | .ptr _ q, .ptr _ q' => Nat.beq q q'
 | .fn f _ _, .fn (.func g) _ _ => Nat.beq f g
 | .kn x, .kn y => decide (x = y)
 | .nl, .v (.slice none 0 0) => true
 | _, _ => false
def fitCs : List PC → List AC → Bool
 | [], [] => true
 | p :: r, a :: l => fitC p a && fitCs r l
 | _, _ => false
def fitV : PV → AV → Bool
 | .w (.c p), .w (.c a) => fitC p a
 | .w (.agg ps), .w (.agg l) => fitCs ps l
 | .w (.st _), .w (.agg l) => l.all fun a => match a with | .sl _ => false | _ => true
 | _, _ => false
def pairC : PC → AC → List (Nat × Nat)
 | .sl i, .sl o => [(i, o)]
 | .sb i _, .sb o _ => [(i, o)]
 | .ptr i _, .ptr o _ => [(i, o)]
 | .fn _ l1 l2, .fn _ r1 r2 => (l1.zip r1 ++ l2.zip r2).map fun p => (p.1.1, p.2.1)
 | _, _ => []
def pairV : PV → AV → List (Nat × Nat)
 | .w (.c p), .w (.c a) => pairC p a
 | .w (.agg ps), .w (.agg l) => (ps.zip l).flatMap fun p => pairC p.1 p.2
 | _, _ => []
def pairO : PO → Option AObj → List (Nat × Nat)
 | .blk _ ps, some (.blk _ cs) => (ps.zip cs).flatMap fun p => pairC p.1 p.2
 | _, _ => []
def fitO : PO → Option AObj → Bool
 | .blk _ ps, some (.blk _ cs) => fitCs ps cs
 | .stb _ _, some (.blk _ cs) => cs.all fun a => match a with | .v _ => true | .rd .. => true | _ => false
 | .row .., some (.row ..) => true
 | .frz .., some (.frz ..) => true
 | _, _ => false
def fitObs {ρ : Type} (obs : List PO) (k : Bool → Tr ρ) : Nat → List (Nat × Nat) → Tr ρ
 | 0, _ => k true
 | _, [] => k true
 | n + 1, (i, o) :: r => match obs[i]? with | none => k false | some po => .look o fun ob => bif fitO po ob then fitObs obs k n (pairO po ob ++ r) else k false
def pairSl (sl : ASl) : List (Nat × PV) → List (Nat × Nat)
 | [] => []
 | p :: r => match lk sl p.1 with | some a => pairV p.2 a ++ pairSl sl r | none => pairSl sl r
def fits (d : FragD) (sl : ASl) : Bool := d.pin.sl.all fun p => match lk sl p.1 with | some a => fitV p.2 a | none => false
def trBind : Tr (Nat × ASl) → Tr AV
 | .ret r ws => match lk r.2 0 with | some a => .ret a ws | none => .fail
 | .look o k => .look o fun ob => trBind (k ob)
 | .chk b t => .chk b (trBind t)
 | .ite b t e => .ite b (trBind t) (trBind e)
 | .opt α x k => .opt α x fun y => trBind (k y)
 | .sum α β x k l => .sum α β x (fun y => trBind (k y)) (fun y => trBind (l y))
 | .fail => .fail
/-- The first of the contracts that fits. -/
def callTr (sl : ASl) (nb : Nat) : List FragD → Tr AV
 | [] => .fail
 | [d] => bif Nat.beq sl.length d.pin.sl.length then trBind (frTr d sl nb) else .fail
 | d :: q :: r => bif fits d sl then fitObs d.pin.ob (fun b => bif b && Nat.beq sl.length d.pin.sl.length then trBind (frTr d sl nb) else callTr sl nb (q :: r)) 40 (pairSl sl d.pin.sl) else callTr sl nb (q :: r)
/-- A function that the machine enters. -/
def enterOk (P : Program) (g n : Nat) : Bool := match P.funcs[g]? with | some fn => !(fn.name == "runtime.NumGoroutine") && !fn.body.isNone && Nat.ble n fn.ntmps | none => false
def fnsOf (fns : List (Nat × FragD)) (f : Nat) : List FragD := fns.filterMap fun p => bif Nat.beq p.1 f then some p.2 else none

/-- A slice that is nil, told as a row of the call's own. -/
def nilTr {ρ : Type} (t : TypeId) (v : AV) (nb : Nat) (k : AV → AMem → Tr ρ) : Tr ρ :=
 match v with
 | .w (.c (.v (.slice none 0 0))) =>
  match P.underlying t with
  | some (.slice e) => (match tcT P 40 e with | some c => freshTr nb (k (ac (.sl nb)) [(nb, .row e c [])]) | none => k v [])
  | _ => k v []
 | v => k v []
def boxTr (e : TypeId) (v : AV) (nb : Nat) : Tr AV :=
 nilTr P e v (nb + 1) fun v ws => match cellsA v with | some cs => freshTr nb (.ret (ac (.ptr nb 0)) ((nb, .blk e cs) :: ws)) | none => .fail
def callA (fns : List (Nat × FragD)) (sl : Operand → Option AV) (o : Oper) (nb : Nat) (c : Call) : Tr AV :=
 match c.callee, c.args.toList, c.argTypes.toList with
 | .builtin .len, [x], [t] => match ofAC (sl x) with | some a => lenA P t a | none => .fail
 | .builtin .append, [d, s], [t, t'] => match ofAC (sl d), ofAC (sl s) with | some d, some s => (bif Nat.beq t t' then appA P t d s nb else .fail) | _, _ => .fail
 | .value f, as_, _ =>
  match ofAC (sl f) with
  | some (.fn (.func g) a b) => match argSl (capA a ++ as_.map sl ++ capA b) 0 with | some l => (bif enterOk P g (a.length + as_.length + b.length) then callTr l nb (fnsOf fns g) else .fail) | none => .fail
  | _ => .fail
 | _, _, _ => scalA P sl o
def aop (fns : List (Nat × FragD)) (sl : Operand → Option AV) (o : Oper) (nb : Nat) : Tr AV :=
 match o.op with
 | .move x => match sl x with | some v => nilTr P o.type v nb .ret | none => .fail
 | .assign x => match sl x with | some v => nilTr P o.type v nb .ret | none => .fail
 | .pick c a b => match ofAC (sl c) with | some (.v (.bool t)) => .ite t (Tr.ofO (sl a)) (Tr.ofO (sl b)) | _ => .fail
 | .alloc e => match zeroT P e with | some [a] => boxTr P e (ac a) nb | some cs => boxTr P e (.w (.agg cs)) nb | none => .fail
 | .box e x => match sl x with | some v => boxTr P e v nb | none => .fail
 | .load t x => match ofAC (sl x) with | some a => ldA P t a | none => .fail
 | .store t x v => match ofAC (sl x), sl v with | some a, some v => stA P t a v | _, _ => .fail
 | .fieldAddr s x f => match ofAC (sl x) with | some a => fldA P s a f | none => .fail
 | .indexAddr t x i => match ofAC (sl x), intA (sl i) with | some a, some i => idxA P t a i | _, _ => .fail
 | .field t x f =>
  match P.underlying t, sl x with
  | some (.struct fs), some (.w (.agg cs)) =>
   match fs[f]? with
   | some fd => match partA P fd.type cs fd.offset with | some x => .ret (.w x) [] | none => .fail
   | none => .fail
  | _, _ => .fail
 | .index t x i =>
  match P.underlying t, ofAC (sl x), intA (sl i) with
  | some .string, some (.v (.string s)), some i => .chk (inb i s.size) (.ret (ac (.v (.int .u8 (sb s i)))) [])
  | _, _, _ => .fail
 | .lookup t x i ok => match ofAC (sl x), ofAC (sl i) with | some a, some (.v (.int ki i)) => lookA P t a ki i ok | _, _ => .fail
 | .extract x i => match sl x with | some (.tup l) => (match l[i]? with | some x => .ret (.w x) [] | none => .fail) | _ => .fail
 | .nilCheck x =>
  match ofAC (sl x) with
  | some (.ptr o q) => .ret (ac (.ptr o q)) []
  | some (.pr c x q) => .ret (ac (.pr c x q)) []
  | some (.el o z i q) => .ret (ac (.el o z i q)) []
  | some (.fn f a b) => match f with | .func g => .ret (ac (.fn (.func g) a b)) [] | _ => .fail
  | _ => scalA P sl o
 | .build t ps => buildA P t (ps.toList.map fun p => (p.1, sl p.2))
 | .buildSlice t n ps => bslA P t n (ps.toList.map fun p => (p.1, sl p.2)) nb
 | .makeSlice t l c => match intA (sl l), intA (sl c) with | some l, some c => mkA P t l c nb | _, _ => .fail
 | .makeFunc fn a b => match ptrs (a.toList.map sl), ptrs (b.toList.map sl) with | some a, some b => .ret (ac (.fn fn a b)) [] | _, _ => .fail
 | .slice t x lo hi mx =>
  match ofAC (sl x) with
  | some a =>
   match numA sl lo, numA sl hi, numA sl mx with
   | some lo, some hi, some mx => slcA P t a lo hi mx
   | _, _, _ => .fail
  | none => .fail
 | .binOp op _ x y _ =>
  match op, ofAC (sl x), ofAC (sl y) with
  | .quo, some (.v (.int k a)), some (.v (.int k' b)) => bif k == k' then .chk (!decide (b = 0)) (.ret (ac (.v (.int k (k.wrap (a.tdiv b))))) []) else .fail
  | .rem, some (.v (.int k a)), some (.v (.int k' b)) => bif k == k' then .chk (!decide (b = 0)) (.ret (ac (.v (.int k (a.tmod b)))) []) else .fail
  | .shl, some (.v (.int k a)), some (.v (.int _ b)) => .chk (decide (0 ≤ b)) (.ret (ac (.v (.int k (k.wrap (a * 2 ^ (min b.toNat k.bits)))))) [])
  | .shr, some (.v (.int k a)), some (.v (.int _ b)) => .chk (decide (0 ≤ b)) (.ret (ac (.v (.int k (a.fdiv (2 ^ (min b.toNat k.bits)))))) [])
  | _, _, _ => scalA P sl o
 | .convert src dst x => convA P sl o src dst x
 | .call c => callA P fns sl o nb c
 | _ => scalA P sl o
end

/-! ### regions and code -/
structure ASt where
 sl : ASl
 m : AMem
 nx : Nat
structure Env where
 P : Program
 n : Nat
 fns : List (Nat × FragD)
 frs : List (Nat × FragD)
 lps : List (Nat × FragD)
 unr : List (Nat × Nat)

section
variable {β : Type} (E : Env)
/-- What an operation read, what it wrote: for the order's sake. -/
abbrev Lg := List (Nat × List Nat × List Nat)
def putA (sl : ASl) (d : Option Tmp) (v : AV) (k : ASl → Option β) : Option β :=
 match d with
 | none => k sl
 | some d => bif Nat.blt d E.n then k ((d, v) :: sl) else none
def runOps (ops : List Oper) (base : Nat) : List Oper → Nat → ASl → AMem → Lg → (ASl → AMem → Lg → Option β) → Option β
 | [], _, sl, m, lg, κ => κ sl m lg
 | o :: rest, i, sl, m, lg, κ =>
  let go (sl : ASl) : Option β := (aop E.P E.fns (evA sl) o (base + 64 * i)).run m [] fun v ws rs => putA E sl o.dst v fun sl => runOps ops base rest (i + 1) sl (ws ++ m) ((i, rs, ws.map (·.1)) :: lg) κ
  let skip (sl : ASl) : Option β := putA E sl o.dst undefA fun sl => runOps ops base rest (i + 1) sl m lg κ
  match o.guard with
  | none => go sl
  | some (j, want) =>
   match ops[j]? with
   | none => none
   | some q =>
    match q.dst with
    | none => none
    | some t =>
     match lk sl t with
     | some (.w (.c (.v (.bool b)))) =>
      bif b then (bif want then go ((t, ac (.v (.bool true))) :: sl) else skip ((t, ac (.v (.bool true))) :: sl))
      else (bif want then skip ((t, ac (.v (.bool false))) :: sl) else go ((t, ac (.v (.bool false))) :: sl))
     | some (.tup []) => skip sl
     | _ => none
/-- Whatever the order: those that may change places touch different things. -/
def lgOk (ops : List Oper) (lg : Lg) : Bool :=
 let an := ancs ops []
 lg.all fun p => lg.all fun q => bif Nat.blt p.1 q.1 then behind an q.1 p.1 || (q.2.2.all (fun x => !p.2.1.any (Nat.beq x) && !p.2.2.any (Nat.beq x)) && p.2.2.all fun x => !q.2.1.any (Nat.beq x)) else true
def runRegion (ops : List Oper) (draw : Bool) (st : ASt) (κ : ASt → Option β) : Option β :=
 runOps E ops st.nx ops 0 st.sl st.m [] fun sl m lg => bif !draw || (E.P.follows .mixedOrders && drawOk ops (ancs ops []) ops.length && lgOk ops lg) then κ ⟨sl, m, st.nx + 64 * ops.length⟩ else none

/-- The slots that a piece of code writes. -/
def wr : Code → List Nat
 | .region _ ops _ => ops.toList.filterMap (·.dst) ++ ops.toList.filterMap (fun o => match o.guard with | some (j, _) => (match ops[j]? with | some q => q.dst | none => none) | none => none)
 | .seq a b => wr a ++ wr b
 | .cond _ a b => wr a ++ wr b
 | .block _ b => wr b
 | .loop b => wr b
 | .scope b => wr b
 | _ => []
/-- A piece of code whose contract is known; else what is told of it. -/
def frag (frs : List (Nat × FragD)) (p : Nat) (c : Code) (st : ASt) (κ : Nat → ASt → Option β) (dflt : Option β) : Option β :=
 match lk frs p with
 | some d => (frTr d st.sl st.nx).run st.m [] fun r ws _ => κ r.1 ⟨r.2 ++ st.sl.filter (fun q => !(wr c).any (Nat.beq q.1)), ws ++ st.m, st.nx + 64⟩
 | none => dflt
/-- The first rounds of a loop. -/
def unroll (rb : ASt → (Nat → ASt → Option β) → Option β) (last : ASt → Option β) (κ : Nat → ASt → Option β) : Nat → ASt → Option β
 | 0, st => rb st fun e st => match e with | 0 => last st | e + 1 => κ (e + 1) st
 | n + 1, st => rb st fun e st => match e with | 0 => unroll rb last κ n st | e + 1 => κ (e + 1) st
noncomputable def run (c : Code) : Nat → ASt → (Nat → ASt → Option β) → Option β := Code.rec (motive := fun _ => Nat → ASt → (Nat → ASt → Option β) → Option β)
 (fun _ st κ => κ 0 st)
 (fun id ops draw p st κ => frag E.frs p (.region id ops draw) st κ (runRegion E ops.toList draw st fun st => κ 0 st))
 (fun a b ra rb p st κ => frag E.frs p (.seq a b) st κ (ra (2 * p) st fun e st => match e with | 0 => rb (2 * p + 1) st κ | e + 1 => κ (e + 1) st))
 (fun o a b ra rb p st κ => frag E.frs p (.cond o a b) st κ (
  match evA st.sl o with
  | some (.w (.c (.v (.bool t)))) => bif t then ra (2 * p) st κ else rb (2 * p + 1) st κ
  | _ => none))
 (fun id b rb p st κ => frag E.frs p (.block id b) st κ (rb (2 * p) st fun e st => κ (bif Nat.beq e (id + 2) then 0 else e) st))
 (fun b rb p st κ => frag E.frs p (.loop b) st κ (unroll (rb (2 * p)) (fun st => frag E.lps p (.loop b) st κ none) κ ((lk E.unr p).getD 0) st))
 (fun _ _ _ _ _ _ _ _ _ => none)
 (fun id _ st κ => κ (id + 2) st)
 (fun _ _ _ _ _ => none)
 (fun _ _ st κ => κ 0 st)
 (fun _ _ _ _ => none)
 (fun _ st κ => κ 1 st)
 (fun _ _ _ _ => none) c
/-- What a function hands back. -/
def resA (P : Program) (sl : ASl) (m : AMem) : List ResultVar → Option (List AW)
 | [] => some []
 | .tmp t :: r =>
  match lk sl t with
  | some (.w x) => (match resA P sl m r with | some l => some (x :: l) | none => none)
  | _ => none
 | .cell q t :: r =>
  match lk sl q with
  | some (.w (.c (.ptr o off))) =>
   match lk m o with
   | some (.blk _ cs) => (match partA P t cs off, resA P sl m r with | some x, some l => some (x :: l) | _, _ => none)
   | _ => none
  | _ => none
def oneA : List AW → AV
 | [x] => .w x
 | l => .tup l
noncomputable def fnRun (fn : Func) (d : FragD) (x : d.pin.I) : Option (OutI d.outs) :=
 run E (cBody fn) 1 ⟨instSl id d.pin.sl x.1, instOb id d.pin.ob 0 x.2, d.pin.ob.length⟩ fun e st =>
  match e with
  | 0 | 1 => (match resA E.P st.sl st.m fn.results.toList with | some l => (extTr none d.pin.ob (unch st.m d.pin.ob.length) 1 [(0, oneA l)] d.outs).run st.m [] fun y _ _ => some y | none => none)
  | _ => none
/-- The piece of code at a path. -/
def atN (K : Code) : Nat → Nat → Code
 | 0, _ => K
 | n + 1, p => bif Nat.ble p 1 then K else bif Nat.beq (p % 2) 0 then cL (atN K n (p / 2)) else cR (atN K n (p / 2))
noncomputable def frRun (K : Option (List Nat)) (c : Code) (p : Nat) (d : FragD) (x : d.pin.I) : Option (OutI d.outs) :=
 run E c p ⟨instSl id d.pin.sl x.1, instOb id d.pin.ob 0 x.2, d.pin.ob.length⟩ fun e st => (extTr K d.pin.ob (unch st.m d.pin.ob.length) e st.sl d.outs).run st.m [] fun y _ _ => some y
end
end Go.Proofs.YtfecniimkgkmfaaGreat.AM
namespace Go.Proofs.YtfecniimkgkmfaaGreat.RW
open Go Go.RowKit

section
variable {P : Program} {c : Code} {Q : Exit → Act → World → Prop} {A : Fr} {K : List (Nat × Value)} {B : Base} {I : Imm} {nx : Nat} {L : List Blk} {X : List Res} {os : List Oper} {p : Nat}

theorem info_of {e : TypeId} {sz bytes : Nat} (h : (P.info? e).map (fun i => (i.size, i.bytes, i.zero.map (·.cells.size))) = some (sz, bytes, some sz)) : ∃ inf z, P.info? e = some inf ∧ inf.zero = some z ∧ inf.size = sz ∧ inf.bytes = bytes ∧ z.cells.size = sz := by
 obtain ⟨inf, h1, h2⟩ := Option.map_eq_some_iff.1 h
 injection h2 with h2 h3
 injection h3 with h3 h4
 obtain ⟨z, h5, h6⟩ := Option.map_eq_some_iff.1 h4
 exact ⟨inf, z, h1, h5, h2, h3, h6⟩

/-- A run over known blocks; of the slots behind it, those that are still asked. -/
theorem RL.simP (R : List (Addr × Value)) (hR : RFacts B I X R) (n : Nat) (locs : List Loc) {K' : List (Nat × Value)} {nx' : Nat} {L' : List Blk}
  (h : (simOps P R os A ((os.drop p).take n) locs K nx L []).map (fun x => (K'.map (fun q => lookK x.1 q.1), x.2.1, x.2.2.1)) = some (K'.map (fun q => some q.2), nx', L'))
  (he : (simOps P R os A ((os.drop p).take n) locs K nx L []).map (fun x => x.2.2.2.map (·.1)) = (simOps P R os A ((os.drop p).take n) locs K nx L []).map (fun x => x.2.2.2.map (·.2)))
  (k : RL P os Q (p + n) A K' B I nx' L' X) : RL P os Q p A K B I nx L X := by
 cases hsim : simOps P R os A ((os.drop p).take n) locs K nx L [] with
 | none => rw [hsim] at h; cases h
 | some x =>
  have h1 := h
  rw [hsim] at h1
  simp only [Option.map_some, Option.some.injEq, Prod.mk.injEq] at h1
  obtain ⟨h2, h3, h4⟩ := h1
  refine RL.sim (K' := x.1) (nx' := nx') (L' := L') R hR n locs ?_ he ?_
  ·rw [hsim]
   simp only [Option.map_some, h3, h4]
  ·exact RL.sub h2 (.refl _) (.refl _) k

/-- The same, where memory stays as it is. -/
theorem RL.simK (R : List (Addr × Value)) (hR : RFacts B I X R) (n : Nat) (locs : List Loc) {K' : List (Nat × Value)}
  (h : (simOps P R os A ((os.drop p).take n) locs K nx L []).map (fun x => (K'.map (fun q => lookK x.1 q.1), x.2.1, x.2.2.1)) = some (K'.map (fun q => some q.2), nx, L))
  (he : (simOps P R os A ((os.drop p).take n) locs K nx L []).map (fun x => x.2.2.2.map (·.1)) = (simOps P R os A ((os.drop p).take n) locs K nx L []).map (fun x => x.2.2.2.map (·.2)))
  (k : RL P os Q (p + n) A K' B I nx L X) : RL P os Q p A K B I nx L X := RL.simP R hR n locs h he k

theorem RL.appendR {α : Type} {T e : TypeId} {S S2 : Option Addr} (sz bytes : Nat) (ty : TypeId) (cap c2 : Nat) (cs : List Value) (dt : Ty α) (l ys : List α) (xi : Nat) (d : Option Tmp)
  (hl : ready os p K d = true)
  (hx : execOp (evalK K) (os.getD p default) = toNext (Builtin.append_ #[T, T] ty #[.slice S l.length cap, .slice S2 ys.length c2]))
  (hu : P.underlying T = some (.slice e)) (hinf : (P.info? e).map (fun i => (i.size, i.bytes, i.zero.map (·.cells.size))) = some (sz, bytes, some sz)) (hd : dt.sz = sz) (hsz0 : 0 < sz)
  (hX : X[xi]? = some (orow e sz S l.length cap cs)) (hr : Reps dt I l cs) (hy : Rd dt I S2 ys)
  (hbytes : (l.length + ys.length) * bytes ≤ 140737488355328) (hmax : l.length + ys.length ≤ 9223372036854775807)
  (kk : ∀ (S' : Option Addr) (c' nx' : Nat) (cs' : List Value), Reps dt I (l ++ ys) cs' → RL P os Q (p + 1) A (putK A K d (.slice S' (l ++ ys).length c')) B I nx' L (X.set xi (orow e sz S' (l ++ ys).length c' cs'))) : RL P os Q p A K B I nx L X := by
 obtain ⟨inf, z, h1, h2, h3, h4, h5⟩ := info_of hinf
 refine RL.appendRd sz bytes ty l.length cap c2 cs dt ys xi d hl hx hu inf h1 z h2 h3 h4 h5 hsz0 hX hy hd hbytes hmax (fun S' c' nx' news hr2 => ?_)
 have := kk S' c' nx' _ (hr.append hr2)
 rwa [List.length_append] at this

/-- A store of a whole element. -/
theorem RL.storeL {α : Type} {T e : TypeId} (sz : Nat) (xi : Nat) {S : Option Addr} {g : Nat} (hS : S = some ⟨g, 0, none⟩) (cap : Nat) (i : Int) (cs news : List Value) (v : Value) (dt : Ty α) (l : List α) (x : α)
  (hl : ready os p K none = true)
  (hx : execOp (evalK K) (os.getD p default) = (Instr.storeAt T (.pointer (some ⟨g, 0 + i.toNat * sz, none⟩)) v).bind fun _ => .pure .skip)
  (hz : (P.info? T).map (·.size) = some sz) (hd : dt.sz = sz) (hv : v.cells = news.toArray) (hk : dt.K I x news) (hX : X[xi]? = some (orow e sz S l.length cap cs)) (hr : Reps dt I l cs) (h0 : 0 ≤ i) (hi : i < (l.length : Int))
  (kk : ∀ cs', Reps dt I (l.set i.toNat x) cs' → RL P os Q (p + 1) A K B I nx L (X.set xi (orow e sz S (l.set i.toNat x).length cap cs'))) : RL P os Q p A K B I nx L X := by
 subst hd
 refine RL.storeRow dt.sz xi hS l.length cap i.toNat cs news v hl hx hz hv (dt.len hk) (fun u hu => dt.one hk u hu) hX (by omega) ?_
 have := kk _ (hr.set i.toNat x news (by omega) hk)
 rwa [List.length_set] at this
theorem Reps.getE {α : Type} {d : Ty α} {l : List α} {cs : List Value} (h : Reps d I l cs) (z : α) (i : Int) (h0 : 0 ≤ i) (h1 : i < (l.length : Int)) : ∃ c, d.K I (l.getD i.toNat z) c ∧ ∀ j u, c[j]? = some u → cs[i.toNat * d.sz + j]? = some u := by
 have hl : i.toNat < l.length := by omega
 obtain ⟨c, hk, hc⟩ := h.get i.toNat _ (List.getElem?_eq_getElem hl)
 refine ⟨c, ?_, hc⟩
 rw [List.getD_eq_getElem?_getD, List.getElem?_eq_getElem hl]
 exact hk
/-- One operation that is done and tells nothing. -/
theorem RL.oneS (N : World → Prop) (hl : ready os p K none = true)
  (h : ∀ w, Sat B I nx L X w → ∃ w', (execOp (evalK K) (os.getD p default)).run P w = .ok .skip w' ∧ N w')
  (k : ∀ w', N w' → ∀ a', Knows A K a' → wpList P os.toArray Q (os.drop (p + 1)) a' w') : RL P os Q p A K B I nx L X := by
 intro a w ha hs
 unfold ready at hl
 split at hl
 ·cases hl
 ·rename_i o ho
  simp only [Bool.and_eq_true, beq_iff_eq, List.all_eq_true] at hl
  obtain ⟨⟨hw, hk1, hk2⟩, hd⟩ := hl
  have hgo : os.getD p default = o := by rw [List.getD_eq_getElem?_getD, ho]; rfl
  rw [drop_get (by rw [ho]; rfl), hgo]
  simp only [wpList]
  rw [if_pos (wantedK_spec ha hw)]
  refine .inl ?_
  unfold Oper.wp
  rw [ha.exec hk1 (fun x hx => hk2 x (by simpa using hx))]
  obtain ⟨w', hr, hN⟩ := h w hs
  rw [hgo] at hr
  rw [hr]
  show wpList P os.toArray Q (os.drop (p + 1)) (a.put o.dst undef) w'
  rw [hd]
  exact k w' hN _ (ha.put none undef)
end
section
variable {I : Imm} {cs : List Value}
theorem scalar_own {α : Type} (z : α) {enc : α → Value} {h1 : ∀ x, (enc x).oneCell' = true} {l : List α} (h : Reps (Ty.scalar enc h1) I l cs) (i : Int) (h0 : 0 ≤ i) (h2 : i < (l.length : Int)) :
  ∀ j u, [enc (l.getD i.toNat z)][j]? = some u → cs[i.toNat * 1 + j]? = some u := by
 obtain ⟨c, hk, hc⟩ := h.getE z i h0 h2
 have hk' : c = [enc (l.getD i.toNat z)] := hk
 subst hk'
 exact hc
end
theorem Ty.int_own {k : IntKind} {I : Imm} {cs : List Value} {l : List Int} (h : Reps (Ty.int k) I l cs) (i : Int) (h0 : 0 ≤ i) (h2 : i < (l.length : Int)) : ∀ j u, [Value.int k (l.getD i.toNat 0)][j]? = some u → cs[i.toNat * 1 + j]? = some u := scalar_own 0 h i h0 h2
end Go.Proofs.YtfecniimkgkmfaaGreat.RW
namespace Go.Proofs.YtfecniimkgkmfaaGreat.RW
open Go Go.RowKit

/-! ### pairs, as a map holds them -/
section
variable {α β : Type} [DecidableEq α]
def mfind : List (α × β) → α → Nat → Option (Nat × β)
 | [], _, _ => none
 | (x, b) :: r, a, i => if a = x then some (i, b) else mfind r a (i + 1)
def mget : List (α × β) → α → Option β
 | [], _ => none
 | (x, b) :: r, a => if a = x then some b else mget r a
def mput : List (α × β) → α → β → List (α × β)
 | [], a, b => [(a, b)]
 | (x, c) :: r, a, b => if a = x then (x, b) :: r else (x, c) :: mput r a b
/-- The pairs, with one at a. -/
def mens : List (α × β) → α → β → List (α × β)
 | [], a, z => [(a, z)]
 | (x, c) :: r, a, z => if a = x then (x, c) :: r else (x, c) :: mens r a z
def mat : List (α × β) → α → Nat
 | [], _ => 0
 | (x, _) :: r, a => if a = x then 0 else mat r a + 1
theorem mfind_get : ∀ (l : List (α × β)) (a : α) (i : Nat), (mfind l a i).map (·.2) = mget l a
 | [], _, _ => rfl
 | (x, b) :: r, a, i => by
  simp only [mfind, mget]
  split
  ·rfl
  ·exact mfind_get r a (i + 1)
theorem mfind_at : ∀ (l : List (α × β)) (a : α) (i j : Nat) (b : β), mfind l a i = some (j, b) → j = i + mat l a
 | [], _, _, _, _, h => by cases h
 | (x, c) :: r, a, i, j, b, h => by
  simp only [mfind, mat] at h ⊢
  split at h
  ·injection h with h
   injection h with h1 h2
   rw [if_pos ‹_›, ← h1]; rfl
  ·rw [if_neg ‹_›, mfind_at r a (i + 1) j b h]
   omega
theorem mput_none : ∀ (l : List (α × β)) (a : α) (b : β) (i : Nat), mfind l a i = none → mput l a b = l ++ [(a, b)] ∧ mens l a b = l ++ [(a, b)] ∧ mat l a = l.length
 | [], _, _, _, _ => ⟨rfl, rfl, rfl⟩
 | (x, c) :: r, a, b, i, h => by
  simp only [mfind, mput, mens, mat] at h ⊢
  split at h
  ·cases h
  ·rw [if_neg ‹_›, if_neg ‹_›, if_neg ‹_›]
   obtain ⟨h1, h2, h3⟩ := mput_none r a b (i + 1) h
   exact ⟨by rw [h1]; rfl, by rw [h2]; rfl, by rw [h3]; rfl⟩
theorem mens_some : ∀ (l : List (α × β)) (a : α) (z : β) (i : Nat) (p : Nat × β), mfind l a i = some p → mens l a z = l
 | [], _, _, _, _, h => by cases h
 | (x, c) :: r, a, z, i, p, h => by
  simp only [mfind, mens] at h ⊢
  split at h
  ·rw [if_pos ‹_›]
  ·rw [if_neg ‹_›, mens_some r a z (i + 1) p h]
theorem mens_get : ∀ (l : List (α × β)) (a : α) (z : β), (mget (mens l a z) a).getD z = (mget l a).getD z
 | [], a, z => by simp [mens, mget]
 | (x, c) :: r, a, z => by
  simp only [mens]
  split
  ·rfl
  ·rename_i h
   simp only [mget, if_neg h]
   exact mens_get r a z
theorem mput_mens : ∀ (l : List (α × β)) (a : α) (z b : β), mput (mens l a z) a b = mput l a b
 | [], a, z, b => by simp [mens, mput]
 | (x, c) :: r, a, z, b => by
  simp only [mens]
  split
  ·rfl
  ·rename_i h
   simp only [mput, if_neg h]
   rw [mput_mens r a z b]
theorem mput_get : ∀ (l : List (α × β)) (a : α) (b : β), mget (mput l a b) a = some b
 | [], a, b => by simp [mput, mget]
 | (x, c) :: r, a, b => by
  simp only [mput]
  split
  ·rename_i h
   simp [mget, h]
  ·rename_i h
   simp only [mget, if_neg h]
   exact mput_get r a b
theorem mput_other : ∀ (l : List (α × β)) (a a' : α) (b : β), a' ≠ a → mget (mput l a b) a' = mget l a'
 | [], a, a', b, h => by simp [mput, mget, h]
 | (x, c) :: r, a, a', b, h => by
  simp only [mput]
  split
  ·rename_i hax
   subst hax
   simp [mget, h]
  ·simp only [mget]
   rw [mput_other r a a' b h]
theorem mens_mat : ∀ (l : List (α × β)) (a : α) (z : β), mat (mens l a z) a = mat l a ∧ mat l a < (mens l a z).length
 | [], a, z => by simp [mens, mat]
 | (x, c) :: r, a, z => by
  simp only [mens]
  split
  ·rename_i h
   simp [mat, h]
  ·rename_i h
   simp only [mat, if_neg h, List.length_cons]
   have := mens_mat r a z
   omega
end

def ents {α β : Type} (kE : α → Value) (vE : β → Value) : Nat → List (α × β) → List MapEntry
 | _, [] => []
 | i, (a, b) :: r => ⟨kE a, vE b, i⟩ :: ents kE vE (i + 1) r
theorem ents_length {α β : Type} {kE : α → Value} {vE : β → Value} : ∀ (l : List (α × β)) (i : Nat), (ents kE vE i l).length = l.length
 | [], _ => rfl
 | (_, _) :: r, i => by simp [ents, ents_length r]
theorem ents_append {α β : Type} {kE : α → Value} {vE : β → Value} (p : α × β) : ∀ (l : List (α × β)) (i : Nat), ents kE vE i (l ++ [p]) = ents kE vE i l ++ [⟨kE p.1, vE p.2, i + l.length⟩]
 | [], i => by obtain ⟨a, b⟩ := p; rfl
 | (_, _) :: r, i => by
  simp only [List.cons_append, ents, ents_append p r, List.length_cons]
  rw [show i + 1 + r.length = i + (r.length + 1) from by omega]
theorem ents_modify {α β : Type} [DecidableEq α] {kE : α → Value} {vE : β → Value} (b : β) : ∀ (l : List (α × β)) (a : α) (i j : Nat) (c : β), mfind l a i = some (i + j, c) → ∀ q,
  ((ents kE vE q l).modify j fun e => { e with key := kE a, val := vE b }) = ents kE vE q (mput l a b)
 | [], _, _, _, _, h => by cases h
 | (x, d) :: r, a, i, j, c, h => by
  intro q
  simp only [mfind] at h
  split at h
  ·rename_i hax
   injection h with h
   injection h with h1 h2
   obtain rfl : j = 0 := by omega
   subst hax
   simp only [ents, mput, if_true, List.modify_zero_cons]
  ·rename_i hax
   obtain ⟨j', rfl⟩ : ∃ j', j = j' + 1 := by
    have := mfind_at r a (i + 1) _ _ h
    exact ⟨j - 1, by omega⟩
   simp only [ents, mput, if_neg hax, List.modify_succ_cons]
   rw [ents_modify b r a (i + 1) j' c (by rw [h]; congr 2; omega)]
theorem ents_find {α β : Type} {kE : α → Value} {vE : β → Value} : ∀ (l : List (α × β)) (q j : Nat), j < l.length → (ents kE vE q l).findIdx? (fun e => (e.born : Int) == ((q + j : Nat) : Int)) = some j
 | [], _, _, h => by cases h
 | (a, b) :: r, q, j, h => by
  simp only [ents, List.findIdx?_cons]
  cases j with
  | zero => simp
  | succ j =>
   rw [if_neg (by simp; omega)]
   have := ents_find (kE := kE) (vE := vE) r (q + 1) j (by simpa using h)
   rw [show q + (j + 1) = q + 1 + j from by omega, this]
   rfl
theorem ents_val {α β : Type} [DecidableEq α] {kE : α → Value} {vE : β → Value} (b : β) : ∀ (l : List (α × β)) (a : α), mat l a < l.length → ∀ q, ((ents kE vE q l).modify (mat l a) fun e => { e with val := vE b }) = ents kE vE q (mput l a b)
 | [], _, h => by cases h
 | (x, d) :: r, a, h => by
  intro q
  simp only [mat] at h ⊢
  by_cases hax : a = x
  ·simp only [if_pos hax, ents, mput, List.modify_zero_cons]
  ·simp only [if_neg hax] at h ⊢
   simp only [ents, mput, if_neg hax, List.modify_succ_cons]
   rw [ents_val b r a (by simpa using h)]
theorem ents_get {α β : Type} [DecidableEq α] {kE : α → Value} {vE : β → Value} : ∀ (l : List (α × β)) (a : α) (i j : Nat) (c : β), mfind l a i = some (i + j, c) → ∀ q, (ents kE vE q l)[j]? = some ⟨kE a, vE c, q + j⟩
 | [], _, _, _, _, h => by cases h
 | (x, d) :: r, a, i, j, c, h => by
  intro q
  simp only [mfind] at h
  split at h
  ·rename_i hax
   injection h with h
   injection h with h1 h2
   obtain rfl : j = 0 := by omega
   simp only [ents, List.getElem?_cons_zero, hax, h2]; rfl
  ·obtain ⟨j', rfl⟩ : ∃ j', j = j' + 1 := by
    have := mfind_at r a (i + 1) _ _ h
    exact ⟨j - 1, by omega⟩
   simp only [ents, List.getElem?_cons_succ]
   rw [ents_get r a (i + 1) j' c (by rw [h]; congr 2; omega), show q + 1 + j' = q + (j' + 1) from by omega]

/-- A map's type, with what it takes to look into such a map. -/
structure MT (P : Program) (T Kt Et : TypeId) {α β : Type} [DecidableEq α] (kE : α → Value) (vE : β → Value) (z : β) : Prop where
 und : P.underlying T = some (.map Kt Et)
 find : ∀ (w : World) (a : α) (l : List (α × β)) (q : Nat), (Instr.findKey Kt (kE a) (ents kE vE q l)).run P w = .ok ((mfind l a 0).map fun p => (p.1, vE p.2)) w
 chk : ∀ em w a, (Instr.checkKey em 10000 Kt (kE a)).run P w = .ok () w
 stay : ∀ w a, (Instr.keyThatStays (kE a) (kE a)).run P w = .ok (kE a) w
 zero : ∀ w, (zeroValue Et).run P w = .ok (vE z) w

section
variable {P : Program} {T Kt Et : TypeId} {α β : Type} [DecidableEq α] {kE : α → Value} {vE : β → Value} {z : β} {w : World}
theorem ask_at (eq : ∀ w a b, (Op.equal Kt (kE a) (kE b)).run P w = .ok (decide (a = b)) w) (a : α) : ∀ (l : List (α × β)) (q i : Nat), (Instr.findAsking Kt (kE a) (ents kE vE q l) i).run P w = .ok ((mfind l a i).map fun p => (p.1, vE p.2)) w
 | [], q, i => by simp [ents, Instr.findAsking, mfind]
 | (x, b) :: r, q, i => by
  simp only [ents, Instr.findAsking, mfind, Sem.run_bind, eq, Result.andThen_ok]
  by_cases hax : a = x
  ·simp [hax]
  ·simp only [hax, decide_false, Bool.false_eq_true, if_false]
   exact ask_at eq a r (q + 1) (i + 1)
/-- Keys that are structs. -/
theorem MT.ofStruct (und : P.underlying T = some (.map Kt Et)) (str : ∃ fs, P.underlying Kt = some (.struct fs)) (agg : ∀ a, ∃ xs, kE a = .agg xs) (eq : ∀ w a b, (Op.equal Kt (kE a) (kE b)).run P w = .ok (decide (a = b)) w)
  (chk : ∀ em w a, (Instr.checkKey em 10000 Kt (kE a)).run P w = .ok () w) (stay : ∀ w a, (Instr.keyThatStays (kE a) (kE a)).run P w = .ok (kE a) w) (zero : ∀ w, (zeroValue Et).run P w = .ok (vE z) w) : MT P T Kt Et kE vE z := by
 refine ⟨und, fun w a l q => ?_, chk, stay, zero⟩
 obtain ⟨fs, hfs⟩ := str
 obtain ⟨xs, hxs⟩ := agg a
 have hu : ∀ w : World, (underlying Kt).run P w = .ok (.struct fs) w := run_underlying hfs
 unfold Instr.findKey
 simp only [Sem.run_bind, hu, Result.andThen_ok]
 cases l with
 | nil => simp [ents, Instr.findNow, mfind]
 | cons p r =>
  obtain ⟨x, b⟩ := p
  have : Instr.findNow (.struct fs) (kE a) (ents kE vE q ((x, b) :: r)) 0 = none := by
   simp [ents, Instr.findNow, Instr.sameNow]
  rw [this]
  exact ask_at eq a ((x, b) :: r) q 0
theorem now_at (k : IntKind) {vE : β → Value} (a : Int) : ∀ (l : List (Int × β)) (q i : Nat), Instr.findNow (.int k) (.int k a) (ents (Value.int k) vE q l) i = some ((mfind l a i).map fun p => (p.1, vE p.2))
 | [], q, i => by simp [ents, Instr.findNow, mfind]
 | (x, b) :: r, q, i => by
  simp only [ents, Instr.findNow, mfind, Instr.sameNow, if_true]
  by_cases hax : a = x
  ·simp [hax]
  ·have : (a == x) = false := beq_eq_false_iff_ne.2 hax
   simp only [this, hax, if_false]
   exact now_at k a r (q + 1) (i + 1)
/-- Keys that are integers. -/
theorem MT.ofInt {k : IntKind} {vE : β → Value} {z : β} (und : P.underlying T = some (.map Kt Et)) (ku : P.underlying Kt = some (.int k)) (zero : ∀ w, (zeroValue Et).run P w = .ok (vE z) w) : MT P T Kt Et (Value.int k) vE z := by
 have hu : ∀ w : World, (underlying Kt).run P w = .ok (.int k) w := run_underlying ku
 refine ⟨und, fun w a l q => ?_, fun em w a => ?_, fun w a => ?_, zero⟩
 ·unfold Instr.findKey
  simp only [Sem.run_bind, hu, Result.andThen_ok, now_at]
  rfl
 ·have key : ∀ n, (Instr.checkKey em (n + 1) Kt (.int k a)).run P w = .ok () w := fun n => by
   rw [Instr.checkKey, Sem.run_bind, hu]
   rfl
  exact key 9999
 ·unfold Instr.keyThatStays
  have key : ∀ n, Instr.sameBits (n + 1) (.int k a) (.int k a) = true := fun n => by simp [Instr.sameBits]
  rw [if_pos (key 9999)]
  rfl
theorem run_getMap {g : Nat} {es : Array MapEntry} {c : Nat} (hg : w.heap[g]? = some (.map es c)) : (getObj g).run P w = .ok (.map es c) w := by simp [getObj, Sem.run, hg]
theorem run_setMap {g : Nat} {es : Array MapEntry} {c : Nat} (hg : w.heap[g]? = some (.map es c)) (o : Obj) : (setObj g o).run P w = .ok () (w.putObj g o) := by simp [setObj, Sem.run, hg, World.putObj]
theorem MT.lookup (h : MT P T Kt Et kE vE z) {g c : Nat} {es : Array MapEntry} {q : Nat} {l : List (α × β)} (hes : es.toList = ents kE vE q l) (hg : w.heap[g]? = some (.map es c)) (a : α) (ok : Bool) :
  (Instr.lookup T (.map (some g)) (kE a) ok).run P w = .ok (if ok = true then .tuple #[vE ((mget l a).getD z), .bool (mget l a).isSome] else vE ((mget l a).getD z)) w := by
 have hu : ∀ w : World, (underlying T).run P w = .ok (.map Kt Et) w := run_underlying h.und
 have hf : (mfind l a 0).map (·.2) = mget l a := mfind_get l a 0
 unfold Instr.lookup
 simp only [Sem.run_bind, hu, Result.andThen_ok, run_getMap hg, Sem.run_pure, h.chk, hes, h.find w a l q]
 cases hm : mfind l a 0 with
 | none => rw [hm] at hf; simp only [Option.map_none] at hf; simp [← hf, h.zero]
 | some p => rw [hm] at hf; simp only [Option.map_some] at hf; simp [← hf]
/-- Put at a. -/
theorem MT.update (h : MT P T Kt Et kE vE z) {g : Nat} {l : List (α × β)} (hg : w.heap[g]? = some (.map (ents kE vE 0 l).toArray l.length)) (a : α) (b : β) :
  (Instr.mapUpdate T (.map (some g)) (kE a) (vE b)).run P w = .ok () (w.putObj g (.map (ents kE vE 0 (mput l a b)).toArray (mput l a b).length)) := by
 have hu : ∀ w : World, (underlying T).run P w = .ok (.map Kt Et) w := run_underlying h.und
 unfold Instr.mapUpdate
 simp only [Sem.run_bind, hu, Result.andThen_ok, run_getMap hg, h.chk, h.find w a l 0]
 cases hm : mfind l a 0 with
 | none =>
  obtain ⟨h1, _, _⟩ := mput_none l a b 0 hm
  simp only [Option.map_none, run_setMap hg, h1, ents_append, List.push_toArray, List.length_append, List.length_cons, List.length_nil, Nat.zero_add]
 | some p =>
  obtain ⟨j, c⟩ := p
  have hj : mfind l a 0 = some (0 + j, c) := by rw [hm, Nat.zero_add]
  have hget : ((ents kE vE 0 l).toArray[j]?.map (·.key)).getD (kE a) = kE a := by
   rw [List.getElem?_toArray, ents_get l a 0 j c hj 0]; rfl
  have hlen : (mput l a b).length = l.length := by
   have := congrArg List.length (ents_modify (kE := kE) (vE := vE) b l a 0 j c hj 0)
   rw [List.length_modify, ents_length, ents_length] at this
   exact this.symm
  simp only [Option.map_some, hget, Sem.run_bind, h.stay, Result.andThen_ok, run_setMap hg, List.modify_toArray, ents_modify b l a 0 j c hj, hlen]
/-- The entry at a, made if it isn't there. -/
theorem MT.entry (h : MT P T Kt Et kE vE z) {g : Nat} {l : List (α × β)} (hg : w.heap[g]? = some (.map (ents kE vE 0 l).toArray l.length)) (a : α) :
  (Instr.mapEntry T (.map (some g)) (kE a)).run P w = .ok (.tuple #[vE ((mget l a).getD z), goInt (mat l a : Nat)]) (w.putObj g (.map (ents kE vE 0 (mens l a z)).toArray (mens l a z).length)) := by
 have hu : ∀ w : World, (underlying T).run P w = .ok (.map Kt Et) w := run_underlying h.und
 have hf : (mfind l a 0).map (·.2) = mget l a := mfind_get l a 0
 unfold Instr.mapEntry
 simp only [Sem.run_bind, hu, Result.andThen_ok, run_getMap hg, h.chk, h.find w a l 0]
 cases hm : mfind l a 0 with
 | none =>
  rw [hm] at hf
  simp only [Option.map_none] at hf
  obtain ⟨_, h1, h2⟩ := mput_none l a z 0 hm
  simp only [Option.map_none, Sem.run_bind, h.zero, Result.andThen_ok, run_setMap hg, Sem.run_pure, h1, ents_append, List.push_toArray, List.length_append, List.length_cons, List.length_nil, Nat.zero_add, ← hf, Option.getD_none, h2]
 | some p =>
  obtain ⟨j, c⟩ := p
  rw [hm] at hf
  simp only [Option.map_some] at hf
  have hj : mfind l a 0 = some (0 + j, c) := by rw [hm, Nat.zero_add]
  have hat := mfind_at l a 0 j c hm
  rw [Nat.zero_add] at hat
  subst hat
  have hkey : ((ents kE vE 0 l).toArray[mat l a]?.map (·.key)).getD (kE a) = kE a := by
   rw [List.getElem?_toArray, ents_get l a 0 _ c hj 0]; rfl
  have hborn : ((ents kE vE 0 l).toArray[mat l a]?.map (fun x => (x.born : Int))).getD 0 = (mat l a : Int) := by
   rw [List.getElem?_toArray, ents_get l a 0 _ c hj 0]; simp
  have hid : ((ents kE vE 0 l).modify (mat l a) fun e => { e with key := kE a }) = ents kE vE 0 l := by
   apply List.ext_getElem?
   intro k
   rw [List.getElem?_modify]
   split
   ·rename_i hjk
    subst hjk
    rw [ents_get l a 0 _ c hj 0]; rfl
   ·cases (ents kE vE 0 l)[k]? <;> rfl
  simp only [Option.map_some, hkey, hborn, Sem.run_bind, h.stay, Result.andThen_ok, run_setMap hg, List.modify_toArray, hid, Sem.run_pure, mens_some l a z 0 _ hm, ← hf, Option.getD_some]
/-- What is put at that entry. -/
theorem run_entryStore {g : Nat} {l : List (α × β)} (hg : w.heap[g]? = some (.map (ents kE vE 0 l).toArray l.length)) (a : α) (b : β) (hl : mat l a < l.length) :
  (Instr.entryStore T (.map (some g)) (goInt (mat l a : Nat)) (vE b)).run P w = .ok () (w.putObj g (.map (ents kE vE 0 (mput l a b)).toArray (mput l a b).length)) := by
 have hfind := ents_find (kE := kE) (vE := vE) l 0 (mat l a) hl
 rw [Nat.zero_add] at hfind
 have hv := ents_val (kE := kE) (vE := vE) b l a hl 0
 have hlen : (mput l a b).length = l.length := by
  have := congrArg List.length hv
  rw [List.length_modify, ents_length, ents_length] at this
  exact this.symm
 unfold Instr.entryStore
 have hi : (asInt (goInt (mat l a : Nat))).run P w = .ok ((mat l a : Nat) : Int) w := rfl
 simp only [Sem.run_bind, run_getMap hg, Result.andThen_ok, hi, List.findIdx?_toArray, hfind, run_setMap hg, List.modify_toArray, hv, hlen]
end
end Go.Proofs.YtfecniimkgkmfaaGreat.RW
namespace Go.Proofs.YtfecniimkgkmfaaGreat.RW
open Go Go.RowKit

/-- A map as a piece of memory. -/
def mres {α β : Type} (kE : α → Value) (vE : β → Value) (g : Nat) (l : List (α × β)) : Res where
 fp := fun k => k = g
 P := fun _ w => w.heap[g]? = some (.map (ents kE vE 0 l).toArray l.length)
 stable := fun _ w w' h hp => by rw [h g rfl]; exact hp
 ext := fun _ _ _ _ h => h

theorem Got.newRes {w : World} {I : Imm} (hI : I.at_ w) (o : Obj) (r : Res) (hfp : ∀ k, r.fp k → k = w.heap.size) (hP : r.P I (w.alloc o)) : Got w (w.alloc o) I I [r] := by
 have hold : ∀ k, k < w.heap.size → (w.alloc o).heap[k]? = w.heap[k]? := fun k hk => by
  show (w.heap.push o)[k]? = _
  rw [Array.getElem?_push, if_neg (by omega)]
 refine ⟨⟨rfl, rfl, rfl, by simp, fun k hk _ => hold k hk⟩, Imm.le_refl _, ?_, fun _ _ h => .inl h, ?_, ?_, List.pairwise_singleton _ _, ?_⟩
 ·intro a v ha
  have hc := hI a v ha
  rw [← hc]
  exact look_of_block (w := w) (hold _ (look_lt hc))
 ·intro q hq
  rw [List.mem_singleton.1 hq]
  exact hP
 ·intro q hq k hk
  rw [List.mem_singleton.1 hq] at hk
  have := hfp k hk
  simp
  omega
 ·intro a v ha q hq hk
  rw [List.mem_singleton.1 hq] at hk
  have h1 := hfp _ hk
  have := look_lt (hI a v ha)
  omega

section
variable {P : Program} {c : Code} {Q : Exit → Act → World → Prop} {A : Fr} {K : List (Nat × Value)} {B : Base} {I : Imm} {nx : Nat} {L : List Blk} {X : List Res} {os : List Oper} {p : Nat}
variable {T Kt Et : TypeId} {α β : Type} [DecidableEq α] {kE : α → Value} {vE : β → Value} {z : β}

omit [DecidableEq α] in
theorem Sat.putMap {w : World} (hs : Sat B I nx L X w) {m g : Nat} {l l' : List (α × β)} (hm : X[m]? = some (mres kE vE g l)) : Sat B I nx L (X.set m (mres kE vE g l')) (w.putObj g (.map (ents kE vE 0 l').toArray l'.length)) := by
 have hg : w.heap[g]? = some (.map (ents kE vE 0 l).toArray l.length) := hs.res _ (List.mem_of_getElem? hm)
 have hlt := (Array.getElem?_eq_some_iff.1 hg).1
 have := hs.replace hm (mres kE vE g l') (w' := w.putObj g (.map (ents kE vE 0 l').toArray l'.length)) rfl rfl rfl (by simp)
  (fun k _ hf => World.putObj_heap_other (fun e => hf e)) (World.putObj_heap_same hlt) (fun k hk => .inl hk) (fun k hk => by
   obtain rfl : k = g := hk
   simpa using hlt)
 simpa [hs.hnx] using this

omit [DecidableEq α] in
theorem RL.makeMap (kE : α → Value) (vE : β → Value) (d : Option Tmp) (hl : ready os p K d = true) (hx : execOp (evalK K) (os.getD p default) = toNext (Instr.makeMap T none))
  (k : RL P os Q (p + 1) A (putK A K d (.map (some nx))) B I (nx + 1) L (X ++ [mres kE vE nx []])) : RL P os Q p A K B I nx L X := by
 refine RL.one d (fun v w' => v = .map (some nx) ∧ Sat B I (nx + 1) L (X ++ [mres kE vE nx []]) w') hl (fun w hs => ?_) (fun v w' hN a' ha' => ?_)
 ·refine ⟨.map (some nx), w.alloc (.map #[] 0), ?_, rfl, ?_⟩
  ·rw [hx]
   have hr : (Instr.makeMap T none).run P w = .ok (.map (some w.heap.size)) (w.alloc (.map #[] 0)) := by
    simp [Instr.makeMap]
   rw [hs.hnx] at hr
   exact run_toNext hr
  ·have := hs.call (Got.newRes hs.im (.map #[] 0) (mres kE vE w.heap.size []) (fun k hk => hk) (World.alloc_heap_new w _))
   rw [World.size_alloc, hs.hnx] at this
   exact this
 ·obtain ⟨rfl, hs⟩ := hN
  exact k a' w' ha' hs

theorem RL.lookM (hM : MT P T Kt Et kE vE z) (a : α) (ok : Bool) (m : Nat) {g : Nat} {l : List (α × β)} (d : Option Tmp) (hl : ready os p K d = true) (hm : X[m]? = some (mres kE vE g l))
  (hx : execOp (evalK K) (os.getD p default) = toNext (Instr.lookup T (.map (some g)) (kE a) ok)) {K' : List (Nat × Value)}
  (hF : putK A K d (if ok = true then .tuple #[vE ((mget l a).getD z), .bool (mget l a).isSome] else vE ((mget l a).getD z)) = K') (k : RL P os Q (p + 1) A K' B I nx L X) : RL P os Q p A K B I nx L X :=
 RL.quiet d _ hl hF (fun w hs => by rw [hx]; exact run_toNext (hM.lookup (q := 0) (by simp) (hs.res _ (List.mem_of_getElem? hm)) a ok)) k

theorem RL.putM (hM : MT P T Kt Et kE vE z) (a : α) (b : β) (m : Nat) {g : Nat} {l : List (α × β)} (hl : ready os p K none = true) (hm : X[m]? = some (mres kE vE g l))
  (hx : execOp (evalK K) (os.getD p default) = (Instr.mapUpdate T (.map (some g)) (kE a) (vE b)).bind fun _ => .pure .skip)
  (k : RL P os Q (p + 1) A K B I nx L (X.set m (mres kE vE g (mput l a b)))) : RL P os Q p A K B I nx L X :=
 RL.oneS (fun w' => Sat B I nx L (X.set m (mres kE vE g (mput l a b))) w') hl (fun w hs => ⟨_, by rw [hx, Sem.run_bind', hM.update (hs.res _ (List.mem_of_getElem? hm)) a b]; rfl, hs.putMap hm⟩) (fun w' hs a' ha' => k a' w' ha' hs)
theorem RL.storeM (a : α) (b : β) (m : Nat) {g : Nat} {l : List (α × β)} (hlt : mat l a < l.length) (hl : ready os p K none = true) (hm : X[m]? = some (mres kE vE g l))
  (hx : execOp (evalK K) (os.getD p default) = (Instr.entryStore T (.map (some g)) (goInt (mat l a : Nat)) (vE b)).bind fun _ => .pure .skip)
  (k : RL P os Q (p + 1) A K B I nx L (X.set m (mres kE vE g (mput l a b)))) : RL P os Q p A K B I nx L X :=
 RL.oneS (fun w' => Sat B I nx L (X.set m (mres kE vE g (mput l a b))) w') hl (fun w hs => ⟨_, by rw [hx, Sem.run_bind', run_entryStore (hs.res _ (List.mem_of_getElem? hm)) a b hlt]; rfl, hs.putMap hm⟩) (fun w' hs a' ha' => k a' w' ha' hs)

/-- A known block never turns from now on. -/
theorem RL.immL (i : Nat) {b : Blk} (hi : L[i]? = some b) (hB : ∀ w, Sat B I nx L X w → B.w0.heap.size ≤ b.g)
  (k : ∀ J, I.le J → (∀ j u, b.cs[j]? = some u → J ⟨b.g, j, none⟩ = some u) → RL P os Q p A K B J nx (L.eraseIdx i) X) : RL P os Q p A K B I nx L X := by
 intro a w ha h
 have hbm := List.mem_of_getElem? hi
 obtain ⟨hil, hie⟩ := List.getElem?_eq_some_iff.1 hi
 have hsub : Sat B I nx (L.eraseIdx i) X w := h.less (List.eraseIdx_sublist _ _) (List.Sublist.refl _)
 have hn : ∀ q u, rowImm b.g b.cs q = some u → q = ⟨b.g, q.off, none⟩ ∧ b.cs[q.off]? = some u := fun q u hq => rowImm_some hq
 refine k (I.or (rowImm b.g b.cs)) (Imm.le_or _ _) (fun j u hj => ?_) a w ha (hsub.imm (rowImm b.g b.cs) ?_ ?_ ?_ ?_)
 ·refine Imm.or_get ?_ (by rw [rowImm_get]; exact hj)
  cases hI : I ⟨b.g, j, none⟩ with
  | none => rfl
  | some v => exact absurd rfl (h.imL _ v hI b hbm)
 ·intro q u hq
  obtain ⟨e4, e5⟩ := hn q u hq
  rw [e4]
  exact (h.cell hi (a := ⟨b.g, q.off, none⟩) rfl rfl).trans e5
 ·intro q u hq b' hb'
  obtain ⟨e4, _⟩ := hn q u hq
  rw [e4]
  obtain ⟨y, hy, hyb⟩ := List.getElem_of_mem hb'
  rw [List.length_eraseIdx_of_lt hil] at hy
  rw [List.getElem_eraseIdx] at hyb
  have hp := List.pairwise_iff_getElem.1 h.ne
  have key : ∀ j (hj : j < L.length), j ≠ i → L[j].g ≠ b.g := fun j hj hne => by
   rcases Nat.lt_or_gt_of_ne hne with h1 | h1
   ·have := hp j i hj hil h1; rwa [hie] at this
   ·have := hp i j hil hj h1; rw [hie] at this; exact this.symm
  split at hyb
  ·rw [← hyb]; exact key y (by omega) (by omega)
  ·rw [← hyb]; exact key (y + 1) (by omega) (by omega)
 ·intro q u hq r hr
  obtain ⟨e4, _⟩ := hn q u hq
  rw [e4]
  exact h.rblk r hr b hbm
 ·intro q u hq
  obtain ⟨e4, _⟩ := hn q u hq
  rw [e4]
  exact .inl (hB w h)
end

/-! ### a round's frame -/
def noDefer (o : Oper) : Bool := match o.op with | .defer _ => false | _ => true
section
variable {P : Program} {Q : Exit → Act → World → Prop} {ops : Array Oper}
def Fence.ro (r : Option Nat) : Fence := { Fence.wide with round := r }
theorem callsRo {r : Option Nat} {n : Nat} {f : FuncId} {args : Array Value} {w : World} {R : Ending → World → Prop} (h : Calls P f args w R) : CallsIn (Fence.ro r) n P f args w R := (callsIn_wide (n := n)).2 h
theorem uponRo {r : Option Nat} {n : Nat} {o : Oper} {a : Act} {N N' : Act → World → Prop} (hN : ∀ a w, N a w → N' a w) {x : Result Next} (h : o.upon P a N Q x) : o.uponIn (Fence.ro r) n P a N' Q x := by
 cases x with
 | ok x w' =>
  cases x with
  | value v => exact hN _ _ h
  | skip => exact hN _ _ h
  | defer d => exact hN _ _ h
  | enter f args =>
   refine ⟨(fun h => by cases h), callsRo (Calls.mono h fun e w' he => ?_)⟩
   cases e with
   | returned v => exact hN _ _ he
   | panicked c => exact he
   | outgrown => exact he
  | row f args =>
   refine ⟨(fun h => by cases h), fun c cs _ => ?_⟩
   obtain ⟨v, w'', h1, h2⟩ := h c cs
   exact ⟨v, w'', hN _ _ h1, stepsIn_wide.2 h2⟩
  | _ => exact h.elim
 | halt x w' => cases x <;> first | exact h | exact h.elim
theorem wpRo {r : Option Nat} {n : Nat} {o : Oper} (ho : noDefer o = true) (hQ : ¬ LetsOut Q) {a : Act} {w : World} {N N' : Act → World → Prop} (hN : ∀ a w, N a w → N' a w) (h : o.wp P a w N Q ∨ (o.asks P a w ∧ LetsOut Q)) : o.wpIn (Fence.ro r) n P a w N' Q := by
 refine ⟨fun _ _ => trivial, ?_⟩
 rw [Oper.semAt_plain (Fence.ro r) _ _ (fun c hc => by unfold noDefer at ho; rw [hc] at ho; cases ho)]
 exact uponRo hN (h.resolve_right fun h => hQ h.2)
theorem wpListRo {r : Option Nat} {n : Nat} (hQ : ¬ LetsOut Q) : ∀ (l : List Oper) (a : Act) (w : World), (∀ o ∈ l, noDefer o = true) → wpList P ops Q l a w → wpListIn (Fence.ro r) n P ops Q l a w
 | [], _, _, _, h => h
 | o :: l, a, w, hd, h => by
  simp only [wpList, wpListIn] at h ⊢
  have hd' : ∀ o ∈ l, noDefer o = true := fun o ho => hd o (List.mem_cons_of_mem _ ho)
  split at h
  ·rw [if_pos ‹_›]
   exact wpRo (hd o List.mem_cons_self) hQ (fun a w h => wpListRo hQ l a w hd' h) h
  ·rw [if_neg ‹_›]
   exact ⟨fun _ _ => trivial, wpListRo hQ l _ _ hd' h⟩
theorem wpAnyRo {r : Option Nat} {n : Nat} {md : Region.Mode} (hQ : ¬ LetsOut Q) (hd : ∀ o ∈ ops, noDefer o = true) : ∀ (fuel : Nat) (listed : Array Bool) (a : Act) (w : World), wpAny P md ops Q fuel listed a w → wpAnyIn (Fence.ro r) n P md ops Q fuel listed a w
 | 0, _, _, _, h => h
 | fuel + 1, listed, a, w, h => by
  refine ⟨h.1, fun i hi => ?_⟩
  have := h.2 i hi
  unfold wpOp at this
  unfold wpOpIn
  split
  ·rename_i hn
   rw [hn] at this
   exact wpAnyRo hQ hd fuel _ _ _ this
  ·rename_i o ho
   rw [ho] at this
   simp only at this
   split at this
   ·rw [if_pos ‹_›]
    exact wpRo (hd o (Array.mem_of_getElem? ho)) hQ (fun a w h => wpAnyRo hQ hd fuel _ a w h) this
   ·rw [if_neg ‹_›]
    exact ⟨fun _ _ => trivial, wpAnyRo hQ hd fuel _ _ _ this⟩
end

def OKr (r : Nat) (P : Program) (c : Code) (Q : Exit → Act → World → Prop) (A : Fr) (K : List (Nat × Value)) (B : Base) (I : Imm) (nx : Nat) (L : List Blk) (X : List Res) : Prop :=
 ∀ a w, Knows A K a → Sat B I nx L X w → c.wpIn (Fence.ro (some r)) 0 P Q a w
def thenI (r : Nat) (P : Program) (y : Code) (Q : Exit → Act → World → Prop) : Exit → Act → World → Prop := Exit.then (y.wpIn (Fence.ro (some r)) 0 P Q) Q
section
variable {r : Nat} {P : Program} {c : Code} {Q : Exit → Act → World → Prop} {A : Fr} {K : List (Nat × Value)} {B : Base} {I : Imm} {nx : Nat} {L : List Blk} {X : List Res}
theorem letsThen {y : Code} (hQ : ¬ LetsOut Q) : ¬ LetsOut (thenI r P y Q) := fun ⟨a, w, h⟩ => hQ ⟨a, w, h⟩
theorem letsBlock {id : Nat} (hQ : ¬ LetsOut Q) : ¬ LetsOut (Exit.inBlock id Q) := fun ⟨a, w, h⟩ => hQ ⟨a, w, h⟩
theorem OKr.seq (x y : Code) (h : c = .seq x y) (k : OKr r P x (thenI r P y Q) A K B I nx L X) : OKr r P c Q A K B I nx L X := by
 intro a w ha hs
 rw [h]
 exact wpIn_seq (k a w ha hs)
theorem QN.thenr {y : Code} (k : OKr r P y Q A K B I nx L X) : QN (thenI r P y Q) .normal A K B I nx L X := k
theorem OKr.region (id : Nat) (os : List Oper) (h : c = .region id os.toArray false) (hQ : ¬ LetsOut Q) (hd : os.all noDefer = true) (k : RL P os Q 0 A K B I nx L X) : OKr r P c Q A K B I nx L X := by
 intro a w ha hs
 rw [h]
 exact wpIn_region_lit (wpListRo hQ os a w (List.all_eq_true.1 hd) (k a w ha hs))
theorem OKr.block (id : Nat) (l : Code) (h : c = .block id l) (k : OKr r P l (Exit.inBlock id Q) A K B I nx L X) : OKr r P c Q A K B I nx L X := by
 intro a w ha hs
 rw [h]
 exact wpIn_block (k a w ha hs)
theorem OKr.cond (o : Operand) (x y : Code) (t : Bool) (h : c = .cond o x y) (hk : knownO K o = true) (ht : evalK K o = .bool t) (k1 : t = true → OKr r P x Q A K B I nx L X) (k2 : t = false → OKr r P y Q A K B I nx L X) : OKr r P c Q A K B I nx L X := by
 intro a w ha hs
 rw [h]
 have he : a.eval o = .bool t := by rw [ha.eval hk]; exact ht
 cases t with
 | true => exact wpIn_cond_true he (k1 rfl a w ha hs)
 | false => exact wpIn_cond_false he (k2 rfl a w ha hs)
theorem OKr.skip (h : c = .skip) (k : QN Q .normal A K B I nx L X) : OKr r P c Q A K B I nx L X := by
 intro a w ha hs
 rw [h]
 exact wpIn_skip (k a w ha hs)
theorem OKr.drawn (id : Nat) (os : List Oper) (h : c = .region id os.toArray true) (hm : P.follows .mixedOrders = true) (hQ : ¬ LetsOut Q) (hd : os.all noDefer = true)
  (k : ∀ a w, Knows A K a → Sat B I nx L X w → wpAny P .any os.toArray Q os.toArray.size (Array.replicate os.toArray.size false) a { w with drawn := w.drawn + 1 }) : OKr r P c Q A K B I nx L X := by
 intro a w ha hs
 rw [h]
 exact wpIn_region_any hm (wpAnyRo hQ (fun o ho => List.all_eq_true.1 hd o (by simpa using ho)) _ _ _ _ (k a w ha hs))
end

/-! ### a region with a call of yield -/
def RLi (P : Program) (os : List Oper) (Q : Exit → Act → World → Prop) (p : Nat) (A : Fr) (K : List (Nat × Value)) (B : Base) (I : Imm) (nx : Nat) (L : List Blk) (X : List Res) : Prop :=
 ∀ a w, Knows A K a → Sat B I nx L X w → wpListIn (Fence.ro none) 0 P os.toArray Q (os.drop p) a w
section
variable {P : Program} {c : Code} {Q : Exit → Act → World → Prop} {A : Fr} {K : List (Nat × Value)} {B : Base} {I : Imm} {nx : Nat} {L : List Blk} {X X' : List Res} {os : List Oper} {p : Nat}
theorem OK.regionI (id : Nat) (os : List Oper) (h : c = .region id os.toArray false) (k : RLi P os Q 0 A K B I nx L X) : OK P c Q A K B I nx L X := by
 intro a w ha hs
 rw [h]
 exact (wpIn_wide (n := 0)).1 (wpIn_region_lit (k a w ha hs))
/-- Operations ahead of the call. -/
theorem simOps_in {R : List (Addr × Value)} (hR : RFacts B I X R) {rest : List Oper} :
  ∀ (l : List Oper) (locs : List Loc) (K : List (Nat × Value)) (nx : Nat) (L : List Blk) (es : List (Nat × Nat)) (K' : List (Nat × Value)) (nx' : Nat) (L' : List Blk) (es' : List (Nat × Nat)) (a : Act) (w : World),
   (∀ o ∈ l, noDefer o = true) → simOps P R os A l locs K nx L es = some (K', nx', L', es') → eqs es' → Knows A K a → Sat B I nx L X w →
   (∀ a' w', Knows A K' a' → Sat B I nx' L' X w' → wpListIn (Fence.ro none) 0 P os.toArray Q rest a' w') → wpListIn (Fence.ro none) 0 P os.toArray Q (l ++ rest) a w := by
 intro l
 induction l with
 | nil =>
  intro locs K nx L es K' nx' L' es' a w _ h he ha hs hk
  simp only [simOps, Option.some.injEq, Prod.mk.injEq] at h
  obtain ⟨rfl, rfl, rfl, rfl⟩ := h
  exact hk a w ha hs
 | cons o l ih =>
  intro locs K nx L es K' nx' L' es' a w hnd h he ha hs hk
  have hnd' : ∀ o ∈ l, noDefer o = true := fun o ho => hnd o (List.mem_cons_of_mem _ ho)
  have hsem := Oper.semAt_plain (Fence.ro none) a.eval o (fun c hc => by have := hnd o List.mem_cons_self; unfold noDefer at this; rw [hc] at this; cases this)
  simp only [simOps] at h
  simp only [List.cons_append, wpListIn]
  split at h
  ·cases h
  ·rename_i hw
   rw [if_neg (by rw [wantedK_spec ha hw]; decide)]
   exact ⟨fun _ _ => trivial, ih _ _ _ _ _ _ _ _ _ _ _ hnd' h he (ha.put _ _) hs hk⟩
  ·rename_i hw
   rw [if_pos (wantedK_spec ha hw)]
   split at h
   ·cases h
   ·rename_i hkn
    rw [Bool.and_eq_true, List.all_eq_true] at hkn
    refine ⟨fun _ _ => trivial, ?_⟩
    rw [hsem, ha.exec hkn.1 (fun x hx => hkn.2 x (by simpa using hx))]
    split at h
    ·rename_i v nx1 L1 es1 hsim
     obtain ⟨_, w', hr, hs'⟩ := simS_sound hR _ _ _ _ _ w _ _ _ _ hsim (fun p hp => he p (simOps_mono _ _ _ _ _ _ _ _ _ _ h p hp)) hs
     rw [hr]
     exact ih _ _ _ _ _ _ _ _ _ _ _ hnd' h he (ha.put _ _) hs' hk
    ·rename_i nx1 L1 es1 hsim
     obtain ⟨_, w', hr, hs'⟩ := simS_sound hR _ _ _ _ _ w _ _ _ _ hsim (fun p hp => he p (simOps_mono _ _ _ _ _ _ _ _ _ _ h p hp)) hs
     rw [hr]
     exact ih _ _ _ _ _ _ _ _ _ _ _ hnd' h he (ha.put _ _) hs' hk
    ·cases h
theorem RLi.simP (R : List (Addr × Value)) (hR : RFacts B I X R) (n : Nat) (locs : List Loc) {K' : List (Nat × Value)} {nx' : Nat} {L' : List Blk}
  (hd : ((os.drop p).take n).all noDefer = true)
  (h : (simOps P R os A ((os.drop p).take n) locs K nx L []).map (fun x => (K'.map (fun q => lookK x.1 q.1), x.2.1, x.2.2.1)) = some (K'.map (fun q => some q.2), nx', L'))
  (he : (simOps P R os A ((os.drop p).take n) locs K nx L []).map (fun x => x.2.2.2.map (·.1)) = (simOps P R os A ((os.drop p).take n) locs K nx L []).map (fun x => x.2.2.2.map (·.2)))
  (k : RLi P os Q (p + n) A K' B I nx' L' X) : RLi P os Q p A K B I nx L X := by
 intro a w ha hs
 cases hsim : simOps P R os A ((os.drop p).take n) locs K nx L [] with
 | none => rw [hsim] at h; cases h
 | some x =>
  obtain ⟨K1, nx1, L1, es1⟩ := x
  rw [hsim] at h he
  simp only [Option.map_some, Option.some.injEq, Prod.mk.injEq] at h he
  obtain ⟨h2, rfl, rfl⟩ := h
  have := simOps_in hR (Q := Q) (rest := os.drop (p + n)) _ _ _ _ _ _ _ _ _ _ a w (List.all_eq_true.1 hd) hsim (eqs_of_map he) ha hs (fun a' w' ha' hs' => k a' w' (knows_sub ha' h2) hs')
  rwa [← List.drop_drop, List.take_append_drop] at this
theorem RLi.nil (h : os.drop p = []) (k : QN Q .normal A K B I nx L X) : RLi P os Q p A K B I nx L X := by
 intro a w ha hs
 rw [h]
 exact k a w ha hs
theorem YieldAt.mono {F : Fence} {m l : Nat} {xs : Array Value} {w : World} {R R' : Ending → World → Prop} (h : YieldAt F m P l xs w R) (hr : ∀ e w', R e w' → R' e w') : YieldAt F m P l xs w R' := by
 obtain ⟨fn, tmps, as1, bd, h1, h2⟩ := h
 exact ⟨fn, tmps, as1, bd, h1, h2.mono hr⟩
/-- The call of yield itself. -/
theorem RLi.yield (l : Nat) (xs : Array Value) (d : Option Tmp) (hl : ready os p K d = true) (hnd : noDefer (os.getD p default) = true) (hx : execOp (evalK K) (os.getD p default) = Instr.yield l xs)
  (hy : ∀ w, Sat B I nx L X w → YieldAt (Fence.ro none) 0 P l xs w fun e w' => e = .returned (.bool true) ∧ Sat B I w'.heap.size L X' w')
  (k : ∀ nx', RLi P os Q (p + 1) A (putK A K d (.bool true)) B I nx' L X') : RLi P os Q p A K B I nx L X := by
 intro a w ha hs
 unfold ready at hl
 split at hl
 ·cases hl
 ·rename_i o ho
  simp only [Bool.and_eq_true, beq_iff_eq, List.all_eq_true] at hl
  obtain ⟨⟨hw, hk1, hk2⟩, hd⟩ := hl
  have hgo : os.getD p default = o := by rw [List.getD_eq_getElem?_getD, ho]; rfl
  rw [hgo] at hx
  rw [hgo] at hnd
  rw [drop_get (by rw [ho]; rfl), hgo]
  simp only [wpListIn]
  rw [if_pos (wantedK_spec ha hw)]
  refine ⟨fun _ _ => trivial, ?_⟩
  rw [Oper.semAt_plain (Fence.ro none) _ _ (fun c hc => by unfold noDefer at hnd; rw [hc] at hnd; cases hnd), ha.exec hk1 (fun x hx => hk2 x (by simpa using hx)), hx]
  obtain ⟨fn, tmps, as1, bd, hr, hR⟩ := hy w hs
  rw [hr]
  refine ⟨(fun h => by cases h), RoundIn.mono hR fun e w' ⟨he, hs'⟩ => ?_⟩
  subst he
  show wpListIn _ 0 P os.toArray Q (os.drop (p + 1)) (a.put o.dst (.bool true)) w'
  rw [hd]
  exact k _ _ w' (ha.put d _) hs'
end
end Go.Proofs.YtfecniimkgkmfaaGreat.RW
namespace Go.Proofs.YtfecniimkgkmfaaGreat.RW
open Go Go.RowKit

/-- Below n nothing has turned. -/
structure LowEq (n : Nat) (A B : World) : Prop where
 os : B.os = A.os
 tape : B.tape = A.tape
 output : B.output = A.output
 blk : ∀ k, k < n → B.heap[k]? = A.heap[k]?
theorem LowEq.less {n m : Nat} {A B : World} (h : LowEq n A B) (hm : m ≤ n) : LowEq m A B := ⟨h.os, h.tape, h.output, fun k hk => h.blk k (by omega)⟩
theorem Evo.low {S : Nat → Prop} {A B : World} {n : Nat} (h : Evo S A B) (hn : n ≤ A.heap.size) (hS : ∀ k, S k → n ≤ k) : LowEq n A B :=
 ⟨h.os, h.tape, h.output, fun k hk => h.blk k (by omega) (fun hs => by have := hS k hs; omega)⟩
theorem Evo.put (w : World) (g : Nat) (o : Obj) : Evo (fun k => k = g) w (w.putObj g o) :=
 ⟨rfl, rfl, rfl, by simp, fun k _ hn => World.putObj_heap_other hn⟩
theorem Evo.alloc (w : World) (o : Obj) : Evo (fun _ => False) w (w.alloc o) :=
 ⟨rfl, rfl, rfl, by simp, fun k hk _ => by
  show (w.heap.push o)[k]? = _
  rw [Array.getElem?_push, if_neg (by omega)]⟩

variable {P : Program}
theorem range_wp {α : Type} {g : Operand} {ps : Array Tmp} {assign body : Code} {Q : Exit → Act → World → Prop} {a : Act} {w : World} {gf : Nat} {lb : Array Value}
  (hg : a.eval g = .func (.func gf) #[] lb) (eg : ∀ args w, (callFunc gf args).run P w = .ok (.enter gf args) w)
  (E : α → Array Value → Prop) (hps : ∀ x xs, E x xs → xs.size = ps.size) (c : List α) (S : Nat → Prop) (hS : ∀ k, S k → k < w.heap.size)
  (J : List α → World → Prop) (hJ : ∀ pre A B, J pre A → LowEq w.heap.size A B → J pre B) (h0 : J [] w)
  (hround : ∀ (l : Nat) (pre : List α) (x : α) (xs : Array Value) (W : World), J pre W → (pre ++ [x]) <+: c → E x xs → w.heap.size ≤ l → l < W.heap.size →
   assign.wpIn (Fence.ro (some l)) 0 P (Exit.then (fun a₁ W₁ => Evo (fun _ => False) W W₁ ∧ ∀ W₂, Evo (fun k => k = l) W₁ W₂ → body.wpIn (Fence.ro (some l)) 0 P (fun e _ W' => e = .normal ∧ J (pre ++ [x]) W' ∧ Evo (fun k => S k ∨ W.heap.size ≤ k) W₂ W') a₁ W₂) (fun _ _ _ => False))
    {tmps := (ps.zip xs).foldl (fun t (p, v) => t.setIfInBounds p v) a.tmps, defers := [] } W)
  (hiter : ∀ (l : Nat) (W : World) (S' : Nat → Prop) (J' : List α → World → Prop), Evo (fun _ => False) w W → (∀ k, S' k → k < W.heap.size ∧ (S k ∨ w.heap.size ≤ k)) →
   (∀ pre A B, J' pre A → LowEq W.heap.size A B → J' pre B) →
   (∀ pre x xs W1, J' pre W1 → (pre ++ [x]) <+: c → E x xs → YieldAt (Fence.ro none) 0 P l xs W1 fun e W' => e = .returned (.bool true) ∧ J' (pre ++ [x]) W' ∧ Evo S' W1 W') →
   J' [] W → Calls P gf (#[.func (.yield l) #[] #[]] ++ lb) W fun e W' => (∃ v, e = .returned v) ∧ J' c W' ∧ Evo S' W W')
  (hdone : ∀ (D : Nat) (W : World), w.heap.size ≤ D → J c W → Evo S w W → W.heap[D]? = some (.deferred (some [])) → Q .normal { a with defers := { target := .collected D, args := #[] } :: a.defers } W) :
  (Code.rangeFunc g ps assign body).wp P Q a w := by
 refine (wpIn_wide (n := 0)).1 (wpIn_rangeFunc ?_)
 intro fn hfn
 rw [show Fence.wide.round = none from rfl]
 obtain ⟨rec, hrec⟩ : ∃ rec : LoopState → Option Code → Loop, rec = fun st pe => { state := st, pending := pe, fn, tmps := a.tmps, params := ps, assign, body, defers := w.heap.size } := ⟨_, rfl⟩
 obtain ⟨W1, hW1⟩ : ∃ W1, (w.alloc (.deferred (some []))).alloc (.loop (rec .ready none)) = W1 := ⟨_, rfl⟩
 have hL1 : W1.heap[w.heap.size + 1]? = some (.loop (rec .ready none)) := by
  rw [← hW1]; have := World.alloc_heap_new (w.alloc (.deferred (some []))) (.loop (rec .ready none)); rwa [World.size_alloc] at this
 have hE1 : Evo (fun _ => False) w W1 := by rw [← hW1]; exact (Evo.alloc w _).trans (Evo.alloc _ _)
 have hs1 : W1.heap.size = w.heap.size + 2 := by rw [← hW1]; simp
 have hK1 : W1.heap[w.heap.size]? = some (.deferred (some [])) := by
  rw [← hW1, (Evo.alloc (w.alloc (.deferred (some []))) (.loop (rec .ready none))).blk w.heap.size (by simp) (fun h => h)]
  exact World.alloc_heap_new w _
 have hI1 : J [] W1 := hJ _ _ _ h0 (hE1.low (Nat.le_refl _) (fun k h => h.elim))
 refine ⟨w.heap.size + 1, [{ target := .collected w.heap.size, args := #[] }], W1, { target := .fn (.func gf) lb, args := #[.func (.yield (w.heap.size + 1)) #[] #[]] }, W1, gf,
  #[.func (.yield (w.heap.size + 1)) #[] #[]] ++ lb, W1, ?_, ?_, (fun _ _ => trivial), ?_, (fun h => by cases h), ?_⟩
 ·rw [← hW1, hrec]; exact run_enterLoop_outer _ _ _ _ _
 ·simp only [resolve, hg]
  simp [go_sem]
 ·simp [invoke, go_sem, eg]
 ·refine callsIn_wide.2 ?_
  refine Calls.mono (hiter (w.heap.size + 1) W1 (fun k => k < W1.heap.size ∧ (S k ∨ k = w.heap.size + 1))
   (fun pre W => J pre W ∧ W.heap[w.heap.size + 1]? = some (.loop (rec .ready none)) ∧ W.heap[w.heap.size]? = some (.deferred (some [])))
   hE1 (fun k hk => ⟨hk.1, hk.2.imp id (fun h => by omega)⟩)
   (fun pre A B h hlow => ⟨hJ _ _ _ h.1 (hlow.less (by omega)), by rw [hlow.blk _ (by omega)]; exact h.2.1, by rw [hlow.blk _ (by omega)]; exact h.2.2⟩)
   ?_ ⟨hI1, hL1, hK1⟩) ?_
  ·rintro pre x xs W ⟨hi, hl, hk⟩ hpre hE
   have hlt : w.heap.size + 1 < W.heap.size := (Array.getElem?_eq_some_iff.1 hl).1
   have hy := run_yield (P := P) (args := xs) hl (by rw [hrec]; exact hps x xs hE)
   rw [hrec] at hy
   refine ⟨fn, _, assign, body, hy, roundIn_of_wpIn (F := Fence.ro none) trivial ?_⟩
   refine wpIn_mono (hround (w.heap.size + 1) pre x xs W hi hpre hE (by omega) hlt) ?_
   rintro e a1 W2 hp
   cases e with
   | normal =>
    obtain ⟨hev, hbody⟩ := hp
    have hl2 : W2.heap[w.heap.size + 1]? = some (.loop (rec .ready none)) := by rw [hev.blk _ hlt (fun h => h)]; exact hl
    have hk2 : W2.heap[w.heap.size]? = some (.deferred (some [])) := by rw [hev.blk _ (by omega) (fun h => h)]; exact hk
    have hlt2 : w.heap.size + 1 < W2.heap.size := (Array.getElem?_eq_some_iff.1 hl2).1
    refine ⟨_, run_beginRound hl2 (by rw [hrec]), ?_⟩
    have hput := Evo.put W2 (w.heap.size + 1) (.loop { rec .ready none with state := .busy })
    refine wpIn_mono (hbody _ hput) ?_
    rintro e3 a3 W3 ⟨rfl, hJ3, hev3⟩
    have nS : ∀ k, w.heap.size ≤ k → k < W.heap.size → ¬ (S k ∨ W.heap.size ≤ k) := fun k hk hk2 hs => by
     rcases hs with hs | hs
     ·have := hS k hs; omega
     ·omega
    have hsz2 := hev.size
    have hl3 : W3.heap[w.heap.size + 1]? = some (.loop { rec .ready none with state := .busy }) := by
     rw [hev3.blk _ (by simpa using hlt2) (nS _ (by omega) hlt)]
     exact World.putObj_heap_same hlt2
    have hk3 : W3.heap[w.heap.size]? = some (.deferred (some [])) := by
     rw [hev3.blk _ (by simp; omega) (nS _ (by omega) (by omega)), World.putObj_heap_other (by omega)]
     exact hk2
    have hlt3 : w.heap.size + 1 < W3.heap.size := (Array.getElem?_eq_some_iff.1 hl3).1
    have hend := run_endRound (P := P) none hl3
    have hput3 := Evo.put W3 (w.heap.size + 1) (.loop { { rec .ready none with state := .busy } with state := if (none : Option Code).isNone then .ready else .done, pending := none })
    refine ⟨_, _, hend, rfl, ⟨?_, ?_, ?_⟩, ?_⟩
    ·exact hJ _ _ _ hJ3 (hput3.low (by omega) (fun k h => by omega))
    ·rw [World.putObj_heap_same hlt3, hrec]; rfl
    ·rw [World.putObj_heap_other (by omega)]; exact hk3
    ·have e1 : Evo (fun k => (k < W1.heap.size ∧ (S k ∨ k = w.heap.size + 1)) ∨ W.heap.size ≤ k) W W2 := hev.mono (fun k _ h => h.elim)
     have hWW : W1.heap.size ≤ W.heap.size := by omega
     have e2 : Evo (fun k => (k < W1.heap.size ∧ (S k ∨ k = w.heap.size + 1)) ∨ W.heap.size ≤ k) W2 _ := hput.mono (fun k _ h => .inl ⟨by omega, .inr h⟩)
     have e3 : Evo (fun k => (k < W1.heap.size ∧ (S k ∨ k = w.heap.size + 1)) ∨ W.heap.size ≤ k) _ W3 := hev3.mono (fun k _ h => h.imp (fun h => ⟨by have := hS k h; omega, .inl h⟩) id)
     exact (((e1.trans e2).trans e3).trans (hput3.mono (fun k _ h => .inl ⟨by omega, .inr h⟩))).mono (fun k hk h => h.resolve_right (by omega))
   | _ => exact hp.elim
  ·rintro e W2 ⟨⟨v, rfl⟩, ⟨hi, hl, hk⟩, hev⟩
   refine ⟨none, _, by have := run_endLoop (P := P) hl (by rw [hrec]; simp); rw [hrec] at this; exact this, ?_⟩
   have hlt2 : w.heap.size + 1 < W2.heap.size := (Array.getElem?_eq_some_iff.1 hl).1
   have hput := Evo.put W2 (w.heap.size + 1) (.loop { rec .ready none with state := .exhausted })
   rw [hrec] at hput
   refine hdone w.heap.size _ (Nat.le_refl _) (hJ _ _ _ hi (hput.low (by omega) (fun k h => by omega))) ?_ ((World.putObj_heap_other (by omega)).trans hk)
   have e1 := (hE1.mono (S' := fun k => S k ∨ k = w.heap.size + 1) (fun k _ h => h.elim)).trans ((hev.mono (fun k _ h => h.2)).trans (hput.mono (fun k _ h => .inr h)))
   exact e1.mono (fun k hk h => h.resolve_right (by omega))

/-! ### what is asked around such a loop -/
theorem calls_bodyM {f : FuncId} {fn : Func} {args : List Value} {w : World} {R : Ending → World → Prop} (hf : P.funcs[f]? = some fn) (hb : fn.body = some (cBody fn)) (n : Nat) (hn : fn.ntmps = n) (hle : Nat.ble args.length n = true) (B : Base) (I : Imm) (X : List Res)
  (K : List (Nat × Value)) (hK : K.map (fun p => args[p.1]?) = K.map (fun p => some p.2)) (hs : Sat B I w.heap.size [] X w)
  (h : OK P (cBody fn) (bodyPostM Fence.wide 0 P fn R) ⟨n, []⟩ K B I w.heap.size [] X) : Calls P f args.toArray w R := by
 refine (callsIn_wide (n := 0)).1 (callsIn_of_wp_marks hf hb trivial (wpIn_wide.2 (h _ w ⟨?_, rfl, fun p hp => ?_⟩ hs)) rfl)
 ·have := Nat.le_of_ble_eq_true hle
  simp only [Array.size_append, List.size_toArray, Array.size_replicate]
  omega
 ·obtain ⟨i, hi, rfl⟩ := List.getElem_of_mem hp
  have h1 := congrArg (·[i]?) hK
  simp only [List.getElem?_map, List.getElem?_eq_getElem hi, Option.map_some, Option.some.injEq] at h1
  have hlt := (List.getElem?_eq_some_iff.1 h1).1
  simp only
  rw [Array.getElem?_append_left (by simpa using hlt), List.getElem?_toArray]
  exact h1
theorem QN.bodyM {fn : Func} {Rr : Ending → World → Prop} {A : Fr} {K : List (Nat × Value)} {B : Base} {I : Imm} {nx : Nat} {L : List Blk} {X : List Res} {D : Nat} (hA : A.D = [{ target := .collected D, args := #[] }]) (v : Value) (hk : resKnown K fn.results.toList = true)
  (h : (simQ P [] [] (resultsK fn K) .no []).map (·.1) = some v) (hD : ∀ w, Sat B I nx L X w → w.heap[D]? = some (.deferred (some [])))
  (k : ∀ w, Sat B I nx L X w → Rr (.returned v) (w.putObj D (.deferred none))) : QN (bodyPostM Fence.wide 0 P fn Rr) .ret A K B I nx L X := by
 intro a w ha hs
 show LeavesInM Fence.wide 0 P fn a.tmps Rr a.defers .returning w
 rw [ha.defers, hA]
 refine ⟨(fun h => by cases h), .inl ⟨D, _, rfl, run_takeDeferred (hD w hs), ?_⟩⟩
 refine ⟨v, ?_, k w hs⟩
 rw [results_eq hk ha]
 cases hsim : simQ P [] [] (resultsK fn K) .no [] with
 | none => rw [hsim] at h; cases h
 | some x =>
  obtain ⟨x1, es1⟩ := x
  rw [hsim] at h
  simp only [Option.map_some, Option.some.injEq] at h
  subst h
  exact simQ_any _ _ _ _ hsim _

/-- What others hold and may turn: told by a world that is the same there. -/
def jres (S : Nat → Prop) (W0 : World) (J : World → Prop) : Res where
 fp := S
 P := fun _ w => ∃ W', J W' ∧ Evo S W0 W' ∧ ∀ k, S k → w.heap[k]? = W'.heap[k]?
 stable := fun _ _ _ h ⟨W', h1, h2, h3⟩ => ⟨W', h1, h2, fun k hk => (h k hk).trans (h3 k hk)⟩
 ext := fun _ _ _ _ h => h
theorem jres_at {S : Nat → Prop} {W0 : World} {I0 I : Imm} {J : World → Prop} {nx : Nat} {L : List Blk} {X : List Res} {w : World} (h : Sat ⟨W0, S, I0⟩ I nx L X w) (hm : jres S W0 J ∈ X) (hJ : ∀ A B, J A → LowEq W0.heap.size A B → J B) : J w := by
 obtain ⟨W', h1, h2, h3⟩ := h.res _ hm
 refine hJ W' w h1 ⟨h.evo.os.trans h2.os.symm, h.evo.tape.trans h2.tape.symm, h.evo.output.trans h2.output.symm, fun k hk => ?_⟩
 by_cases hs : S k
 ·exact h3 k hs
 ·exact (h.evo.blk k hk hs).trans (h2.blk k hk hs).symm
theorem Sat.yielded {S : Nat → Prop} {W0 : World} {I0 I : Imm} {J J' : World → Prop} {nx : Nat} {L : List Blk} {X : List Res} {w w' : World} (h : Sat ⟨W0, S, I0⟩ I nx L (jres S W0 J :: X) w) (hS : ∀ k, S k → k < W0.heap.size) (hev : Evo S w w') (hJ' : J' w') : Sat ⟨W0, S, I0⟩ I w'.heap.size L (jres S W0 J' :: X) w' := by
 have hm : jres S W0 J ∈ jres S W0 J :: X := List.mem_cons_self
 have hsz := hev.size
 have hnx := h.hnx
 have h00 : W0.heap.size ≤ w.heap.size := h.evo.size
 have hE := h.evo.trans (hev.mono (fun k _ hk => hk))
 have hp := List.pairwise_cons.1 h.rdis
 refine ⟨hE, rfl, ?_, h.own, h.ne, ?_, ?_, List.pairwise_cons.2 ⟨hp.1, hp.2⟩, ?_, ?_, h.imL, ?_, h.le, h.inew⟩
 ·intro b hb
  rw [hev.blk b.g (by rw [hnx]; exact h.lt hb) (fun hs => h.rblk _ hm b hb hs)]
  exact h.blk b hb
 ·intro r hr
  rcases List.mem_cons.1 hr with rfl | hr
  ·exact ⟨w', hJ', hE, fun _ _ => rfl⟩
  ·refine r.stable I w w' (fun k hk => hev.blk k (by rw [hnx]; exact (h.rown r (List.mem_cons_of_mem _ hr) k hk).1) (fun hs => hp.1 r hr k hs hk)) (h.res r (List.mem_cons_of_mem _ hr))
 ·intro r hr k hk
  rcases List.mem_cons.1 hr with rfl | hr
  ·have := hS k hk
   exact ⟨by omega, .inr hk⟩
  ·have := h.rown r (List.mem_cons_of_mem _ hr) k hk
   exact ⟨by omega, this.2⟩
 ·intro r hr b hb
  rcases List.mem_cons.1 hr with rfl | hr
  ·exact h.rblk _ hm b hb
  ·exact h.rblk r (List.mem_cons_of_mem _ hr) b hb
 ·intro a v ha
  have hc := h.im a v ha
  rw [← hc]
  exact look_of_block (w := w) (hev.blk _ (look_lt hc) (fun hs => h.imX a v ha _ hm hs))
 ·intro a v ha r hr
  rcases List.mem_cons.1 hr with rfl | hr
  ·exact h.imX a v ha (jres S W0 J) hm
  ·exact h.imX a v ha r (List.mem_cons_of_mem _ hr)
/-- The start, with what others hold. -/
theorem Sat.startJ {S : Nat → Prop} {W : World} {I : Imm} {J : World → Prop} (hI : I.at_ W) (hS : ∀ k, S k → k < W.heap.size) (hIS : ∀ a v, I a = some v → ¬ S a.block) (hJ : J W) : Sat ⟨W, S, I⟩ I W.heap.size [] [jres S W J] W := by
 have h := Sat.start W S I hI
 refine ⟨h.evo, h.hnx, h.blk, h.own, h.ne, ?_, ?_, List.pairwise_singleton _ _, ?_, h.im, h.imL, ?_, h.le, h.inew⟩
 ·intro r hr
  rw [List.mem_singleton.1 hr]
  exact ⟨W, hJ, Evo.refl _ _, fun _ _ => rfl⟩
 ·intro r hr k hk
  rw [List.mem_singleton.1 hr] at hk
  exact ⟨hS k hk, .inr hk⟩
 ·intro r hr b hb
  cases hb
 ·intro a v ha r hr
  rw [List.mem_singleton.1 hr]
  exact hIS a v ha
/-- Two pieces of memory at the start. -/
theorem Sat.start2 {S : Nat → Prop} {W : World} {I : Imm} (hI : I.at_ W) (L : List Blk) (hL : ∀ b ∈ L, W.heap[b.g]? = some (.cells b.cs.toArray b.ty (0, 0)) ∧ S b.g ∧ ∀ a v, I a = some v → b.g ≠ a.block) (hne : L.Pairwise (fun a b => a.g ≠ b.g))
  (r1 r2 : Res) (h1 : r1.P I W) (h2 : r2.P I W) (hf1 : ∀ k, r1.fp k → k < W.heap.size ∧ S k ∧ (∀ b ∈ L, b.g ≠ k) ∧ ∀ a v, I a = some v → a.block ≠ k) (hf2 : ∀ k, r2.fp k → k < W.heap.size ∧ S k ∧ (∀ b ∈ L, b.g ≠ k) ∧ ∀ a v, I a = some v → a.block ≠ k) (hd : ∀ k, r1.fp k → ¬ r2.fp k) :
  Sat ⟨W, S, I⟩ I W.heap.size L [r1, r2] W := by
 have h := Sat.start W S I hI
 have two : ∀ r ∈ [r1, r2], r = r1 ∨ r = r2 := fun r hr => by simpa using hr
 refine ⟨h.evo, h.hnx, fun b hb => (hL b hb).1, fun b hb => .inr (hL b hb).2.1, hne, ?_, ?_, ?_, ?_, h.im, fun a v ha b hb => (hL b hb).2.2 a v ha, ?_, h.le, h.inew⟩
 ·intro r hr
  rcases two r hr with rfl | rfl <;> assumption
 ·intro r hr k hk
  rcases two r hr with rfl | rfl
  ·exact ⟨(hf1 k hk).1, .inr (hf1 k hk).2.1⟩
  ·exact ⟨(hf2 k hk).1, .inr (hf2 k hk).2.1⟩
 ·exact List.pairwise_cons.2 ⟨fun r hr k hk => by rw [List.mem_singleton.1 hr]; exact hd k hk, List.pairwise_singleton _ _⟩
 ·intro r hr b hb hk
  rcases two r hr with rfl | rfl
  ·exact (hf1 _ hk).2.2.1 b hb rfl
  ·exact (hf2 _ hk).2.2.1 b hb rfl
 ·intro a v ha r hr hk
  rcases two r hr with rfl | rfl
  ·exact (hf1 _ hk).2.2.2 a v ha rfl
  ·exact (hf2 _ hk).2.2.2 a v ha rfl
/-- The block of the rounds' deferred calls. -/
def dres (D : Nat) (o : Option (List Deferred)) : Res where
 fp := fun k => k = D
 P := fun _ w => w.heap[D]? = some (.deferred o)
 stable := fun _ w w' h hp => by rw [h D rfl]; exact hp
 ext := fun _ _ _ _ h => h
/-- Behind a loop whose rounds have turned two pieces of memory. -/
theorem Sat.turned {B : Base} {I : Imm} {nx : Nat} {r1 r2 r1' r2' : Res} {w w' : World} (h : Sat B I nx [] [r1, r2] w) {S : Nat → Prop} (hS : ∀ k, S k → r1.fp k ∨ r2.fp k) (hev : Evo S w w') (e1 : r1'.fp = r1.fp) (e2 : r2'.fp = r2.fp) (h1 : r1'.P I w') (h2 : r2'.P I w') {D : Nat} (hD : w'.heap[D]? = some (.deferred (some []))) (hDn : w.heap.size ≤ D) :
  Sat B I w'.heap.size [] [r1', r2', dres D (some [])] w' := by
 have m1 : r1 ∈ [r1, r2] := List.mem_cons_self
 have m2 : r2 ∈ [r1, r2] := List.mem_cons_of_mem _ List.mem_cons_self
 have hnx := h.hnx
 have hsz := hev.size
 have h0 := h.evo.size
 have hDl := (Array.getElem?_eq_some_iff.1 hD).1
 have hd12 : ∀ k, r1.fp k → ¬ r2.fp k := (List.pairwise_cons.1 h.rdis).1 r2 List.mem_cons_self
 have three : ∀ r ∈ [r1', r2', dres D (some [])], r = r1' ∨ r = r2' ∨ r = dres D (some []) := fun r hr => by simpa using hr
 have own1 : ∀ k, r1'.fp k → k < nx ∧ (B.w0.heap.size ≤ k ∨ B.S k) := fun k hk => h.rown r1 m1 k (by rw [← e1]; exact hk)
 have own2 : ∀ k, r2'.fp k → k < nx ∧ (B.w0.heap.size ≤ k ∨ B.S k) := fun k hk => h.rown r2 m2 k (by rw [← e2]; exact hk)
 refine ⟨⟨hev.os.trans h.evo.os, hev.tape.trans h.evo.tape, hev.output.trans h.evo.output, by omega, fun k hk hn => ?_⟩, rfl, (fun b hb => by cases hb), (fun b hb => by cases hb), List.Pairwise.nil, ?_, ?_, ?_, (fun r _ b hb => by cases hb), ?_, (fun a v _ b hb => by cases hb), ?_, h.le, h.inew⟩
 ·refine (hev.blk k (by omega) (fun hs => ?_)).trans (h.evo.blk k hk hn)
  rcases hS k hs with h3 | h3
  ·rcases (h.rown r1 m1 k h3).2 with h4 | h4
   ·omega
   ·exact hn h4
  ·rcases (h.rown r2 m2 k h3).2 with h4 | h4
   ·omega
   ·exact hn h4
 ·intro r hr
  rcases three r hr with rfl | rfl | rfl
  ·exact h1
  ·exact h2
  ·exact hD
 ·intro r hr k hk
  rcases three r hr with rfl | rfl | rfl
  ·have := own1 k hk; exact ⟨by omega, this.2⟩
  ·have := own2 k hk; exact ⟨by omega, this.2⟩
  ·obtain rfl : k = D := hk
   exact ⟨hDl, .inl (by omega)⟩
 ·refine List.pairwise_cons.2 ⟨fun r hr k hk => ?_, List.pairwise_cons.2 ⟨fun r hr k hk => ?_, List.pairwise_singleton _ _⟩⟩
  ·rcases List.mem_cons.1 hr with rfl | hr
   ·rw [e2]; exact hd12 k (by rw [← e1]; exact hk)
   ·rw [List.mem_singleton.1 hr]
    intro hk2
    obtain rfl : k = D := hk2
    have := own1 k hk
    omega
  ·rw [List.mem_singleton.1 hr]
   intro hk2
   obtain rfl : k = D := hk2
   have := own2 k hk
   omega
 ·intro a v ha
  have hc := h.im a v ha
  rw [← hc]
  exact look_of_block (w := w) (hev.blk _ (look_lt hc) (fun hs => (hS _ hs).elim (h.imX a v ha _ m1) (h.imX a v ha _ m2)))
 ·intro a v ha r hr
  rcases three r hr with rfl | rfl | rfl
  ·rw [e1]; exact h.imX a v ha _ m1
  ·rw [e2]; exact h.imX a v ha _ m2
  ·intro hk
   have h3 : a.block = D := hk
   have := look_lt (h.im a v ha)
   omega
/-- A region that draws, over any state. -/
theorem drawnAnyS {A : Fr} {K : List (Nat × Value)} {Q : Exit → Act → World → Prop} {B : Base} {I : Imm} {nx : Nat} {L : List Blk} {X : List Res} (t : Nat) (os : List Oper) (an : List Nat) (vl : List (Nat × (Wt → Value))) (gl : List (Nat × ((Nat → Wt) → Value))) (R : List (Addr × Value)) (Lq : List Blk) (locs : List Loc)
  (han : ancs os [] = an) (hok : drawOk os an t = true) (hlt : (vl.all fun p => decide (p.1 < t)) = true) (vs : (Nat → Wt) → List Value) (K' : (Nat → Wt) → List (Nat × Value))
  (hv : ∀ u, (qSim P R Lq os A vl gl u locs 0 (os.take t) K).map (fun x => (x.1, x.2.1)) = some (vs u, K' u))
  (he : ∀ u, (qSim P R Lq os A vl gl u locs 0 (os.take t) K).map (fun x => x.2.2.map (·.1)) = (qSim P R Lq os A vl gl u locs 0 (os.take t) K).map (fun x => x.2.2.map (·.2)))
  (S : (Nat → Bool) → (Nat → Wt) → World → Prop) (hS : ∀ D u w, S D u w → (∀ b ∈ Lq, w.heap[b.g]? = some (.cells b.cs.toArray b.ty (0, 0))) ∧ ∀ r ∈ R, w.cell? r.1 = some r.2)
  (h0 : ∀ u w, Sat B I nx L X w → S (fun _ => false) u w)
  (Ks : List ((Nat → Wt) → List (Nat × Value))) (hf : framesOk A K os vs vl Ks) (hl : Louds P os an vl S vl Ks)
  (Kg : List ((Nat → Wt) → List (Nat × Value))) (hfg : framesOk A K os vs gl Kg) (hg : Givens P os an vl S gl Kg)
  (k : ∀ u a w, S (Dall vl) u w → Knows A (K' u) a → wpList P os.toArray Q (os.drop t) a w) : ∀ a w, Knows A K a → Sat B I nx L X w → wpAny P .any os.toArray Q os.toArray.size (Array.replicate os.toArray.size false) a { w with drawn := w.drawn + 1 } := by
 obtain ⟨e, h1, h2⟩ := vsOf_eq hv
 subst e
 exact Sat.drawnAny t os an vl gl R Lq locs han hok hlt h1 he S hS h0 Ks hf hl Kg hfg hg K' h2 k
/-- A map's own mark. -/
def mapImm (g : Nat) (v : Value) : Imm := fun a => if a = ⟨g, 0, some 0⟩ then some v else none
def Mp {α β : Type} (kE : α → Value) (vE : β → Value) (I : Imm) (g : Nat) (l : List (α × β)) : Prop := I ⟨g, 0, some 0⟩ = some (codeM (ents kE vE 0 l).toArray)
theorem codeM_inj {a b : Array MapEntry} (h : codeM a = codeM b) : a = b := by
 unfold codeM at h
 injection h with h
 have h1 := congrArg Array.toList h
 simp only [List.cons.injEq, Value.agg.injEq, and_true] at h1
 obtain ⟨h1, h2, h3⟩ := h1
 have hs : a.size = b.size := by have := congrArg Array.size h1; simpa using this
 apply Array.ext hs
 intro i hi hj
 have g1 := congrArg (·[i]?) h1
 have g2 := congrArg (·[i]?) h2
 have g3 := congrArg (·[i]?) h3
 simp only [Array.getElem?_map, Array.getElem?_eq_getElem hi, Array.getElem?_eq_getElem hj, Option.map_some, Option.some.injEq, Value.int.injEq, true_and, Int.ofNat_inj] at g1 g2 g3
 cases ha : a[i]
 cases hb : b[i]
 rw [ha, hb] at g1 g2 g3
 simp only at g1 g2 g3
 rw [g1, g2, g3]
section
variable {T Kt Et : TypeId} {α β : Type} [DecidableEq α] {kE : α → Value} {vE : β → Value} {z : β}
omit [DecidableEq α] in
theorem Mp.ext {I J : Imm} {g : Nat} {l : List (α × β)} (h : I.le J) (hm : Mp kE vE I g l) : Mp kE vE J g l := h _ _ hm
theorem run_lookF (hM : MT P T Kt Et kE vE z) {I : Imm} {g : Nat} {l : List (α × β)} (hm : Mp kE vE I g l) {w : World} (hI : I.at_ w) (a : α) (ok : Bool) :
  (Instr.lookup T (.map (some g)) (kE a) ok).run P w = .ok (if ok = true then .tuple #[vE ((mget l a).getD z), .bool (mget l a).isSome] else vE ((mget l a).getD z)) w := by
 have h := hI _ _ hm
 simp only [look] at h
 split at h
 ·rename_i es c hg
  have he := codeM_inj (Option.some.inj h)
  subst he
  exact hM.lookup (q := 0) (by simp) hg a ok
 ·cases h
variable {Q : Exit → Act → World → Prop} {A : Fr} {K : List (Nat × Value)} {B : Base} {I : Imm} {nx : Nat} {L : List Blk} {X : List Res} {os : List Oper} {p : Nat}
theorem RL.lookF (hM : MT P T Kt Et kE vE z) (a : α) {g : Nat} {l : List (α × β)} (d : Option Tmp) (hl : ready os p K d = true) (hm : Mp kE vE I g l)
  (hx : execOp (evalK K) (os.getD p default) = toNext (Instr.lookup T (.map (some g)) (kE a) true)) {K' : List (Nat × Value)}
  (hF : putK A K d (.tuple #[vE ((mget l a).getD z), .bool (mget l a).isSome]) = K') (k : RL P os Q (p + 1) A K' B I nx L X) : RL P os Q p A K B I nx L X :=
 RL.quiet d _ hl hF (fun w hs => by rw [hx]; exact run_toNext (run_lookF hM hm hs.im a true)) k
theorem giv_look (hM : MT P T Kt Et kE vE z) (a : α) {g : Nat} {l : List (α × β)} (hm : Mp kE vE I g l) {w : World} (hI : I.at_ w)
  (hx : execOp (evalK K) (os.getD p default) = toNext (Instr.lookup T (.map (some g)) (kE a) true)) : (execOp (evalK K) (os.getD p default)).run P w = .ok (.value (.tuple #[vE ((mget l a).getD z), .bool (mget l a).isSome])) w := by
 rw [hx]; exact run_toNext (run_lookF hM hm hI a true)
theorem Givens.consS {an : List Nat} {vl : List (Nat × (Wt → Value))} {S : (Nat → Bool) → (Nat → Wt) → World → Prop} {i : Nat} {f : (Nat → Wt) → Value} {r : List (Nat × ((Nat → Wt) → Value))} {Kl : (Nat → Wt) → List (Nat × Value)} {Ks : List ((Nat → Wt) → List (Nat × Value))}
  (h : ∀ D u w, (∀ j, behind an i j = true → (lk vl j).isSome = true → D j = true) → S D u w → (execOp (evalK (Kl u)) (os.getD i default)).run P w = .ok (.value (f u)) w)
  (h2 : ∀ u u', (∀ j, behind an i j = true → (lk vl j).isSome = true → u j = u' j) → f u = f u') (h3 : Givens P os an vl S r Ks) : Givens P os an vl S ((i, f) :: r) (Kl :: Ks) := ⟨h, h2, h3⟩
end
end Go.Proofs.YtfecniimkgkmfaaGreat.RW
namespace Go.Proofs.YtfecniimkgkmfaaGreat.AM
open Go Go.RowKit Go.Proofs.YtfecniimkgkmfaaGreat.RW

def rl {α β : Type} (R : α → β → Prop) : List α → List β → Prop
 | [], [] => True
 | a :: l, b :: r => R a b ∧ rl R l r
 | _, _ => False
section
variable {α β : Type} {R S : α → β → Prop}
theorem rl.len : ∀ {l : List α} {r : List β}, rl R l r → l.length = r.length
 | [], [], _ => rfl
 | _ :: _, _ :: _, h => by simp [rl.len h.2]
 | [], _ :: _, h => h.elim
 | _ :: _, [], h => h.elim
theorem rl.mono (hR : ∀ a b, R a b → S a b) : ∀ {l : List α} {r : List β}, rl R l r → rl S l r
 | [], [], _ => trivial
 | _ :: _, _ :: _, h => ⟨hR _ _ h.1, rl.mono hR h.2⟩
 | [], _ :: _, h => h.elim
 | _ :: _, [], h => h.elim
theorem rl.get : ∀ {l : List α} {r : List β}, rl R l r → ∀ {i : Nat} {a : α}, l[i]? = some a → ∃ b, r[i]? = some b ∧ R a b
 | _ :: _, _ :: _, h, 0, _, ha => by simp at ha; subst ha; exact ⟨_, rfl, h.1⟩
 | _ :: _, _ :: _, h, i + 1, _, ha => by simpa using rl.get h.2 (i := i) (by simpa using ha)
 | [], [], _, _, _, ha => by cases ha
 | [], _ :: _, h, _, _, _ => h.elim
 | _ :: _, [], h, _, _, _ => h.elim
theorem rl.app : ∀ {l : List α} {r : List β} {l' : List α} {r' : List β}, rl R l r → rl R l' r' → rl R (l ++ l') (r ++ r')
 | [], [], _, _, _, k => k
 | _ :: _, _ :: _, _, _, h, k => ⟨h.1, rl.app h.2 k⟩
 | [], _ :: _, _, _, h, _ => h.elim
 | _ :: _, [], _, _, h, _ => h.elim
theorem rl.take : ∀ {l : List α} {r : List β} (n : Nat), rl R l r → rl R (l.take n) (r.take n)
 | _, _, 0, _ => by simp [rl]
 | [], [], _ + 1, _ => trivial
 | _ :: _, _ :: _, n + 1, h => ⟨h.1, rl.take n h.2⟩
 | [], _ :: _, _, h => h.elim
 | _ :: _, [], _, h => h.elim
theorem rl.drop : ∀ {l : List α} {r : List β} (n : Nat), rl R l r → rl R (l.drop n) (r.drop n)
 | _, _, 0, h => by simpa using h
 | [], [], _ + 1, _ => trivial
 | _ :: _, _ :: _, n + 1, h => rl.drop n h.2
 | [], _ :: _, _, h => h.elim
 | _ :: _, [], _, h => h.elim
theorem rl.all {p : β → Prop} (hR : ∀ a b, R a b → p b) : ∀ {l : List α} {r : List β}, rl R l r → ∀ b ∈ r, p b
 | [], [], _, _, hb => by cases hb
 | _ :: _, _ :: _, h, b, hb => by
  rcases List.mem_cons.1 hb with rfl | hb
  ·exact hR _ _ h.1
  ·exact rl.all hR h.2 b hb
 | [], _ :: _, h, _, _ => h.elim
 | _ :: _, [], h, _, _ => h.elim
end

universe u
theorem lk_cons {α : Type u} (j i : Nat) (a : α) (r : List (Nat × α)) : lk ((j, a) :: r) i = if j = i then some a else lk r i := by
 show (bif Nat.beq j i then _ else _) = _
 by_cases h : j = i
 ·subst h; rw [Nat.beq_refl, if_pos rfl]; rfl
 ·rw [RW.beq_ne h, if_neg h]; rfl
theorem lk_append {α : Type u} (l r : List (Nat × α)) (i : Nat) : lk (l ++ r) i = (lk l i).or (lk r i) := by
 induction l with
 | nil => rfl
 | cons p l ih =>
  obtain ⟨j, a⟩ := p
  rw [List.cons_append, lk_cons, lk_cons]
  by_cases h : j = i
  ·rw [if_pos h, if_pos h]; rfl
  ·rw [if_neg h, if_neg h]; exact ih

/-! ### data -/
def Ty.none_ : Ty Unit where
 sz := 0
 K := fun _ _ cs => cs = []
 len := fun h => by rw [h]; rfl
 one := fun h u hu => by rw [h] at hu; cases hu
 ext := fun _ h => h
def TC.ty : (c : TC) → Ty c.I
 | .int k => Ty.int k
 | .bool => Ty.bool
 | .str => Ty.string
 | .unit => Ty.none_
 | .row c => Ty.slice c.ty
 | .pair a b => Ty.pair a.ty b.ty
theorem TC.ty_sz : ∀ c : TC, c.ty.sz = c.sz
 | .int _ => rfl
 | .bool => rfl
 | .str => rfl
 | .unit => rfl
 | .row _ => rfl
 | .pair a b => by show a.ty.sz + b.ty.sz = _; rw [a.ty_sz, b.ty_sz]; rfl

/-! ### where a piece lies -/
structure Pl where
 A : Option Addr
 n : Nat
 c : Nat
abbrev Pi := Nat → Option Pl
def Pi.le (π π' : Pi) : Prop := ∀ o p, π o = some p → π' o = some p
theorem Pi.le_refl (π : Pi) : π.le π := fun _ _ h => h
theorem Pi.le_trans {π π' π'' : Pi} (h : π.le π') (k : π'.le π'') : π.le π'' := fun o p e => k o p (h o p e)

def relP (π : Pi) : Nat × Nat → Value → Prop := fun q y => ∃ p g, π q.1 = some p ∧ p.A = some ⟨g, 0, none⟩ ∧ y = .pointer (some ⟨g, q.2, none⟩)
/-- A function, or none. -/
def fnV : Option Nat → Value
 | some f => .func (.func f) #[] #[]
 | none => .nilFunc
def relK (I : Imm) : AK → Value → Prop
 | .mp k l, y => ∃ g, y = .map (some g) ∧ Mp (Value.int k) fnV I g (l.map fun p => (p.1, some p.2))
theorem relK.ext {I J : Imm} (hI : I.le J) {x : AK} {y : Value} (h : relK I x y) : relK J x y := by
 cases x with
 | mp k l => obtain ⟨g, h1, h2⟩ := h; exact ⟨g, h1, h2.ext hI⟩
def relC (π : Pi) (I : Imm) : AC → Value → Prop
 | .v x, y => y = x ∧ x.oneCell' = true
 | .rd f c l, y => ∃ A cp, y = .slice A l.length cp ∧ l.length ≤ cp ∧ (f = true → cp = l.length) ∧ Rd c.ty I A l
 | .sl o, y => ∃ p, π o = some p ∧ y = .slice p.A p.n p.c
 | .sb o n, y => ∃ p g, π o = some p ∧ p.A = some ⟨g, 0, none⟩ ∧ y = .slice (some ⟨g, 0, none⟩) n n
 | .ptr o off, y => relP π (o, off) y
 | .el o sz i off, y => ∃ p g, π o = some p ∧ p.A = some ⟨g, 0, none⟩ ∧ i < p.n ∧ y = .pointer (some ⟨g, i * sz + off, none⟩)
 | .pr c x off, y => ∃ g q cs, y = .pointer (some ⟨g, q + off, none⟩) ∧ c.ty.K I x cs ∧ ∀ j u, cs[j]? = some u → I ⟨g, q + j, none⟩ = some u
 | .fn f a b, y => ∃ xs ys, y = .func f xs.toArray ys.toArray ∧ rl (relP π) a xs ∧ rl (relP π) b ys
 | .kn x, y => relK I x y
 | .ea o off c n i q, y => ∃ p g, π o = some p ∧ p.A = some ⟨g, 0, none⟩ ∧ i < n ∧ y = .pointer (some ⟨g, off + i * c.sz + q, none⟩)
def relW (π : Pi) (I : Imm) : AW → Value → Prop
 | .c a, y => relC π I a y
 | .agg l, y => ∃ ys, y = .agg ys.toArray ∧ rl (relC π I) l ys
def relV (π : Pi) (I : Imm) : AV → Value → Prop
 | .w x, y => relW π I x y
 | .tup l, y => ∃ ys, y = .tuple ys.toArray ∧ rl (relW π I) l ys

theorem relP.ext {π π' : Pi} (hπ : π.le π') {q : Nat × Nat} {y : Value} (h : relP π q y) : relP π' q y := by
 obtain ⟨p, g, h1, h2⟩ := h
 exact ⟨p, g, hπ _ _ h1, h2⟩
theorem relC.ext {π π' : Pi} {I J : Imm} (hπ : π.le π') (hI : I.le J) {a : AC} {y : Value} (h : relC π I a y) : relC π' J a y := by
 cases a with
 | v x => exact h
 | rd f c l => obtain ⟨A, cp, h1, h2, h3, h4⟩ := h; exact ⟨A, cp, h1, h2, h3, h4.ext hI⟩
 | sl o => obtain ⟨p, h1, h2⟩ := h; exact ⟨p, hπ _ _ h1, h2⟩
 | sb o n => obtain ⟨p, g, h1, h2⟩ := h; exact ⟨p, g, hπ _ _ h1, h2⟩
 | ptr o q => exact relP.ext hπ h
 | el o z i q => obtain ⟨p, g, h1, h2⟩ := h; exact ⟨p, g, hπ _ _ h1, h2⟩
 | pr c x q => obtain ⟨g, q', cs, h1, h2, h3⟩ := h; exact ⟨g, q', cs, h1, c.ty.ext hI h2, fun j u hu => hI _ _ (h3 j u hu)⟩
 | fn f a b => obtain ⟨xs, ys, h1, h2, h3⟩ := h; exact ⟨xs, ys, h1, h2.mono (fun _ _ => relP.ext hπ), h3.mono (fun _ _ => relP.ext hπ)⟩
 | kn x => exact relK.ext hI h
 | ea o off c n i q => obtain ⟨p, g, h1, h2⟩ := h; exact ⟨p, g, hπ _ _ h1, h2⟩
theorem relW.ext {π π' : Pi} {I J : Imm} (hπ : π.le π') (hI : I.le J) {a : AW} {y : Value} (h : relW π I a y) : relW π' J a y := by
 cases a with
 | c a => exact relC.ext hπ hI h
 | agg l => obtain ⟨ys, h1, h2⟩ := h; exact ⟨ys, h1, h2.mono (fun _ _ => relC.ext hπ hI)⟩
theorem relV.ext {π π' : Pi} {I J : Imm} (hπ : π.le π') (hI : I.le J) {a : AV} {y : Value} (h : relV π I a y) : relV π' J a y := by
 cases a with
 | w x => exact relW.ext hπ hI h
 | tup l => obtain ⟨ys, h1, h2⟩ := h; exact ⟨ys, h1, h2.mono (fun _ _ => relW.ext hπ hI)⟩
theorem relC.one {π : Pi} {I : Imm} {a : AC} {y : Value} (h : relC π I a y) : y.oneCell' = true := by
 cases a with
 | v x => obtain ⟨rfl, h⟩ := h; exact h
 | rd f c l => obtain ⟨A, cp, rfl, _⟩ := h; rfl
 | sl o => obtain ⟨p, _, rfl⟩ := h; rfl
 | sb o n => obtain ⟨p, g, _, _, rfl⟩ := h; rfl
 | ptr o q => obtain ⟨p, g, _, _, rfl⟩ := h; rfl
 | el o z i q => obtain ⟨p, g, _, _, _, rfl⟩ := h; rfl
 | pr c x q => obtain ⟨g, q', cs, rfl, _⟩ := h; rfl
 | fn f a b => obtain ⟨xs, ys, rfl, _⟩ := h; rfl
 | kn x => cases x with | mp k l => obtain ⟨g, rfl, _⟩ := h; rfl
 | ea o off c n i q => obtain ⟨p, g, _, _, _, rfl⟩ := h; rfl
theorem relL.one {π : Pi} {I : Imm} {l : List AC} {ys : List Value} (h : rl (relC π I) l ys) : ∀ y ∈ ys, y.oneCell' = true := rl.all (p := fun y => y.oneCell' = true) (fun _ _ => relC.one) h

/-! ### data, cell by cell -/
/-- The cells of data are told by what is told of data. -/
theorem TC.cells_rel {π : Pi} {I : Imm} : ∀ (c : TC) (x : c.I) (cs : List Value), c.ty.K I x cs → rl (relC π I) (c.cells x) cs
 | .int k, x, cs, h => by
  have h : cs = [.int k x] := h
  subst h; exact ⟨⟨rfl, rfl⟩, trivial⟩
 | .bool, x, cs, h => by
  have h : cs = [.bool x] := h
  subst h; exact ⟨⟨rfl, rfl⟩, trivial⟩
 | .str, x, cs, h => by
  have h : cs = [.string x] := h
  subst h; exact ⟨⟨rfl, rfl⟩, trivial⟩
 | .unit, x, cs, h => by
  have h : cs = [] := h
  subst h; trivial
 | .row c, l, cs, h => by
  obtain ⟨A, cp, rfl, h1, h2⟩ := h
  exact ⟨⟨A, cp, rfl, h1, (fun e => by cases e), h2⟩, trivial⟩
 | .pair a b, x, cs, h => by
  obtain ⟨c0, c1, rfl, h0, h1⟩ := h
  exact (a.cells_rel x.1 c0 h0).app (b.cells_rel x.2 c1 h1)
theorem TC.cells_len : ∀ (c : TC) (x : c.I), (c.cells x).length = c.sz
 | .int _, _ => rfl
 | .bool, _ => rfl
 | .str, _ => rfl
 | .unit, _ => rfl
 | .row _, _ => rfl
 | .pair a b, x => by show (a.cells x.1 ++ b.cells x.2).length = _; rw [List.length_append, a.cells_len, b.cells_len]; rfl
theorem TC.castL_eq {a b : TC} {x : List a.I} {y : List b.I} (h : TC.castL b x = some y) : ∃ e : a = b, e ▸ x = y := by
 unfold TC.castL at h
 split at h
 ·rename_i e
  injection h with h
  exact ⟨e, h⟩
 ·cases h
/-- One cell, read as data. -/
theorem TC.ofC_K {π : Pi} {I : Imm} {c : TC} {a : AC} {x : c.I} {y : Value} (h : c.ofC a = some x) (hr : relC π I a y) : c.ty.K I x [y] := by
 unfold TC.ofC at h
 split at h
 ·rename_i k k' n
  split at h
  ·rename_i e
   subst e
   injection h with h
   subst h
   obtain ⟨rfl, _⟩ := hr
   rfl
  ·cases h
 ·injection h with h
  subst h
  obtain ⟨rfl, _⟩ := hr
  rfl
 ·injection h with h
  subst h
  obtain ⟨rfl, _⟩ := hr
  rfl
 ·obtain ⟨e, h⟩ := TC.castL_eq h
  subst e; subst h
  obtain ⟨A, cp, rfl, h1, _, h2⟩ := hr
  exact ⟨A, cp, rfl, h1, h2⟩
 ·injection h with h
  subst h
  obtain ⟨rfl, _⟩ := hr
  exact ⟨none, 0, rfl, Nat.le_refl _, Rd.nil _ _ _⟩
 ·cases h
theorem TC.ofCs_K {π : Pi} {I : Imm} : ∀ {c : TC} {l : List AC} {x : c.I} {r : List AC} {ys : List Value}, c.ofCs l = some (x, r) → rl (relC π I) l ys → ∃ c0 c1, ys = c0 ++ c1 ∧ c.ty.K I x c0 ∧ rl (relC π I) r c1
 | .unit, l, x, r, ys, h, hr => by
  have h : some ((), l) = some (x, r) := by cases l <;> exact h
  injection h with h
  injection h with h1 h2
  subst h2
  exact ⟨[], ys, rfl, rfl, hr⟩
 | .pair a b, l, x, r, ys, h, hr => by
  simp only [TC.ofCs] at h
  split at h
  ·cases h
  ·rename_i x1 r1 h1
   split at h
   ·cases h
   ·rename_i y1 r2 h2
    injection h with h
    injection h with e1 e2
    subst e1; subst e2
    obtain ⟨c0, c1, rfl, k0, k1⟩ := TC.ofCs_K h1 hr
    obtain ⟨d0, d1, rfl, m0, m1⟩ := TC.ofCs_K h2 k1
    exact ⟨c0 ++ d0, d1, by rw [List.append_assoc], ⟨c0, d0, rfl, k0, m0⟩, m1⟩
 | .int k, a :: l, x, r, y :: ys, h, hr => by
  simp only [TC.ofCs] at h
  split at h
  ·rename_i z hz
   injection h with h; injection h with e1 e2
   subst e1; subst e2
   exact ⟨[y], ys, rfl, TC.ofC_K hz hr.1, hr.2⟩
  ·cases h
 | .bool, a :: l, x, r, y :: ys, h, hr => by
  simp only [TC.ofCs] at h
  split at h
  ·rename_i z hz
   injection h with h; injection h with e1 e2
   subst e1; subst e2
   exact ⟨[y], ys, rfl, TC.ofC_K hz hr.1, hr.2⟩
  ·cases h
 | .str, a :: l, x, r, y :: ys, h, hr => by
  simp only [TC.ofCs] at h
  split at h
  ·rename_i z hz
   injection h with h; injection h with e1 e2
   subst e1; subst e2
   exact ⟨[y], ys, rfl, TC.ofC_K hz hr.1, hr.2⟩
  ·cases h
 | .row c, a :: l, x, r, y :: ys, h, hr => by
  simp only [TC.ofCs] at h
  split at h
  ·rename_i z hz
   injection h with h; injection h with e1 e2
   subst e1; subst e2
   exact ⟨[y], ys, rfl, TC.ofC_K hz hr.1, hr.2⟩
  ·cases h
 | .int k, [], x, r, ys, h, hr => by cases h
 | .bool, [], x, r, ys, h, hr => by cases h
 | .str, [], x, r, ys, h, hr => by cases h
 | .row c, [], x, r, ys, h, hr => by cases h
 | .int k, a :: l, x, r, [], h, hr => hr.elim
 | .bool, a :: l, x, r, [], h, hr => hr.elim
 | .str, a :: l, x, r, [], h, hr => hr.elim
 | .row c, a :: l, x, r, [], h, hr => hr.elim
end Go.Proofs.YtfecniimkgkmfaaGreat.AM
namespace Go.Proofs.YtfecniimkgkmfaaGreat.AM
open Go Go.RowKit Go.Proofs.YtfecniimkgkmfaaGreat.RW

/-- Whose blocks a piece holds. -/
def fpO (π : Pi) (o : Nat) : Option AObj → Nat → Prop
 | some (.blk _ _), k => ∃ p, π o = some p ∧ p.A = some ⟨k, 0, none⟩
 | some (.row _ _ _), k => ∃ p a, π o = some p ∧ p.A = some a ∧ a.block = k
 | _, _ => False
def atO (π : Pi) (I : Imm) (w : World) (o : Nat) : Option AObj → Prop
 | some (.blk ty cs) => ∃ p g ys, π o = some p ∧ p.A = some ⟨g, 0, none⟩ ∧ rl (relC π I) cs ys ∧ w.heap[g]? = some (.cells ys.toArray ty (0, 0))
 | some (.row e c l) => ∃ p cs, π o = some p ∧ p.n = l.length ∧ w.ownsRow 0 e c.sz (.slice p.A p.n p.c) l.length cs ∧ Reps c.ty I l cs
 | some (.frz c l) => ∃ p, π o = some p ∧ p.n = l.length ∧ l.length ≤ p.c ∧ Rd c.ty I p.A l
 | _ => True

theorem atO.mono {π π' : Pi} {I J : Imm} {w w' : World} {o : Nat} {ob : Option AObj} (hπ : π.le π') (hI : I.le J) (hw : ∀ k, fpO π o ob k → w'.heap[k]? = w.heap[k]?) (h : atO π I w o ob) : atO π' J w' o ob := by
 match ob, h, hw with
 | none, _, _ => trivial
 | some .gone, _, _ => trivial
 | some (.blk ty cs), ⟨p, g, ys, h1, h2, h3, h4⟩, hw => exact ⟨p, g, ys, hπ _ _ h1, h2, h3.mono (fun _ _ => relC.ext hπ hI), (hw g ⟨p, h1, h2⟩).trans h4⟩
 | some (.frz c l), ⟨p, h1, h2, h3, h4⟩, _ => exact ⟨p, hπ _ _ h1, h2, h3, h4.ext hI⟩
 | some (.row e c l), ⟨p, cs, h1, h2, h3, h4⟩, hw =>
  refine ⟨p, cs, hπ _ _ h1, h2, ⟨h3.1, ?_⟩, h4.ext hI⟩
  rcases h3.2 with h | ⟨g, cap, cur, e1, hb, hg, r⟩
  ·exact .inl h
  ·refine .inr ⟨g, cap, cur, e1, hb, ?_, r⟩
   injection e1 with e1
   rw [hw g ⟨p, _, h1, e1, rfl⟩]
   exact hg
theorem fpO.back {π π' : Pi} {I : Imm} {w : World} {o : Nat} {ob : Option AObj} (hπ : π.le π') (h : atO π I w o ob) {k : Nat} (hk : fpO π' o ob k) : fpO π o ob k := by
 match ob, h, hk with
 | some (.blk ty cs), ⟨p, g, ys, h1, _⟩, ⟨p', h2, h3⟩ =>
  rw [hπ _ _ h1] at h2
  injection h2 with h2
  subst h2
  exact ⟨p, h1, h3⟩
 | some (.row e c l), ⟨p, cs, h1, _⟩, ⟨p', a, h2, h3⟩ =>
  rw [hπ _ _ h1] at h2
  injection h2 with h2
  subst h2
  exact ⟨p, a, h1, h3⟩

/-- The pieces, in a world. -/
structure SA (B : Base) (I : Imm) (π : Pi) (M : Nat → Option AObj) (w : World) : Prop where
 evo : Evo B.S B.w0 w
 dom : ∀ o, M o = none → π o = none
 res : ∀ o, atO π I w o (M o)
 own : ∀ o k, fpO π o (M o) k → k < w.heap.size ∧ (B.w0.heap.size ≤ k ∨ B.S k)
 dis : ∀ o o', o ≠ o' → ∀ k, fpO π o (M o) k → ¬ fpO π o' (M o') k
 im : I.at_ w
 imX : ∀ a v, I a = some v → ∀ o, ¬ fpO π o (M o) a.block
 le : B.I0.le I
 inew : ∀ a v, I a = some v → B.I0 a = some v ∨ B.w0.heap.size ≤ a.block ∨ B.S a.block

section
variable {B : Base} {I : Imm} {π : Pi} {M : Nat → Option AObj} {w : World}

/-- A step that touches the pieces T. -/
theorem SA.step (h : SA B I π M w) {π' : Pi} {J : Imm} {M' : Nat → Option AObj} {w' : World} (T : Nat → Prop) (hπ : π.le π') (hI : I.le J)
  (h1 : w'.os = w.os) (h2 : w'.tape = w.tape) (h3 : w'.output = w.output) (h4 : w.heap.size ≤ w'.heap.size)
  (h5 : ∀ k, k < w.heap.size → (∀ o, T o → ¬ fpO π o (M o) k) → w'.heap[k]? = w.heap[k]?)
  (hM : ∀ o, ¬ T o → M' o = M o) (hdom : ∀ o, ¬ T o → M o = none → π' o = none) (hdom' : ∀ o, T o → M' o = none → π' o = none)
  (hP : ∀ o, T o → atO π' J w' o (M' o))
  (hfp : ∀ o, T o → ∀ k, fpO π' o (M' o) k → k < w'.heap.size ∧ ((∃ o', T o' ∧ fpO π o' (M o') k) ∨ w.heap.size ≤ k))
  (hdis : ∀ o o', T o → T o' → o ≠ o' → ∀ k, fpO π' o (M' o) k → ¬ fpO π' o' (M' o') k)
  (hJ : J.at_ w') (hJn : ∀ a v, J a = some v → I a = some v ∨ (∃ o, T o ∧ fpO π o (M o) a.block) ∨ w.heap.size ≤ a.block)
  (hJX : ∀ a v, J a = some v → ∀ o, T o → ¬ fpO π' o (M' o) a.block) : SA B J π' M' w' := by
 have hold : ∀ o, ¬ T o → ∀ k, fpO π' o (M' o) k → fpO π o (M o) k := fun o ho k hk => by
  rw [hM o ho] at hk
  exact fpO.back hπ (h.res o) hk
 have hst : ∀ o, ¬ T o → ∀ k, fpO π o (M o) k → w'.heap[k]? = w.heap[k]? := fun o ho k hk => h5 k (h.own o k hk).1 (fun o' ho' hk' => h.dis o o' (fun e => ho (e ▸ ho')) k hk hk')
 refine ⟨⟨h1.trans h.evo.os, h2.trans h.evo.tape, h3.trans h.evo.output, Nat.le_trans h.evo.size h4, fun k hk hs => ?_⟩, fun o ho => ?_, fun o => ?_, fun o k hk => ?_, fun o o' hne k hk hk' => ?_, hJ, fun a v ha o hk => ?_, Imm.le_trans h.le hI, fun a v ha => ?_⟩
 ·rw [h5 k (Nat.lt_of_lt_of_le hk h.evo.size) (fun o _ ho => by
   rcases (h.own o k ho).2 with h6 | h6
   ·omega
   ·exact hs h6)]
  exact h.evo.blk k hk hs
 ·by_cases hT : T o
  ·exact hdom' o hT ho
  ·exact hdom o hT (by rw [← hM o hT]; exact ho)
 ·by_cases hT : T o
  ·exact hP o hT
  ·rw [hM o hT]
   exact (h.res o).mono hπ hI (hst o hT)
 ·by_cases hT : T o
  ·obtain ⟨h6, h7⟩ := hfp o hT k hk
   refine ⟨h6, ?_⟩
   rcases h7 with ⟨o', _, h8⟩ | h7
   ·exact (h.own o' k h8).2
   ·exact .inl (Nat.le_trans h.evo.size h7)
  ·have := h.own o k (hold o hT k hk)
   exact ⟨Nat.lt_of_lt_of_le this.1 h4, this.2⟩
 ·have key : ∀ o o', o ≠ o' → T o → ¬ T o' → ∀ k, fpO π' o (M' o) k → fpO π' o' (M' o') k → False := fun o o' hne hT hT' k hk hk' => by
   have h8 := hold o' hT' k hk'
   rcases (hfp o hT k hk).2 with ⟨o2, hT2, h9⟩ | h9
   ·exact h.dis o2 o' (fun e => hT' (e ▸ hT2)) k h9 h8
   ·have := (h.own o' k h8).1
    omega
  by_cases hT : T o
  ·by_cases hT' : T o'
   ·exact hdis o o' hT hT' hne k hk hk'
   ·exact key o o' hne hT hT' k hk hk'
  ·by_cases hT' : T o'
   ·exact key o' o (fun e => hne e.symm) hT' hT k hk' hk
   ·exact h.dis o o' hne k (hold o hT k hk) (hold o' hT' k hk')
 ·by_cases hT : T o
  ·exact hJX a v ha o hT hk
  ·have h8 := hold o hT _ hk
   rcases hJn a v ha with h9 | ⟨o', hT', h9⟩ | h9
   ·exact h.imX a v h9 o h8
   ·exact h.dis o' o (fun e => hT (e ▸ hT')) _ h9 h8
   ·have := (h.own o _ h8).1
    omega
 ·rcases hJn a v ha with h9 | ⟨o', hT', h9⟩ | h9
  ·exact h.inew a v h9
  ·exact .inr (h.own o' _ h9).2
  ·exact .inr (.inl (Nat.le_trans h.evo.size h9))

def updM (M : Nat → Option AObj) (o : Nat) (ob : Option AObj) : Nat → Option AObj := fun x => if x = o then ob else M x
theorem updM_self (M : Nat → Option AObj) (o : Nat) (ob : Option AObj) : updM M o ob o = ob := if_pos rfl
theorem updM_ne (M : Nat → Option AObj) {o x : Nat} (ob : Option AObj) (h : x ≠ o) : updM M o ob x = M x := if_neg h
def updP (π : Pi) (o : Nat) (p : Pl) : Pi := fun x => if x = o then some p else π x
theorem updP_self (π : Pi) (o : Nat) (p : Pl) : updP π o p o = some p := if_pos rfl
theorem updP_ne (π : Pi) {o x : Nat} (p : Pl) (h : x ≠ o) : updP π o p x = π x := if_neg h
theorem updP_le {π : Pi} {o : Nat} (h : π o = none) (p : Pl) : π.le (updP π o p) := fun x q hx => by
 by_cases e : x = o
 ·subst e; rw [h] at hx; cases hx
 ·rw [updP_ne π p e]; exact hx
theorem lk_upd (m : AMem) (o : Nat) (ob : AObj) : lk ((o, ob) :: m) = updM (lk m) o (some ob) := by
 funext x
 rw [lk_cons]
 unfold updM
 by_cases h : o = x
 ·rw [if_pos h, if_pos h.symm]
 ·rw [if_neg h, if_neg (fun e => h e.symm)]

/-- A new block of cells. -/
theorem SA.new (h : SA B I π M w) {o : Nat} (ho : M o = none) (ty : TypeId) {cs : List AC} {ys : List Value} (hc : rl (relC π I) cs ys) :
  SA B I (updP π o ⟨some ⟨w.heap.size, 0, none⟩, 0, 0⟩) (updM M o (some (.blk ty cs))) { w with heap := w.heap.push (.cells ys.toArray ty (0, 0)) } := by
 have hπ := updP_le (h.dom o ho) ⟨some ⟨w.heap.size, 0, none⟩, 0, 0⟩
 have hold : ∀ k, k < w.heap.size → (w.heap.push (.cells ys.toArray ty (0, 0)))[k]? = w.heap[k]? := fun k hk => by
  rw [Array.getElem?_push, if_neg (by omega)]
 have hfp : ∀ k, fpO (updP π o ⟨some ⟨w.heap.size, 0, none⟩, 0, 0⟩) o (some (.blk ty cs)) k → k = w.heap.size := fun k ⟨p, h1, h2⟩ => by
  rw [updP_self] at h1
  injection h1 with h1
  subst h1
  injection h2 with h2
  injection h2 with h2
  exact h2.symm
 refine h.step (fun x => x = o) hπ (Imm.le_refl _) rfl rfl rfl (by simp) (fun k hk _ => hold k hk) (fun x hx => updM_ne _ _ hx) (fun x hx hn => by rw [updP_ne _ _ hx]; exact h.dom x hn) ?_ ?_ ?_ ?_ ?_ (fun a v ha => .inl ha) ?_
 ·rintro x rfl hn
  rw [updM_self] at hn
  cases hn
 ·rintro x rfl
  rw [updM_self]
  exact ⟨_, w.heap.size, ys, updP_self _ _ _, rfl, hc.mono (fun _ _ => relC.ext hπ (Imm.le_refl _)), by simp⟩
 ·rintro x rfl k hk
  rw [updM_self] at hk
  have := hfp k hk
  subst this
  exact ⟨by simp, .inr (Nat.le_refl _)⟩
 ·rintro x y rfl rfl hne
  exact absurd rfl hne
 ·intro a v ha
  have hc := h.im a v ha
  rw [← hc]
  exact look_of_block (w := w) (hold _ (look_lt hc))
 ·rintro a v ha x rfl hk
  rw [updM_self] at hk
  have h1 := hfp _ hk
  have h2 := look_lt (h.im a v ha)
  omega

/-- A row that the call owns never turns from now on. -/
theorem SA.freeze (h : SA B I π M w) {o : Nat} {e : TypeId} {c : TC} {l : List c.I} (ho : M o = some (.row e c l)) : ∃ J, I.le J ∧ SA B J π (updM M o (some (.frz c l))) w := by
 have h0 := h.res o
 rw [ho] at h0
 obtain ⟨p, cs, hp, hn, hown, hr⟩ := h0
 have hlen : l.length ≤ 9223372036854775807 ∧ l.length ≤ p.c := by
  rcases hown.2 with ⟨e1, h2⟩ | ⟨g, cap, cur, e1, _, _, hc, hm, _⟩
  ·injection e1 with e1 e2 e3
   constructor <;> omega
  ·injection e1 with e1 e2 e3
   simp only [maxLen] at hm
   constructor <;> omega
 -- the cells that never turn from now on
 have key : ∃ C : Imm, C.at_ w ∧ (∀ a v, C a = some v → p.A = some ⟨a.block, 0, none⟩) ∧ ∀ J : Imm, I.le J → C.le J → Rd c.ty J p.A l := by
  rcases hown.2 with ⟨e1, h2⟩ | ⟨g, cap, cur, e1, _, hg, hc, hm, hs, ht⟩
  ·refine ⟨fun _ => none, (fun a v ha => by cases ha), (fun a v ha => by cases ha), fun J _ _ => ?_⟩
   have : l = [] := List.length_eq_zero_iff.1 h2
   subst this
   exact Rd.nil _ _ _
  ·injection e1 with e1 e2 e3
   refine ⟨rowImm g cs, fun a v ha => ?_, fun a v ha => ?_, fun J hI hC => ?_⟩
   ·obtain ⟨h1, h2⟩ := rowImm_some ha
    rw [h1, look_cell rfl, cell_of_row w g a.off cur e (0, 0) hg, ← h2, ← ht, List.getElem?_take, if_pos (by
     have := (List.getElem?_eq_some_iff.1 h2).1
     rw [hown.1] at this
     exact this)]
    simp
   ·obtain ⟨h1, _⟩ := rowImm_some ha
    rw [e1, h1]
   ·rw [e1]
    exact rd_of_reps (hr.ext hI) (fun j u hu => hC _ _ (by rw [rowImm_get]; exact hu)) hlen.1
 obtain ⟨C, hC, hCb, hRd⟩ := key
 have hfp : ∀ a v, C a = some v → fpO π o (M o) a.block := fun a v ha => by
  rw [ho]
  exact ⟨p, _, hp, hCb a v ha, rfl⟩
 have hno : ∀ a, I a = none ∨ C a = none := fun a => by
  cases h1 : I a with
  | none => exact .inl rfl
  | some v =>
   cases h2 : C a with
   | none => exact .inr rfl
   | some u => exact absurd (hfp a u h2) (h.imX a v h1 o)
 have hCle : C.le (I.or C) := fun a v ha => by
  rcases hno a with h1 | h1
  ·exact Imm.or_get h1 ha
  ·rw [h1] at ha; cases ha
 refine ⟨I.or C, Imm.le_or _ _, h.step (fun x => x = o) (Pi.le_refl _) (Imm.le_or _ _) rfl rfl rfl (Nat.le_refl _) (fun k hk _ => rfl) (fun x hx => updM_ne _ _ hx) (fun x hx hn => h.dom x hn) ?_ ?_ ?_ ?_ ?_ ?_ ?_⟩
 ·rintro x rfl hn'
  rw [updM_self] at hn'
  cases hn'
 ·rintro x rfl
  rw [updM_self]
  exact ⟨p, hp, hn, hlen.2, hRd _ (Imm.le_or _ _) hCle⟩
 ·rintro x rfl k hk
  rw [updM_self] at hk
  exact hk.elim
 ·rintro x y rfl rfl hne
  exact absurd rfl hne
 ·intro a v ha
  rcases Imm.or_new ha with h1 | ⟨_, h1⟩
  ·exact h.im a v h1
  ·exact hC a v h1
 ·intro a v ha
  rcases Imm.or_new ha with h1 | ⟨_, h1⟩
  ·exact .inl h1
  ·exact .inr (.inl ⟨o, rfl, hfp a v h1⟩)
 ·rintro a v ha x rfl hk
  rw [updM_self] at hk
  exact hk.elim
end
end Go.Proofs.YtfecniimkgkmfaaGreat.AM
namespace Go.Proofs.YtfecniimkgkmfaaGreat.AM
open Go Go.RowKit Go.Proofs.YtfecniimkgkmfaaGreat.RW

def Post (B : Base) (I : Imm) (π : Pi) (v : AV) (M : Nat → Option AObj) : Value → World → Prop :=
 fun y w => ∃ π' I', π.le π' ∧ I.le I' ∧ SA B I' π' M w ∧ relV π' I' v y

section
variable {P : Program} {B : Base} {I : Imm} {π : Pi} {M : Nat → Option AObj} {w : World}

theorem Does.val {s : Sem Value} {w w' : World} {y : Value} {N : Value → World → Prop} (h : s.run P w = .ok y w') (hN : N y w') : Does P (toNext s) w N := .inl ⟨y, w', .inl (run_toNext h), hN⟩
theorem Does.unit {s : Sem Unit} {w w' : World} {N : Value → World → Prop} (h : s.run P w = .ok () w') (hN : N undef w') : Does P (s.bind fun _ => .pure .skip) w N :=
 .inl ⟨undef, w', .inr ⟨by rw [Sem.run_bind', h]; rfl, rfl⟩, hN⟩
theorem Post.here {v : AV} {y : Value} (h : SA B I π M w) (hv : relV π I v y) : Post B I π v M y w := ⟨π, I, Pi.le_refl _, Imm.le_refl _, h, hv⟩

theorem szT_info {t : TypeId} {n : Nat} (h : szT P t = some n) : (P.info? t).map (·.size) = some n := by
 unfold szT at h
 split at h
 ·rename_i i hi
  injection h with h
  rw [hi, ← h]; rfl
 ·cases h
theorem aggT_true {t : TypeId} (h : aggT P t = some true) : ∃ d, P.underlying t = some d ∧ d.isRow = true := by
 unfold aggT at h
 split at h
 ·rename_i hu; exact ⟨_, hu, rfl⟩
 ·rename_i hu; exact ⟨_, hu, rfl⟩
 ·cases h
 ·cases h
theorem aggT_false {t : TypeId} (h : aggT P t = some false) (w : World) : (isAgg t).run P w = .ok false w := by
 unfold aggT at h
 split at h
 ·cases h
 ·cases h
 ·rename_i d h1 h2 hu
  unfold isAgg
  rw [Sem.run_bind, run_underlying hu w]
  cases d <;> first | rfl | exact absurd rfl (h1 _) | exact absurd rfl (h2 _ _)
 ·cases h

/-! ### loads -/
theorem rangeAt_drop {b q : Nat} {ys : List Value} (h : w.rangeAt b q ys) (n : Nat) : w.rangeAt b (q + n) (ys.drop n) := fun j v hv => by
 rw [List.getElem?_drop] at hv
 have := h _ _ hv
 rwa [← Nat.add_assoc] at this
theorem rangeAt_take {b q : Nat} {ys : List Value} (h : w.rangeAt b q ys) (n : Nat) : w.rangeAt b q (ys.take n) := fun j v hv => by
 rw [List.getElem?_take] at hv
 split at hv
 ·exact h _ _ hv
 ·cases hv
theorem load_part {t : TypeId} {cs : List AC} {off : Nat} {x : AW} (hx : partA P t cs off = some x) {b q : Nat} {ys : List Value} (hr : rl (relC π I) cs ys) (hw : w.rangeAt b q ys) :
  ∃ y, (Instr.loadAt t (.pointer (some ⟨b, q + off, none⟩))).run P w = .ok y w ∧ relW π I x y := by
 unfold partA at hx
 split at hx
 ·rename_i n ha hn
  cases hb : Nat.ble (off + n) cs.length with
  | false => rw [hb] at hx; cases hx
  | true =>
   rw [hb] at hx
   injection hx with hx
   subst hx
   have hle := Nat.le_of_ble_eq_true hb
   obtain ⟨d, hu, hd⟩ := aggT_true ha
   have hlen : ((ys.drop off).take n).length = n := by
    rw [List.length_take, List.length_drop, ← hr.len]; omega
   refine ⟨_, run_loadAt_mid w b (q + off) t ((ys.drop off).take n) d (rangeAt_take (rangeAt_drop hw off) n) hu hd (by rw [hlen]; exact szT_info hn), _, rfl, (hr.drop off).take n⟩
 ·rename_i hf _ ha
  split at hx
  ·rename_i a hc
   injection hx with hx
   subst hx
   obtain ⟨y, hy, hry⟩ := hr.get hc
   have hcell := hw off y hy
   refine ⟨y, ?_, hry⟩
   simp only [Instr.loadAt, Instr.sureAddr, Sem.run_bind, Sem.run_pure, Result.andThen_ok, loadVar, aggT_false ha, Bool.false_eq_true, if_false]
   show (load _).run P w = _
   unfold load
   simp only [Sem.run, hcell]
  ·cases hx
 ·cases hx

theorem atO_blk {o : Nat} {ty : TypeId} {cs : List AC} (h : SA B I π M w) (ho : M o = some (.blk ty cs)) : ∃ p g ys, π o = some p ∧ p.A = some ⟨g, 0, none⟩ ∧ rl (relC π I) cs ys ∧ w.heap[g]? = some (.cells ys.toArray ty (0, 0)) := by
 have := h.res o
 rw [ho] at this
 exact this
theorem rangeAt_blk {g : Nat} {ys : List Value} {ty : TypeId} (h : w.heap[g]? = some (.cells ys.toArray ty (0, 0))) : w.rangeAt g 0 ys := fun j v hv => by
 rw [Nat.zero_add]
 unfold World.cell?
 simp [h, hv]
theorem atO_row {o : Nat} {e : TypeId} {c : TC} {l : List c.I} (h : SA B I π M w) (ho : M o = some (.row e c l)) : ∃ p cs, π o = some p ∧ p.n = l.length ∧ w.ownsRow 0 e c.sz (.slice p.A p.n p.c) l.length cs ∧ Reps c.ty I l cs := by
 have := h.res o
 rw [ho] at this
 exact this
theorem atO_frz {o : Nat} {c : TC} {l : List c.I} (h : SA B I π M w) (ho : M o = some (.frz c l)) : ∃ p, π o = some p ∧ p.n = l.length ∧ l.length ≤ p.c ∧ Rd c.ty I p.A l := by
 have := h.res o
 rw [ho] at this
 exact this
/-- An element of a row of the call's own. -/
theorem row_elem {e : TypeId} {c : TC} {l : List c.I} {A : Option Addr} {n cap : Nat} {cs : List Value} {g : Nat} (hA : A = some ⟨g, 0, none⟩) (ho : w.ownsRow 0 e c.sz (.slice A n cap) l.length cs) (hr : Reps c.ty I l cs) {i : Nat} (hi : i < l.length) :
  ∃ ys, c.ty.K I (l.getD i c.dflt) ys ∧ w.rangeAt g (i * c.sz) ys := by
 obtain ⟨ys, hk, hc⟩ := hr.get i _ (List.getElem?_eq_getElem hi)
 refine ⟨ys, by rw [List.getD_eq_getElem?_getD, List.getElem?_eq_getElem hi]; exact hk, fun j v hv => ?_⟩
 have h1 := hc j v hv
 rw [c.ty_sz] at h1
 have hn : n = l.length := by
  rcases ho.2 with ⟨e1, h2⟩ | ⟨g', cap', cur, e1, _⟩
  ·injection e1 with _ e1 _; omega
  ·injection e1
 subst hA; subst hn
 rw [ho.cellAt _ (by
  have := (List.getElem?_eq_some_iff.1 h1).1
  rw [ho.1] at this
  exact this)]
 exact h1
theorem frz_elem {c : TC} {l : List c.I} {g : Nat} (hI : I.at_ w) (hr : Rd c.ty I (some ⟨g, 0, none⟩) l) {i : Nat} (hi : i < l.length) :
  ∃ ys, c.ty.K I (l.getD i c.dflt) ys ∧ (∀ j u, ys[j]? = some u → I ⟨g, i * c.sz + j, none⟩ = some u) ∧ w.rangeAt g (i * c.sz) ys := by
 obtain ⟨g', o', ys, e, hk, hc⟩ := hr.get c.dflt (i : Int) (by omega) (by omega)
 injection e with e
 injection e with e1 e2
 subst e1; subst e2
 simp only [Int.toNat_natCast, Nat.zero_add, c.ty_sz] at hk hc
 exact ⟨ys, hk, hc, fun j u hu => by rw [← look_cell rfl]; exact hI _ _ (hc j u hu)⟩

theorem ldA_ok {m : AMem} (h : SA B I π (lk m) w) {t : TypeId} {a : AC} {y : Value} (ha : relC π I a y) {v : AV} {ws : AMem} {rs : List Nat} (hx : Tr.Ex m (ldA P t a) v ws rs) :
  ws = [] ∧ ∃ y', (Instr.loadAt t y).run P w = .ok y' w ∧ relV π I v y' := by
 unfold ldA at hx
 split at hx
 ·rename_i o off
  cases hx with
  | look hx =>
   dsimp only at hx
   split at hx
   ·rename_i ty cs ho
    split at hx
    ·rename_i x hp
     cases hx
     obtain ⟨p, g, h1, h2, rfl⟩ := ha
     obtain ⟨p', g', ys, h3, h4, h5, h6⟩ := atO_blk h ho
     rw [h1] at h3
     injection h3 with h3
     subst h3
     rw [h2] at h4
     injection h4 with h4
     injection h4 with h4
     subst h4
     obtain ⟨y', hy, hr⟩ := load_part hp h5 (rangeAt_blk h6)
     rw [Nat.zero_add] at hy
     exact ⟨rfl, y', hy, hr⟩
    ·cases hx
   ·cases hx
 ·rename_i c x off
  split at hx
  ·rename_i z hp
   cases hx
   obtain ⟨g, q, ys, rfl, hk, hc⟩ := ha
   obtain ⟨y', hy, hr⟩ := load_part (w := w) hp (TC.cells_rel c x ys hk) (fun j u hu => by rw [← look_cell rfl]; exact h.im _ _ (hc j u hu))
   exact ⟨rfl, y', hy, hr⟩
  ·cases hx
 ·rename_i o z i off
  obtain ⟨p, g, h1, h2, h3, rfl⟩ := ha
  cases hx with
  | look hx =>
   dsimp only at hx
   split at hx
   ·rename_i e c l ho
    cases hz : Nat.beq c.sz z with
    | false => rw [hz] at hx; cases hx
    | true =>
     rw [hz] at hx
     have hz := Nat.eq_of_beq_eq_true hz
     subst hz
     simp only [cond_true] at hx
     split at hx
     ·rename_i x hp
      cases hx
      obtain ⟨p', cs, h4, h5, h6, h7⟩ := atO_row h ho
      rw [h1] at h4
      injection h4 with h4
      subst h4
      obtain ⟨ys, hk, hw⟩ := row_elem h2 h6 h7 (h5 ▸ h3)
      obtain ⟨y', hy, hr⟩ := load_part hp (TC.cells_rel c _ ys hk) hw
      exact ⟨rfl, y', hy, hr⟩
     ·cases hx
   ·rename_i c l ho
    cases hz : Nat.beq c.sz z with
    | false => rw [hz] at hx; cases hx
    | true =>
     rw [hz] at hx
     have hz := Nat.eq_of_beq_eq_true hz
     subst hz
     simp only [cond_true] at hx
     split at hx
     ·rename_i x hp
      cases hx
      obtain ⟨p', h4, h5, h6, h7⟩ := atO_frz h ho
      rw [h1] at h4
      injection h4 with h4
      subst h4
      rw [h2] at h7
      obtain ⟨ys, hk, _, hw⟩ := frz_elem h.im h7 (h5 ▸ h3)
      obtain ⟨y', hy, hr⟩ := load_part hp (TC.cells_rel c _ ys hk) hw
      exact ⟨rfl, y', hy, hr⟩
     ·cases hx
   ·cases hx
 ·cases hx

/-! ### places -/
theorem run_fieldAt {s : TypeId} {fs : Array Field} (hu : P.underlying s = some (.struct fs)) {f : Nat} {fd : Field} (hf : fs[f]? = some fd) {n : Nat} (hz : szT P fd.type = some (n + 1)) (g q : Nat) :
  (Instr.fieldAt s (.pointer (some ⟨g, q, none⟩)) f).run P w = .ok (.pointer (some ⟨g, q + fd.offset, none⟩)) w := by
 obtain ⟨i, hi, hs⟩ := Option.map_eq_some_iff.1 (szT_info hz)
 simp [Instr.fieldAt, run_underlying hu, hf, Instr.sureAddr, fieldPlace, sizeOf, typeInfo, hi, hs, Addr.add_mid]
theorem fldA_ok {m : AMem} {s : TypeId} {f : Nat} {a : AC} {y : Value} (ha : relC π I a y) {v : AV} {ws : AMem} {rs : List Nat} (hx : Tr.Ex m (fldA P s a f) v ws rs) :
  ws = [] ∧ ∃ y', (Instr.fieldAt s y f).run P w = .ok y' w ∧ relV π I v y' := by
 unfold fldA at hx
 split at hx
 ·rename_i fs hu
  split at hx
  ·rename_i fd hf
   split at hx
   ·rename_i n hz
    split at hx
    ·cases hx
     obtain ⟨p, g, h1, h2, rfl⟩ := ha
     exact ⟨rfl, _, run_fieldAt hu hf hz g _, p, g, h1, h2, rfl⟩
    ·cases hx
     obtain ⟨g, q, cs, rfl, h⟩ := ha
     exact ⟨rfl, _, run_fieldAt hu hf hz g _, g, q, cs, by rw [Nat.add_assoc], h⟩
    ·cases hx
     obtain ⟨p, g, h1, h2, h3, rfl⟩ := ha
     exact ⟨rfl, _, run_fieldAt hu hf hz g _, p, g, h1, h2, h3, by rw [Nat.add_assoc]⟩
    ·cases hx
   ·cases hx
  ·cases hx
 ·cases hx
theorem inb_spec {i : Int} {n : Nat} (h : inb i n = true) : 0 ≤ i ∧ i < (n : Int) := by
 unfold inb at h
 exact of_decide_eq_true h
theorem idxA_ok {m : AMem} (h : SA B I π (lk m) w) {t : TypeId} {k : IntKind} {i : Int} {a : AC} {y : Value} (ha : relC π I a y) {v : AV} {ws : AMem} {rs : List Nat} (hx : Tr.Ex m (idxA P t a i) v ws rs) :
  ws = [] ∧ ∃ y', (Instr.indexAt t y (.int k i)).run P w = .ok y' w ∧ relV π I v y' := by
 unfold idxA at hx
 split at hx
 ·rename_i e hu
  split at hx
  ·rename_i o n
   obtain ⟨p, g, hp, hg, rfl⟩ := ha
   cases hz : (szT P e == some 1) with
   | false => rw [hz] at hx; cases hx
   | true =>
    rw [hz] at hx
    have hz : szT P e = some 1 := by simpa using hz
    simp only [cond_true] at hx
    generalize hb : inb i n = b at hx
    cases hx with
    | chk hx =>
     obtain ⟨h0, h1⟩ := inb_spec hb
     cases hx
     have hr := RW.run_indexAt_slice (P := P) hu (szT_info hz) k i g 0 n n h0 h1 w
     rw [Nat.zero_add, Nat.mul_one] at hr
     exact ⟨rfl, _, hr, p, g, hp, hg, rfl⟩
  ·rename_i f c l
   obtain ⟨A, cp, rfl, _, _, hr⟩ := ha
   cases hz : (szT P e == some c.sz) with
   | false => rw [hz] at hx; cases hx
   | true =>
    rw [hz] at hx
    have hz : szT P e = some c.sz := by simpa using hz
    simp only [cond_true] at hx
    generalize hb : inb i l.length = b at hx
    cases hx with
    | chk hx =>
     obtain ⟨h0, h1⟩ := inb_spec hb
     cases hx
     obtain ⟨g, q, ys, rfl, hk, hc⟩ := hr.get c.dflt i h0 h1
     exact ⟨rfl, _, RW.run_indexAt_slice hu (szT_info hz) k i g q _ _ h0 h1 w, g, q + i.toNat * c.sz, ys, rfl, hk, fun j u hu => by rw [← c.ty_sz]; exact hc j u hu⟩
  ·rename_i o
   obtain ⟨p, hp, rfl⟩ := ha
   cases hx with
   | look hx =>
    dsimp only at hx
    split at hx
    ·rename_i e' c l ho
     cases hz : (szT P e == some c.sz) with
     | false => rw [hz] at hx; cases hx
     | true =>
      rw [hz] at hx
      have hz : szT P e = some c.sz := by simpa using hz
      simp only [cond_true] at hx
      generalize hb : inb i l.length = b at hx
      cases hx with
      | chk hx =>
       obtain ⟨h0, h1⟩ := inb_spec hb
       cases hx
       obtain ⟨p', cs, h4, h5, h6, h7⟩ := atO_row h ho
       rw [hp] at h4
       injection h4 with h4
       subst h4
       have hg : ∃ g, p.A = some ⟨g, 0, none⟩ := by
        rcases h6.2 with ⟨_, h2⟩ | ⟨g, cap', cur, e1, _⟩
        ·omega
        ·injection e1 with e1; exact ⟨g, e1⟩
       obtain ⟨g, hg⟩ := hg
       have hr := RW.run_indexAt_slice (P := P) hu (szT_info hz) k i g 0 p.n p.c h0 (by omega) w
       rw [Nat.zero_add] at hr
       rw [hg]
       exact ⟨rfl, _, hr, p, g, hp, hg, by omega, by rw [Nat.add_zero]⟩
    ·rename_i c l ho
     cases hz : (szT P e == some c.sz) with
     | false => rw [hz] at hx; cases hx
     | true =>
      rw [hz] at hx
      have hz : szT P e = some c.sz := by simpa using hz
      simp only [cond_true] at hx
      generalize hb : inb i l.length = b at hx
      cases hx with
      | chk hx =>
       obtain ⟨h0, h1⟩ := inb_spec hb
       cases hx
       obtain ⟨p', h4, h5, h6, h7⟩ := atO_frz h ho
       rw [hp] at h4
       injection h4 with h4
       subst h4
       obtain ⟨g, q, ys, hg, hk, hc⟩ := h7.get c.dflt i h0 h1
       rw [hg]
       exact ⟨rfl, _, RW.run_indexAt_slice hu (szT_info hz) k i g q _ _ h0 (by omega) w, g, q + i.toNat * c.sz, ys, rfl, hk, fun j u hu => by rw [← c.ty_sz]; exact hc j u hu⟩
    ·cases hx
  ·cases hx
 ·cases hx
end
end Go.Proofs.YtfecniimkgkmfaaGreat.AM
namespace Go.Proofs.YtfecniimkgkmfaaGreat.AM
open Go Go.RowKit Go.Proofs.YtfecniimkgkmfaaGreat.RW

section
variable {P : Program} {B : Base} {I : Imm} {π : Pi} {M : Nat → Option AObj} {w : World}

/-! ### values and their cells -/
theorem cells_one {u : Value} (h : u.oneCell' = true) : u.cells = #[u] := by cases u <;> first | rfl | cases h
theorem relW.cells {a : AW} {u : Value} (h : relW π I a u) : rl (relC π I) (cellsW a) u.cells.toList := by
 cases a with
 | c a =>
  have h : relC π I a u := h
  rw [cells_one h.one]
  exact ⟨h, trivial⟩
 | agg l =>
  obtain ⟨ys, rfl, h⟩ := h
  exact h
theorem relV.cells {v : AV} {l : List AC} (hv : cellsA v = some l) {u : Value} (h : relV π I v u) : rl (relC π I) l u.cells.toList := by
 cases v with
 | w x =>
  injection hv with hv
  subst hv
  exact relW.cells h
 | tup l => cases hv
theorem rl_v {l : List Value} (h : l.all (·.oneCell') = true) : rl (relC π I) (l.map AC.v) l := by
 induction l with
 | nil => trivial
 | cons x l ih =>
  rw [List.all_cons, Bool.and_eq_true] at h
  exact ⟨⟨rfl, h.1⟩, ih h.2⟩
theorem rel_backC {v : Value} (h : okW v = true) : relW π I (backC v) v := by
 unfold okW at h
 unfold backC
 split at h
 ·exact ⟨_, rfl, rl_v h⟩
 ·cases h
 ·rename_i h1 h2
  split
  ·exact absurd rfl (h1 _)
  ·refine ⟨rfl, ?_⟩
   cases v <;> first | rfl | exact absurd rfl (h1 _) | exact absurd rfl (h2 _)
theorem rel_back {v : Value} (h : okV v = true) : relV π I (back v) v := by
 unfold okV at h
 unfold back
 split at h
 ·refine ⟨_, rfl, ?_⟩
  rename_i vs
  generalize vs.toList = l at h
  induction l with
  | nil => trivial
  | cons x l ih =>
   rw [List.all_cons, Bool.and_eq_true] at h
   exact ⟨rel_backC h.1, ih h.2⟩
 ·exact rel_backC h
theorem exactCs_rel : ∀ {l : List AC} {vs ys : List Value}, exactCs l = some vs → rl (relC π I) l ys → ys = vs
 | [], vs, [], h, _ => by injection h
 | .v x :: r, vs, y :: ys, h, hr => by
  simp only [exactCs] at h
  split at h
  ·rename_i l hl
   injection h with h
   subst h
   rw [exactCs_rel hl hr.2, hr.1.1]
  ·cases h
 | [], _, _ :: _, _, h => h.elim
 | .v _ :: _, _, [], _, h => h.elim
 | .rd .. :: _, _, _, h, _ => by cases h
 | .sl .. :: _, _, _, h, _ => by cases h
 | .ptr .. :: _, _, _, h, _ => by cases h
 | .el .. :: _, _, _, h, _ => by cases h
 | .pr .. :: _, _, _, h, _ => by cases h
 | .fn .. :: _, _, _, h, _ => by cases h
theorem exact_rel {v : AV} {x y : Value} (h : exact v = some x) (hr : relV π I v y) : y = x := by
 unfold exact at h
 split at h
 ·rename_i a
  unfold exactW at h
  split at h
  ·injection h with h
   subst h
   exact hr.1
  ·rename_i l
   obtain ⟨ys, rfl, hr⟩ := hr
   split at h
   ·rename_i vs hl
    injection h with h
    rw [← h, exactCs_rel hl hr]
   ·cases h
  ·cases h
 ·cases h
theorem zeroT_spec {t : TypeId} {cs : List AC} (h : zeroT P t = some cs) : ∃ i z, P.info? t = some i ∧ i.zero = some z ∧ cs = z.cells.toList.map AC.v ∧ z.cells.toList.all (·.oneCell') = true := by
 unfold zeroT at h
 split at h
 ·rename_i i hi
  split at h
  ·rename_i z hz
   cases hb : z.cells.toList.all (·.oneCell') with
   | false => rw [hb] at h; cases h
   | true =>
    rw [hb] at h
    injection h with h
    exact ⟨i, z, hi, hz, h.symm, hb⟩
  ·cases h
 ·cases h

/-! ### new cells -/
theorem freshTr_inv {ρ : Type} {m : AMem} {nb : Nat} {t : Tr ρ} {r : ρ} {ws : AMem} {rs : List Nat} (h : Tr.Ex m (freshTr nb t) r ws rs) : lk m nb = none ∧ ∃ rs', Tr.Ex m t r ws rs' := by
 unfold freshTr at h
 cases h with
 | look h =>
  dsimp only at h
  split at h
  ·rename_i ho; exact ⟨ho, _, h⟩
  ·cases h
theorem new_ok {m : AMem} (h : SA B I π (lk m) w) {o : Nat} (ho : lk m o = none) (ty : TypeId) {cs : List AC} {ys : List Value} (hc : rl (relC π I) cs ys) :
  ∃ w', (newRow ty ys.toArray).run P w = .ok ⟨w.heap.size, 0, none⟩ w' ∧ Post B I π (ac (.ptr o 0)) (lk ([(o, .blk ty cs)] ++ m)) (.pointer (some ⟨w.heap.size, 0, none⟩)) w' := by
 refine ⟨_, rfl, _, I, updP_le (h.dom o ho) ⟨some ⟨w.heap.size, 0, none⟩, 0, 0⟩, Imm.le_refl _, ?_, ⟨some ⟨w.heap.size, 0, none⟩, 0, 0⟩, w.heap.size, updP_self _ _ _, rfl, rfl⟩
 show SA B I _ (lk ((o, .blk ty cs) :: m)) _
 rw [lk_upd]
 exact h.new ho ty hc
/-! ### stores -/
theorem splice_ok {α β : Type} {R : α → β → Prop} {cs new : List α} {off : Nat} {ys ns : List β} (hr : rl R cs ys) (hn : rl R new ns) (_ : off + new.length ≤ cs.length) :
  rl R (cs.take off ++ (new ++ cs.drop (off + new.length))) (ys.take off ++ (ns ++ ys.drop (off + ns.length))) := by
 rw [hn.len]
 exact (hr.take off).app (hn.app (hr.drop _))
theorem setCells_spec (b : Nat) : ∀ (news : List Value) (o : Nat) (ys : List Value) (ty : TypeId) (w : World), o + news.length ≤ ys.length → w.heap[b]? = some (.cells ys.toArray ty (0, 0)) →
  (w.setCells b o news).heap[b]? = some (.cells (ys.take o ++ (news ++ ys.drop (o + news.length))).toArray ty (0, 0)) ∧ (∀ k, k ≠ b → (w.setCells b o news).heap[k]? = w.heap[k]?) ∧ (w.setCells b o news).os = w.os ∧ (w.setCells b o news).tape = w.tape ∧ (w.setCells b o news).output = w.output ∧ (w.setCells b o news).heap.size = w.heap.size
 | [], o, ys, ty, w, hl, h => by
  refine ⟨?_, fun _ _ => rfl, rfl, rfl, rfl, rfl⟩
  simpa [World.setCells] using h
 | v :: r, o, ys, ty, w, hl, h => by
  have hl' : o + 1 + r.length ≤ ys.length := by simp at hl; omega
  have h1 : (w.setCell ⟨b, o, none⟩ v).heap[b]? = some (.cells (ys.set o v).toArray ty (0, 0)) := by
   rw [heap_setCell_same w b o _ ty v h]
   simp
  obtain ⟨i1, i2, i3, i4, i5, i6⟩ := setCells_spec b r (o + 1) (ys.set o v) ty (w.setCell ⟨b, o, none⟩ v) (by simpa using hl') h1
  refine ⟨?_, fun k hk => ?_, i3, i4, i5, by rw [World.setCells, i6]; simp [World.setCell]⟩
  ·rw [World.setCells, i1]
   have e1 : (ys.set o v).take (o + 1) = ys.take o ++ [v] := by
    rw [List.take_add_one, List.take_set_of_le (Nat.le_refl _), List.getElem?_set_self (by omega)]
    rfl
   have e2 : (ys.set o v).drop (o + 1 + r.length) = ys.drop (o + (v :: r).length) := by
    rw [List.drop_set_of_lt (by omega)]
    congr 1
    simp; omega
   rw [e1, e2]
   simp
  ·rw [World.setCells, i2 k hk]
   exact heap_setCell_other w ⟨b, o, none⟩ k v hk
theorem storeAt_cells {t : TypeId} {g q : Nat} {u : Value} {n : Nat} (hn : szT P t = some n) (hl : u.cells.size = n) (h1 : ∀ x ∈ u.cells.toList, x.oneCell' = true) (ht : w.there g q n) :
  (Instr.storeAt t (.pointer (some ⟨g, q, none⟩)) u).run P w = .ok () (w.setCells g q u.cells.toList) := by
 have hs := run_storeVar_mid (P := P) w g q t u.cells (by rw [hl]; exact ht) (by rw [hl]; exact szT_info hn) (by
  rw [Array.all_eq_true_iff_forall_mem]
  exact fun x hx => h1 x (by simpa using hx))
 simp only [Instr.storeAt, Instr.sureAddr, Sem.run_bind, Sem.run_pure, Result.andThen_ok]
 exact hs
theorem there_of {g : Nat} {ys : List Value} {ty : TypeId} (h : w.heap[g]? = some (.cells ys.toArray ty (0, 0))) {q n : Nat} (hl : q + n ≤ ys.length) : w.there g q n := fun j hj => by
 refine ⟨?_, ?_⟩
 ·unfold World.cell?
  simp [h]
  omega
 ·unfold World.frozen?
  simp [h]

/-- A block of cells is written. -/
theorem SA.setB (h : SA B I π M w) {o : Nat} {ty : TypeId} {cs new : List AC} (ho : M o = some (.blk ty cs)) {p : Pl} {g : Nat} (hp : π o = some p) (hA : p.A = some ⟨g, 0, none⟩) {ns : List Value} (hn : rl (relC π I) new ns) {off : Nat} (hle : off + new.length ≤ cs.length) :
  SA B I π (updM M o (some (.blk ty (cs.take off ++ (new ++ cs.drop (off + new.length)))))) (w.setCells g off ns) := by
 obtain ⟨p', g', ys, h3, h4, h5, h6⟩ := atO_blk h ho
 rw [hp] at h3
 injection h3 with h3
 subst h3
 rw [hA] at h4
 injection h4 with h4
 injection h4 with h4
 subst h4
 have hle' : off + ns.length ≤ ys.length := by rw [← hn.len, ← h5.len]; exact hle
 obtain ⟨i1, i2, i3, i4, i5, i6⟩ := setCells_spec g ns off ys ty w hle' h6
 have hfp : fpO π o (M o) g := by rw [ho]; exact ⟨p, hp, hA⟩
 refine h.step (fun x => x = o) (Pi.le_refl _) (Imm.le_refl _) i3 i4 i5 (by rw [i6]; exact Nat.le_refl _) (fun k hk hk' => i2 k (fun e => hk' o rfl (e ▸ hfp))) (fun x hx => updM_ne _ _ hx) (fun x hx hn => h.dom x hn) ?_ ?_ ?_ ?_ ?_ (fun a v ha => .inl ha) ?_
 ·rintro x rfl hn
  rw [updM_self] at hn
  cases hn
 ·rintro x rfl
  rw [updM_self]
  exact ⟨p, g, _, hp, hA, splice_ok h5 hn hle, i1⟩
 ·rintro x rfl k hk
  rw [updM_self] at hk
  obtain ⟨p', h7, h8⟩ := hk
  rw [hp] at h7
  injection h7 with h7
  subst h7
  rw [hA] at h8
  injection h8 with h8
  injection h8 with h8
  subst h8
  exact ⟨by rw [i6]; exact (h.own _ _ hfp).1, .inl ⟨_, rfl, hfp⟩⟩
 ·rintro x y rfl rfl hne
  exact absurd rfl hne
 ·intro a v ha
  have hc := h.im a v ha
  rw [← hc]
  exact look_of_block (w := w) (i2 _ (fun e => h.imX a v ha o (e ▸ hfp)))
 ·intro a v ha x hx hk
  rw [hx, updM_self] at hk
  exact h.imX a v ha o (by rw [ho]; exact hk)
theorem SA.congr {M' : Nat → Option AObj} (h : SA B I π M w) (e : ∀ o, M o = M' o) : SA B I π M' w := by
 have : M = M' := funext e
 exact this ▸ h

/-- Rows that are frozen on the way: each was the call's own. -/
def FzOk (fz m : AMem) : Prop := ∀ o ob, lk fz o = some ob → ∃ e c l, ob = .frz c l ∧ lk m o = some (.row e c l)
theorem FzOk.nil (m : AMem) : FzOk [] m := fun _ _ h => by cases h
theorem freeze1 {m fz : AMem} (h : SA B I π (lk (fz ++ m)) w) (hf : FzOk fz m) {o : Nat} {e : TypeId} {c : TC} {l : List c.I} (ho : lk m o = some (.row e c l)) :
  ∃ J, I.le J ∧ SA B J π (lk (((o, .frz c l) :: fz) ++ m)) w ∧ FzOk ((o, .frz c l) :: fz) m := by
 have hf' : FzOk ((o, .frz c l) :: fz) m := fun x ob hx => by
  rw [lk_cons] at hx
  by_cases hxo : o = x
  ·rw [if_pos hxo] at hx
   injection hx with hx
   subst hxo
   exact ⟨e, c, l, hx.symm, ho⟩
  ·rw [if_neg hxo] at hx
   exact hf x ob hx
 cases hlk : lk fz o with
 | none =>
  have : lk (fz ++ m) o = some (.row e c l) := by rw [lk_append, hlk, ho]; rfl
  obtain ⟨J, hJ, hs⟩ := h.freeze this
  refine ⟨J, hJ, ?_, hf'⟩
  rw [List.cons_append, lk_upd]
  exact hs
 | some ob =>
  obtain ⟨e', c', l', rfl, ho'⟩ := hf o ob hlk
  rw [ho] at ho'
  injection ho' with ho'
  injection ho' with _ h1 h2
  subst h1
  have h2 := eq_of_heq h2
  subst h2
  refine ⟨I, Imm.le_refl _, ?_, hf'⟩
  refine h.congr (fun x => ?_)
  rw [List.cons_append, lk_cons]
  by_cases hxo : o = x
  ·rw [if_pos hxo, ← hxo, lk_append, hlk]; rfl
  ·rw [if_neg hxo]
theorem rd_of_frz {m : AMem} (h : SA B I π (lk m) w) {o : Nat} {c : TC} {l : List c.I} (ho : lk m o = some (.frz c l)) {y : Value} (hy : relC π I (.sl o) y) : relC π I (.rd false c l) y := by
 obtain ⟨p, hp, rfl⟩ := hy
 obtain ⟨p', h1, h2, h3, h4⟩ := atO_frz h ho
 rw [hp] at h1
 injection h1 with h1
 subst h1
 exact ⟨p.A, p.c, by rw [h2], h3, (fun e => by cases e), h4⟩
theorem fzCs_ok {ρ : Type} {m : AMem} : ∀ {l : List AC} {s : Sg} {k : List AC → Sg → Tr ρ} {r : ρ} {ws : AMem} {rs : List Nat} {I : Imm} {ys : List Value}, Tr.Ex m (fzCs l s k) r ws rs → SA B I π (lk (s.fz ++ m)) w → FzOk s.fz m → rl (relC π I) l ys →
  ∃ l' s' J rs', Tr.Ex m (k l' s') r ws rs' ∧ I.le J ∧ SA B J π (lk (s'.fz ++ m)) w ∧ FzOk s'.fz m ∧ rl (relC π J) l' ys ∧ s'.b = s.b := by
 intro l
 induction l with
 | nil => intro s k r ws rs I ys hx hs hf hr; exact ⟨[], s, I, rs, hx, Imm.le_refl _, hs, hf, hr, rfl⟩
 | cons a l ih =>
  intro s k r ws rs I ys hx hs hf hr
  cases ys with
  | nil => exact hr.elim
  | cons y ys =>
   have plain : Tr.Ex m (fzCs l s fun az s => k (a :: az) s) r ws rs → ∃ l' s' J rs', Tr.Ex m (k l' s') r ws rs' ∧ I.le J ∧ SA B J π (lk (s'.fz ++ m)) w ∧ FzOk s'.fz m ∧ rl (relC π J) l' (y :: ys) ∧ s'.b = s.b := by
    intro hx2
    obtain ⟨l', s', J', rs', h1, h2, h3, h4, h5, h6⟩ := ih hx2 hs hf hr.2
    exact ⟨_, s', J', rs', h1, h2, h3, h4, ⟨relC.ext (Pi.le_refl _) h2 hr.1, h5⟩, h6⟩
   cases a with
   | sl o =>
    simp only [fzCs] at hx
    cases hx with
    | look hx =>
     dsimp only at hx
     split at hx
     ·rename_i e c l0 ho
      obtain ⟨J, hJ, hs', hf'⟩ := freeze1 hs hf ho
      obtain ⟨l', s', J', rs', h1, h2, h3, h4, h5, h6⟩ := ih (s := ⟨s.b, (o, .frz c l0) :: s.fz⟩) hx hs' hf' (hr.2.mono fun _ _ => relC.ext (Pi.le_refl _) hJ)
      refine ⟨_, s', J', rs', h1, Imm.le_trans hJ h2, h3, h4, ⟨?_, h5⟩, h6⟩
      refine relC.ext (Pi.le_refl _) h2 (rd_of_frz hs' (o := o) ?_ (relC.ext (Pi.le_refl _) hJ hr.1))
      rw [List.cons_append, lk_cons, if_pos rfl]
     ·rename_i c l0 ho
      have hno : lk s.fz o = none := by
       cases hq : lk s.fz o with
       | none => rfl
       | some ob =>
        obtain ⟨e', c', l', _, h2⟩ := hf o ob hq
        rw [ho] at h2
        cases h2
      obtain ⟨l', s', J', rs', h1, h2, h3, h4, h5, h6⟩ := ih hx hs hf hr.2
      refine ⟨_, s', J', rs', h1, h2, h3, h4, ⟨?_, h5⟩, h6⟩
      refine relC.ext (Pi.le_refl _) h2 (rd_of_frz hs (o := o) ?_ hr.1)
      rw [lk_append, hno, ho]; rfl
     ·cases hx
   | _ => exact plain hx
end
end Go.Proofs.YtfecniimkgkmfaaGreat.AM
namespace Go.Proofs.YtfecniimkgkmfaaGreat.AM
open Go Go.RowKit Go.Proofs.YtfecniimkgkmfaaGreat.RW

section
variable {P : Program} {B : Base} {I : Imm} {π : Pi} {M : Nat → Option AObj} {w : World}

/-! ### parts over cells -/
theorem fold_set (off : Nat) : ∀ (l : List Value) (k : Nat) (ys : List Value), off + k + l.length ≤ ys.length →
  (l.zipIdx k).foldl (fun (cs : Array Value) p => cs.setIfInBounds (off + p.2) p.1) ys.toArray = (ys.take (off + k) ++ (l ++ ys.drop (off + k + l.length))).toArray
 | [], k, ys, h => by simp
 | v :: r, k, ys, h => by
  have h1 : off + k + 1 + r.length ≤ ys.length := by simp at h; omega
  rw [List.zipIdx_cons, List.foldl_cons]
  have e0 : ys.toArray.setIfInBounds (off + k) v = (ys.set (off + k) v).toArray := by simp
  rw [e0, fold_set off r (k + 1) (ys.set (off + k) v) (by rw [List.length_set]; omega)]
  have e1 : (ys.set (off + k) v).take (off + (k + 1)) = ys.take (off + k) ++ [v] := by
   rw [← Nat.add_assoc, List.take_add_one, List.take_set_of_le (Nat.le_refl _), List.getElem?_set_self (by omega)]
   rfl
  have e2 : (ys.set (off + k) v).drop (off + (k + 1) + r.length) = ys.drop (off + k + (v :: r).length) := by
   rw [List.drop_set_of_lt (by omega)]
   congr 1
   simp; omega
  rw [e1, e2]
  simp
theorem fill_step (off : Nat) (v : Value) (ys : List Value) (h : off + v.cells.toList.length ≤ ys.length) :
  v.cells.zipIdx.foldl (fun cs (c, j) => cs.setIfInBounds (off + j) c) ys.toArray = (ys.take off ++ (v.cells.toList ++ ys.drop (off + v.cells.toList.length))).toArray := by
 have := fold_set off v.cells.toList 0 ys (by simpa using h)
 rw [← Array.foldl_toList]
 simpa using this
theorem fill_ok {place : Nat → Option (Nat × Nat)} : ∀ {parts : List (Nat × Option AV)} {vs : List (Nat × Value)} {cs cs' : List AC} {ys : List Value}, rl (fun p q => p.1 = q.1 ∧ ∃ av, p.2 = some av ∧ relV π I av q.2) parts vs →
  fillA place cs parts = some cs' → rl (relC π I) cs ys → ∃ ys', Instr.fill place ys.toArray vs = some ys'.toArray ∧ rl (relC π I) cs' ys'
 | [], [], cs, cs', ys, _, h, hr => by
  simp only [fillA] at h
  injection h with h
  subst h
  exact ⟨ys, rfl, hr⟩
 | [], _ :: _, _, _, _, h, _, _ => h.elim
 | _ :: _, [], _, _, _, h, _, _ => h.elim
 | (i, v) :: r, (i', u) :: r', cs, cs', ys, hp, h, hr => by
  obtain ⟨⟨e1, av, e2, hv⟩, hp⟩ := hp
  simp only at e1 e2
  subst e1; subst e2
  simp only [fillA] at h
  split at h
  ·rename_i off n v hpl heq
   injection heq with heq
   subst heq
   split at h
   ·rename_i new hnew
    cases hb : Nat.beq new.length n with
    | false => rw [hb] at h; cases h
    | true =>
     rw [hb] at h
     have hb := Nat.eq_of_beq_eq_true hb
     simp only [cond_true] at h
     split at h
     ·rename_i cs1 hs
      unfold splice at hs
      cases hb2 : Nat.ble (off + new.length) cs.length with
      | false => rw [hb2] at hs; cases hs
      | true =>
       rw [hb2] at hs
       injection hs with hs
       have hle := Nat.le_of_ble_eq_true hb2
       have hc := relV.cells hnew hv
       obtain ⟨ys', h1, h2⟩ := fill_ok hp h (hs ▸ splice_ok hr hc hle)
       refine ⟨ys', ?_, h2⟩
       have hcl : u.cells.size = n := by rw [← hb, hc.len, Array.length_toList]
       unfold Instr.fill
       rw [hpl]
       simp only
       rw [if_neg (by simp [hcl, ← hr.len]; omega), fill_step off u ys (by rw [Array.length_toList, hcl, ← hr.len, ← hb]; exact hle)]
       exact h1
     ·cases h
   ·cases h
  ·cases h
theorem buildA_ok {m : AMem} {t : TypeId} {parts : List (Nat × Option AV)} {vs : Array (Nat × Value)} (hp : rl (fun p q => p.1 = q.1 ∧ ∃ av, p.2 = some av ∧ relV π I av q.2) parts vs.toList) {v : AV} {ws : AMem} {rs : List Nat} (hx : Tr.Ex m (buildA P t parts) v ws rs) :
  ws = [] ∧ ∃ y, (Instr.build t vs).run P w = .ok y w ∧ relV π I v y := by
 unfold buildA at hx
 split at hx
 ·rename_i fs z hu hz
  obtain ⟨i, zv, hi, hz1, rfl, hall⟩ := zeroT_spec hz
  split at hx
  ·rename_i cs hf
   generalize hb : (fs.toList.all fun f => (szT P f.type).isSome) = b at hx
   cases b with
   | false => cases hx
   | true =>
   rw [List.all_eq_true] at hb
   cases hx
   obtain ⟨ys', h1, h2⟩ := fill_ok hp hf (rl_v hall)
   refine ⟨rfl, .agg ys'.toArray, ?_, ys', rfl, h2⟩
   have key : ∀ (l : List Field) , (∀ f ∈ l, (szT P f.type).isSome = true) → l.mapM (fun f => (P.info? f.type).map fun i => (f.offset, i.size)) = some (l.map fun f => (f.offset, (szT P f.type).getD 0)) := by
    intro l
    induction l with
    | nil => intro _; rfl
    | cons f l ih =>
     intro hl
     have hf := hl f List.mem_cons_self
     unfold szT at hf
     split at hf
     ·rename_i inf hinf
      rw [List.mapM_cons, hinf, ih (fun g hg => hl g (List.mem_cons_of_mem _ hg))]
      simp [szT, hinf]
     ·cases hf
   -- only the parts' places are asked for
   have hmono : ∀ (pl1 pl2 : Nat → Option (Nat × Nat)), (∀ i x, pl1 i = some x → pl2 i = some x) → ∀ (vs : List (Nat × Value)) (cs r : Array Value), Instr.fill pl1 cs vs = some r → Instr.fill pl2 cs vs = some r := by
    intro pl1 pl2 hpl vs
    induction vs with
    | nil => intro cs r h; exact h
    | cons q vs ih =>
     intro cs r h
     unfold Instr.fill at h ⊢
     cases hq : pl1 q.1 with
     | none => rw [hq] at h; cases h
     | some x =>
      rw [hq] at h
      rw [hpl _ _ hq]
      simp only at h ⊢
      split at h
      ·cases h
      ·rename_i hcond
       rw [if_neg hcond]
       exact ih _ _ h
   refine run_build w t vs ys'.toArray ?_
   unfold Program.built
   rw [hi, hu]
   simp only [hz1, key fs.toList hb]
   refine hmono _ _ ?_ _ _ _ h1
   intro i x hx
   split at hx
   ·rename_i f hf
    split at hx
    ·rename_i n hn
     injection hx with hx
     subst hx
     simp only [List.getElem?_toArray, List.getElem?_map]
     rw [Array.getElem?_toList, hf]
     simp [hn]
    ·cases hx
   ·cases hx
  ·cases hx
 ·cases hx

/-! ### a new row -/
/-- Pieces made and given up: a row takes a number that is new; pieces in `G` are given up (a row that grew). -/
theorem SA.row (h : SA B I π M w) {nb : Nat} (hnb : M nb = none) {e : TypeId} {c : TC} {l : List c.I} {w' : World} {v : Value} {cs : List Value} (ho : w'.ownsRow 0 e c.sz v l.length cs) (hr : Reps c.ty I l cs) (hg : w.grownBy w' none) (hb : ∀ k, v.ownBlock = some k → w.heap.size ≤ k) :
  ∃ p : Pl, v = .slice p.A p.n p.c ∧ p.n = l.length ∧ SA B I (updP π nb p) (updM M nb (some (.row e c l))) w' := by
 have hv : ∃ A cp, v = .slice A l.length cp := by
  rcases ho.2 with ⟨rfl, h0⟩ | ⟨g, cap, cur, rfl, _⟩
  ·exact ⟨none, 0, by rw [h0]⟩
  ·exact ⟨_, _, rfl⟩
 obtain ⟨A, cp, rfl⟩ := hv
 have hπ := updP_le (h.dom nb hnb) ⟨A, l.length, cp⟩
 have hf0 : ∀ k, ¬ fpO π nb (M nb) k := fun k hk => by rw [hnb] at hk; exact hk
 have hfp : ∀ k, fpO (updP π nb ⟨A, l.length, cp⟩) nb (some (.row e c l)) k → (Value.slice A l.length cp).ownBlock = some k := by
  rintro k ⟨p, a, h1, h2, rfl⟩
  rw [updP_self] at h1
  injection h1 with h1
  subst h1
  simp only at h2
  subst h2
  rfl
 refine ⟨⟨A, l.length, cp⟩, rfl, rfl, h.step (fun x => x = nb) hπ (Imm.le_refl _) hg.os hg.tape hg.output hg.size (fun k hk _ => hg.block k hk (by simp)) (fun x hx => updM_ne _ _ hx) (fun x hx hn => by rw [updP_ne _ _ hx]; exact h.dom x hn) ?_ ?_ ?_ ?_ ?_ (fun a v ha => .inl ha) ?_⟩
 ·intro x hx hn
  rw [hx, updM_self] at hn
  cases hn
 ·intro x hx
  rw [hx, updM_self]
  exact ⟨_, cs, updP_self _ _ _, rfl, ho, hr⟩
 ·intro x hx k hk
  rw [hx, updM_self] at hk
  exact ⟨(ho.lt k (hfp k hk)).2, .inr (hb k (hfp k hk))⟩
 ·intro x y hx hy hne
  exact absurd (hx.trans hy.symm) hne
 ·intro a u ha
  have hc := h.im a u ha
  rw [← hc]
  exact look_of_block (w := w) (hg.block _ (look_lt hc) (by simp))
 ·intro a u ha x hx hk
  rw [hx, updM_self] at hk
  have h1 := hb _ (hfp _ hk)
  have h2 := look_lt (h.im a u ha)
  omega
/-- A row of the call's own that grew: the old number is given up. -/
theorem SA.grow (h : SA B I π M w) {o nb : Nat} {e : TypeId} {c c0 : TC} {l : List c.I} {l0 : List c0.I} (hoM : M o = some (.row e c0 l0)) (hnb : M nb = none) {p0 : Pl} (hp0 : π o = some p0) {w' : World} {v : Value} {cs : List Value} (ho : w'.ownsRow 0 e c.sz v l.length cs) (hr : Reps c.ty I l cs)
  (hg : w.grownBy w' (Value.slice p0.A p0.n p0.c).ownBlock) (hb : v.ownBlock = (Value.slice p0.A p0.n p0.c).ownBlock ∨ v.ownBlock = some w.heap.size) :
  ∃ p : Pl, v = .slice p.A p.n p.c ∧ p.n = l.length ∧ SA B I (updP π nb p) (updM (updM M o (some .gone)) nb (some (.row e c l))) w' := by
 have hv : ∃ A cp, v = .slice A l.length cp := by
  rcases ho.2 with ⟨rfl, h0⟩ | ⟨g, cap, cur, rfl, _⟩
  ·exact ⟨none, 0, by rw [h0]⟩
  ·exact ⟨_, _, rfl⟩
 obtain ⟨A, cp, rfl⟩ := hv
 have hon : o ≠ nb := fun e1 => by rw [e1, hnb] at hoM; cases hoM
 have hπ := updP_le (h.dom nb hnb) ⟨A, l.length, cp⟩
 have hfp : ∀ k, fpO (updP π nb ⟨A, l.length, cp⟩) nb (some (.row e c l)) k → (Value.slice A l.length cp).ownBlock = some k := by
  rintro k ⟨p, a, h1, h2, rfl⟩
  rw [updP_self] at h1
  injection h1 with h1
  subst h1
  simp only at h2
  subst h2
  rfl
 have hold : ∀ k, (Value.slice p0.A p0.n p0.c).ownBlock = some k → fpO π o (M o) k := fun k hk => by
  rw [hoM]
  cases hA : p0.A with
  | none => rw [hA] at hk; cases hk
  | some a =>
   rw [hA] at hk
   injection hk with hk
   exact ⟨p0, a, hp0, hA, hk⟩
 have hM : ∀ x, x ≠ o → x ≠ nb → updM (updM M o (some .gone)) nb (some (.row e c l)) x = M x := fun x h1 h2 => by rw [updM_ne _ _ h2, updM_ne _ _ h1]
 have hMo : updM (updM M o (some .gone)) nb (some (.row e c l)) o = some .gone := by rw [updM_ne _ _ hon, updM_self]
 refine ⟨⟨A, l.length, cp⟩, rfl, rfl, h.step (fun x => x = o ∨ x = nb) hπ (Imm.le_refl _) hg.os hg.tape hg.output hg.size (fun k hk hk' => hg.block k hk (fun e1 => hk' o (.inl rfl) (hold k e1.symm))) (fun x hx => hM x (fun e1 => hx (.inl e1)) (fun e1 => hx (.inr e1)))
  (fun x hx hn => by rw [updP_ne _ _ (fun e1 => hx (.inr e1))]; exact h.dom x hn) ?_ ?_ ?_ ?_ ?_ (fun a v ha => .inl ha) ?_⟩
 ·rintro x (hx | hx) hn
  ·rw [hx, hMo] at hn; cases hn
  ·rw [hx, updM_self] at hn; cases hn
 ·rintro x (hx | hx)
  ·rw [hx, hMo]; trivial
  ·rw [hx, updM_self]
   exact ⟨_, cs, updP_self _ _ _, rfl, ho, hr⟩
 ·rintro x (hx | hx) k hk
  ·rw [hx, hMo] at hk; exact hk.elim
  ·rw [hx, updM_self] at hk
   refine ⟨(ho.lt k (hfp k hk)).2, ?_⟩
   rcases hb with h1 | h1
   ·exact .inl ⟨o, .inl rfl, hold k (h1 ▸ hfp k hk)⟩
   ·right
    rw [hfp k hk] at h1
    injection h1 with h1
    omega
 ·rintro x y (hx | hx) (hy | hy) hne k hk hk'
  ·exact hne (hx.trans hy.symm)
  ·rw [hx, hMo] at hk; exact hk
  ·rw [hy, hMo] at hk'; exact hk'
  ·exact hne (hx.trans hy.symm)
 ·intro a u ha
  have hc := h.im a u ha
  rw [← hc]
  exact look_of_block (w := w) (hg.block _ (look_lt hc) (fun e1 => h.imX a u ha o (hold _ e1.symm)))
 ·rintro a u ha x (hx | hx) hk
  ·rw [hx, hMo] at hk; exact hk
  ·rw [hx, updM_self] at hk
   rcases hb with h1 | h1
   ·exact h.imX a u ha o (hold _ (h1 ▸ hfp _ hk))
   ·rw [hfp _ hk] at h1
    injection h1 with h1
    have := look_lt (h.im a u ha)
    omega

theorem ofRow_reps {c : TC} : ∀ {n : Nat} {cs : List AC} {l : List c.I} {ys : List Value}, ofRow c n cs = some l → rl (relC π I) cs ys → l.length = n ∧ Reps c.ty I l ys
 | 0, [], l, ys, h, hr => by
  simp only [ofRow] at h
  injection h with h
  subst h
  cases ys with
  | nil => exact ⟨rfl, rfl⟩
  | cons y ys => exact hr.elim
 | 0, _ :: _, l, ys, h, hr => by cases h
 | n + 1, cs, l, ys, h, hr => by
  simp only [ofRow] at h
  split at h
  ·rename_i x r hx
   split at h
   ·rename_i l1 hl
    injection h with h
    subst h
    obtain ⟨c0, c1, rfl, hk, hr1⟩ := TC.ofCs_K hx hr
    obtain ⟨h1, h2⟩ := ofRow_reps hl hr1
    exact ⟨by simp [h1], c0, c1, rfl, hk, h2⟩
   ·cases h
  ·cases h
def repV (z : List Value) : Nat → List Value
 | 0 => []
 | n + 1 => z ++ repV z n
theorem repV_len (z : List Value) : ∀ n, (repV z n).length = n * z.length
 | 0 => by simp [repV]
 | n + 1 => by rw [repV, List.length_append, repV_len z n, Nat.succ_mul, Nat.add_comm]
theorem repV_get (z : List Value) : ∀ (n j : Nat), j < n * z.length → (repV z n)[j]? = z[j % z.length]?
 | 0, j, h => by simp at h
 | n + 1, j, h => by
  rw [repV]
  rcases Nat.lt_or_ge j z.length with hj | hj
  ·rw [List.getElem?_append_left hj, Nat.mod_eq_of_lt hj]
  ·rw [List.getElem?_append_right hj, repV_get z n _ (by rw [Nat.succ_mul] at h; omega), Nat.mod_eq_sub_mod hj]
theorem repV_made (z : Array Value) (n : Nat) (hz : 0 < z.size) : madeCells z (n * z.size) = (repV z.toList n).toArray := by
 apply Array.ext
 ·simp [madeCells, repV_len]
 ·intro j h1 h2
  have h1' : j < n * z.size := by simpa [madeCells] using h1
  have := repV_get z.toList n j (by simpa using h1')
  have hm : j % z.size < z.size := Nat.mod_lt _ hz
  simp only [Array.length_toList] at this
  rw [List.getElem?_eq_getElem (by rw [repV_len]; simpa using h1'), List.getElem?_eq_getElem (by simpa using hm)] at this
  injection this with this
  simp only [madeCells, Array.getElem_map, Array.getElem_range, List.getElem_toArray]
  rw [this]
  simp [hm]
theorem repA_rel {zA : List AC} {zV : List Value} (h : rl (relC π I) zA zV) : ∀ n, rl (relC π I) (repA zA n) (repV zV n)
 | 0 => trivial
 | n + 1 => h.app (repA_rel h n)
theorem Reps.rep {c : TC} {x : c.I} {zs : List Value} (h : c.ty.K I x zs) : ∀ n, Reps c.ty I (List.replicate n x) (repV zs n)
 | 0 => rfl
 | n + 1 => ⟨zs, repV zs n, rfl, h, Reps.rep h n⟩

theorem bslA_ok {m : AMem} (h : SA B I π (lk m) w) {t : TypeId} {len : Nat} {parts : List (Nat × Option AV)} {vs : Array (Nat × Value)} {nb : Nat} (hp : rl (fun p q => p.1 = q.1 ∧ ∃ av, p.2 = some av ∧ relV π I av q.2) parts vs.toList) {v : AV} {ws : AMem} {rs : List Nat} (hx : Tr.Ex m (bslA P t len parts nb) v ws rs) :
  ∃ y w', (Instr.buildSlice t len vs).run P w = .ok y w' ∧ Post B I π v (lk (ws ++ m)) y w' := by
 unfold bslA at hx
 split at hx
 ·rename_i e hu
  split at hx
  ·rename_i z n c hz hn hc
   obtain ⟨i, zv, hi, hz1, rfl, hall⟩ := zeroT_spec hz
   have hin : i.size = n := by
    have := szT_info hn
    rw [hi] at this
    injection this
   split at hx
   ·rename_i cs hf
    generalize hb : (Nat.ble (len * n) 16777216 && (Nat.blt 0 n && (Nat.beq n c.sz && Nat.beq (List.map AC.v zv.cells.toList).length n))) = b at hx
    cases b with
    | false => cases hx
    | true =>
     simp only [Bool.and_eq_true] at hb
     obtain ⟨hb1, hb2, hb3, hb4⟩ := hb
     have hb1 := Nat.le_of_ble_eq_true hb1
     have hb2 : 0 < n := Nat.le_of_ble_eq_true hb2
     have hb3 := Nat.eq_of_beq_eq_true hb3
     have hb4 := Nat.eq_of_beq_eq_true hb4
     rw [List.length_map, Array.length_toList] at hb4
     simp only [cond_true] at hx
     obtain ⟨ys', h1, h2⟩ := fill_ok hp hf (repA_rel (rl_v hall) len)
     obtain ⟨cs', s', J, rs', hx', hJ, hs', hfz, hr', _⟩ := fzCs_ok hx (by simpa using h) (FzOk.nil m) h2
     split at hx'
     ·rename_i l hl
      obtain ⟨hnb, rs2, hx2⟩ := freshTr_inv hx'
      cases hx2
      obtain ⟨hlen, hreps⟩ := ofRow_reps hl hr'
      have hnb' : lk (s'.fz ++ m) nb = none := by
       rw [lk_append, hnb]
       cases hq : lk s'.fz nb with
       | none => rfl
       | some ob =>
        obtain ⟨_, _, _, _, h5⟩ := hfz nb ob hq
        rw [hnb] at h5
        cases h5
      have hmade : (Array.range (len * i.size)).map (zv.cells[· % zv.cells.size]!) = (repV zv.cells.toList len).toArray := by
       have := repV_made zv.cells len (by omega)
       rw [hb4] at this
       rw [hin]
       exact this
      have hys : ys'.length = len * n := by
       have := hreps.len
       rw [← hlen, this, TC.ty_sz, hb3]
      have hrun : (Instr.buildSlice t len vs).run P w = .ok (.slice (some ⟨w.heap.size, 0, none⟩) len len) (w.alloc (.cells ys'.toArray e)) := by
       by_cases h0 : len = 0
       ·subst h0
        have : ys' = [] := List.length_eq_zero_iff.1 (by rw [hys]; simp)
        subst this
        have hfl : Instr.fill (fun i => some (i * n, n)) #[] vs.toList = some #[] := by simpa [repV] using h1
        simp [Instr.buildSlice, run_underlying hu, sizeOf, typeInfo, hi, hin, newRow]
        rw [show (Array.map (fun _ => (default : Value)) (Array.range 0)) = #[] from by apply Array.ext <;> simp, hfl]
        rfl
       ·refine run_buildSlice w t e len vs ys'.toArray i zv hu hi hz1 (by rw [hin]; omega) (by rw [hin]; intro h5; rcases Nat.mul_eq_zero.1 h5 with h6 | h6 <;> omega) ?_
        rw [hmade, hin]
        exact h1
      have hown : (w.alloc (.cells ys'.toArray e)).ownsRow 0 e c.sz (.slice (some ⟨w.heap.size, 0, none⟩) len len) l.length ys' := by
       have := World.ownsRow_lit (e := e) (size := n) w ys'.toArray len (base := 0) (Nat.zero_le _) (by
        simp only [maxLen]
        have : len ≤ len * n := Nat.le_mul_of_pos_right _ hb2
        omega) (by simpa using hys)
       rw [hlen, ← hb3]
       exact this
      obtain ⟨p, hp1, hp2, hs2⟩ := hs'.row hnb' (l := l) hown hreps (World.grownBy_alloc w _ none) (fun k hk => by
       injection hk with hk
       have hk : w.heap.size = k := hk
       omega)
      refine ⟨_, _, hrun, updP π nb p, J, updP_le (hs'.dom nb hnb') p, hJ, ?_, p, updP_self _ _ _, hp1⟩
      rw [List.cons_append, lk_upd]
      exact hs2
     ·cases hx'
   ·cases hx
  ·rename_i z n hz hn _
   obtain ⟨i, zv, hi, hz1, rfl, hall⟩ := zeroT_spec hz
   have hin : i.size = n := by
    have := szT_info hn
    rw [hi] at this
    injection this
   split at hx
   ·rename_i cs hf
    generalize hb : (Nat.ble (len * n) 16777216 && (Nat.blt 0 len && (Nat.beq n 1 && Nat.beq (List.map AC.v zv.cells.toList).length n))) = b at hx
    cases b with
    | false => cases hx
    | true =>
     simp only [Bool.and_eq_true] at hb
     obtain ⟨hb1, hb2, hb3, hb4⟩ := hb
     have hb1 := Nat.le_of_ble_eq_true hb1
     have hb2 : 0 < len := Nat.le_of_ble_eq_true hb2
     have hb3 := Nat.eq_of_beq_eq_true hb3
     have hb4 := Nat.eq_of_beq_eq_true hb4
     rw [List.length_map, Array.length_toList] at hb4
     simp only [cond_true] at hx
     obtain ⟨ys', h1, h2⟩ := fill_ok hp hf (repA_rel (rl_v hall) len)
     obtain ⟨hnb, rs2, hx2⟩ := freshTr_inv hx
     cases hx2
     have hmade : (Array.range (len * i.size)).map (zv.cells[· % zv.cells.size]!) = (repV zv.cells.toList len).toArray := by
      have := repV_made zv.cells len (by omega)
      rw [hb4] at this
      rw [hin]
      exact this
     have hrun : (Instr.buildSlice t len vs).run P w = .ok (.slice (some ⟨w.heap.size, 0, none⟩) len len) (w.alloc (.cells ys'.toArray e)) := by
      refine run_buildSlice w t e len vs ys'.toArray i zv hu hi hz1 (by rw [hin]; omega) (by rw [hin]; intro h5; rcases Nat.mul_eq_zero.1 h5 with h6 | h6 <;> omega) ?_
      rw [hmade, hin]
      exact h1
     have hs2 := h.new (o := nb) hnb e h2
     refine ⟨_, _, hrun, updP π nb ⟨some ⟨w.heap.size, 0, none⟩, 0, 0⟩, I, updP_le (h.dom nb hnb) _, Imm.le_refl _, ?_, _, w.heap.size, updP_self _ _ _, rfl, rfl⟩
     rw [List.cons_append, lk_upd]
     exact hs2
   ·cases hx
  ·cases hx
 ·cases hx
end
end Go.Proofs.YtfecniimkgkmfaaGreat.AM
namespace Go.Proofs.YtfecniimkgkmfaaGreat.AM
open Go Go.RowKit Go.Proofs.YtfecniimkgkmfaaGreat.RW

section
variable {P : Program} {B : Base} {I : Imm} {π : Pi} {M : Nat → Option AObj} {w : World}

/-! ### stores -/
theorem elem_splice {L ns : List Value} {N a z off k : Nat} (hk : ns.length = k) (h1 : a + z ≤ N) (h2 : N ≤ L.length) (h3 : off + k ≤ z) :
  (L.take (a + off) ++ (ns ++ L.drop (a + off + k))).take N = (L.take N).take a ++ ((((L.take N).drop a).take z).take off ++ (ns ++ (((L.take N).drop a).take z).drop (off + k))) ++ (L.take N).drop (a + z) := by
 apply List.ext_getElem?
 intro j
 simp only [List.getElem?_append, List.getElem?_take, List.getElem?_drop, List.length_take, List.length_drop, List.length_append, hk]
 by_cases c1 : j < a + off
 ·by_cases c2 : j < a
  ·simp [show j < N by omega, show j < min (a + off) L.length by omega, show j < a + off by omega, c2, show j < min a (min N L.length) + (min off (min z (min N L.length - a)) + (k + (min z (min N L.length - a) - (off + k)))) by omega, show j < min a (min N L.length) by omega]
  ·simp [show j < N by omega, show j < min (a + off) L.length by omega, show j < a + off by omega, show j < min a (min N L.length) + (min off (min z (min N L.length - a)) + (k + (min z (min N L.length - a) - (off + k)))) by omega, show ¬ j < min a (min N L.length) by omega, show j - min a (min N L.length) < min off (min z (min N L.length - a)) by omega, show j - min a (min N L.length) < off by omega, show j - min a (min N L.length) < z by omega, show a + (j - min a (min N L.length)) = j by omega]
 ·by_cases c3 : j < a + off + k
  ·simp [show j < N by omega, show ¬ j < min (a + off) L.length by omega, show j < min a (min N L.length) + (min off (min z (min N L.length - a)) + (k + (min z (min N L.length - a) - (off + k)))) by omega, show ¬ j < min a (min N L.length) by omega, show ¬ j - min a (min N L.length) < min off (min z (min N L.length - a)) by omega, show j - min a (min N L.length) - min off (min z (min N L.length - a)) < k by omega, show j - min (a + off) L.length = j - min a (min N L.length) - min off (min z (min N L.length - a)) by omega]
  ·by_cases c4 : j < N
   ·by_cases c5 : j < a + z
    ·simp [c4, show ¬ j < min (a + off) L.length by omega, show ¬ j - min (a + off) L.length < k by omega, show j < min a (min N L.length) + (min off (min z (min N L.length - a)) + (k + (min z (min N L.length - a) - (off + k)))) by omega, show ¬ j < min a (min N L.length) by omega, show ¬ j - min a (min N L.length) < min off (min z (min N L.length - a)) by omega, show ¬ j - min a (min N L.length) - min off (min z (min N L.length - a)) < k by omega, show a + off + k + (j - min (a + off) L.length - k) = j by omega, show off + k + (j - min a (min N L.length) - min off (min z (min N L.length - a)) - k) < z by omega, show a + (off + k + (j - min a (min N L.length) - min off (min z (min N L.length - a)) - k)) = j by omega]
    ·simp [c4, show ¬ j < min (a + off) L.length by omega, show ¬ j - min (a + off) L.length < k by omega, show ¬ j < min a (min N L.length) + (min off (min z (min N L.length - a)) + (k + (min z (min N L.length - a) - (off + k)))) by omega, show a + off + k + (j - min (a + off) L.length - k) = j by omega, show a + z + (j - (min a (min N L.length) + (min off (min z (min N L.length - a)) + (k + (min z (min N L.length - a) - (off + k)))))) = j by omega]
   ·simp [c4, show ¬ j < min a (min N L.length) + (min off (min z (min N L.length - a)) + (k + (min z (min N L.length - a) - (off + k)))) by omega, show ¬ a + z + (j - (min a (min N L.length) + (min off (min z (min N L.length - a)) + (k + (min z (min N L.length - a) - (off + k)))))) < N by omega]

/-- An element of a row of the call's own is written. -/
theorem SA.setE (h : SA B I π M w) {o : Nat} {e : TypeId} {c : TC} {l : List c.I} (hoM : M o = some (.row e c l)) {p : Pl} {g : Nat} (hp : π o = some p) (hA : p.A = some ⟨g, 0, none⟩) {i off : Nat} (hi : i < l.length) {new cs' : List AC} {x : c.I} {ns : List Value} (hn : rl (relC π I) new ns)
  (hsp : splice (c.cells (l.getD i c.dflt)) new off = some cs') (hof : c.ofCs cs' = some (x, [])) :
  SA B I π (updM M o (some (.row e c (l.set i x)))) (w.setCells g (i * c.sz + off) ns) ∧ w.there g (i * c.sz + off) ns.length := by
 obtain ⟨p', cs, h1, hpn, hown, hr⟩ := atO_row h hoM
 rw [hp] at h1
 injection h1 with h1
 subst h1
 unfold splice at hsp
 cases hb : Nat.ble (off + new.length) (c.cells (l.getD i c.dflt)).length with
 | false => rw [hb] at hsp; cases hsp
 | true =>
 rw [hb] at hsp
 injection hsp with hsp
 have hle := Nat.le_of_ble_eq_true hb
 rw [TC.cells_len] at hle
 obtain ⟨hlen, hown'⟩ := hown
 rcases hown' with ⟨_, h0⟩ | ⟨g', cap, cur, e1, _, hg, hcap, hmax, hcs, ht⟩
 ·omega
 rw [hA] at e1
 injection e1 with e1 e2 e3
 injection e1 with e1
 injection e1 with e1
 subst e1
 subst hsp
 -- the element's cells as they are
 obtain ⟨ys, hk, hy⟩ := hr.get i _ (List.getElem?_eq_getElem hi)
 rw [c.ty_sz] at hy
 have hyl : ys.length = c.sz := by rw [c.ty.len hk, c.ty_sz]
 have hmul : i * c.sz + c.sz ≤ l.length * c.sz := by
  have := Nat.mul_le_mul_right c.sz (show i + 1 ≤ l.length from hi)
  rwa [Nat.succ_mul] at this
 have hcs' : cur.toList.length = cap * c.sz := by simpa using hcs
 have hcl : l.length * c.sz ≤ cur.toList.length := by
  rw [hcs']
  exact Nat.mul_le_mul_right _ hcap
 have hye : ys = (cs.drop (i * c.sz)).take c.sz := by
  apply List.ext_getElem?
  intro j
  rw [List.getElem?_take, List.getElem?_drop]
  by_cases hj : j < c.sz
  ·rw [if_pos hj]
   have := hy j _ (List.getElem?_eq_getElem (by omega))
   rw [this, List.getElem?_eq_getElem (by omega)]
  ·rw [if_neg hj, List.getElem?_eq_none (by omega)]
 have hk' : c.ty.K I (l.getD i c.dflt) ys := by rw [List.getD_eq_getElem?_getD, List.getElem?_eq_getElem hi]; exact hk
 have hrel := splice_ok (off := off) (TC.cells_rel (π := π) c _ ys hk') hn (by rw [TC.cells_len]; exact hle)
 obtain ⟨c0, c1, hcc, hkx, hnil⟩ := TC.ofCs_K hof hrel
 have hc1 : c1 = [] := by
  cases c1 with
  | nil => rfl
  | cons _ _ => exact hnil.elim
 rw [hc1, List.append_nil] at hcc
 have hcur : w.heap[g]? = some (.cells cur.toList.toArray e (0, 0)) := by simpa using hg
 have hnl : ns.length = new.length := hn.len.symm
 obtain ⟨i1, i2, i3, i4, i5, i6⟩ := setCells_spec g ns (i * c.sz + off) cur.toList e w (by omega) hcur
 have hfp : fpO π o (M o) g := by rw [hoM]; exact ⟨p, _, hp, hA, rfl⟩
 refine ⟨?_, there_of hcur (by omega)⟩
 refine h.step (fun x => x = o) (Pi.le_refl _) (Imm.le_refl _) i3 i4 i5 (by rw [i6]; exact Nat.le_refl _) (fun k hk hk' => i2 k (fun e => hk' o rfl (e ▸ hfp))) (fun x hx => updM_ne _ _ hx) (fun x hx hn => h.dom x hn) ?_ ?_ ?_ ?_ ?_ (fun a v ha => .inl ha) ?_
 ·intro x hx hn
  rw [hx, updM_self] at hn
  cases hn
 ·intro y hx
  rw [hx, updM_self]
  refine ⟨p, cs.take (i * c.sz) ++ c0 ++ cs.drop (i * c.sz + c.sz), hp, by rw [List.length_set]; exact hpn, ⟨?_, .inr ⟨g, cap, _, by rw [hA, List.length_set, e2, e3], Nat.zero_le _, i1, by rw [List.length_set]; exact hcap, hmax, ?_, ?_⟩⟩, ?_⟩
  ·have := (Reps.set hr i x c0 hi hkx).len
   rw [c.ty_sz] at this
   exact this
  ·simp only [List.size_toArray, List.length_append, List.length_take, List.length_drop]
   rw [← hcs']
   omega
  ·rw [List.length_set]
   have := elem_splice (L := cur.toList) (ns := ns) (N := l.length * c.sz) (a := i * c.sz) (z := c.sz) (off := off) (k := new.length) hnl hmul hcl hle
   rw [ht, ← hye] at this
   rw [← hcc, hnl]
   exact this
  ·have := Reps.set hr i x c0 hi hkx
   rw [c.ty_sz] at this
   exact this
 ·intro x hx k hk
  rw [hx, updM_self] at hk
  obtain ⟨p', a, h7, h8, h9⟩ := hk
  rw [hp] at h7
  injection h7 with h7
  subst h7
  rw [hA] at h8
  injection h8 with h8
  subst h8
  have h9 : g = k := h9
  subst h9
  exact ⟨by rw [i6]; exact (h.own _ _ hfp).1, .inl ⟨_, rfl, hfp⟩⟩
 ·intro x y hx hy hne
  exact absurd (hx.trans hy.symm) hne
 ·intro a v ha
  have hc := h.im a v ha
  rw [← hc]
  exact look_of_block (w := w) (i2 _ (fun e => h.imX a v ha o (e ▸ hfp)))
 ·intro a v ha x hx hk
  rw [hx, updM_self] at hk
  exact h.imX a v ha o (by rw [hoM]; exact hk)

theorem any_beq {fz : AMem} {o : Nat} (h : fz.any (fun q => Nat.beq q.1 o) = false) : lk fz o = none := by
 induction fz with
 | nil => rfl
 | cons q fz ih =>
  obtain ⟨j, a⟩ := q
  rw [List.any_cons, Bool.or_eq_false_iff] at h
  rw [lk_cons, if_neg (fun e => by rw [e, Nat.beq_refl] at h; cases h.1)]
  exact ih h.2
theorem stA_ok {m : AMem} (h : SA B I π (lk m) w) {t : TypeId} {a : AC} {y : Value} (ha : relC π I a y) {v : AV} {u : Value} (hv : relV π I v u) {r : AV} {ws : AMem} {rs : List Nat} (hx : Tr.Ex m (stA P t a v) r ws rs) :
  r = undefA ∧ ∃ w' J, (Instr.storeAt t y u).run P w = .ok () w' ∧ I.le J ∧ SA B J π (lk (ws ++ m)) w' := by
 unfold stA at hx
 split at hx
 ·cases hx
 ·rename_i new hnew
  have hc := relV.cells hnew hv
  split at hx
  ·cases hx
  ·rename_i n hn
   cases hb : Nat.beq new.length n with
   | false => rw [hb] at hx; cases hx
   | true =>
    rw [hb] at hx
    have hb := Nat.eq_of_beq_eq_true hb
    simp only [cond_true] at hx
    have hcl : u.cells.size = n := by rw [← hb, hc.len, Array.length_toList]
    split at hx
    ·rename_i o off
     obtain ⟨p, g, h1, h2, rfl⟩ := ha
     cases hx with
     | look hx =>
      dsimp only at hx
      split at hx
      ·rename_i ty cs ho
       split at hx
       ·rename_i cs' hs
        cases hx
        unfold splice at hs
        cases hb2 : Nat.ble (off + new.length) cs.length with
        | false => rw [hb2] at hs; cases hs
        | true =>
         rw [hb2] at hs
         injection hs with hs
         subst hs
         have hle := Nat.le_of_ble_eq_true hb2
         obtain ⟨p', g', ys, h3, h4, h5, h6⟩ := atO_blk h ho
         rw [h1] at h3
         injection h3 with h3
         subst h3
         rw [h2] at h4
         injection h4 with h4
         injection h4 with h4
         subst h4
         refine ⟨rfl, _, I, storeAt_cells hn hcl (relL.one hc) (there_of h6 (by rw [← h5.len, ← hb]; exact hle)), Imm.le_refl _, ?_⟩
         rw [List.cons_append, lk_upd]
         exact h.setB ho h1 h2 hc hle
       ·cases hx
      ·cases hx
    ·rename_i o z i off
     obtain ⟨p, g, h1, h2, h3, rfl⟩ := ha
     obtain ⟨new', s', J, rs', hx', hJ, hs', hfz, hr', _⟩ := fzCs_ok hx (by simpa using h) (FzOk.nil m) hc
     cases hx' with
     | look hx' =>
      dsimp only at hx'
      split at hx'
      ·rename_i e c l ho
       cases hz : Nat.beq c.sz z with
       | false => rw [hz] at hx'; cases hx'
       | true =>
        rw [hz] at hx'
        have hz := Nat.eq_of_beq_eq_true hz
        subst hz
        simp only [Bool.not_true, cond_false] at hx'
        split at hx'
        ·cases hx'
        ·rename_i cs' hsp
         split at hx'
         ·rename_i x hof
          cases hany : s'.fz.any (fun q => Nat.beq q.1 o) with
          | true => rw [hany] at hx'; cases hx'
          | false =>
           rw [hany] at hx'
           cases hx'
           have ho' : lk (s'.fz ++ m) o = some (.row e c l) := by rw [lk_append, any_beq hany, ho]; rfl
           obtain ⟨p', _, h4, h5, _⟩ := atO_row hs' ho'
           rw [h1] at h4
           injection h4 with h4
           subst h4
           obtain ⟨k1, k2⟩ := hs'.setE ho' h1 h2 (by omega) hr' hsp hof
           rw [Array.length_toList, hcl] at k2
           refine ⟨rfl, _, J, storeAt_cells hn hcl (relL.one hc) k2, hJ, ?_⟩
           rw [List.cons_append, lk_upd]
           exact k1
         ·cases hx'
      ·cases hx'
    ·cases hx
end
end Go.Proofs.YtfecniimkgkmfaaGreat.AM
namespace Go.Proofs.YtfecniimkgkmfaaGreat.AM
open Go Go.RowKit Go.Proofs.YtfecniimkgkmfaaGreat.RW

section
variable {P : Program} {B : Base} {I : Imm} {π : Pi} {M : Nat → Option AObj} {w : World}

/-- A row that is read: where its cells lie. -/
theorem rd_cells {α : Type} {d : Ty α} (him : I.at_ w) {A : Option Addr} {xs : List α} (h : Rd d I A xs) (hne : xs ≠ []) : ∃ cs, Reps d I xs cs ∧ ∃ g q, A = some ⟨g, q, none⟩ ∧ ∀ j u, cs[j]? = some u → w.cell? ⟨g, q + j, none⟩ = some u := by
 obtain ⟨g, o, rfl, hc⟩ := h.2 hne
 have key : ∀ (ys : List α) (n0 : Nat), (∀ j x, ys[j]? = some x → ∃ c, d.K I x c ∧ ∀ i u, c[i]? = some u → I ⟨g, o + (n0 + j) * d.sz + i, none⟩ = some u) → ∃ cs, Reps d I ys cs ∧ ∀ j u, cs[j]? = some u → I ⟨g, o + n0 * d.sz + j, none⟩ = some u := by
  intro ys
  induction ys with
  | nil => intro n0 _; exact ⟨[], rfl, fun j u hu => by simp at hu⟩
  | cons y ys ih =>
   intro n0 hy
   obtain ⟨c0, hk0, hc0⟩ := hy 0 y rfl
   obtain ⟨c1, hk1, hc1⟩ := ih (n0 + 1) (fun j x hj => by
    have := hy (j + 1) x hj
    rwa [show n0 + (j + 1) = n0 + 1 + j from by omega] at this)
   refine ⟨c0 ++ c1, ⟨c0, c1, rfl, hk0, hk1⟩, fun j u hu => ?_⟩
   rcases Nat.lt_or_ge j c0.length with hlt | hge
   ·rw [List.getElem?_append_left hlt] at hu
    exact hc0 j u hu
   ·rw [List.getElem?_append_right hge] at hu
    have := hc1 _ u hu
    have hl := d.len hk0
    rwa [show o + (n0 + 1) * d.sz + (j - c0.length) = o + n0 * d.sz + j from by rw [Nat.succ_mul]; omega] at this
 obtain ⟨cs, hr, hcells⟩ := key xs 0 (fun j x hj => by
  have := hc j x hj
  rwa [show 0 + j = j from by omega])
 refine ⟨cs, hr, _, _, rfl, fun j u hu => ?_⟩
 rw [← look_cell rfl]
 have := hcells j u hu
 rw [Nat.zero_mul, Nat.add_zero] at this
 exact him _ _ this

/-- What a value says that reads as a row. -/
def RowAt (I : Imm) (w : World) (c : TC) (l : List c.I) (y : Value) : Prop :=
 ∃ S cp, y = .slice S l.length cp ∧ l.length ≤ cp ∧ (l = [] ∨ ∃ g q cs, S = some ⟨g, q, none⟩ ∧ Reps c.ty I l cs ∧ ∀ j u, cs[j]? = some u → w.cell? ⟨g, q + j, none⟩ = some u)
theorem RowAt.nil {c : TC} {y : Value} (h : y = .slice none 0 0) : RowAt I w c [] y := ⟨none, 0, h, Nat.le_refl _, .inl rfl⟩
theorem RowAt.rd {c : TC} {l : List c.I} {A : Option Addr} {cp : Nat} (him : I.at_ w) (hl : l.length ≤ cp) (h : Rd c.ty I A l) : RowAt I w c l (.slice A l.length cp) := by
 refine ⟨A, cp, rfl, hl, ?_⟩
 by_cases hn : l = []
 ·exact .inl hn
 ·obtain ⟨cs, h1, g, q, h2, h3⟩ := rd_cells him h hn
  exact .inr ⟨g, q, cs, h2, h1, h3⟩
theorem RowAt.own {e : TypeId} {c : TC} {l : List c.I} {p : Pl} {cs : List Value} (hn : p.n = l.length) (ho : w.ownsRow 0 e c.sz (.slice p.A p.n p.c) l.length cs) (hr : Reps c.ty I l cs) : RowAt I w c l (.slice p.A p.n p.c) := by
 refine ⟨p.A, p.c, by rw [hn], ?_, ?_⟩
 ·rcases ho.2 with ⟨e1, h0⟩ | ⟨g, cap, cur, e1, _, _, hc, _⟩
  ·omega
  ·injection e1 with _ _ e3; omega
 ·rcases ho.2 with ⟨e1, h0⟩ | ⟨g, cap, cur, e1, _⟩
  ·exact .inl (List.length_eq_zero_iff.1 h0)
  ·injection e1 with e1 e2 e3
   refine .inr ⟨g, 0, cs, e1, hr, fun j u hu => ?_⟩
   rw [Nat.zero_add]
   rw [e1, hn] at ho
   rw [ho.cellAt j (by rw [← ho.1]; exact (List.getElem?_eq_some_iff.1 hu).1)]
   exact hu
theorem rowTr_ok {ρ : Type} {m : AMem} (h : SA B I π (lk m) w) {a : AC} {y : Value} (ha : relC π I a y) {k : (c : TC) → List c.I → Tr ρ} {r : ρ} {ws : AMem} {rs : List Nat} (hx : Tr.Ex m (rowTr a k) r ws rs) :
  ∃ c l rs', Tr.Ex m (k c l) r ws rs' ∧ RowAt I w c l y := by
 unfold rowTr at hx
 split at hx
 ·rename_i f c l
  obtain ⟨A, cp, rfl, h1, _, h2⟩ := ha
  exact ⟨c, l, _, hx, .rd h.im h1 h2⟩
 ·rename_i o
  obtain ⟨p, hp, rfl⟩ := ha
  cases hx with
  | look hx =>
   dsimp only at hx
   split at hx
   ·rename_i e c l ho
    obtain ⟨p', cs, h1, h2, h3, h4⟩ := atO_row h ho
    rw [hp] at h1
    injection h1 with h1
    subst h1
    exact ⟨c, l, _, hx, .own h2 h3 h4⟩
   ·rename_i c l ho
    obtain ⟨p', h1, h2, h3, h4⟩ := atO_frz h ho
    rw [hp] at h1
    injection h1 with h1
    subst h1
    refine ⟨c, l, _, hx, ?_⟩
    rw [h2]
    exact .rd h.im h3 h4
   ·cases hx
 ·cases hx
theorem RowAt.cast {a b : TC} {l : List a.I} {l' : List b.I} {y : Value} (h : RowAt I w a l y) (hc : TC.castL b l = some l') : RowAt I w b l' y := by
 obtain ⟨e, h1⟩ := TC.castL_eq hc
 subst e; subst h1
 exact h
theorem srcTr_ok {ρ : Type} {m : AMem} (h : SA B I π (lk m) w) {c : TC} {a : AC} {y : Value} (ha : relC π I a y) {k : List c.I → Tr ρ} {r : ρ} {ws : AMem} {rs : List Nat} (hx : Tr.Ex m (srcTr c a k) r ws rs) :
  ∃ l rs', Tr.Ex m (k l) r ws rs' ∧ RowAt I w c l y := by
 unfold srcTr at hx
 split at hx
 ·exact ⟨[], _, hx, .nil ha.1⟩
 ·obtain ⟨c', l, rs', h1, h2⟩ := rowTr_ok h ha hx
  split at h1
  ·rename_i l' hl
   exact ⟨l', _, h1, h2.cast hl⟩
  ·cases h1
theorem lenA_ok {m : AMem} (h : SA B I π (lk m) w) {t ty : TypeId} {a : AC} {y : Value} (ha : relC π I a y) {v : AV} {ws : AMem} {rs : List Nat} (hx : Tr.Ex m (lenA P t a) v ws rs) :
  ws = [] ∧ ∃ y', (Builtin.len_ #[t] ty #[y]).run P w = .ok y' w ∧ relV π I v y' := by
 unfold lenA at hx
 split at hx
 ·rename_i e hu
  split at hx
  ·cases hx
   obtain ⟨rfl, _⟩ := ha
   exact ⟨rfl, .int .i64 0, by simp [Builtin.len_, run_underlying hu, goInt], rfl, rfl⟩
  ·cases hx
   obtain ⟨p, g, _, _, rfl⟩ := ha
   exact ⟨rfl, .int .i64 _, by simp [Builtin.len_, run_underlying hu, goInt], rfl, rfl⟩
  ·obtain ⟨c, l, rs', h1, S, cp, rfl, _⟩ := rowTr_ok h ha hx
   cases h1
   exact ⟨rfl, .int .i64 l.length, by simp [Builtin.len_, run_underlying hu, goInt], rfl, rfl⟩
 ·rename_i hu
  split at hx
  ·rename_i s
   cases hx
   obtain ⟨rfl, _⟩ := ha
   exact ⟨rfl, .int .i64 s.size, by simp [Builtin.len_, run_underlying hu, goInt], rfl, rfl⟩
  ·cases hx
 ·cases hx

/-! ### appends -/
theorem room_spec {n b : Nat} (h : room n b = true) : n * b ≤ 140737488355328 ∧ n ≤ 9223372036854775807 := of_decide_eq_true h
theorem ownsRow_base {b : Nat} {e : TypeId} {sz n : Nat} {v : Value} {xs : List Value} (h : w.ownsRow b e sz v n xs) : w.ownsRow 0 e sz v n xs :=
 ⟨h.1, h.2.imp id fun ⟨g, cap, cur, h1, _, h2⟩ => ⟨g, cap, cur, h1, Nat.zero_le _, h2⟩⟩
theorem byT_info {t : TypeId} {n : Nat} (h : byT P t = some n) : ∃ i, P.info? t = some i ∧ i.bytes = n := by
 unfold byT at h
 split at h
 ·rename_i i hi
  injection h with h
  exact ⟨i, hi, h⟩
 ·cases h
theorem grownBy_refl (w : World) (r : Option Nat) : w.grownBy w r := ⟨rfl, rfl, rfl, Nat.le_refl _, fun _ _ _ => rfl⟩
/-- An append onto a row of the call's own. -/
theorem app_own {t ty e : TypeId} (hu : P.underlying t = some (.slice e)) {i : TypeInfo} (hi : P.info? e = some i) {z : Value} (hz : i.zero = some z) {c : TC} (hsz : i.size = c.sz) (hzs : z.cells.size = c.sz) (h0 : 0 < c.sz)
  {v : Value} {l l2 : List c.I} {cs : List Value} (ho : w.ownsRow 0 e c.sz v l.length cs) (hr : Reps c.ty I l cs) {y : Value} (hs : RowAt I w c l2 y) (hroom : room (l.length + l2.length) i.bytes = true) :
  ∃ v' w' cs', (Builtin.append_ #[t, t] ty #[v, y]).run P w = .ok v' w' ∧ w'.ownsRow 0 e c.sz v' (l ++ l2).length cs' ∧ Reps c.ty I (l ++ l2) cs' ∧ w.grownBy w' v.ownBlock ∧ (v'.ownBlock = v.ownBlock ∨ v'.ownBlock = some w.heap.size) := by
 obtain ⟨S, cp, rfl, hle, hcase⟩ := hs
 obtain ⟨hb1, hb2⟩ := room_spec hroom
 rcases hcase with rfl | ⟨g0, q0, news, rfl, hr2, hc0⟩
 ·have hv : ∃ A cap, v = .slice A l.length cap ∧ l.length ≤ cap := by
   rcases ho.2 with ⟨rfl, h1⟩ | ⟨g, cap, cur, rfl, _, _, h1, _⟩
   ·exact ⟨none, 0, by rw [h1], by omega⟩
   ·exact ⟨_, _, rfl, h1⟩
  obtain ⟨A, cap, rfl, hcap⟩ := hv
  refine ⟨_, w, cs, run_append_nothing w t t ty e i hu hi A l.length cap hcap _ (src_none hu S cp w), ?_, ?_, grownBy_refl _ _, .inl rfl⟩
  ·rw [List.append_nil]; exact ho
  ·rw [List.append_nil]; exact hr
 ·have hc : ∀ j u, news[j]? = some u → w.cell? ((⟨g0, q0, none⟩ : Addr).add j) = some u := fun j u hu => by rw [Addr.add_mid]; exact hc0 j u hu
  obtain ⟨v', w', h1, h2, h3, _, h4⟩ := run_append_own_at (P := P) w 0 t ty e i z c.sz i.bytes hu hi hz hsz rfl hzs h0 v l.length cs ho ⟨g0, q0, none⟩ l2.length cp news (by rw [hr2.len, c.ty_sz]) hc (fun u hu => hr2.one u hu) (by simp only [maxLen]; omega) hb1 (Nat.zero_le _)
  exact ⟨v', w', cs ++ news, h1, by rw [List.length_append]; exact h2, hr.append hr2, h3, h4⟩
/-- An append onto a full row that is read: a new row. -/
theorem app_rd (him : I.at_ w) {t ty e : TypeId} (hu : P.underlying t = some (.slice e)) {i : TypeInfo} (hi : P.info? e = some i) {z : Value} (hz : i.zero = some z) {c : TC} (hsz : i.size = c.sz) (hzs : z.cells.size = c.sz) (h0 : 0 < c.sz)
  {A : Option Addr} {l l2 : List c.I} (hr : Rd c.ty I A l) {y : Value} (hs : RowAt I w c l2 y) (hne : l2 ≠ []) (hroom : room (l.length + l2.length) i.bytes = true) :
  ∃ v' w' cs', (Builtin.append_ #[t, t] ty #[.slice A l.length l.length, y]).run P w = .ok v' w' ∧ w'.ownsRow 0 e c.sz v' (l ++ l2).length cs' ∧ Reps c.ty I (l ++ l2) cs' ∧ w.grownBy w' none ∧ ∀ k, v'.ownBlock = some k → w.heap.size ≤ k := by
 obtain ⟨S, cp, rfl, hle, hcase⟩ := hs
 obtain ⟨hb1, hb2⟩ := room_spec hroom
 obtain ⟨g0, q0, news, rfl, hr2, hc0⟩ := hcase.resolve_left hne
 have hc : ∀ j u, news[j]? = some u → w.cell? ((⟨g0, q0, none⟩ : Addr).add j) = some u := fun j u hu => by rw [Addr.add_mid]; exact hc0 j u hu
 have hl2 : 0 < l2.length := List.length_pos_iff.2 hne
 have fin : ∀ (olds : List Value) v' w', Reps c.ty I l olds → (Builtin.append_ #[t, t] ty #[.slice A l.length l.length, .slice (some ⟨g0, q0, none⟩) l2.length cp]).run P w = .ok v' w' → w'.ownsRow w.heap.size e c.sz v' (l.length + l2.length) (olds ++ news) → w.grownBy w' none →
   ∃ v' w' cs', (Builtin.append_ #[t, t] ty #[.slice A l.length l.length, .slice (some ⟨g0, q0, none⟩) l2.length cp]).run P w = .ok v' w' ∧ w'.ownsRow 0 e c.sz v' (l ++ l2).length cs' ∧ Reps c.ty I (l ++ l2) cs' ∧ w.grownBy w' none ∧ ∀ k, v'.ownBlock = some k → w.heap.size ≤ k := by
  intro olds v' w' k1 k2 k3 k4
  exact ⟨v', w', olds ++ news, k2, by rw [List.length_append]; exact ownsRow_base k3, k1.append hr2, k4, fun k hk => (k3.lt k hk).1⟩
 by_cases hn : l = []
 ·subst hn
  cases A with
  | none =>
   obtain ⟨v', w', k1, k2, k3, _⟩ := run_append_own_at (P := P) w w.heap.size t ty e i z c.sz i.bytes hu hi hz hsz rfl hzs h0 (.slice none 0 0) 0 [] (World.ownsRow_nil w _ e c.sz) ⟨g0, q0, none⟩ l2.length cp news (by rw [hr2.len, c.ty_sz]) hc (fun u hu => hr2.one u hu) (by simp only [maxLen]; simpa using hb2) (by simpa using hb1) (Nat.le_refl _)
   exact fin [] v' w' rfl k1 (by simpa using k2) k3
  | some b =>
   obtain ⟨v', w', k1, k2, k3⟩ := run_append_arg_grows (P := P) w t ty e i z c.sz i.bytes hu hi hz hsz rfl hzs h0 b 0 0 [] (by simp) (fun j u hj => by cases hj) ⟨g0, q0, none⟩ l2.length cp news (by rw [hr2.len, c.ty_sz]) hc (by omega) (by simp only [maxLen]; simpa using hb2) (by simpa using hb1)
   exact fin [] v' w' rfl k1 (by simpa using k2) k3
 ·obtain ⟨olds, hro, g1, q1, hb, hcells0⟩ := rd_cells him hr hn
  subst hb
  have hcells : ∀ j u, olds[j]? = some u → w.cell? ((⟨g1, q1, none⟩ : Addr).add j) = some u := fun j u hu => by rw [Addr.add_mid]; exact hcells0 j u hu
  obtain ⟨v', w', k1, k2, k3⟩ := run_append_arg_grows (P := P) w t ty e i z c.sz i.bytes hu hi hz hsz rfl hzs h0 ⟨g1, q1, none⟩ l.length l.length olds (by rw [hro.len, c.ty_sz]) hcells ⟨g0, q0, none⟩ l2.length cp news (by rw [hr2.len, c.ty_sz]) hc (by omega) (by simp only [maxLen]; omega) hb1
  exact fin olds v' w' hro k1 k2 k3
theorem appA_ok {m : AMem} (h : SA B I π (lk m) w) {t ty : TypeId} {d s : AC} {nb : Nat} {y1 y2 : Value} (h1 : relC π I d y1) (h2 : relC π I s y2) {v : AV} {ws : AMem} {rs : List Nat} (hx : Tr.Ex m (appA P t d s nb) v ws rs) :
  ∃ y w', (Builtin.append_ #[t, t] ty #[y1, y2]).run P w = .ok y w' ∧ Post B I π v (lk (ws ++ m)) y w' := by
 unfold appA at hx
 split at hx
 ·rename_i e hu
  split at hx
  ·rename_i c b z hc hb hz
   obtain ⟨i, zv, hi, hz1, rfl, hall⟩ := zeroT_spec hz
   obtain ⟨i', hi', hby⟩ := byT_info hb
   rw [hi] at hi'
   injection hi' with hi'
   subst hi'
   generalize hbb : (szT P e == some c.sz && Nat.blt 0 c.sz && Nat.beq (List.map AC.v zv.cells.toList).length c.sz) = bb at hx
   cases bb with
   | false => cases hx
   | true =>
   simp only [Bool.and_eq_true] at hbb
   obtain ⟨⟨hb1, hb2⟩, hb3⟩ := hbb
   have hsz : i.size = c.sz := by
    have := szT_info (P := P) (t := e) (n := c.sz) (by simpa using hb1)
    rw [hi] at this
    injection this
   have hb2 : 0 < c.sz := Nat.le_of_ble_eq_true hb2
   have hb3 := Nat.eq_of_beq_eq_true hb3
   rw [List.length_map, Array.length_toList] at hb3
   simp only [Bool.not_true, cond_false] at hx
   split at hx
   ·rename_i o
    obtain ⟨p, hp, rfl⟩ := h1
    cases hx with
    | look hx =>
     dsimp only at hx
     split at hx
     ·rename_i e' c' l ho
      cases hee : Nat.beq e e' with
      | false => rw [hee] at hx; cases hx
      | true =>
       rw [hee] at hx
       have hee := Nat.eq_of_beq_eq_true hee
       subst hee
       simp only [cond_true] at hx
       split at hx
       ·rename_i l' hl'
        obtain ⟨ec, hl''⟩ := TC.castL_eq hl'
        subst ec; subst hl''
        obtain ⟨l2, rs', hx', hrow⟩ := srcTr_ok h h2 hx
        generalize hroom : room (l.length + l2.length) b = rb at hx'
        cases hx' with
        | chk hx' =>
         obtain ⟨hnb, rs2, hx'⟩ := freshTr_inv hx'
         cases hx'
         obtain ⟨p', cs, h3, h4, h5, h6⟩ := atO_row h ho
         rw [hp] at h3
         injection h3 with h3
         subst h3
         obtain ⟨v', w', cs', k1, k2, k3, k4, k5⟩ := app_own (ty := ty) hu hi hz1 hsz hb3 hb2 h5 h6 hrow (by rw [hby]; exact hroom)
         obtain ⟨q, q1, q2, q3⟩ := h.grow ho hnb hp k2 k3 k4 k5
         refine ⟨v', w', k1, _, I, updP_le (h.dom nb hnb) q, Imm.le_refl _, ?_, q, updP_self _ _ _, q1⟩
         refine q3.congr (fun x => ?_)
         have hon : o ≠ nb := fun e1 => by rw [e1, hnb] at ho; cases ho
         show _ = lk ((o, .gone) :: (nb, .row e _ (l ++ l2)) :: m) x
         rw [lk_upd, lk_upd]
         unfold updM
         by_cases e1 : x = nb
         ·rw [if_pos e1, if_neg (fun e2 => hon (e2.symm.trans e1)), if_pos e1]
         ·rw [if_neg e1, if_neg e1]
       ·cases hx
     ·cases hx
   ·rename_i c' l
    obtain ⟨A, cp, rfl, _, hfull, hrd⟩ := h1
    have hcp := hfull rfl
    subst hcp
    split at hx
    ·rename_i l' hl'
     obtain ⟨ec, hl''⟩ := TC.castL_eq hl'
     subst ec; subst hl''
     obtain ⟨l2, rs', hx', hrow⟩ := srcTr_ok h h2 hx
     generalize hne : (!l2.isEmpty) = nb2 at hx'
     cases hx' with
     | chk hx' =>
     generalize hroom : room (l.length + l2.length) b = rb at hx'
     cases hx' with
     | chk hx' =>
      obtain ⟨hnb, rs2, hx'⟩ := freshTr_inv hx'
      cases hx'
      obtain ⟨v', w', cs', k1, k2, k3, k4, k5⟩ := app_rd h.im (ty := ty) hu hi hz1 hsz hb3 hb2 hrd hrow (fun e1 => by subst e1; simp at hne) (by rw [hby]; exact hroom)
      obtain ⟨q, q1, q2, q3⟩ := h.row hnb k2 k3 k4 k5
      refine ⟨v', w', k1, _, I, updP_le (h.dom nb hnb) q, Imm.le_refl _, ?_, q, updP_self _ _ _, q1⟩
      show SA B I _ (lk ((nb, .row e _ (l ++ l2)) :: m)) w'
      rw [lk_upd]
      exact q3
    ·cases hx
   ·obtain ⟨rfl, _⟩ := h1
    obtain ⟨l2, rs', hx', hrow⟩ := srcTr_ok h h2 hx
    generalize hroom : room l2.length b = rb at hx'
    cases hx' with
    | chk hx' =>
     obtain ⟨hnb, rs2, hx'⟩ := freshTr_inv hx'
     cases hx'
     obtain ⟨v', w', cs', k1, k2, k3, k4, k5⟩ := app_own (ty := ty) (l := []) hu hi hz1 hsz hb3 hb2 (World.ownsRow_nil w 0 e c.sz) rfl hrow (by rw [hby, List.length_nil, Nat.zero_add]; exact hroom)
     obtain ⟨q, q1, q2, q3⟩ := h.row hnb (l := l2) k2 k3 k4 (fun k hk => by
      rcases k5 with k5 | k5
      ·rw [hk] at k5; cases k5
      ·rw [hk] at k5; injection k5 with k5; omega)
     refine ⟨v', w', k1, _, I, updP_le (h.dom nb hnb) q, Imm.le_refl _, ?_, q, updP_self _ _ _, q1⟩
     show SA B I _ (lk ((nb, .row e c l2) :: m)) w'
     rw [lk_upd]
     exact q3
   ·cases hx
  ·cases hx
 ·cases hx

/-! ### rows made -/
theorem mkA_ok {m : AMem} (h : SA B I π (lk m) w) {t : TypeId} {kl kc : IntKind} {len cap : Int} {nb : Nat} {v : AV} {ws : AMem} {rs : List Nat} (hx : Tr.Ex m (mkA P t len cap nb) v ws rs) :
  ∃ y w', (Instr.makeSlice t (.int kl len) (.int kc cap)).run P w = .ok y w' ∧ Post B I π v (lk (ws ++ m)) y w' := by
 unfold mkA at hx
 split at hx
 ·rename_i e hu
  split at hx
  ·rename_i z b c hz hb hc
   obtain ⟨i, zv, hi, hz1, rfl, hall⟩ := zeroT_spec hz
   obtain ⟨i', hi', hby⟩ := byT_info hb
   rw [hi] at hi'
   injection hi' with hi'
   subst hi'
   generalize hbb : (szT P e == some c.sz && Nat.beq (List.map AC.v zv.cells.toList).length c.sz) = bb at hx
   cases bb with
   | false => cases hx
   | true =>
   simp only [Bool.and_eq_true] at hbb
   obtain ⟨hb1, hb3⟩ := hbb
   have hsz : i.size = c.sz := by
    have := szT_info (P := P) (t := e) (n := c.sz) (by simpa using hb1)
    rw [hi] at this
    injection this
   have hb3 := Nat.eq_of_beq_eq_true hb3
   rw [List.length_map, Array.length_toList] at hb3
   simp only [Bool.not_true, cond_false] at hx
   split at hx
   ·rename_i x hof
    generalize hle : decide (0 ≤ len ∧ len ≤ cap) = db at hx
    cases hx with
    | chk hx =>
    generalize hroom : room cap.toNat b = rb at hx
    cases hx with
    | chk hx =>
     obtain ⟨h0, h1⟩ := of_decide_eq_true hle
     obtain ⟨hr1, hr2⟩ := room_spec hroom
     obtain ⟨hnb, rs2, hx'⟩ := freshTr_inv hx
     cases hx'
     have hcap : cap = (cap.toNat : Int) := by omega
     have hrun := run_make (P := P) w t e i zv hu hi hz1 kl kc len cap h0 h1 (by
      rw [hcap, hby]
      have : ((b * cap.toNat : Nat) : Int) ≤ 140737488355328 := by rw [Nat.mul_comm]; omega
      rw [Int.natCast_mul] at this
      omega) (by omega)
     obtain ⟨c0, c1, hcc, hk, hnil⟩ := TC.ofCs_K (π := π) (I := I) hof (rl_v hall)
     have hc1 : c1 = [] := by
      cases c1 with
      | nil => rfl
      | cons _ _ => exact hnil.elim
     rw [hc1, List.append_nil] at hcc
     have hown : (w.alloc (.cells (madeCells zv.cells (cap.toNat * i.size)) e)).ownsRow 0 e c.sz (.slice (some ⟨w.heap.size, 0, none⟩) len.toNat cap.toNat) (List.replicate len.toNat x).length (repV zv.cells.toList len.toNat) := by
      rw [List.length_replicate]
      refine ⟨by rw [repV_len, Array.length_toList, hb3], .inr ⟨w.heap.size, cap.toNat, _, rfl, Nat.zero_le _, heap_alloc_new w _, by omega, by simp only [maxLen]; omega, by rw [size_madeCells, hsz], ?_⟩⟩
      rcases Nat.eq_zero_or_pos zv.cells.size with h6 | h6
      ·have h7 : c.sz = 0 := by omega
       have h8 : repV zv.cells.toList len.toNat = [] := List.length_eq_zero_iff.1 (by rw [repV_len, Array.length_toList, h6, Nat.mul_zero])
       rw [h7, h8]
       simp
      ·rw [hsz, ← hb3, repV_made _ _ h6]
       apply List.ext_getElem?
       intro j
       rw [List.getElem?_take]
       have hmul : len.toNat * zv.cells.size ≤ cap.toNat * zv.cells.size := Nat.mul_le_mul_right _ (by omega)
       by_cases hj : j < len.toNat * zv.cells.size
       ·rw [if_pos hj]
        simp only []
        rw [repV_get _ _ _ (by rw [Array.length_toList]; omega), repV_get _ _ _ (by rw [Array.length_toList]; exact hj)]
       ·rw [if_neg hj, List.getElem?_eq_none (by rw [repV_len, Array.length_toList]; omega)]
     obtain ⟨q, q1, q2, q3⟩ := h.row hnb hown (by rw [hcc]; exact Reps.rep hk _) (World.grownBy_alloc w _ none) (fun k hk => by
      injection hk with hk
      have hk : w.heap.size = k := hk
      omega)
     refine ⟨_, _, hrun, _, I, updP_le (h.dom nb hnb) q, Imm.le_refl _, ?_, q, updP_self _ _ _, q1⟩
     show SA B I _ (lk ((nb, .row e c (List.replicate len.toNat x)) :: m)) _
     rw [lk_upd]
     exact q3
   ·cases hx
  ·cases hx
 ·cases hx
end
end Go.Proofs.YtfecniimkgkmfaaGreat.AM
namespace Go.Proofs.YtfecniimkgkmfaaGreat.AM
open Go Go.RowKit Go.Proofs.YtfecniimkgkmfaaGreat.RW

section
variable {P : Program} {B : Base} {I : Imm} {π : Pi} {M : Nat → Option AObj} {w : World}

theorem rel_ac {a : AC} {y : Value} (h : relC π I a y) : relV π I (ac a) y := h
/-- What the code says of the kind of a value: a number of whichever kind. -/
def isInt (i : Int) (y : Value) : Prop := ∃ k, y = .int k i
def optInt : Option Int → Option Value → Prop
 | none, none => True
 | some i, some y => isInt i y
 | _, _ => False
theorem sub_len {α : Type} {l : List α} {lo hi : Int} (h0 : 0 ≤ lo) (h1 : lo ≤ hi) (h2 : hi ≤ (l.length : Int)) : ((l.take hi.toNat).drop lo.toNat).length = hi.toNat - lo.toNat := by
 rw [List.length_drop, List.length_take]; omega
theorem rd_part {c : TC} {l : List c.I} {A : Option Addr} {cap : Nat} (hrd : Rd c.ty I A l) (hcap : l.length ≤ cap) {lo hi : Int} (h0 : 0 ≤ lo) (h1 : lo ≤ hi) (h2 : hi ≤ (l.length : Int)) {mx : Nat} (hm : hi.toNat ≤ mx) (f : Bool) (hf : f = true → mx = hi.toNat) :
  relC π I (.rd f c ((l.take hi.toNat).drop lo.toNat)) (.slice (slA A lo.toNat mx c.sz) (hi.toNat - lo.toNat) (mx - lo.toNat)) := by
 have hl := sub_len (l := l) h0 h1 h2
 refine ⟨_, _, by rw [hl], by rw [hl]; omega, fun e => by rw [hl, hf e], ?_⟩
 by_cases hn : (l.take hi.toNat).drop lo.toNat = []
 ·rw [hn]; exact Rd.nil _ _ _
 ·have hlt : lo.toNat < hi.toNat := by
   have : 0 < ((l.take hi.toNat).drop lo.toNat).length := List.length_pos_iff.2 hn
   omega
  obtain ⟨g, o, rfl, hcell⟩ := hrd.2 (by rintro rfl; simp at hn)
  have hA : slA (some ⟨g, o, none⟩) lo.toNat mx c.sz = some ⟨g, o + lo.toNat * c.sz, none⟩ := by
   unfold slA
   rw [if_neg (by omega), Option.map_some, Addr.add_mid]
  rw [hA, ← c.ty_sz]
  exact Rd.drop (hrd.take _) _
theorem run_part {t e : TypeId} {sz : Nat} (hu : P.underlying t = some (.slice e)) (hz : (P.info? e).map (·.size) = some sz) {A : Option Addr} {n cap : Nat} (_ : n ≤ cap) {lo hi mx : Option Int} {ylo yhi ymx : Option Value} (h1 : optInt lo ylo) (h2 : optInt hi yhi) (h3 : optInt mx ymx) (hnm : mx ≠ none → hi ≠ none)
  (k0 : 0 ≤ lo.getD 0) (k1 : lo.getD 0 ≤ hi.getD n) (k2 : hi.getD n ≤ mx.getD cap) (k3 : mx.getD cap ≤ cap) (w : World) :
  (Instr.sliceAt t (.slice A n cap) ylo yhi ymx).run P w = .ok (.slice (slA A (lo.getD 0).toNat (mx.getD cap).toNat sz) ((hi.getD n).toNat - (lo.getD 0).toNat) ((mx.getD cap).toNat - (lo.getD 0).toNat)) w := by
 obtain ⟨inf, hi', hsz⟩ := Option.map_eq_some_iff.1 hz
 obtain ⟨hu1, he⟩ := elem_of hu
 have h63 : ∀ x : Nat, ((x : Int)).toNat = x := fun x => Int.toNat_natCast x
 cases lo with
 | none =>
  cases ylo with
  | some _ => exact h1.elim
  | none =>
  cases hi with
  | none =>
   cases yhi with
   | some _ => exact h2.elim
   | none =>
   cases mx with
   | some _ => exact absurd rfl (hnm (by simp))
   | none =>
   cases ymx with
   | some _ => exact h3.elim
   | none =>
   simp only [Option.getD_none, h63] at *
   rw [run_sliceAt_slice w t _ _ _ _ hu1, run_slice_all w t A n cap hu1, he]
   simp only [sizeOf, typeInfo, Sem.run_bind, Result.andThen]
   simp [hi', hsz, sliced, slA]
  | some hi =>
   cases yhi with
   | none => exact h2.elim
   | some yhi =>
   obtain ⟨kh, rfl⟩ := h2
   cases mx with
   | none =>
    cases ymx with
    | some _ => exact h3.elim
    | none =>
    simp only [Option.getD_none, Option.getD_some, h63] at *
    rw [run_sliceAt_slice w t _ _ _ _ hu1, run_slice_h w t A n cap hu1 kh hi (by omega) (by omega), he]
    simp only [sizeOf, typeInfo, Sem.run_bind, Result.andThen]
    simp [hi', hsz, sliced, slA]
   | some mx =>
    cases ymx with
    | none => exact h3.elim
    | some ymx =>
    obtain ⟨km, rfl⟩ := h3
    simp only [Option.getD_none, Option.getD_some] at *
    rw [run_sliceAt_slice w t _ _ _ _ hu1, run_slice_hm w t A n cap hu1 kh km hi mx (by omega) (by omega) (by omega), he]
    simp only [sizeOf, typeInfo, Sem.run_bind, Result.andThen]
    simp [hi', hsz, sliced, slA]
 | some lo =>
  cases ylo with
  | none => exact h1.elim
  | some ylo =>
  obtain ⟨kl, rfl⟩ := h1
  cases hi with
  | none =>
   cases yhi with
   | some _ => exact h2.elim
   | none =>
   cases mx with
   | some _ => exact absurd rfl (hnm (by simp))
   | none =>
   cases ymx with
   | some _ => exact h3.elim
   | none =>
   simp only [Option.getD_none, Option.getD_some, h63] at *
   rw [run_sliceAt_slice w t _ _ _ _ hu1, run_slice_l w t A n cap hu1 kl lo (by omega) (by omega), he]
   simp only [sizeOf, typeInfo, Sem.run_bind, Result.andThen]
   simp [hi', hsz, sliced, slA]
  | some hi =>
   cases yhi with
   | none => exact h2.elim
   | some yhi =>
   obtain ⟨kh, rfl⟩ := h2
   cases mx with
   | none =>
    cases ymx with
    | some _ => exact h3.elim
    | none =>
    simp only [Option.getD_none, Option.getD_some, h63] at *
    rw [run_sliceAt_slice w t _ _ _ _ hu1, run_slice_lh w t A n cap hu1 kl kh lo hi (by omega) (by omega) (by omega), he]
    simp only [sizeOf, typeInfo, Sem.run_bind, Result.andThen]
    simp [hi', hsz, sliced, slA]
   | some mx =>
    cases ymx with
    | none => exact h3.elim
    | some ymx =>
    obtain ⟨km, rfl⟩ := h3
    simp only [Option.getD_some] at *
    rw [run_sliceAt_slice w t _ _ _ _ hu1, run_slice_lhm w t A n cap hu1 kl kh km lo hi mx (by omega) (by omega) (by omega) (by omega), he]
    simp only [sizeOf, typeInfo, Sem.run_bind, Result.andThen]
    simp [hi', hsz, sliced, slA]
theorem subTr_ok {m : AMem} {t e : TypeId} {c : TC} {l : List c.I} {fz : AMem} {lo hi mx : Option Int} {v : AV} {ws : AMem} {rs : List Nat} (hx : Tr.Ex m (subTr c l fz lo hi mx) v ws rs) (hu : P.underlying t = some (.slice e)) (hz : (P.info? e).map (·.size) = some c.sz)
  {A : Option Addr} {cap : Nat} (hrd : Rd c.ty I A l) (hcap : l.length ≤ cap) {ylo yhi ymx : Option Value} (h1 : optInt lo ylo) (h2 : optInt hi yhi) (h3 : optInt mx ymx) :
  ws = fz ∧ ∃ y, (Instr.sliceAt t (.slice A l.length cap) ylo yhi ymx).run P w = .ok y w ∧ relV π I v y := by
 have all_ : ∀ l : List c.I, l = (l.take ((l.length : Int)).toNat).drop (0 : Int).toNat := fun l => by simp
 unfold subTr at hx
 split at hx
 ·cases hx
  have hp := rd_part (π := π) hrd hcap (lo := 0) (hi := l.length) (Int.le_refl _) (by omega) (Int.le_refl _) (mx := cap) (by omega) false (fun e => by cases e)
  rw [← all_ l] at hp
  exact ⟨rfl, _, run_part hu hz hcap h1 h2 h3 (fun h => absurd rfl h) (by simp) (by simp) (by simp; omega) (by simp) w, rel_ac (by simpa using hp)⟩
 ·rename_i lo
  generalize hb : inb lo (l.length + 1) = b at hx
  cases hx with
  | chk hx =>
  cases hx
  obtain ⟨b0, b1⟩ := inb_spec hb
  have hp := rd_part (π := π) hrd hcap (lo := lo) (hi := l.length) b0 (by omega) (Int.le_refl _) (mx := cap) (by omega) false (fun e => by cases e)
  rw [show (l.take ((l.length : Int)).toNat) = l by simp] at hp
  exact ⟨rfl, _, run_part hu hz hcap h1 h2 h3 (fun h => absurd rfl h) (by simpa using b0) (by simp; omega) (by simp; omega) (by simp) w, rel_ac (by simpa using hp)⟩
 ·rename_i hi
  generalize hb : inb hi (l.length + 1) = b at hx
  cases hx with
  | chk hx =>
  cases hx
  obtain ⟨b0, b1⟩ := inb_spec hb
  have hp := rd_part (π := π) hrd hcap (lo := 0) (hi := hi) (Int.le_refl _) b0 (by omega) (mx := cap) (by omega) false (fun e => by cases e)
  exact ⟨rfl, _, run_part hu hz hcap h1 h2 h3 (fun h => absurd rfl h) (by simp) (by simpa using b0) (by simp; omega) (by simp) w, rel_ac (by simpa using hp)⟩
 ·rename_i lo hi
  generalize hb : inb hi (l.length + 1) = b at hx
  cases hx with
  | chk hx =>
  generalize hb2 : inb lo (hi.toNat + 1) = b at hx
  cases hx with
  | chk hx =>
  cases hx
  obtain ⟨b0, b1⟩ := inb_spec hb
  obtain ⟨b2, b3⟩ := inb_spec hb2
  have hp := rd_part (π := π) hrd hcap (lo := lo) (hi := hi) b2 (by omega) (by omega) (mx := cap) (by omega) false (fun e => by cases e)
  exact ⟨rfl, _, run_part hu hz hcap h1 h2 h3 (fun h => absurd rfl h) (by simpa using b2) (by simp; omega) (by simp; omega) (by simp) w, rel_ac (by simpa using hp)⟩
 ·rename_i hi mx
  generalize hd : decide (hi = mx) = b at hx
  cases hx with
  | chk hx =>
  generalize hb : inb hi (l.length + 1) = b at hx
  cases hx with
  | chk hx =>
  cases hx
  have hd := of_decide_eq_true hd
  subst hd
  obtain ⟨b0, b1⟩ := inb_spec hb
  have hp := rd_part (π := π) hrd hcap (lo := 0) (hi := hi) (Int.le_refl _) b0 (by omega) (mx := hi.toNat) (Nat.le_refl _) true (fun _ => rfl)
  exact ⟨rfl, _, run_part hu hz hcap h1 h2 h3 (fun _ h => by cases h) (by simp) (by simpa using b0) (by simp) (by simp; omega) w, rel_ac (by simpa using hp)⟩
 ·rename_i lo hi mx
  generalize hd : decide (hi = mx) = b at hx
  cases hx with
  | chk hx =>
  generalize hb : inb hi (l.length + 1) = b at hx
  cases hx with
  | chk hx =>
  generalize hb2 : inb lo (hi.toNat + 1) = b at hx
  cases hx with
  | chk hx =>
  cases hx
  have hd := of_decide_eq_true hd
  subst hd
  obtain ⟨b0, b1⟩ := inb_spec hb
  obtain ⟨b2, b3⟩ := inb_spec hb2
  have hp := rd_part (π := π) hrd hcap (lo := lo) (hi := hi) b2 (by omega) (by omega) (mx := hi.toNat) (Nat.le_refl _) true (fun _ => rfl)
  exact ⟨rfl, _, run_part hu hz hcap h1 h2 h3 (fun _ h => by cases h) (by simpa using b2) (by simp; omega) (by simp) (by simp; omega) w, rel_ac (by simpa using hp)⟩
 ·cases hx
theorem slcA_ok {m : AMem} (h : SA B I π (lk m) w) {t : TypeId} {a : AC} {y : Value} (ha : relC π I a y) {lo hi mx : Option Int} {ylo yhi ymx : Option Value} (h1 : optInt lo ylo) (h2 : optInt hi yhi) (h3 : optInt mx ymx) {v : AV} {ws : AMem} {rs : List Nat} (hx : Tr.Ex m (slcA P t a lo hi mx) v ws rs) :
  ∃ y' J, (Instr.sliceAt t y ylo yhi ymx).run P w = .ok y' w ∧ I.le J ∧ SA B J π (lk (ws ++ m)) w ∧ relV π J v y' := by
 unfold slcA at hx
 split at hx
 ·rename_i e hu
  split at hx
  ·rename_i f c l
   obtain ⟨A, cp, rfl, hle, _, hrd⟩ := ha
   generalize hz : (szT P e == some c.sz) = z at hx
   cases z with
   | false => cases hx
   | true =>
   simp only [cond_true] at hx
   obtain ⟨rfl, y', k1, k2⟩ := subTr_ok (w := w) (π := π) hx hu (szT_info (by simpa using hz)) hrd hle h1 h2 h3
   exact ⟨y', I, k1, Imm.le_refl _, h, k2⟩
  ·rename_i o
   cases hx with
   | look hx =>
    dsimp only at hx
    split at hx
    ·rename_i e' c l ho
     generalize hz : (szT P e == some c.sz) = z at hx
     cases z with
     | false => cases hx
     | true =>
     simp only [cond_true] at hx
     obtain ⟨J, hJ, hs, _⟩ := freeze1 (fz := []) h (FzOk.nil m) ho
     obtain ⟨p, hp, rfl⟩ := ha
     obtain ⟨p', q1, q2, q3, q4⟩ := atO_frz hs (o := o) (c := c) (l := l) (by rw [List.cons_append, lk_cons, if_pos rfl])
     rw [hp] at q1
     injection q1 with q1
     subst q1
     rw [q2]
     obtain ⟨rfl, y', k1, k2⟩ := subTr_ok (w := w) (π := π) hx hu (szT_info (by simpa using hz)) q4 q3 h1 h2 h3
     exact ⟨y', J, k1, hJ, hs, k2⟩
    ·rename_i c l ho
     generalize hz : (szT P e == some c.sz) = z at hx
     cases z with
     | false => cases hx
     | true =>
     simp only [cond_true] at hx
     obtain ⟨p, hp, rfl⟩ := ha
     obtain ⟨p', q1, q2, q3, q4⟩ := atO_frz h ho
     rw [hp] at q1
     injection q1 with q1
     subst q1
     rw [q2]
     obtain ⟨rfl, y', k1, k2⟩ := subTr_ok (w := w) (π := π) hx hu (szT_info (by simpa using hz)) q4 q3 h1 h2 h3
     exact ⟨y', I, k1, Imm.le_refl _, h, k2⟩
    ·cases hx
  ·cases hx
 ·cases hx

/-! ### conversions -/
theorem byteT_spec {t : TypeId} (h : byteT P t = true) : P.underlying t = some (.int .u8) := by
 unfold byteT at h
 split at h
 ·assumption
 ·cases h
theorem SA.got (h : SA B I π M w) {J : Imm} {w' : World} (g : Got w w' I J []) : SA B J π M w' :=
 h.step (fun _ => False) (Pi.le_refl _) g.le g.evo.os g.evo.tape g.evo.output g.evo.size (fun k hk _ => g.evo.blk k hk (fun f => f)) (fun _ _ => rfl) (fun o _ ho => h.dom o ho) (fun _ f => f.elim) (fun _ f => f.elim) (fun _ f => f.elim) (fun _ _ f => f.elim)
  g.im (fun a v ha => (g.inew a v ha).imp id .inr) (fun _ _ _ _ f => f.elim)
theorem toString_ok {src dst e : TypeId} (hs : P.underlying src = some (.slice e)) (he : P.underlying e = some (.int .u8)) (hd : P.underlying dst = some .string) {l : List Int} {y : Value} (h : RowAt I w (.int .u8) l y) :
  (convert src dst y).run P w = .ok (.string (strOfNums l)) w := by
 obtain ⟨S, cp, rfl, hle, hcase⟩ := h
 rcases hcase with rfl | ⟨g, o, cs, rfl, hr, hc⟩
 ·show (convert src dst (.slice S 0 cp)).run P w = _
  rw [run_convert_bytes_string w src dst e _ _ cp hs he hd]
  cases S <;> simp [Conv.bytesToString, loadCells, loadCellsFrom] <;> rfl
 ·have hcs : ∀ (l : List Int) (cs : List Value), Reps (Ty.int .u8) I l cs → cs = l.map (Value.int .u8) := by
   intro l
   induction l with
   | nil => intro cs h; exact h
   | cons x l ih =>
    rintro cs ⟨c0, c1, rfl, h0, h1⟩
    have h0 : c0 = [.int .u8 x] := h0
    rw [h0, ih c1 h1]
    rfl
  have := hcs l cs hr
  subst this
  refine run_convert_bytes_arg w src e hs he g o _ cp l rfl (fun i hi => ?_) dst hd
  rw [hc i (.int .u8 l[i]) (by simp [hi]), List.getD_eq_getElem?_getD, List.getElem?_eq_getElem hi]
  rfl
theorem convA_ok {m : AMem} (h : SA B I π (lk m) w) {sl : Operand → Option AV} {ρ : Operand → Value} {o : Oper} {src dst : TypeId} {x : Operand} (ho : o.op = .convert src dst x) (hx0 : ∀ av, sl x = some av → relV π I av (ρ x))
  {v : AV} {ws : AMem} {rs : List Nat} (hscal : Tr.Ex m (scalA P sl o) v ws rs → Does P (execOp ρ o) w (Post B I π v (lk (ws ++ m)))) (hx : Tr.Ex m (convA P sl o src dst x) v ws rs) : Does P (execOp ρ o) w (Post B I π v (lk (ws ++ m))) := by
 have hex : execOp ρ o = toNext (convert src dst (ρ x)) := by unfold execOp; rw [ho]; rfl
 have hof : ∀ a, ofAC (sl x) = some a → relC π I a (ρ x) := fun a ha => by
  unfold ofAC at ha
  split at ha
  ·rename_i a' hs
   injection ha with ha
   subst ha
   exact hx0 _ hs
  ·cases ha
 unfold convA at hx
 split at hx
 ·rename_i e a hs hd ha
  generalize hb : byteT P e = b at hx
  cases b with
  | false => cases hx
  | true =>
  simp only [cond_true] at hx
  obtain ⟨c, l, rs', h1, h2⟩ := rowTr_ok h (hof _ ha) hx
  split at h1
  ·rename_i l' hl
   cases h1
   rw [hex]
   exact Does.val (toString_ok hs (byteT_spec hb) hd (h2.cast hl)) (Post.here h ⟨rfl, rfl⟩)
  ·cases h1
 ·rename_i e s hs hd ha
  generalize hb : byteT P e = b at hx
  cases b with
  | false => cases hx
  | true =>
  simp only [cond_true] at hx
  generalize hq : decide (s.size ≤ 9223372036854775807) = q at hx
  cases hx with
  | chk hx =>
  cases hx
  obtain ⟨hy, _⟩ := hof _ ha
  refine RW.Does.mono ?_ (Does.toBytes (P := P) h.im hs hd (byteT_spec hb) (of_decide_eq_true hq) (by rw [hex, hy]))
  rintro y w' ⟨J, cap, rfl, hg, hle, hrd⟩
  exact ⟨π, J, Pi.le_refl _, hg.le, h.got hg, _, _, rfl, hle, (fun e => by cases e), hrd⟩
 ·exact hscal hx

/-! ### what the machine does itself -/
theorem scalA_ok {m : AMem} (h : SA B I π (lk m) w) {sl : Operand → Option AV} {ρ : Operand → Value} {o : Oper} (hsl : ∀ x ∈ o.op.operands, ∀ av, sl x = some av → relV π I av (ρ x))
  {v : AV} {ws : AMem} {rs : List Nat} (hx : Tr.Ex m (scalA P sl o) v ws rs) : Does P (execOp ρ o) w (Post B I π v (lk (ws ++ m))) := by
 unfold scalA at hx
 generalize hb : (noSelect o.op && o.op.operands.toList.all fun x => ((sl x).bind exact).isSome) = b at hx
 cases b with
 | false => cases hx
 | true =>
 simp only [cond_true] at hx
 rw [Bool.and_eq_true, List.all_eq_true] at hb
 have hcong : execOp ρ o = execOp (fun x => ((sl x).bind exact).getD undef) o := by
  refine execOp_congr o (fun cs b e => by have := hb.1; rw [e] at this; simp [noSelect] at this) (fun x hxo => ?_)
  obtain ⟨y, hy⟩ := Option.isSome_iff_exists.1 (hb.2 x (by simpa using hxo))
  obtain ⟨av, h1, h2⟩ := Option.bind_eq_some_iff.1 hy
  rw [hy]
  exact exact_rel h2 (hsl x hxo av h1)
 rw [hcong]
 split at hx
 ·rename_i y es hsim
  generalize hok : okV y = q at hx
  cases q with
  | false => cases hx
  | true =>
  cases hx
  exact .inl ⟨y, w, .inl (simQ_any _ _ _ _ hsim w), Post.here h (rel_back hok)⟩
 ·rename_i es hsim
  cases hx
  exact .inl ⟨undef, w, .inr ⟨simQ_any _ _ _ _ hsim w, rfl⟩, Post.here h ⟨[], rfl, trivial⟩⟩
 ·cases hx
end
end Go.Proofs.YtfecniimkgkmfaaGreat.AM
