/- The law LedgerIndependence of the package armillarylaw28 returns true at every input and leaves its arguments as they are; no conditions. -/
import Derived.Test.YtiomeaoeegikkaaDoorY2
import Derived.Test.YtiomeaoeegikkaaDoorY3
import Derived.Test.YtiomeaoeegikkaaDoorY5
import Derived.Test.YtiomeaoeegikkaaDoorY6
import Derived.Test.YtiomeaoeegikkaaDoorY4
import Derived.Test.YtiomeaoeegikkaaDoorRows
import Derived.Test.YtiomeaoeegikkaaDoorCards
import Derived.Test.YtiomeaoeegikkaaDoorTie
import Derived.SevenTiedAt
import Derived.WalkKit
import Derived.ProofKit
import Derived.OpenShut
import Derived.ShutString
import Derived.ChangeOld
import Derived.Below
import Derived.Carry
import Derived.WideShapes
namespace Go.Proofs.YtiomeaoeegikkaaDoor.RW
open Go Go.RowKit

section
variable {P : Program} {A : Fr} {K : List (Nat × Value)} {Q : Exit → Act → World → Prop} {c : Code} {B : Base} {I : Imm} {nx : Nat} {L : List Blk} {X : List Res} {os : List Oper} {p : Nat}
theorem lk_hit {α : Type} {y : Nat × α} : ∀ (l : List (Nat × α)), y ∈ l → (lk l y.1).isSome = true := by
 intro l
 induction l with
 | nil => intro h; cases h
 | cons z l ih =>
  intro h
  obtain ⟨j, g⟩ := z
  simp only [lk]
  cases hb : Nat.beq j y.1 with
  | true => rfl
  | false =>
   rcases List.mem_cons.1 h with rfl | h
   ·rw [beq_self] at hb; cases hb
   ·exact ih h
theorem fs_other {D : Nat → Bool} {u : Nat → Wt} {i : Nat} {x : Wt} {J : Imm} : ∀ {ld : List Ld}, (∀ l ∈ ld, l.i ≠ i) → fs ld D u J → fs ld (dset D i) (upd u i x) J
 | [], _, _ => trivial
 | l :: r, h, f => by
  have h1 := h l List.mem_cons_self
  refine ⟨?_, fs_other (fun l' hl' => h l' (List.mem_cons_of_mem _ hl')) f.2⟩
  rw [dset_ne _ h1, upd_ne _ _ h1]
  exact f.1
theorem fs_zero {u : Nat → Wt} {J : Imm} : ∀ {ld : List Ld}, fs ld (fun _ => false) u J
 | [] => trivial
 | _ :: _ => ⟨fun h => (by cases h), fs_zero⟩
/-- What holds in between: what came in one order, and the literals' facts. -/
def SB (B : Base) (I : Imm) (L : List Blk) (ch : List (Nat × (Wt → Value))) (lt : List Ld) (Xs : Nat → (Nat → Wt) → List Res) (Fs : Nat → (Nat → Wt) → Imm → Prop) (D : Nat → Bool) (u : Nat → Wt) (w : World) : Prop :=
 ∃ a b, ch = a ++ b ∧ (∀ p ∈ a, D p.1 = true) ∧ (∀ p ∈ b, D p.1 = false) ∧ ∃ J, I.le J ∧ Sat B J w.heap.size L (Xs a.length u) w ∧ Fs a.length u J ∧ fs lt D u J
def StepsB (P : Program) (os : List Oper) (an : List Nat) (B : Base) (I : Imm) (L : List Blk) (vl : List (Nat × (Wt → Value))) (lt : List Ld) (Xs : Nat → (Nat → Wt) → List Res) (Fs : Nat → (Nat → Wt) → Imm → Prop) : Nat → List (Nat × (Wt → Value)) → List ((Nat → Wt) → List (Nat × Value)) → Prop
 | _, [], _ => True
 | _, _ :: _, [] => False
 | q, (i, f) :: r, Kl :: Ks => (∀ D u w J, (∀ j, behind an i j = true → (lk vl j).isSome = true → D j = true) → I.le J → Sat B J w.heap.size L (Xs q u) w → Fs q u J → fs lt D u J →
   Does P (execOp (evalK (Kl u)) (os.getD i default)) w (fun v w' => ∃ x, v = f x ∧ ∃ J', J.le J' ∧ Sat B J' w'.heap.size L (Xs (q + 1) (upd u i x)) w' ∧ Fs (q + 1) (upd u i x) J')) ∧ StepsB P os an B I L vl lt Xs Fs (q + 1) r Ks
section
variable {an : List Nat} {vl : List (Nat × (Wt → Value))} {lt : List Ld} {Xs : Nat → (Nat → Wt) → List Res} {Fs : Nat → (Nat → Wt) → Imm → Prop}
theorem StepsB.nil {q : Nat} : StepsB P os an B I L vl lt Xs Fs q [] [] := trivial
theorem StepsB.cons {q i : Nat} {f : Wt → Value} {r : List (Nat × (Wt → Value))} {Kl : (Nat → Wt) → List (Nat × Value)} {Ks : List ((Nat → Wt) → List (Nat × Value))}
  (h : ∀ D u w J, (∀ j, behind an i j = true → (lk vl j).isSome = true → D j = true) → I.le J → Sat B J w.heap.size L (Xs q u) w → Fs q u J → fs lt D u J →
   Does P (execOp (evalK (Kl u)) (os.getD i default)) w (fun v w' => ∃ x, v = f x ∧ ∃ J', J.le J' ∧ Sat B J' w'.heap.size L (Xs (q + 1) (upd u i x)) w' ∧ Fs (q + 1) (upd u i x) J'))
  (h2 : StepsB P os an B I L vl lt Xs Fs (q + 1) r Ks) : StepsB P os an B I L vl lt Xs Fs q ((i, f) :: r) (Kl :: Ks) := ⟨h, h2⟩
end
def LitsB (P : Program) (os : List Oper) (B : Base) (I : Imm) (L : List Blk) : List Ld → List ((Nat → Wt) → List (Nat × Value)) → Prop
 | [], _ => True
 | _ :: _, [] => False
 | l :: r, Kl :: Ks => (∀ u w J X, I.le J → Sat B J w.heap.size L X w → Does P (execOp (evalK (Kl u)) (os.getD l.i default)) w (fun v w' => ∃ x, v = l.val x ∧ ∃ J', J.le J' ∧ Sat B J' w'.heap.size L X w' ∧ l.F x J')) ∧ LitsB P os B I L r Ks
theorem LitsB.nil : LitsB P os B I L [] [] := trivial
theorem LitsB.cons {l : Ld} {r : List Ld} {Kl : (Nat → Wt) → List (Nat × Value)} {Ks : List ((Nat → Wt) → List (Nat × Value))} (h : ∀ u w J X, I.le J → Sat B J w.heap.size L X w → Does P (execOp (evalK (Kl u)) (os.getD l.i default)) w (fun v w' => ∃ x, v = l.val x ∧ ∃ J', J.le J' ∧ Sat B J' w'.heap.size L X w' ∧ l.F x J'))
  (h2 : LitsB P os B I L r Ks) : LitsB P os B I L (l :: r) (Kl :: Ks) := ⟨h, h2⟩

theorem sb_chain {an : List Nat} {ch : List (Nat × (Wt → Value))} {lt : List Ld} {Xs : Nat → (Nat → Wt) → List Res} {Fs : Nat → (Nat → Wt) → Imm → Prop} (hch : chainOk an (ch.map (·.1)) = true) (hne : ∀ p ∈ ch, ∀ l ∈ lt, l.i ≠ p.1) : ∀ (r pre : List (Nat × (Wt → Value))) (Ks Kr : List ((Nat → Wt) → List (Nat × Value))) (rest : List (Nat × (Wt → Value))), ch = pre ++ r →
  StepsB P os an B I L (ch ++ Ld.vl lt) lt Xs Fs pre.length r Ks → Louds P os an (ch ++ Ld.vl lt) (SB B I L ch lt Xs Fs) rest Kr → Ks.length = r.length → Louds P os an (ch ++ Ld.vl lt) (SB B I L ch lt Xs Fs) (r ++ rest) (Ks ++ Kr)
 | [], _, [], _, _, _, _, hr, _ => hr
 | [], _, _ :: _, _, _, _, _, _, hl => by cases hl
 | _ :: _, _, [], _, _, _, h, _, _ => h.elim
 | (i, f) :: r, pre, Kl :: Ks, Kr, rest, e, h, hr, hl => by
  refine ⟨fun D u w hD hp hS => ?_, sb_chain hch hne r (pre ++ [(i, f)]) Ks Kr rest (by simp [e]) (by simpa using h.2) hr (by simpa using hl)⟩
  obtain ⟨a, b, e2, ha, hb, J, hJ, hs, hF, hf⟩ := hS
  have hcg := chain_get (an := an) (pre := pre) (x := (i, f)) (r := r) (by rw [← e]; exact hch)
  have hpre : ∀ p ∈ pre, D p.1 = true := fun p hpp => hp p.1 (hcg.1 p hpp).1 (lk_append (lk_hit ch (by rw [e]; exact List.mem_append_left _ hpp)))
  obtain ⟨rfl, rfl⟩ := sk_split (x := (i, f)) hD pre a b r (by rw [← e, e2]) hpre ha hb
  refine (h.1 D u w J hp hJ hs hF hf).mono ?_
  rintro v w' ⟨x, rfl, J', hJ', hs', hF'⟩
  refine ⟨x, rfl, a ++ [(i, f)], r, by simp [e], fun p hpp => ?_, fun p hpp => ?_, J', Imm.le_trans hJ hJ', by simpa using hs', by simpa using hF', fs_other (fun l hl' => ?_) (fs.ext hJ' hf)⟩
  ·rcases List.mem_append.1 hpp with hpp | hpp
   ·exact dset_true (ha p hpp)
   ·rw [List.mem_singleton.1 hpp]; exact dset_self D i
  ·rw [dset_ne D (hcg.2 p hpp)]
   exact hb p (List.mem_cons_of_mem _ hpp)
  ·exact hne (i, f) (by rw [e]; exact List.mem_append_right _ List.mem_cons_self) l hl'
theorem sb_lits {an : List Nat} {ch : List (Nat × (Wt → Value))} {lt : List Ld} {Xs : Nat → (Nat → Wt) → List Res} {Fs : Nat → (Nat → Wt) → Imm → Prop} (hne : ∀ p ∈ ch, ∀ l ∈ lt, l.i ≠ p.1) (hn : nodupN (lt.map (·.i)) = true)
  (hX : ∀ l ∈ lt, ∀ q u x, Xs q (upd u l.i x) = Xs q u) (hF : ∀ l ∈ lt, ∀ q u x J J', J.le J' → Fs q u J → Fs q (upd u l.i x) J') : ∀ (r : List Ld) (Ks : List ((Nat → Wt) → List (Nat × Value))), (∀ l ∈ r, l ∈ lt) → LitsB P os B I L r Ks → Louds P os an (ch ++ Ld.vl lt) (SB B I L ch lt Xs Fs) (Ld.vl r) Ks
 | [], _, _, _ => trivial
 | _ :: _, [], _, h => h.elim
 | l :: r, Kl :: Ks, hm, h => by
  have hl := hm l List.mem_cons_self
  refine ⟨fun D u w hD hp hS => ?_, sb_lits hne hn hX hF r Ks (fun l' h' => hm l' (List.mem_cons_of_mem _ h')) h.2⟩
  obtain ⟨a, b, e2, ha, hb, J, hJ, hs, hFs, hf⟩ := hS
  refine (h.1 u w J _ hJ hs).mono ?_
  rintro v w' ⟨x, rfl, J', hJ', hs', hF'⟩
  refine ⟨x, rfl, a, b, e2, fun p hpp => dset_true (ha p hpp), fun p hpp => ?_, J', Imm.le_trans hJ hJ', by rw [hX l hl]; exact hs', hF l hl _ _ _ _ _ hJ' hFs, fs_set hn hl (fs.ext hJ' hf) hF'⟩
  rw [dset_ne D (fun e => hne p (by rw [e2]; exact List.mem_append_right _ hpp) l hl e.symm)]
  exact hb p hpp
theorem OK.drawnB (id t : Nat) (os : List Oper) (an : List Nat) (h : c = .region id os.toArray true) (hm : P.follows .mixedOrders = true) (ch : List (Nat × (Wt → Value))) (lt : List Ld) (gl : List (Nat × ((Nat → Wt) → Value))) (Xs : Nat → (Nat → Wt) → List Res) (Fs : Nat → (Nat → Wt) → Imm → Prop) (R : List (Addr × Value)) (hR : RI B I L [] R) (locs : List Loc)
  (han : ancs os [] = an) (hok : drawOk os an t = true) (hlt : ((ch ++ Ld.vl lt).all fun p => decide (p.1 < t)) = true) (hch : chainOk an (ch.map (·.1)) = true) (hn : nodupN (lt.map (·.i)) = true) (hne : (ch.all fun p => lt.all fun l => !Nat.beq l.i p.1) = true) (vs : (Nat → Wt) → List Value) (K' : (Nat → Wt) → List (Nat × Value))
  (hv : ∀ u, (qSim P R L os A (ch ++ Ld.vl lt) gl u locs 0 (os.take t) K).map (fun x => (x.1, x.2.1)) = some (vs u, K' u))
  (he : ∀ u, (qSim P R L os A (ch ++ Ld.vl lt) gl u locs 0 (os.take t) K).map (fun x => x.2.2.map (·.1)) = (qSim P R L os A (ch ++ Ld.vl lt) gl u locs 0 (os.take t) K).map (fun x => x.2.2.map (·.2)))
  (hX : ∀ u, Xs 0 u = X) (hF : ∀ u, Fs 0 u I) (hXl : ∀ l ∈ lt, ∀ q u x, Xs q (upd u l.i x) = Xs q u) (hFl : ∀ l ∈ lt, ∀ q u x J J', J.le J' → Fs q u J → Fs q (upd u l.i x) J')
  (Ks Kt : List ((Nat → Wt) → List (Nat × Value))) (hlen : Ks.length = ch.length) (hf : framesOk A K os vs (ch ++ Ld.vl lt) (Ks ++ Kt)) (hst : StepsB P os an B I L (ch ++ Ld.vl lt) lt Xs Fs 0 ch Ks) (hli : LitsB P os B I L lt Kt)
  (Kg : List ((Nat → Wt) → List (Nat × Value))) (hfg : framesOk A K os vs gl Kg) (hg : Givens P os an (ch ++ Ld.vl lt) (SB B I L ch lt Xs Fs) gl Kg)
  (k : ∀ (u : Nat → Wt) (J : Imm) (nx' : Nat), I.le J → Fs ch.length u J → RL P os Q t A (K' u) B J nx' L (Xs ch.length u)) : OK P c Q A K B I nx L X := by
 obtain ⟨e, h1, h2⟩ := vsOf_eq hv
 subst e
 have hne' : ∀ p ∈ ch, ∀ l ∈ lt, l.i ≠ p.1 := fun p hp l hl e => by
  have h3 := List.all_eq_true.1 (List.all_eq_true.1 hne p hp) l hl
  rw [e, beq_self] at h3
  cases h3
 refine OK.drawn id t os an h hm (ch ++ Ld.vl lt) gl R L locs han hok hlt h1 he (SB B I L ch lt Xs Fs) ?_ ?_ (Ks ++ Kt) hf (sb_chain hch hne' ch [] Ks Kt (Ld.vl lt) rfl hst (sb_lits hne' hn hXl hFl lt Kt (fun _ h => h) hli) hlen) Kg hfg hg K' h2 ?_
 ·rintro D u w ⟨a, b, e, _, _, J, hJ, hs, _⟩
  exact ⟨hs.blk, fun r hr => hR J _ _ w hJ hs r hr⟩
 ·intro u w hs
  exact ⟨[], ch, rfl, fun p hp => (by cases hp), fun p _ => rfl, I, Imm.le_refl _, by rw [hs.hnx]; rw [show Xs ([] : List (Nat × (Wt → Value))).length u = X from hX u]; exact hs, hF u, fs_zero⟩
 ·rintro u a w ⟨a1, b1, e, ha1, hb1, J, hJ, hs, hFs, _⟩ ha
  have hb0 : b1 = [] := by
   cases b1 with
   | nil => rfl
   | cons y b2 =>
    have h3 := hb1 y List.mem_cons_self
    have h4 : Dall (ch ++ Ld.vl lt) y.1 = true := lk_append (lk_hit ch (by rw [e]; exact List.mem_append_right _ List.mem_cons_self))
    rw [h3] at h4
    cases h4
  subst hb0
  rw [List.append_nil] at e
  rw [e] at k
  exact (k u J _ hJ hFs).go ha hs
end
end Go.Proofs.YtiomeaoeegikkaaDoor.RW
namespace Go.Proofs.YtiomeaoeegikkaaDoor
open Go Go.Proofs.YtiomeaoeegikkaaDoor.RW
set_option linter.unusedVariables false
set_option maxRecDepth 100000
set_option maxHeartbeats 8000000

/-! ### armillarylaw28_LedgerIndependence: function 10, armillary/armillarylaw28.LedgerIndependence -/
noncomputable def K10_0 : Code := cBody Tryd.f10
noncomputable def O10_7 : List Oper := cOps (cL (cR (cR K10_0)))
noncomputable def O10_38 : List Oper := cOps (cL (cR (cR (cR (cR (cR (cR (cR (cR (cR (cR K10_0)))))))))))
def armillarylaw28_LedgerIndependence.k1  (x2 : Bool) : Option (Bool) := (some x2)
def armillarylaw28_LedgerIndependence.k2 (k : Nat) (t1 : Bool) (t2 : List S25) (t3 : S25) (t4 : S25) (t5 : List Int × Bool) (t6 : List Int × Int) (t7 : List Int × Int) (x1 : Bool) : Option (Bool) := (if x1 = true then (some false) else ((ledger_Scan.f k t6.1).bind fun t8 => ((ledger_Scan.f k t7.1).bind fun t9 => (((armillaryref28_SameBytes.f k t5.1 (([] : List Int) ++ t5.1)).bind fun t10 => (if t10 = true then (if (([] : List S25).length + t2.length) * 48 ≤ 140737488355328 then (if ((([] : List S25) ++ t2).length + [t3].length) * 48 ≤ 140737488355328 then ((armillaryref28_Same.f k t8.1 ((([] : List S25) ++ t2) ++ [t3])).bind fun t11 => (if t11 = true then (if (([] : List S25).length + t2.length) * 48 ≤ 140737488355328 then (if ((([] : List S25) ++ t2).length + [t4].length) * 48 ≤ 140737488355328 then ((armillaryref28_Same.f k t9.1 ((([] : List S25) ++ t2) ++ [t4])).bind fun t12 => (if t12 = true then (some t1) else (some false))) else none) else none) else none)) else none) else none) else none)).bind (armillarylaw28_LedgerIndependence.k1)))))
def armillarylaw28_LedgerIndependence.f (k : Nat) (a0 : List S25) (a1 : S25) (a2 : S25) : Option (Bool) := ((armillarylaw28_sanity.f k ).bind fun t1 => ((armillaryref28_Made.f k a0 5).bind fun t2 => ((armillaryref27_MadeEntry.f a1).bind fun t3 => ((armillaryref27_MadeEntry.f a2).bind fun t4 => ((armillarylaw28_build.f k ([] : List Int) t2).bind fun t5 => (if (([] : List Int).length + t5.1.length) * 1 ≤ 140737488355328 then ((ledger_Append.f k t5.1 t3).bind fun t6 => ((ledger_Append.f k t5.1 t4).bind fun t7 => ((if t5.2 = true then (if t6.2 ≠ 0 then (some true) else (some (t7.2 != 0))) else (some true)).bind (armillarylaw28_LedgerIndependence.k2 k t1 t2 t3 t4 t5 t6 t7)))) else none))))))
def armillarylaw28_LedgerIndependence.Post (I : Imm) (w : World) (r : Bool) (v : Value) (w' : World) : Prop :=
 ∃ (J : Imm), v = .bool r ∧ Got w w' I J []
noncomputable def a10_7n : List Nat := [0, 1, 0, 7, 0, 31, 0, 0, 255, 511, 1023]
theorem a10_7 : ancs O10_7 [] = a10_7n := by kernel_rfl
theorem a10_7o : drawOk O10_7 a10_7n 8 = true := by kernel_rfl
noncomputable def u10d1l (t2 : List S25) (t3 : S25) (t4 : S25) : List Ld :=
 [⟨1, fun x => .slice ((x 0).1) t2.length ((x 0).2.1), fun x => [orow 25 3 (x 0).1 t2.length (x 0).2.1 (x 0).2.2], fun x J => Reps t25 J t2 (x 0).2.2 ∧ True, fun x J J' h f => ⟨Reps.ext h f.1, trivial⟩⟩,
  ⟨3, fun x => .agg #[i6 t3.f0, .string t3.f1, .slice ((x 0).1) t3.f2.length ((x 0).2.1)], fun x => [], fun x J => t3.f2.length ≤ (x 0).2.1 ∧ Rd (Ty.int .u8) J (x 0).1 t3.f2 ∧ True, fun x J J' h f => ⟨f.1, Rd.ext h f.2.1, trivial⟩⟩,
  ⟨5, fun x => .agg #[i6 t4.f0, .string t4.f1, .slice ((x 0).1) t4.f2.length ((x 0).2.1)], fun x => [], fun x J => t4.f2.length ≤ (x 0).2.1 ∧ Rd (Ty.int .u8) J (x 0).1 t4.f2 ∧ True, fun x J J' h f => ⟨f.1, Rd.ext h f.2.1, trivial⟩⟩,
  ⟨6, fun x => pt ((x 0).2.1) 0, fun x => [RW.kblk (x 0).2.1 25 [i6 0, .string (⟨#[]⟩ : ByteArray), .slice none 0 0]], fun x J => True, fun x J J' h f => trivial⟩,
  ⟨7, fun x => pt ((x 0).2.1) 0, fun x => [RW.kblk (x 0).2.1 25 [i6 0, .string (⟨#[]⟩ : ByteArray), .slice none 0 0]], fun x J => True, fun x J J' h f => trivial⟩]
noncomputable def u10d1g  : List (Nat × ((Nat → Wt) → Value)) := []
noncomputable def u10d1q (a0 : List S25) (Ap0 : Option Addr) (cp0 : Nat) (a1 : S25) (Ap1_2 : Option Addr) (cp1_2 : Nat) (a2 : S25) (Ap2_2 : Option Addr) (cp2_2 : Nat) (nx0 : Nat) (t1 : Bool) (t2 : List S25) (t3 : S25) (t4 : S25) (u : Nat → Wt) : Option (List Value × List (Nat × Value) × List (Nat × Nat)) := qSim Tryd.prog [] [⟨nx0, [i6 a1.f0, .string a1.f1, .slice Ap1_2 a1.f2.length cp1_2], 25⟩, ⟨nx0 + 1, [i6 a2.f0, .string a2.f1, .slice Ap2_2 a2.f2.length cp2_2], 25⟩] O10_7 ⟨100, []⟩ (Ld.vl (u10d1l t2 t3 t4)) u10d1g u [.no, .no, .l 0, .no, .l 1, .no, .no, .no] 0 (O10_7.take 8) [(7, .bool t1), (5, pt (nx0 + 1) 0), (4, pt nx0 0), (0, .slice Ap0 a0.length cp0)]
noncomputable def u10d1s (a0 : List S25) (Ap0 : Option Addr) (cp0 : Nat) (a1 : S25) (Ap1_2 : Option Addr) (cp1_2 : Nat) (a2 : S25) (Ap2_2 : Option Addr) (cp2_2 : Nat) (t2 : List S25) (t3 : S25) (t4 : S25) (u : Nat → Wt) : List Value := [.slice Ap0 a0.length cp0, .slice ((u 1 0).1) t2.length ((u 1 0).2.1), .agg #[i6 a1.f0, .string a1.f1, .slice Ap1_2 a1.f2.length cp1_2], .agg #[i6 t3.f0, .string t3.f1, .slice ((u 3 0).1) t3.f2.length ((u 3 0).2.1)], .agg #[i6 a2.f0, .string a2.f1, .slice Ap2_2 a2.f2.length cp2_2], .agg #[i6 t4.f0, .string t4.f1, .slice ((u 5 0).1) t4.f2.length ((u 5 0).2.1)], pt ((u 6 0).2.1) 0, pt ((u 7 0).2.1) 0]
noncomputable def u10d1f (a0 : List S25) (Ap0 : Option Addr) (cp0 : Nat) (a1 : S25) (Ap1_2 : Option Addr) (cp1_2 : Nat) (a2 : S25) (Ap2_2 : Option Addr) (cp2_2 : Nat) (nx0 : Nat) (t1 : Bool) (t2 : List S25) (t3 : S25) (t4 : S25) (i : Nat) (u : Nat → Wt) : List (Nat × Value) := foldPut ⟨100, []⟩ [(7, .bool t1), (5, pt (nx0 + 1) 0), (4, pt nx0 0), (0, .slice Ap0 a0.length cp0)] (O10_7.take i) (((u10d1s a0 Ap0 cp0 a1 Ap1_2 cp1_2 a2 Ap2_2 cp2_2 t2 t3 t4) u).take i)
theorem u10d1v (a0 : List S25) (Ap0 : Option Addr) (cp0 : Nat) (a1 : S25) (Ap1_2 : Option Addr) (cp1_2 : Nat) (a2 : S25) (Ap2_2 : Option Addr) (cp2_2 : Nat) (nx0 : Nat) (t1 : Bool) (t2 : List S25) (t3 : S25) (t4 : S25) (u : Nat → Wt) : (u10d1q a0 Ap0 cp0 a1 Ap1_2 cp1_2 a2 Ap2_2 cp2_2 nx0 t1 t2 t3 t4 u).map (fun x => (x.1, x.2.1)) = some ((u10d1s a0 Ap0 cp0 a1 Ap1_2 cp1_2 a2 Ap2_2 cp2_2 t2 t3 t4) u, (u10d1f a0 Ap0 cp0 a1 Ap1_2 cp1_2 a2 Ap2_2 cp2_2 nx0 t1 t2 t3 t4 8) u) := by kernel_rfl
theorem u10d1e (a0 : List S25) (Ap0 : Option Addr) (cp0 : Nat) (a1 : S25) (Ap1_2 : Option Addr) (cp1_2 : Nat) (a2 : S25) (Ap2_2 : Option Addr) (cp2_2 : Nat) (nx0 : Nat) (t1 : Bool) (t2 : List S25) (t3 : S25) (t4 : S25) (u : Nat → Wt) : (u10d1q a0 Ap0 cp0 a1 Ap1_2 cp1_2 a2 Ap2_2 cp2_2 nx0 t1 t2 t3 t4 u).map (fun x => x.2.2.map (·.1)) = (u10d1q a0 Ap0 cp0 a1 Ap1_2 cp1_2 a2 Ap2_2 cp2_2 nx0 t1 t2 t3 t4 u).map (fun x => x.2.2.map (·.2)) := by kernel_rfl
noncomputable def a10_38n : List Nat := [0, 0, 3, 7, 15, 15, 15, 111, 15, 271, 1007, 2047, 4095, 8191, 16383, 16383, 16383, 114687, 16383, 278527, 1032191, 2097151, 4194303, 8388607, 16777215, 33554431, 67108863]
theorem a10_38 : ancs O10_38 [] = a10_38n := by kernel_rfl
theorem a10_38o : drawOk O10_38 a10_38n 21 = true := by kernel_rfl
noncomputable def u10d2l (t2 : List S25) (t3 : S25) (t4 : S25) (t10 : Bool) (t11 : Bool) : List (Nat × (Wt → Value)) := [(2, fun x => .bool t10), (5, fun x => .slice ((x 0).1) (([] : List S25).length) ((x 0).2.1)), (7, fun x => .slice ((x 0).1) ((([] : List S25) ++ t2).length) ((x 0).2.1)), (10, fun x => .slice ((x 0).1) (((([] : List S25) ++ t2) ++ [t3]).length) ((x 0).2.1)), (11, fun x => .bool t11), (15, fun x => .slice ((x 0).1) (([] : List S25).length) ((x 0).2.1)), (17, fun x => .slice ((x 0).1) ((([] : List S25) ++ t2).length) ((x 0).2.1)), (20, fun x => .slice ((x 0).1) (((([] : List S25) ++ t2) ++ [t4]).length) ((x 0).2.1))]
noncomputable def u10d2g  : List (Nat × ((Nat → Wt) → Value)) := [(3, fun u => .bool true), (13, fun u => .bool true)]
noncomputable def u10d2x (t2 : List S25) (t3 : S25) (t4 : S25) (t5 : List Int × Bool) (A7 : Option Addr) (c7 : Nat) (cs6 : List Value) (t8 : List S25 × Int × Int) (A10 : Option Addr) (c10 : Nat) (cs9 : List Value) (t9 : List S25 × Int × Int) (A11 : Option Addr) (c11 : Nat) (cs10 : List Value) : Nat → (Nat → Wt) → List Res := fun q u => match q with | 0 => [orow 5 1 A7 ((([] : List Int) ++ t5.1).length) c7 cs6, orow 25 3 A10 t8.1.length c10 cs9, orow 25 3 A11 t9.1.length c11 cs10] | 1 => [orow 5 1 A7 ((([] : List Int) ++ t5.1).length) c7 cs6, orow 25 3 A10 t8.1.length c10 cs9, orow 25 3 A11 t9.1.length c11 cs10] | 2 => [orow 5 1 A7 ((([] : List Int) ++ t5.1).length) c7 cs6, orow 25 3 A10 t8.1.length c10 cs9, orow 25 3 A11 t9.1.length c11 cs10, orow 25 3 ((u 5 0).1) (([] : List S25).length) ((u 5 0).2.1) []] | 3 => [orow 5 1 A7 ((([] : List Int) ++ t5.1).length) c7 cs6, orow 25 3 A10 t8.1.length c10 cs9, orow 25 3 A11 t9.1.length c11 cs10, orow 25 3 ((u 7 0).1) ((([] : List S25) ++ t2).length) ((u 7 0).2.1) ((u 7 0).2.2)] | 4 => [orow 5 1 A7 ((([] : List Int) ++ t5.1).length) c7 cs6, orow 25 3 A10 t8.1.length c10 cs9, orow 25 3 A11 t9.1.length c11 cs10, orow 25 3 ((u 10 0).1) (((([] : List S25) ++ t2) ++ [t3]).length) ((u 10 0).2.1) ((u 10 0).2.2)] | 5 => [orow 5 1 A7 ((([] : List Int) ++ t5.1).length) c7 cs6, orow 25 3 A10 t8.1.length c10 cs9, orow 25 3 A11 t9.1.length c11 cs10, orow 25 3 ((u 10 0).1) (((([] : List S25) ++ t2) ++ [t3]).length) ((u 10 0).2.1) ((u 10 0).2.2)] | 6 => [orow 5 1 A7 ((([] : List Int) ++ t5.1).length) c7 cs6, orow 25 3 A10 t8.1.length c10 cs9, orow 25 3 A11 t9.1.length c11 cs10, orow 25 3 ((u 10 0).1) (((([] : List S25) ++ t2) ++ [t3]).length) ((u 10 0).2.1) ((u 10 0).2.2), orow 25 3 ((u 15 0).1) (([] : List S25).length) ((u 15 0).2.1) []] | 7 => [orow 5 1 A7 ((([] : List Int) ++ t5.1).length) c7 cs6, orow 25 3 A10 t8.1.length c10 cs9, orow 25 3 A11 t9.1.length c11 cs10, orow 25 3 ((u 10 0).1) (((([] : List S25) ++ t2) ++ [t3]).length) ((u 10 0).2.1) ((u 10 0).2.2), orow 25 3 ((u 17 0).1) ((([] : List S25) ++ t2).length) ((u 17 0).2.1) ((u 17 0).2.2)] | _ => [orow 5 1 A7 ((([] : List Int) ++ t5.1).length) c7 cs6, orow 25 3 A10 t8.1.length c10 cs9, orow 25 3 A11 t9.1.length c11 cs10, orow 25 3 ((u 10 0).1) (((([] : List S25) ++ t2) ++ [t3]).length) ((u 10 0).2.1) ((u 10 0).2.2), orow 25 3 ((u 20 0).1) (((([] : List S25) ++ t2) ++ [t4]).length) ((u 20 0).2.1) ((u 20 0).2.2)]
noncomputable def u10d2p (t2 : List S25) (t3 : S25) (t4 : S25) (t5 : List Int × Bool) (cs6 : List Value) (t8 : List S25 × Int × Int) (cs9 : List Value) (t9 : List S25 × Int × Int) (cs10 : List Value) : Nat → (Nat → Wt) → Imm → Prop := fun q u J => match q with | 0 => Reps (Ty.int .u8) J (([] : List Int) ++ t5.1) cs6 ∧ Reps t25 J t8.1 cs9 ∧ Reps t25 J t9.1 cs10 ∧ True | 1 => Reps (Ty.int .u8) J (([] : List Int) ++ t5.1) cs6 ∧ Reps t25 J t8.1 cs9 ∧ Reps t25 J t9.1 cs10 ∧ True | 2 => Reps (Ty.int .u8) J (([] : List Int) ++ t5.1) cs6 ∧ Reps t25 J t8.1 cs9 ∧ Reps t25 J t9.1 cs10 ∧ Reps t25 J ([] : List S25) [] ∧ True | 3 => Reps (Ty.int .u8) J (([] : List Int) ++ t5.1) cs6 ∧ Reps t25 J t8.1 cs9 ∧ Reps t25 J t9.1 cs10 ∧ Reps t25 J (([] : List S25) ++ t2) ((u 7 0).2.2) ∧ True | 4 => Reps (Ty.int .u8) J (([] : List Int) ++ t5.1) cs6 ∧ Reps t25 J t8.1 cs9 ∧ Reps t25 J t9.1 cs10 ∧ Reps t25 J ((([] : List S25) ++ t2) ++ [t3]) ((u 10 0).2.2) ∧ True | 5 => Reps (Ty.int .u8) J (([] : List Int) ++ t5.1) cs6 ∧ Reps t25 J t8.1 cs9 ∧ Reps t25 J t9.1 cs10 ∧ Reps t25 J ((([] : List S25) ++ t2) ++ [t3]) ((u 10 0).2.2) ∧ True | 6 => Reps (Ty.int .u8) J (([] : List Int) ++ t5.1) cs6 ∧ Reps t25 J t8.1 cs9 ∧ Reps t25 J t9.1 cs10 ∧ Reps t25 J ((([] : List S25) ++ t2) ++ [t3]) ((u 10 0).2.2) ∧ Reps t25 J ([] : List S25) [] ∧ True | 7 => Reps (Ty.int .u8) J (([] : List Int) ++ t5.1) cs6 ∧ Reps t25 J t8.1 cs9 ∧ Reps t25 J t9.1 cs10 ∧ Reps t25 J ((([] : List S25) ++ t2) ++ [t3]) ((u 10 0).2.2) ∧ Reps t25 J (([] : List S25) ++ t2) ((u 17 0).2.2) ∧ True | _ => Reps (Ty.int .u8) J (([] : List Int) ++ t5.1) cs6 ∧ Reps t25 J t8.1 cs9 ∧ Reps t25 J t9.1 cs10 ∧ Reps t25 J ((([] : List S25) ++ t2) ++ [t3]) ((u 10 0).2.2) ∧ Reps t25 J ((([] : List S25) ++ t2) ++ [t4]) ((u 20 0).2.2) ∧ True
noncomputable def u10d2t (t3 : S25) (t4 : S25) : List Ld := [⟨9, fun x => .slice (some ⟨(x 0).2.1, 0, none⟩) 1 1, fun x => [], fun x J => Rd t25 J (some ⟨(x 0).2.1, 0, none⟩) [t3] ∧ True, fun x J J' h f => ⟨Rd.ext h f.1, trivial⟩⟩, ⟨19, fun x => .slice (some ⟨(x 0).2.1, 0, none⟩) 1 1, fun x => [], fun x J => Rd t25 J (some ⟨(x 0).2.1, 0, none⟩) [t4] ∧ True, fun x J J' h f => ⟨Rd.ext h f.1, trivial⟩⟩]
noncomputable def u10d2q (a1 : S25) (Ap1_2 : Option Addr) (cp1_2 : Nat) (a2 : S25) (Ap2_2 : Option Addr) (cp2_2 : Nat) (nx0 : Nat) (t1 : Bool) (t2 : List S25) (t3 : S25) (t4 : S25) (A1 : Option Addr) (c1 : Nat) (A2 : Option Addr) (c2 : Nat) (A3 : Option Addr) (c3 : Nat) (c4 : Nat) (c5 : Nat) (t5 : List Int × Bool) (A6 : Option Addr) (c6 : Nat) (A7 : Option Addr) (c7 : Nat) (t8 : List S25 × Int × Int) (A10 : Option Addr) (c10 : Nat) (t9 : List S25 × Int × Int) (A11 : Option Addr) (c11 : Nat) (t10 : Bool) (t11 : Bool) (u : Nat → Wt) : Option (List Value × List (Nat × Value) × List (Nat × Nat)) := qSim Tryd.prog [] [⟨nx0, [i6 a1.f0, .string a1.f1, .slice Ap1_2 a1.f2.length cp1_2], 25⟩, ⟨nx0 + 1, [i6 a2.f0, .string a2.f1, .slice Ap2_2 a2.f2.length cp2_2], 25⟩, ⟨c4, [i6 t3.f0, .string t3.f1, .slice A2 t3.f2.length c2], 25⟩, ⟨c5, [i6 t4.f0, .string t4.f1, .slice A3 t4.f2.length c3], 25⟩] O10_38 ⟨100, []⟩ ((u10d2l t2 t3 t4 t10 t11) ++ Ld.vl (u10d2t t3 t4)) u10d2g u [.no, .no, .no, .no, .no, .no, .no, .no, .l 2, .no, .no, .no, .no, .no, .no, .no, .no, .no, .l 3, .no, .no] 0 (O10_38.take 21) [(21, .slice A11 t9.1.length c11), (18, .slice A10 t8.1.length c10), (7, .bool t1), (8, .slice A1 t2.length c1), (9, pt c4 0), (10, pt c5 0), (11, .slice A6 t5.1.length c6), (13, .slice A7 ((([] : List Int) ++ t5.1).length) c7)]
noncomputable def u10d2s (t2 : List S25) (t3 : S25) (t4 : S25) (A1 : Option Addr) (c1 : Nat) (A2 : Option Addr) (c2 : Nat) (A3 : Option Addr) (c3 : Nat) (t5 : List Int × Bool) (A6 : Option Addr) (c6 : Nat) (A7 : Option Addr) (c7 : Nat) (t8 : List S25 × Int × Int) (A10 : Option Addr) (c10 : Nat) (t9 : List S25 × Int × Int) (A11 : Option Addr) (c11 : Nat) (t10 : Bool) (t11 : Bool) (u : Nat → Wt) : List Value := [.slice A6 t5.1.length c6, .slice A7 ((([] : List Int) ++ t5.1).length) c7, .bool t10, .bool true, .slice A10 t8.1.length c10, .slice ((u 5 0).1) (([] : List S25).length) ((u 5 0).2.1), .slice A1 t2.length c1, .slice ((u 7 0).1) ((([] : List S25) ++ t2).length) ((u 7 0).2.1), .agg #[i6 t3.f0, .string t3.f1, .slice A2 t3.f2.length c2], .slice (some ⟨(u 9 0).2.1, 0, none⟩) 1 1, .slice ((u 10 0).1) (((([] : List S25) ++ t2) ++ [t3]).length) ((u 10 0).2.1), .bool t11, .bool t11, .bool true, .slice A11 t9.1.length c11, .slice ((u 15 0).1) (([] : List S25).length) ((u 15 0).2.1), .slice A1 t2.length c1, .slice ((u 17 0).1) ((([] : List S25) ++ t2).length) ((u 17 0).2.1), .agg #[i6 t4.f0, .string t4.f1, .slice A3 t4.f2.length c3], .slice (some ⟨(u 19 0).2.1, 0, none⟩) 1 1, .slice ((u 20 0).1) (((([] : List S25) ++ t2) ++ [t4]).length) ((u 20 0).2.1)]
noncomputable def u10d2f (t1 : Bool) (t2 : List S25) (t3 : S25) (t4 : S25) (A1 : Option Addr) (c1 : Nat) (A2 : Option Addr) (c2 : Nat) (A3 : Option Addr) (c3 : Nat) (c4 : Nat) (c5 : Nat) (t5 : List Int × Bool) (A6 : Option Addr) (c6 : Nat) (A7 : Option Addr) (c7 : Nat) (t8 : List S25 × Int × Int) (A10 : Option Addr) (c10 : Nat) (t9 : List S25 × Int × Int) (A11 : Option Addr) (c11 : Nat) (t10 : Bool) (t11 : Bool) (i : Nat) (u : Nat → Wt) : List (Nat × Value) := foldPut ⟨100, []⟩ [(21, .slice A11 t9.1.length c11), (18, .slice A10 t8.1.length c10), (7, .bool t1), (8, .slice A1 t2.length c1), (9, pt c4 0), (10, pt c5 0), (11, .slice A6 t5.1.length c6), (13, .slice A7 ((([] : List Int) ++ t5.1).length) c7)] (O10_38.take i) (((u10d2s t2 t3 t4 A1 c1 A2 c2 A3 c3 t5 A6 c6 A7 c7 t8 A10 c10 t9 A11 c11 t10 t11) u).take i)
theorem u10d2v (a1 : S25) (Ap1_2 : Option Addr) (cp1_2 : Nat) (a2 : S25) (Ap2_2 : Option Addr) (cp2_2 : Nat) (nx0 : Nat) (t1 : Bool) (t2 : List S25) (t3 : S25) (t4 : S25) (A1 : Option Addr) (c1 : Nat) (A2 : Option Addr) (c2 : Nat) (A3 : Option Addr) (c3 : Nat) (c4 : Nat) (c5 : Nat) (t5 : List Int × Bool) (A6 : Option Addr) (c6 : Nat) (A7 : Option Addr) (c7 : Nat) (t8 : List S25 × Int × Int) (A10 : Option Addr) (c10 : Nat) (t9 : List S25 × Int × Int) (A11 : Option Addr) (c11 : Nat) (t10 : Bool) (t11 : Bool) (u : Nat → Wt) : (u10d2q a1 Ap1_2 cp1_2 a2 Ap2_2 cp2_2 nx0 t1 t2 t3 t4 A1 c1 A2 c2 A3 c3 c4 c5 t5 A6 c6 A7 c7 t8 A10 c10 t9 A11 c11 t10 t11 u).map (fun x => (x.1, x.2.1)) = some ((u10d2s t2 t3 t4 A1 c1 A2 c2 A3 c3 t5 A6 c6 A7 c7 t8 A10 c10 t9 A11 c11 t10 t11) u, (u10d2f t1 t2 t3 t4 A1 c1 A2 c2 A3 c3 c4 c5 t5 A6 c6 A7 c7 t8 A10 c10 t9 A11 c11 t10 t11 21) u) := by kernel_rfl
theorem u10d2e (a1 : S25) (Ap1_2 : Option Addr) (cp1_2 : Nat) (a2 : S25) (Ap2_2 : Option Addr) (cp2_2 : Nat) (nx0 : Nat) (t1 : Bool) (t2 : List S25) (t3 : S25) (t4 : S25) (A1 : Option Addr) (c1 : Nat) (A2 : Option Addr) (c2 : Nat) (A3 : Option Addr) (c3 : Nat) (c4 : Nat) (c5 : Nat) (t5 : List Int × Bool) (A6 : Option Addr) (c6 : Nat) (A7 : Option Addr) (c7 : Nat) (t8 : List S25 × Int × Int) (A10 : Option Addr) (c10 : Nat) (t9 : List S25 × Int × Int) (A11 : Option Addr) (c11 : Nat) (t10 : Bool) (t11 : Bool) (u : Nat → Wt) : (u10d2q a1 Ap1_2 cp1_2 a2 Ap2_2 cp2_2 nx0 t1 t2 t3 t4 A1 c1 A2 c2 A3 c3 c4 c5 t5 A6 c6 A7 c7 t8 A10 c10 t9 A11 c11 t10 t11 u).map (fun x => x.2.2.map (·.1)) = (u10d2q a1 Ap1_2 cp1_2 a2 Ap2_2 cp2_2 nx0 t1 t2 t3 t4 A1 c1 A2 c2 A3 c3 c4 c5 t5 A6 c6 A7 c7 t8 A10 c10 t9 A11 c11 t10 t11 u).map (fun x => x.2.2.map (·.2)) := by kernel_rfl
theorem armillarylaw28_LedgerIndependence.calls (k : Nat) (I0 : Imm) (a0 : List S25) (Ap0 : Option Addr) (cp0 : Nat) (a1 : S25) (Ap1_2 : Option Addr) (cp1_2 : Nat) (a2 : S25) (Ap2_2 : Option Addr) (cp2_2 : Nat) (w : World) (hI : I0.at_ w) (hG : Glob I0) (hlp0 : a0.length ≤ cp0) (hrp0 : Rd t25 I0 Ap0 a0) (hlp1_2 : a1.f2.length ≤ cp1_2) (hrp1_2 : Rd (Ty.int .u8) I0 Ap1_2 a1.f2) (hlp2_2 : a2.f2.length ≤ cp2_2) (hrp2_2 : Rd (Ty.int .u8) I0 Ap2_2 a2.f2) (r : Bool) (h : armillarylaw28_LedgerIndependence.f k a0 a1 a2 = some r) :
  Calls Tryd.prog 10 [.slice Ap0 a0.length cp0, .agg #[i6 a1.f0, .string a1.f1, .slice Ap1_2 a1.f2.length cp1_2], .agg #[i6 a2.f0, .string a2.f1, .slice Ap2_2 a2.f2.length cp2_2]].toArray w fun e w' => ∃ v, e = .returned v ∧ armillarylaw28_LedgerIndependence.Post I0 w r v w' := by
 have H : ((armillarylaw28_sanity.f k ).bind fun t1 => ((armillaryref28_Made.f k a0 5).bind fun t2 => ((armillaryref27_MadeEntry.f a1).bind fun t3 => ((armillaryref27_MadeEntry.f a2).bind fun t4 => ((armillarylaw28_build.f k ([] : List Int) t2).bind fun t5 => (if (([] : List Int).length + t5.1.length) * 1 ≤ 140737488355328 then ((ledger_Append.f k t5.1 t3).bind fun t6 => ((ledger_Append.f k t5.1 t4).bind fun t7 => ((if t5.2 = true then (if t6.2 ≠ 0 then (some true) else (some (t7.2 != 0))) else (some true)).bind (armillarylaw28_LedgerIndependence.k2 k t1 t2 t3 t4 t5 t6 t7)))) else none)))))) = some r := h
 clear h
 refine calls_body Tryd.func10 (by kernel_rfl) 100 (by kernel_rfl) (by kernel_rfl) ⟨w, fun _ => False, I0⟩ I0 [] [(0, .slice Ap0 a0.length cp0), (1, .agg #[i6 a1.f0, .string a1.f1, .slice Ap1_2 a1.f2.length cp1_2]), (2, .agg #[i6 a2.f0, .string a2.f1, .slice Ap2_2 a2.f2.length cp2_2])] (by kernel_rfl) (Sat.start w _ I0 hI) ?_
 generalize w.heap.size = nx0
 show OK _ K10_0 _ _ _ _ _ _ _ _
 refine OK.sr ?_
 refine RL.spt 3 [(5, pt (nx0 + 1) 0), (4, pt nx0 0), (0, .slice Ap0 a0.length cp0)] (nx0 + 2) [⟨nx0, [i6 a1.f0, .string a1.f1, .slice Ap1_2 a1.f2.length cp1_2], 25⟩, ⟨nx0 + 1, [i6 a2.f0, .string a2.f1, .slice Ap2_2 a2.f2.length cp2_2], 25⟩] ?_
 refine OK.sr ?_
 obtain ⟨t1, hA1, H⟩ := bnd H
 refine RL.callP 11 [] (some 24) (fun w => armillarylaw28_sanity.Post I0 w t1) (by kernel_rfl) (by kernel_rfl) (fun w hs => armillarylaw28_sanity.calls k I0  w hs.im hG t1 hA1) ?_
 rintro w v w' hs ⟨I1, rfl, hg⟩
 have hi1 := hg.le
 refine RL.resume (X' := []) rfl (hs.call hg) ?_
 clear hs hg
 generalize w'.heap.size = nx1
 clear w w'
 refine RL.st 1 [(7, .bool t1), (5, pt (nx0 + 1) 0), (4, pt nx0 0), (0, .slice Ap0 a0.length cp0)] ?_
 refine OK.sq ?_
 obtain ⟨t2, hA2, H⟩ := bnd H
 obtain ⟨t3, hA3, H⟩ := bnd H
 obtain ⟨t4, hA4, H⟩ := bnd H
 refine OK.drawnC 2 8 O10_7 a10_7n (by kernel_rfl) (by kernel_rfl) (u10d1l t2 t3 t4) u10d1g [] (RI.nil _) [.no, .no, .l 0, .no, .l 1, .no, .no, .no] a10_7 a10_7o (by kernel_rfl) (by kernel_rfl) (u10d1s a0 Ap0 cp0 a1 Ap1_2 cp1_2 a2 Ap2_2 cp2_2 t2 t3 t4) (u10d1f a0 Ap0 cp0 a1 Ap1_2 cp1_2 a2 Ap2_2 cp2_2 nx0 t1 t2 t3 t4 8) (u10d1v a0 Ap0 cp0 a1 Ap1_2 cp1_2 a2 Ap2_2 cp2_2 nx0 t1 t2 t3 t4) (u10d1e a0 Ap0 cp0 a1 Ap1_2 cp1_2 a2 Ap2_2 cp2_2 nx0 t1 t2 t3 t4) [u10d1f a0 Ap0 cp0 a1 Ap1_2 cp1_2 a2 Ap2_2 cp2_2 nx0 t1 t2 t3 t4 1, u10d1f a0 Ap0 cp0 a1 Ap1_2 cp1_2 a2 Ap2_2 cp2_2 nx0 t1 t2 t3 t4 3, u10d1f a0 Ap0 cp0 a1 Ap1_2 cp1_2 a2 Ap2_2 cp2_2 nx0 t1 t2 t3 t4 5, u10d1f a0 Ap0 cp0 a1 Ap1_2 cp1_2 a2 Ap2_2 cp2_2 nx0 t1 t2 t3 t4 6, u10d1f a0 Ap0 cp0 a1 Ap1_2 cp1_2 a2 Ap2_2 cp2_2 nx0 t1 t2 t3 t4 7] (framesOk.cons (fun u => rfl) (framesOk.cons (fun u => rfl) (framesOk.cons (fun u => rfl) (framesOk.cons (fun u => rfl) (framesOk.cons (fun u => rfl) framesOk.nil))))) ?_ [] framesOk.nil ?_ ?_
 ·refine LoudsG.cons ?_ (LoudsG.cons ?_ (LoudsG.cons ?_ (LoudsG.cons ?_ (LoudsG.cons ?_ (LoudsG.nil)))))
  ·intro D u J w hp hJ hs hF
   refine Does.call 12 [.slice Ap0 a0.length cp0, i6 5] (by kernel_rfl) ((armillaryref28_Made.calls k J a0 Ap0 cp0 5 w hs.im hlp0 (Rd.ext (Imm.le_trans hi1 hJ) hrp0) t2 hA2).mono ?_)
   rintro e w' ⟨v, rfl, J2, A0_, c0_, cs0_, rfl, hg, hp0_⟩
   exact ⟨_, rfl, fun _ => (A0_, c0_, cs0_), J2, rfl, hg, hp0_, trivial⟩
  ·intro D u J w hp hJ hs hF
   refine Does.call 25 [.agg #[i6 a1.f0, .string a1.f1, .slice Ap1_2 a1.f2.length cp1_2]] (by kernel_rfl) ((armillaryref27_MadeEntry.calls J a1 Ap1_2 cp1_2 w hs.im hlp1_2 (Rd.ext (Imm.le_trans hi1 hJ) hrp1_2) t3 hA3).mono ?_)
   rintro e w' ⟨v, rfl, J2, A0_, c0_, rfl, hg, hl0_, hr0_⟩
   exact ⟨_, rfl, fun _ => (A0_, c0_, []), J2, rfl, hg, hl0_, hr0_, trivial⟩
  ·intro D u J w hp hJ hs hF
   refine Does.call 25 [.agg #[i6 a2.f0, .string a2.f1, .slice Ap2_2 a2.f2.length cp2_2]] (by kernel_rfl) ((armillaryref27_MadeEntry.calls J a2 Ap2_2 cp2_2 w hs.im hlp2_2 (Rd.ext (Imm.le_trans hi1 hJ) hrp2_2) t4 hA4).mono ?_)
   rintro e w' ⟨v, rfl, J2, A0_, c0_, rfl, hg, hl0_, hr0_⟩
   exact ⟨_, rfl, fun _ => (A0_, c0_, []), J2, rfl, hg, hl0_, hr0_, trivial⟩
  ·intro D u J w hp hJ hs hF
   refine (Does.make hs.im (fun n_ => pt n_ 0) (cs := [i6 0, .string (⟨#[]⟩ : ByteArray), .slice none 0 0]) (ty := 25) (fun n_ => by kernel_rfl)).mono ?_
   rintro v w' ⟨rfl, hg⟩
   exact ⟨fun _ => (none, w.heap.size, []), J, rfl, hg, trivial⟩
  ·intro D u J w hp hJ hs hF
   refine (Does.make hs.im (fun n_ => pt n_ 0) (cs := [i6 0, .string (⟨#[]⟩ : ByteArray), .slice none 0 0]) (ty := 25) (fun n_ => by kernel_rfl)).mono ?_
   rintro v w' ⟨rfl, hg⟩
   exact ⟨fun _ => (none, w.heap.size, []), J, rfl, hg, trivial⟩
 ·refine Givens.nil
 intro u I2 nx2 hi2 hF
 have hf1 := ((hF.1 rfl).1)
 have hf2 := ((hF.2.1 rfl).1)
 have hf3 := ((hF.2.1 rfl).2.1)
 have hf4 := ((hF.2.2.1 rfl).1)
 have hf5 := ((hF.2.2.1 rfl).2.1)
 clear hF
 refine RL.norm (K' := [(10, pt ((u 7 0).2.1) 0), (9, pt ((u 6 0).2.1) 0), (30, .agg #[i6 t4.f0, .string t4.f1, .slice ((u 5 0).1) t4.f2.length ((u 5 0).2.1)]), (29, .agg #[i6 a2.f0, .string a2.f1, .slice Ap2_2 a2.f2.length cp2_2]), (28, .agg #[i6 t3.f0, .string t3.f1, .slice ((u 3 0).1) t3.f2.length ((u 3 0).2.1)]), (27, .agg #[i6 a1.f0, .string a1.f1, .slice Ap1_2 a1.f2.length cp1_2]), (26, .slice ((u 1 0).1) t2.length ((u 1 0).2.1)), (25, .slice Ap0 a0.length cp0), (7, .bool t1), (5, pt (nx0 + 1) 0), (4, pt nx0 0), (0, .slice Ap0 a0.length cp0)]) (X' := [orow 25 3 (u 1 0).1 t2.length (u 1 0).2.1 (u 1 0).2.2, RW.kblk (u 6 0).2.1 25 [i6 0, .string (⟨#[]⟩ : ByteArray), .slice none 0 0], RW.kblk (u 7 0).2.1 25 [i6 0, .string (⟨#[]⟩ : ByteArray), .slice none 0 0]]) (by kernel_rfl) rfl rfl rfl ?_
 revert hf1 hf2 hf3 hf4 hf5
 generalize (u 1 0).1 = A1
 generalize (u 1 0).2.1 = c1
 generalize (u 1 0).2.2 = cs1
 generalize (u 3 0).1 = A2
 generalize (u 3 0).2.1 = c2
 generalize (u 3 0).2.2 = cs2
 generalize (u 5 0).1 = A3
 generalize (u 5 0).2.1 = c3
 generalize (u 5 0).2.2 = cs3
 generalize (u 6 0).1 = A4
 generalize (u 6 0).2.1 = c4
 generalize (u 6 0).2.2 = cs4
 generalize (u 7 0).1 = A5
 generalize (u 7 0).2.1 = c5
 generalize (u 7 0).2.2 = cs5
 intro hf1 hf2 hf3 hf4 hf5
 clear u
 refine RL.kblk (g := c4) (ty := 25) (cs := [i6 0, .string (⟨#[]⟩ : ByteArray), .slice none 0 0]) 1 (by kernel_rfl) ?_
 refine RL.kblk (g := c5) (ty := 25) (cs := [i6 0, .string (⟨#[]⟩ : ByteArray), .slice none 0 0]) 1 (by kernel_rfl) ?_
 show RL _ _ _ 8 _ [(10, pt c5 0), (9, pt c4 0), (30, .agg #[i6 t4.f0, .string t4.f1, .slice A3 t4.f2.length c3]), (29, .agg #[i6 a2.f0, .string a2.f1, .slice Ap2_2 a2.f2.length cp2_2]), (28, .agg #[i6 t3.f0, .string t3.f1, .slice A2 t3.f2.length c2]), (27, .agg #[i6 a1.f0, .string a1.f1, .slice Ap1_2 a1.f2.length cp1_2]), (26, .slice A1 t2.length c1), (25, .slice Ap0 a0.length cp0), (7, .bool t1), (5, pt (nx0 + 1) 0), (4, pt nx0 0), (0, .slice Ap0 a0.length cp0)] _ _ _ [⟨nx0, [i6 a1.f0, .string a1.f1, .slice Ap1_2 a1.f2.length cp1_2], 25⟩, ⟨nx0 + 1, [i6 a2.f0, .string a2.f1, .slice Ap2_2 a2.f2.length cp2_2], 25⟩, ⟨c4, [i6 0, .string (⟨#[]⟩ : ByteArray), .slice none 0 0], 25⟩, ⟨c5, [i6 0, .string (⟨#[]⟩ : ByteArray), .slice none 0 0], 25⟩] [orow 25 3 A1 t2.length c1 cs1]
 refine RL.simP (K' := [(8, .slice A1 t2.length c1), (10, pt c5 0), (9, pt c4 0), (7, .bool t1)]) (nx' := nx2) (L' := [⟨nx0, [i6 a1.f0, .string a1.f1, .slice Ap1_2 a1.f2.length cp1_2], 25⟩, ⟨nx0 + 1, [i6 a2.f0, .string a2.f1, .slice Ap2_2 a2.f2.length cp2_2], 25⟩, ⟨c4, [i6 t3.f0, .string t3.f1, .slice A2 t3.f2.length c2], 25⟩, ⟨c5, [i6 t4.f0, .string t4.f1, .slice A3 t4.f2.length c3], 25⟩]) [] (RFacts.nil _ _ _) 3 [.no, .l 2, .l 3] (by kernel_rfl) (by kernel_rfl) ?_
 refine RL.nt ?_
 refine OK.sr ?_
 refine RL.makeC (T := 22) (e := 5) .i64 .i64 4096 1 1 (some 32) (by kernel_rfl) (by kernel_rfl) (by kernel_rfl) (by kernel_rfl) (by decide) (by decide) (fun nx3 => ?_)
 have hp1 : Reps (Ty.int .u8) I2 ([] : List Int) [] := rfl
 refine RL.norm (K' := [(32, .slice (some ⟨nx2, 0, none⟩) (([] : List Int).length) 4096), (8, .slice A1 t2.length c1), (10, pt c5 0), (9, pt c4 0), (7, .bool t1)]) (X' := [orow 25 3 A1 t2.length c1 cs1, orow 5 1 (some ⟨nx2, 0, none⟩) (([] : List Int).length) 4096 []]) (by kernel_rfl) rfl rfl (by kernel_rfl) ?_
 refine RL.s 1 [(33, .slice A1 t2.length c1), (32, .slice (some ⟨nx2, 0, none⟩) (([] : List Int).length) 4096), (8, .slice A1 t2.length c1), (10, pt c5 0), (9, pt c4 0), (7, .bool t1)] ?_
 refine RL.freeze (e := 5) (sz := 1) (S := (some ⟨nx2, 0, none⟩)) (n := ([] : List Int).length) (cap := 4096) 1 (by kernel_rfl) hp1 rfl (fun I3 hi3 hl1 hr1 => ?_)
 skip
 refine RL.freeze (e := 25) (sz := 3) (S := A1) (n := t2.length) (cap := c1) 0 (by kernel_rfl) (Reps.ext hi3 hf1) rfl (fun I4 hi4 hl2 hr2 => ?_)
 skip
 obtain ⟨t5, hA5, H⟩ := bnd H
 refine RL.callP 24 [.slice (some ⟨nx2, 0, none⟩) (([] : List Int).length) 4096, .slice A1 t2.length c1] (some 34) (fun w => armillarylaw28_build.Post I4 w t5) (by kernel_rfl) (by kernel_rfl) (fun w hs => armillarylaw28_build.calls k I4 ([] : List Int) (some ⟨nx2, 0, none⟩) 4096 t2 A1 c1 w hs.im hl1 (Rd.ext hi4 hr1) hl2 hr2 t5 hA5) ?_
 rintro w v w' hs ⟨I5, A6, c6, rfl, hg, hl3, hr3⟩
 have hi5 := hg.le
 refine RL.resume (X' := []) rfl (hs.call hg) ?_
 clear hs hg
 generalize w'.heap.size = nx4
 clear w w'
 refine RL.st 5 [(12, .bool t5.2), (11, .slice A6 t5.1.length c6), (8, .slice A1 t2.length c1), (10, pt c5 0), (9, pt c4 0), (7, .bool t1)] ?_
 refine OK.sr ?_
 refine RL.sp 2 [(38, .slice A6 t5.1.length c6), (37, .slice (some ⟨nx4, 0, none⟩) 0 0), (12, .bool t5.2), (11, .slice A6 t5.1.length c6), (8, .slice A1 t2.length c1), (10, pt c5 0), (9, pt c4 0), (7, .bool t1)] (nx4 + 1) [⟨nx0, [i6 a1.f0, .string a1.f1, .slice Ap1_2 a1.f2.length cp1_2], 25⟩, ⟨nx0 + 1, [i6 a2.f0, .string a2.f1, .slice Ap2_2 a2.f2.length cp2_2], 25⟩, ⟨c4, [i6 t3.f0, .string t3.f1, .slice A2 t3.f2.length c2], 25⟩, ⟨c5, [i6 t4.f0, .string t4.f1, .slice A3 t4.f2.length c3], 25⟩, ⟨nx4, [], 5⟩] ?_
 refine RL.toRow (b := ⟨nx4, [], 5⟩) 4 0 1 (by kernel_rfl) (by kernel_rfl) (by decide) ?_
 have hp2 : Reps (Ty.int .u8) I5 ([] : List Int) [] := rfl
 refine RL.norm (L' := [⟨nx0, [i6 a1.f0, .string a1.f1, .slice Ap1_2 a1.f2.length cp1_2], 25⟩, ⟨nx0 + 1, [i6 a2.f0, .string a2.f1, .slice Ap2_2 a2.f2.length cp2_2], 25⟩, ⟨c4, [i6 t3.f0, .string t3.f1, .slice A2 t3.f2.length c2], 25⟩, ⟨c5, [i6 t4.f0, .string t4.f1, .slice A3 t4.f2.length c3], 25⟩]) (X' := [orow 5 1 (some ⟨nx4, 0, none⟩) (([] : List Int).length) 0 []]) rfl rfl (by kernel_rfl) (by kernel_rfl) ?_
 obtain ⟨hz1, H⟩ := ifs H
 refine RL.appendR (T := 22) (e := 5) (S := (some ⟨nx4, 0, none⟩)) (S2 := A6) 1 1 22 0 c6 [] (Ty.int .u8) ([] : List Int) t5.1 0 (some 39) (by kernel_rfl) (by kernel_rfl) (by kernel_rfl) (by kernel_rfl) (by kernel_rfl) (by decide) (by kernel_rfl) hp2 hr3 hz1 (by omega) (fun A7 c7 nx5 cs6 hp3 => ?_)
 refine RL.sub (K' := [(39, .slice A7 ((([] : List Int) ++ t5.1).length) c7), (38, .slice A6 t5.1.length c6), (37, .slice (some ⟨nx4, 0, none⟩) 0 0), (12, .bool t5.2), (11, .slice A6 t5.1.length c6), (8, .slice A1 t2.length c1), (10, pt c5 0), (9, pt c4 0), (7, .bool t1)]) (L' := [⟨nx0, [i6 a1.f0, .string a1.f1, .slice Ap1_2 a1.f2.length cp1_2], 25⟩, ⟨nx0 + 1, [i6 a2.f0, .string a2.f1, .slice Ap2_2 a2.f2.length cp2_2], 25⟩, ⟨c4, [i6 t3.f0, .string t3.f1, .slice A2 t3.f2.length c2], 25⟩, ⟨c5, [i6 t4.f0, .string t4.f1, .slice A3 t4.f2.length c3], 25⟩]) (X' := [orow 5 1 A7 ((([] : List Int) ++ t5.1).length) c7 cs6]) (by kernel_rfl) (.refl _) (.refl _) ?_
 refine RL.st 1 [(13, .slice A7 ((([] : List Int) ++ t5.1).length) c7), (12, .bool t5.2), (11, .slice A6 t5.1.length c6), (8, .slice A1 t2.length c1), (10, pt c5 0), (9, pt c4 0), (7, .bool t1)] ?_
 refine OK.sr ?_
 refine RL.simK (K' := [(42, .agg #[i6 t3.f0, .string t3.f1, .slice A2 t3.f2.length c2]), (41, .slice A6 t5.1.length c6), (13, .slice A7 ((([] : List Int) ++ t5.1).length) c7), (12, .bool t5.2), (11, .slice A6 t5.1.length c6), (8, .slice A1 t2.length c1), (10, pt c5 0), (9, pt c4 0), (7, .bool t1)]) [] (RFacts.nil _ _ _) 2 [.no, .l 2] (by kernel_rfl) (by kernel_rfl) ?_
 obtain ⟨t6, hA6, H⟩ := bnd H
 refine RL.callP 14 [.slice A6 t5.1.length c6, .agg #[i6 t3.f0, .string t3.f1, .slice A2 t3.f2.length c2]] (some 43) (fun w => ledger_Append.Post I5 w t6) (by kernel_rfl) (by kernel_rfl) (fun w hs => ledger_Append.calls k I5 t5.1 A6 c6 t3 A2 c2 w hs.im hl3 hr3 hf2 (Rd.ext (Imm.le_trans (Imm.le_trans hi3 hi4) hi5) hf3) t6 hA6) ?_
 rintro w v w' hs ⟨I6, A8, c8, cs7, rfl, hg, hp4⟩
 have hi6 := hg.le
 refine RL.resume (X' := [orow 5 1 A7 ((([] : List Int) ++ t5.1).length) c7 cs6, orow 5 1 A8 t6.1.length c8 cs7]) rfl (hs.call hg) ?_
 clear hs hg
 generalize w'.heap.size = nx6
 clear w w'
 refine RL.st 5 [(15, i6 t6.2), (14, .slice A8 t6.1.length c8), (13, .slice A7 ((([] : List Int) ++ t5.1).length) c7), (12, .bool t5.2), (11, .slice A6 t5.1.length c6), (8, .slice A1 t2.length c1), (10, pt c5 0), (9, pt c4 0), (7, .bool t1)] ?_
 refine OK.sr ?_
 refine RL.simK (K' := [(48, .agg #[i6 t4.f0, .string t4.f1, .slice A3 t4.f2.length c3]), (47, .slice A6 t5.1.length c6), (15, i6 t6.2), (14, .slice A8 t6.1.length c8), (13, .slice A7 ((([] : List Int) ++ t5.1).length) c7), (12, .bool t5.2), (11, .slice A6 t5.1.length c6), (8, .slice A1 t2.length c1), (10, pt c5 0), (9, pt c4 0), (7, .bool t1)]) [] (RFacts.nil _ _ _) 2 [.no, .l 3] (by kernel_rfl) (by kernel_rfl) ?_
 obtain ⟨t7, hA7, H⟩ := bnd H
 refine RL.callP 14 [.slice A6 t5.1.length c6, .agg #[i6 t4.f0, .string t4.f1, .slice A3 t4.f2.length c3]] (some 49) (fun w => ledger_Append.Post I6 w t7) (by kernel_rfl) (by kernel_rfl) (fun w hs => ledger_Append.calls k I6 t5.1 A6 c6 t4 A3 c3 w hs.im hl3 (Rd.ext hi6 hr3) hf4 (Rd.ext (Imm.le_trans (Imm.le_trans (Imm.le_trans hi3 hi4) hi5) hi6) hf5) t7 hA7) ?_
 rintro w v w' hs ⟨I7, A9, c9, cs8, rfl, hg, hp5⟩
 have hi7 := hg.le
 refine RL.resume (X' := [orow 5 1 A7 ((([] : List Int) ++ t5.1).length) c7 cs6, orow 5 1 A8 t6.1.length c8 cs7, orow 5 1 A9 t7.1.length c9 cs8]) rfl (hs.call hg) ?_
 clear hs hg
 generalize w'.heap.size = nx7
 clear w w'
 refine RL.st 5 [(17, i6 t7.2), (16, .slice A9 t7.1.length c9), (15, i6 t6.2), (14, .slice A8 t6.1.length c8), (13, .slice A7 ((([] : List Int) ++ t5.1).length) c7), (12, .bool t5.2), (11, .slice A6 t5.1.length c6), (8, .slice A1 t2.length c1), (10, pt c5 0), (9, pt c4 0), (7, .bool t1)] ?_
 refine OK.sq ?_
 refine OK.sq ?_
 refine OK.join (fun K' I' _ L' X' => ∃ (x1 : Bool), K' = [(7, .bool t1), (8, .slice A1 t2.length c1), (9, pt c4 0), (10, pt c5 0), (11, .slice A6 t5.1.length c6), (13, .slice A7 ((([] : List Int) ++ t5.1).length) c7), (14, .slice A8 t6.1.length c8), (16, .slice A9 t7.1.length c9), (61, .bool x1)] ∧ L' = [⟨nx0, [i6 a1.f0, .string a1.f1, .slice Ap1_2 a1.f2.length cp1_2], 25⟩, ⟨nx0 + 1, [i6 a2.f0, .string a2.f1, .slice Ap2_2 a2.f2.length cp2_2], 25⟩, ⟨c4, [i6 t3.f0, .string t3.f1, .slice A2 t3.f2.length c2], 25⟩, ⟨c5, [i6 t4.f0, .string t4.f1, .slice A3 t4.f2.length c3], 25⟩] ∧ X' = [orow 5 1 A7 ((([] : List Int) ++ t5.1).length) c7 cs6, orow 5 1 A8 t6.1.length c8 cs7, orow 5 1 A9 t7.1.length c9 cs8] ∧ Imm.le I7 I' ∧ armillarylaw28_LedgerIndependence.k2 k t1 t2 t3 t4 t5 t6 t7 x1 = some r) ?_ ?_
 ·rintro _ I8 nx8 _ _ ⟨x1, rfl, rfl, rfl, hi8, H⟩
  rw [armillarylaw28_LedgerIndependence.k2] at H
  refine QN.then_ ?_
  refine OK.cd x1 (fun hb => ?_) (fun hb => ?_)
  ·skip
   have hc := hb
   rw [if_pos hc] at H
   clear hb
   refine OK.sr ?_
   refine RL.st 1 [(6, .bool false)] ?_
   refine OK.re ?_
   refine QN.thenR ?_
   obtain rfl := Option.some.inj H
   refine QN.body rfl [] (RFacts.nil _ _ _) (.no) (.bool false) (by kernel_rfl) (by kernel_rfl) (by kernel_rfl) ?_ _ (.inr rfl)
   exact fun w' hs' => ⟨_, rfl, I8, rfl, hs'.got _ (.cons _ (.cons _ (.cons _ .slnil)))⟩
  ·skip
   have hc := (Bool.eq_false_iff.1 hb)
   rw [if_neg hc] at H
   clear hb
   refine OK.skt ?_
   refine OK.sr ?_
   refine RL.s 1 [(63, .slice A8 t6.1.length c8), (7, .bool t1), (8, .slice A1 t2.length c1), (9, pt c4 0), (10, pt c5 0), (11, .slice A6 t5.1.length c6), (13, .slice A7 ((([] : List Int) ++ t5.1).length) c7), (16, .slice A9 t7.1.length c9)] ?_
   refine RL.freeze (e := 5) (sz := 1) (S := A8) (n := t6.1.length) (cap := c8) 1 (by kernel_rfl) (Reps.ext (Imm.le_trans hi7 hi8) hp4) rfl (fun I9 hi9 hl4 hr4 => ?_)
   skip
   obtain ⟨t8, hA8, H⟩ := bnd H
   refine RL.callP 16 [.slice A8 t6.1.length c8] (some 64) (fun w => ledger_Scan.Post I9 w t8) (by kernel_rfl) (by kernel_rfl) (fun w hs => ledger_Scan.calls k I9 t6.1 A8 c8 w hs.im (Glob.ext (Imm.le_trans (Imm.le_trans (Imm.le_trans (Imm.le_trans (Imm.le_trans (Imm.le_trans (Imm.le_trans (Imm.le_trans hi1 hi2) hi3) hi4) hi5) hi6) hi7) hi8) hi9) hG) hl4 hr4 t8 hA8) ?_
   rintro w v w' hs ⟨I10, A10, c10, cs9, rfl, hg, hp6⟩
   have hi10 := hg.le
   refine RL.resume (X' := [orow 5 1 A7 ((([] : List Int) ++ t5.1).length) c7 cs6, orow 5 1 A9 t7.1.length c9 cs8, orow 25 3 A10 t8.1.length c10 cs9]) rfl (hs.call hg) ?_
   clear hs hg
   generalize w'.heap.size = nx9
   clear w w'
   refine RL.st 7 [(18, .slice A10 t8.1.length c10), (7, .bool t1), (8, .slice A1 t2.length c1), (9, pt c4 0), (10, pt c5 0), (11, .slice A6 t5.1.length c6), (13, .slice A7 ((([] : List Int) ++ t5.1).length) c7), (16, .slice A9 t7.1.length c9)] ?_
   refine OK.sr ?_
   refine RL.s 1 [(69, .slice A9 t7.1.length c9), (18, .slice A10 t8.1.length c10), (7, .bool t1), (8, .slice A1 t2.length c1), (9, pt c4 0), (10, pt c5 0), (11, .slice A6 t5.1.length c6), (13, .slice A7 ((([] : List Int) ++ t5.1).length) c7)] ?_
   refine RL.freeze (e := 5) (sz := 1) (S := A9) (n := t7.1.length) (cap := c9) 1 (by kernel_rfl) (Reps.ext (Imm.le_trans (Imm.le_trans hi8 hi9) hi10) hp5) rfl (fun I11 hi11 hl5 hr5 => ?_)
   skip
   obtain ⟨t9, hA9, H⟩ := bnd H
   refine RL.callP 16 [.slice A9 t7.1.length c9] (some 70) (fun w => ledger_Scan.Post I11 w t9) (by kernel_rfl) (by kernel_rfl) (fun w hs => ledger_Scan.calls k I11 t7.1 A9 c9 w hs.im (Glob.ext (Imm.le_trans (Imm.le_trans (Imm.le_trans (Imm.le_trans (Imm.le_trans (Imm.le_trans (Imm.le_trans (Imm.le_trans (Imm.le_trans (Imm.le_trans hi1 hi2) hi3) hi4) hi5) hi6) hi7) hi8) hi9) hi10) hi11) hG) hl5 hr5 t9 hA9) ?_
   rintro w v w' hs ⟨I12, A11, c11, cs10, rfl, hg, hp7⟩
   have hi12 := hg.le
   refine RL.resume (X' := [orow 5 1 A7 ((([] : List Int) ++ t5.1).length) c7 cs6, orow 25 3 A10 t8.1.length c10 cs9, orow 25 3 A11 t9.1.length c11 cs10]) rfl (hs.call hg) ?_
   clear hs hg
   generalize w'.heap.size = nx10
   clear w w'
   refine RL.st 7 [(21, .slice A11 t9.1.length c11), (18, .slice A10 t8.1.length c10), (7, .bool t1), (8, .slice A1 t2.length c1), (9, pt c4 0), (10, pt c5 0), (11, .slice A6 t5.1.length c6), (13, .slice A7 ((([] : List Int) ++ t5.1).length) c7)] ?_
   refine OK.sq ?_
   refine OK.join (fun K' I' _ L' X' => ∃ (x2 : Bool), K' = [(6, .bool x2)] ∧ L' = [⟨nx0, [i6 a1.f0, .string a1.f1, .slice Ap1_2 a1.f2.length cp1_2], 25⟩, ⟨nx0 + 1, [i6 a2.f0, .string a2.f1, .slice Ap2_2 a2.f2.length cp2_2], 25⟩, ⟨c4, [i6 t3.f0, .string t3.f1, .slice A2 t3.f2.length c2], 25⟩, ⟨c5, [i6 t4.f0, .string t4.f1, .slice A3 t4.f2.length c3], 25⟩] ∧ X' = [] ∧ Imm.le I12 I' ∧ armillarylaw28_LedgerIndependence.k1 x2 = some r) ?_ ?_
   ·rintro _ I13 nx11 _ _ ⟨x2, rfl, rfl, rfl, hi13, H⟩
    rw [armillarylaw28_LedgerIndependence.k1] at H
    refine QN.then_ ?_
    refine OK.re ?_
    obtain rfl := Option.some.inj H
    refine QN.body rfl [] (RFacts.nil _ _ _) (.no) (.bool x2) (by kernel_rfl) (by kernel_rfl) (by kernel_rfl) ?_ _ (.inr rfl)
    exact fun w' hs' => ⟨_, rfl, I13, rfl, hs'.got _ .slnil⟩
   ·intro Q_1 hJ2 hQ2
    obtain ⟨y2, H, HK2⟩ := bnd H
    obtain ⟨t10, hA10, H⟩ := bnd H
    refine OK.cases t10 (fun hb1 => ?_) (fun hb1 => ?_)
    ·have hc1 := hb1
     rw [if_pos hc1] at H
     obtain ⟨hz2, H⟩ := ifs H
     obtain ⟨hz3, H⟩ := ifs H
     obtain ⟨t11, hA11, H⟩ := bnd H
     refine OK.cases t11 (fun hb2 => ?_) (fun hb2 => ?_)
     ·have hc2 := hb2
      rw [if_pos hc2] at H
      obtain ⟨hz4, H⟩ := ifs H
      obtain ⟨hz5, H⟩ := ifs H
      refine OK.drawnB 11 21 O10_38 a10_38n (by kernel_rfl) (by kernel_rfl) (u10d2l t2 t3 t4 t10 t11) (u10d2t t3 t4) u10d2g (u10d2x t2 t3 t4 t5 A7 c7 cs6 t8 A10 c10 cs9 t9 A11 c11 cs10) (u10d2p t2 t3 t4 t5 cs6 t8 cs9 t9 cs10) [] (RI.nil _) [.no, .no, .no, .no, .no, .no, .no, .no, .l 2, .no, .no, .no, .no, .no, .no, .no, .no, .no, .l 3, .no, .no] a10_38 a10_38o (by kernel_rfl) (by kernel_rfl) (by kernel_rfl) (by kernel_rfl) (u10d2s t2 t3 t4 A1 c1 A2 c2 A3 c3 t5 A6 c6 A7 c7 t8 A10 c10 t9 A11 c11 t10 t11) (u10d2f t1 t2 t3 t4 A1 c1 A2 c2 A3 c3 c4 c5 t5 A6 c6 A7 c7 t8 A10 c10 t9 A11 c11 t10 t11 21) (u10d2v a1 Ap1_2 cp1_2 a2 Ap2_2 cp2_2 nx0 t1 t2 t3 t4 A1 c1 A2 c2 A3 c3 c4 c5 t5 A6 c6 A7 c7 t8 A10 c10 t9 A11 c11 t10 t11) (u10d2e a1 Ap1_2 cp1_2 a2 Ap2_2 cp2_2 nx0 t1 t2 t3 t4 A1 c1 A2 c2 A3 c3 c4 c5 t5 A6 c6 A7 c7 t8 A10 c10 t9 A11 c11 t10 t11) (fun _ => rfl) (fun _ => ⟨(Reps.ext (Imm.le_trans (Imm.le_trans (Imm.le_trans (Imm.le_trans (Imm.le_trans (Imm.le_trans hi6 hi7) hi8) hi9) hi10) hi11) hi12) hp3), (Reps.ext (Imm.le_trans hi11 hi12) hp6), hp7, trivial⟩) (List.forall_mem_cons.2 ⟨fun q u x => match q with | 0 => rfl | 1 => rfl | 2 => rfl | 3 => rfl | 4 => rfl | 5 => rfl | 6 => rfl | 7 => rfl | _ + 8 => rfl, List.forall_mem_cons.2 ⟨fun q u x => match q with | 0 => rfl | 1 => rfl | 2 => rfl | 3 => rfl | 4 => rfl | 5 => rfl | 6 => rfl | 7 => rfl | _ + 8 => rfl, fun l hl => (by cases hl)⟩⟩) (List.forall_mem_cons.2 ⟨fun q u x J J' h f => match q, f with | 0, f => (And.intro (Reps.ext h (And.left f)) (And.intro (Reps.ext h (And.left (And.right f))) (And.intro (Reps.ext h (And.left (And.right (And.right f)))) True.intro))) | 1, f => (And.intro (Reps.ext h (And.left f)) (And.intro (Reps.ext h (And.left (And.right f))) (And.intro (Reps.ext h (And.left (And.right (And.right f)))) True.intro))) | 2, f => (And.intro (Reps.ext h (And.left f)) (And.intro (Reps.ext h (And.left (And.right f))) (And.intro (Reps.ext h (And.left (And.right (And.right f)))) (And.intro (Reps.ext h (And.left (And.right (And.right (And.right f))))) True.intro)))) | 3, f => (And.intro (Reps.ext h (And.left f)) (And.intro (Reps.ext h (And.left (And.right f))) (And.intro (Reps.ext h (And.left (And.right (And.right f)))) (And.intro (Reps.ext h (And.left (And.right (And.right (And.right f))))) True.intro)))) | 4, f => (And.intro (Reps.ext h (And.left f)) (And.intro (Reps.ext h (And.left (And.right f))) (And.intro (Reps.ext h (And.left (And.right (And.right f)))) (And.intro (Reps.ext h (And.left (And.right (And.right (And.right f))))) True.intro)))) | 5, f => (And.intro (Reps.ext h (And.left f)) (And.intro (Reps.ext h (And.left (And.right f))) (And.intro (Reps.ext h (And.left (And.right (And.right f)))) (And.intro (Reps.ext h (And.left (And.right (And.right (And.right f))))) True.intro)))) | 6, f => (And.intro (Reps.ext h (And.left f)) (And.intro (Reps.ext h (And.left (And.right f))) (And.intro (Reps.ext h (And.left (And.right (And.right f)))) (And.intro (Reps.ext h (And.left (And.right (And.right (And.right f))))) (And.intro (Reps.ext h (And.left (And.right (And.right (And.right (And.right f)))))) True.intro))))) | 7, f => (And.intro (Reps.ext h (And.left f)) (And.intro (Reps.ext h (And.left (And.right f))) (And.intro (Reps.ext h (And.left (And.right (And.right f)))) (And.intro (Reps.ext h (And.left (And.right (And.right (And.right f))))) (And.intro (Reps.ext h (And.left (And.right (And.right (And.right (And.right f)))))) True.intro))))) | _ + 8, f => (And.intro (Reps.ext h (And.left f)) (And.intro (Reps.ext h (And.left (And.right f))) (And.intro (Reps.ext h (And.left (And.right (And.right f)))) (And.intro (Reps.ext h (And.left (And.right (And.right (And.right f))))) (And.intro (Reps.ext h (And.left (And.right (And.right (And.right (And.right f)))))) True.intro))))), List.forall_mem_cons.2 ⟨fun q u x J J' h f => match q, f with | 0, f => (And.intro (Reps.ext h (And.left f)) (And.intro (Reps.ext h (And.left (And.right f))) (And.intro (Reps.ext h (And.left (And.right (And.right f)))) True.intro))) | 1, f => (And.intro (Reps.ext h (And.left f)) (And.intro (Reps.ext h (And.left (And.right f))) (And.intro (Reps.ext h (And.left (And.right (And.right f)))) True.intro))) | 2, f => (And.intro (Reps.ext h (And.left f)) (And.intro (Reps.ext h (And.left (And.right f))) (And.intro (Reps.ext h (And.left (And.right (And.right f)))) (And.intro (Reps.ext h (And.left (And.right (And.right (And.right f))))) True.intro)))) | 3, f => (And.intro (Reps.ext h (And.left f)) (And.intro (Reps.ext h (And.left (And.right f))) (And.intro (Reps.ext h (And.left (And.right (And.right f)))) (And.intro (Reps.ext h (And.left (And.right (And.right (And.right f))))) True.intro)))) | 4, f => (And.intro (Reps.ext h (And.left f)) (And.intro (Reps.ext h (And.left (And.right f))) (And.intro (Reps.ext h (And.left (And.right (And.right f)))) (And.intro (Reps.ext h (And.left (And.right (And.right (And.right f))))) True.intro)))) | 5, f => (And.intro (Reps.ext h (And.left f)) (And.intro (Reps.ext h (And.left (And.right f))) (And.intro (Reps.ext h (And.left (And.right (And.right f)))) (And.intro (Reps.ext h (And.left (And.right (And.right (And.right f))))) True.intro)))) | 6, f => (And.intro (Reps.ext h (And.left f)) (And.intro (Reps.ext h (And.left (And.right f))) (And.intro (Reps.ext h (And.left (And.right (And.right f)))) (And.intro (Reps.ext h (And.left (And.right (And.right (And.right f))))) (And.intro (Reps.ext h (And.left (And.right (And.right (And.right (And.right f)))))) True.intro))))) | 7, f => (And.intro (Reps.ext h (And.left f)) (And.intro (Reps.ext h (And.left (And.right f))) (And.intro (Reps.ext h (And.left (And.right (And.right f)))) (And.intro (Reps.ext h (And.left (And.right (And.right (And.right f))))) (And.intro (Reps.ext h (And.left (And.right (And.right (And.right (And.right f)))))) True.intro))))) | _ + 8, f => (And.intro (Reps.ext h (And.left f)) (And.intro (Reps.ext h (And.left (And.right f))) (And.intro (Reps.ext h (And.left (And.right (And.right f)))) (And.intro (Reps.ext h (And.left (And.right (And.right (And.right f))))) (And.intro (Reps.ext h (And.left (And.right (And.right (And.right (And.right f)))))) True.intro))))), fun l hl => (by cases hl)⟩⟩) [u10d2f t1 t2 t3 t4 A1 c1 A2 c2 A3 c3 c4 c5 t5 A6 c6 A7 c7 t8 A10 c10 t9 A11 c11 t10 t11 2, u10d2f t1 t2 t3 t4 A1 c1 A2 c2 A3 c3 c4 c5 t5 A6 c6 A7 c7 t8 A10 c10 t9 A11 c11 t10 t11 5, u10d2f t1 t2 t3 t4 A1 c1 A2 c2 A3 c3 c4 c5 t5 A6 c6 A7 c7 t8 A10 c10 t9 A11 c11 t10 t11 7, u10d2f t1 t2 t3 t4 A1 c1 A2 c2 A3 c3 c4 c5 t5 A6 c6 A7 c7 t8 A10 c10 t9 A11 c11 t10 t11 10, u10d2f t1 t2 t3 t4 A1 c1 A2 c2 A3 c3 c4 c5 t5 A6 c6 A7 c7 t8 A10 c10 t9 A11 c11 t10 t11 11, u10d2f t1 t2 t3 t4 A1 c1 A2 c2 A3 c3 c4 c5 t5 A6 c6 A7 c7 t8 A10 c10 t9 A11 c11 t10 t11 15, u10d2f t1 t2 t3 t4 A1 c1 A2 c2 A3 c3 c4 c5 t5 A6 c6 A7 c7 t8 A10 c10 t9 A11 c11 t10 t11 17, u10d2f t1 t2 t3 t4 A1 c1 A2 c2 A3 c3 c4 c5 t5 A6 c6 A7 c7 t8 A10 c10 t9 A11 c11 t10 t11 20] [u10d2f t1 t2 t3 t4 A1 c1 A2 c2 A3 c3 c4 c5 t5 A6 c6 A7 c7 t8 A10 c10 t9 A11 c11 t10 t11 9, u10d2f t1 t2 t3 t4 A1 c1 A2 c2 A3 c3 c4 c5 t5 A6 c6 A7 c7 t8 A10 c10 t9 A11 c11 t10 t11 19] rfl (framesOk.cons (fun u => rfl) (framesOk.cons (fun u => rfl) (framesOk.cons (fun u => rfl) (framesOk.cons (fun u => rfl) (framesOk.cons (fun u => rfl) (framesOk.cons (fun u => rfl) (framesOk.cons (fun u => rfl) (framesOk.cons (fun u => rfl) (framesOk.cons (fun u => rfl) (framesOk.cons (fun u => rfl) framesOk.nil)))))))))) ?_ ?_ [u10d2f t1 t2 t3 t4 A1 c1 A2 c2 A3 c3 c4 c5 t5 A6 c6 A7 c7 t8 A10 c10 t9 A11 c11 t10 t11 3, u10d2f t1 t2 t3 t4 A1 c1 A2 c2 A3 c3 c4 c5 t5 A6 c6 A7 c7 t8 A10 c10 t9 A11 c11 t10 t11 13] (framesOk.cons (fun u => rfl) (framesOk.cons (fun u => rfl) framesOk.nil)) ?_ ?_
      ·refine StepsB.cons ?_ (StepsB.cons ?_ (StepsB.cons ?_ (StepsB.cons ?_ (StepsB.cons ?_ (StepsB.cons ?_ (StepsB.cons ?_ (StepsB.cons ?_ (StepsB.nil))))))))
       ·rintro D u w J hp hJ hs ⟨r0, r1, r2, -⟩ hlit
        replace hs : Sat _ J w.heap.size [⟨nx0, [i6 a1.f0, .string a1.f1, .slice Ap1_2 a1.f2.length cp1_2], 25⟩, ⟨nx0 + 1, [i6 a2.f0, .string a2.f1, .slice Ap2_2 a2.f2.length cp2_2], 25⟩, ⟨c4, [i6 t3.f0, .string t3.f1, .slice A2 t3.f2.length c2], 25⟩, ⟨c5, [i6 t4.f0, .string t4.f1, .slice A3 t4.f2.length c3], 25⟩] [orow 5 1 A7 ((([] : List Int) ++ t5.1).length) c7 cs6, orow 25 3 A10 t8.1.length c10 cs9, orow 25 3 A11 t9.1.length c11 cs10] w := hs
        have hs0 := hs
        obtain ⟨JL1, hj1, hn1, hw1, hs⟩ := Sat.freeze (e := 5) (sz := 1) (S := A7) (n := (([] : List Int) ++ t5.1).length) (cap := c7) (m := 0) hs (by kernel_rfl) r0 rfl
        refine Does.call 18 [.slice A6 t5.1.length c6, .slice A7 ((([] : List Int) ++ t5.1).length) c7] (by kernel_rfl) ((armillaryref28_SameBytes.calls k JL1 t5.1 A6 c6 (([] : List Int) ++ t5.1) A7 c7 w hs.im hl3 (Rd.ext hj1 (Rd.ext (Imm.le_trans (Imm.le_trans (Imm.le_trans (Imm.le_trans (Imm.le_trans (Imm.le_trans (Imm.le_trans hi6 hi7) hi8) hi9) hi10) hi11) hi12) hJ) hr3)) hn1 hw1 t10 hA10).mono ?_)
        rintro e w' ⟨v, rfl, J2, rfl, hg⟩
        exact ⟨_, rfl, fun _ => (none, 0, []), rfl, J, Imm.le_refl _, by have h9 := hs0.call (hg.back hj1); rw [List.append_nil] at h9; exact h9, r0, r1, r2, trivial⟩
       ·rintro D u w J hp hJ hs ⟨r0, r1, r2, -⟩ hlit
        replace hs : Sat _ J w.heap.size [⟨nx0, [i6 a1.f0, .string a1.f1, .slice Ap1_2 a1.f2.length cp1_2], 25⟩, ⟨nx0 + 1, [i6 a2.f0, .string a2.f1, .slice Ap2_2 a2.f2.length cp2_2], 25⟩, ⟨c4, [i6 t3.f0, .string t3.f1, .slice A2 t3.f2.length c2], 25⟩, ⟨c5, [i6 t4.f0, .string t4.f1, .slice A3 t4.f2.length c3], 25⟩] [orow 5 1 A7 ((([] : List Int) ++ t5.1).length) c7 cs6, orow 25 3 A10 t8.1.length c10 cs9, orow 25 3 A11 t9.1.length c11 cs10] w := hs
        refine (Does.make hs.im (fun n_ => .slice (some ⟨n_, 0, none⟩) 0 0) (cs := []) (ty := 25) (fun n_ => by kernel_rfl)).mono ?_
        rintro v w' ⟨rfl, hg⟩
        exact ⟨fun _ => (some ⟨w.heap.size, 0, none⟩, 0, []), rfl, J, Imm.le_refl _, (hs.call hg).kblkRow (n := 0) (sz := 3) (by kernel_rfl) (by decide), r0, r1, r2, rfl, trivial⟩
       ·rintro D u w J hp hJ hs ⟨r0, r1, r2, r3, -⟩ hlit
        replace hs : Sat _ J w.heap.size [⟨nx0, [i6 a1.f0, .string a1.f1, .slice Ap1_2 a1.f2.length cp1_2], 25⟩, ⟨nx0 + 1, [i6 a2.f0, .string a2.f1, .slice Ap2_2 a2.f2.length cp2_2], 25⟩, ⟨c4, [i6 t3.f0, .string t3.f1, .slice A2 t3.f2.length c2], 25⟩, ⟨c5, [i6 t4.f0, .string t4.f1, .slice A3 t4.f2.length c3], 25⟩] [orow 5 1 A7 ((([] : List Int) ++ t5.1).length) c7 cs6, orow 25 3 A10 t8.1.length c10 cs9, orow 25 3 A11 t9.1.length c11 cs10, orow 25 3 ((u 5 0).1) (([] : List S25).length) ((u 5 0).2.1) []] w := hs
        obtain ⟨S', c', cs', w', hr, hp, hs'⟩ := hs.append_runR (P := Tryd.prog) (T := 23) (e := 25) (S := (u 5 0).1) (S2 := A1) 3 48 23 ((u 5 0).2.1) c1 [] t25 ([] : List S25) t2 3 (by kernel_rfl) (by kernel_rfl) (by kernel_rfl) (by decide) (by kernel_rfl) r3 (Rd.ext (Imm.le_trans (Imm.le_trans (Imm.le_trans (Imm.le_trans (Imm.le_trans (Imm.le_trans (Imm.le_trans (Imm.le_trans hi5 hi6) hi7) hi8) hi9) hi10) hi11) hi12) hJ) hr2) hz2 (by omega)
        have hx : execOp (evalK (u10d2f t1 t2 t3 t4 A1 c1 A2 c2 A3 c3 c4 c5 t5 A6 c6 A7 c7 t8 A10 c10 t9 A11 c11 t10 t11 7 u)) (O10_38.getD 7 default) = toNext (Builtin.append_ #[23, 23] 23 #[.slice ((u 5 0).1) ([] : List S25).length ((u 5 0).2.1), .slice A1 t2.length c1]) := by kernel_rfl
        refine Does.run (w' := w') (v := .slice S' (([] : List S25) ++ t2).length c') ?_ ?_
        ·rw [hx]; exact (run_toNext hr)
        exact ⟨fun _ => (S', c', cs'), rfl, J, Imm.le_refl _, hs', r0, r1, r2, hp, trivial⟩
       ·rintro D u w J hp hJ hs ⟨r0, r1, r2, r3, -⟩ hlit
        have hl_9 := And.left ((And.left hlit) (hp 9 (by kernel_rfl) (by kernel_rfl)))
        replace hs : Sat _ J w.heap.size [⟨nx0, [i6 a1.f0, .string a1.f1, .slice Ap1_2 a1.f2.length cp1_2], 25⟩, ⟨nx0 + 1, [i6 a2.f0, .string a2.f1, .slice Ap2_2 a2.f2.length cp2_2], 25⟩, ⟨c4, [i6 t3.f0, .string t3.f1, .slice A2 t3.f2.length c2], 25⟩, ⟨c5, [i6 t4.f0, .string t4.f1, .slice A3 t4.f2.length c3], 25⟩] [orow 5 1 A7 ((([] : List Int) ++ t5.1).length) c7 cs6, orow 25 3 A10 t8.1.length c10 cs9, orow 25 3 A11 t9.1.length c11 cs10, orow 25 3 ((u 7 0).1) ((([] : List S25) ++ t2).length) ((u 7 0).2.1) ((u 7 0).2.2)] w := hs
        obtain ⟨S', c', cs', w', hr, hp, hs'⟩ := hs.append_runR (P := Tryd.prog) (T := 23) (e := 25) (S := (u 7 0).1) (S2 := (some ⟨(u 9 0).2.1, 0, none⟩)) 3 48 23 ((u 7 0).2.1) 1 ((u 7 0).2.2) t25 (([] : List S25) ++ t2) [t3] 3 (by kernel_rfl) (by kernel_rfl) (by kernel_rfl) (by decide) (by kernel_rfl) r3 hl_9 hz3 (by omega)
        have hx : execOp (evalK (u10d2f t1 t2 t3 t4 A1 c1 A2 c2 A3 c3 c4 c5 t5 A6 c6 A7 c7 t8 A10 c10 t9 A11 c11 t10 t11 10 u)) (O10_38.getD 10 default) = toNext (Builtin.append_ #[23, 23] 23 #[.slice ((u 7 0).1) (([] : List S25) ++ t2).length ((u 7 0).2.1), .slice (some ⟨(u 9 0).2.1, 0, none⟩) [t3].length 1]) := by kernel_rfl
        refine Does.run (w' := w') (v := .slice S' ((([] : List S25) ++ t2) ++ [t3]).length c') ?_ ?_
        ·rw [hx]; exact (run_toNext hr)
        exact ⟨fun _ => (S', c', cs'), rfl, J, Imm.le_refl _, hs', r0, r1, r2, hp, trivial⟩
       ·rintro D u w J hp hJ hs ⟨r0, r1, r2, r3, -⟩ hlit
        have hl_9 := And.left ((And.left hlit) (hp 9 (by kernel_rfl) (by kernel_rfl)))
        replace hs : Sat _ J w.heap.size [⟨nx0, [i6 a1.f0, .string a1.f1, .slice Ap1_2 a1.f2.length cp1_2], 25⟩, ⟨nx0 + 1, [i6 a2.f0, .string a2.f1, .slice Ap2_2 a2.f2.length cp2_2], 25⟩, ⟨c4, [i6 t3.f0, .string t3.f1, .slice A2 t3.f2.length c2], 25⟩, ⟨c5, [i6 t4.f0, .string t4.f1, .slice A3 t4.f2.length c3], 25⟩] [orow 5 1 A7 ((([] : List Int) ++ t5.1).length) c7 cs6, orow 25 3 A10 t8.1.length c10 cs9, orow 25 3 A11 t9.1.length c11 cs10, orow 25 3 ((u 10 0).1) (((([] : List S25) ++ t2) ++ [t3]).length) ((u 10 0).2.1) ((u 10 0).2.2)] w := hs
        have hs0 := hs
        obtain ⟨JL2, hj2, hn2, hw2, hs⟩ := Sat.freeze (e := 25) (sz := 3) (S := A10) (n := t8.1.length) (cap := c10) (m := 1) hs (by kernel_rfl) r1 rfl
        obtain ⟨JL3, hj3, hn3, hw3, hs⟩ := Sat.freeze (e := 25) (sz := 3) (S := (u 10 0).1) (n := ((([] : List S25) ++ t2) ++ [t3]).length) (cap := (u 10 0).2.1) (m := 2) hs (by kernel_rfl) (Reps.ext hj2 r3) rfl
        refine Does.call 19 [.slice A10 t8.1.length c10, .slice ((u 10 0).1) (((([] : List S25) ++ t2) ++ [t3]).length) ((u 10 0).2.1)] (by kernel_rfl) ((armillaryref28_Same.calls k JL3 t8.1 A10 c10 ((([] : List S25) ++ t2) ++ [t3]) ((u 10 0).1) ((u 10 0).2.1) w hs.im hn2 (Rd.ext hj3 hw2) hn3 hw3 t11 hA11).mono ?_)
        rintro e w' ⟨v, rfl, J2, rfl, hg⟩
        exact ⟨_, rfl, fun _ => (none, 0, []), rfl, J, Imm.le_refl _, by have h9 := hs0.call (hg.back (Imm.le_trans hj2 hj3)); rw [List.append_nil] at h9; exact h9, r0, r1, r2, r3, trivial⟩
       ·rintro D u w J hp hJ hs ⟨r0, r1, r2, r3, -⟩ hlit
        have hl_9 := And.left ((And.left hlit) (hp 9 (by kernel_rfl) (by kernel_rfl)))
        replace hs : Sat _ J w.heap.size [⟨nx0, [i6 a1.f0, .string a1.f1, .slice Ap1_2 a1.f2.length cp1_2], 25⟩, ⟨nx0 + 1, [i6 a2.f0, .string a2.f1, .slice Ap2_2 a2.f2.length cp2_2], 25⟩, ⟨c4, [i6 t3.f0, .string t3.f1, .slice A2 t3.f2.length c2], 25⟩, ⟨c5, [i6 t4.f0, .string t4.f1, .slice A3 t4.f2.length c3], 25⟩] [orow 5 1 A7 ((([] : List Int) ++ t5.1).length) c7 cs6, orow 25 3 A10 t8.1.length c10 cs9, orow 25 3 A11 t9.1.length c11 cs10, orow 25 3 ((u 10 0).1) (((([] : List S25) ++ t2) ++ [t3]).length) ((u 10 0).2.1) ((u 10 0).2.2)] w := hs
        refine (Does.make hs.im (fun n_ => .slice (some ⟨n_, 0, none⟩) 0 0) (cs := []) (ty := 25) (fun n_ => by kernel_rfl)).mono ?_
        rintro v w' ⟨rfl, hg⟩
        exact ⟨fun _ => (some ⟨w.heap.size, 0, none⟩, 0, []), rfl, J, Imm.le_refl _, (hs.call hg).kblkRow (n := 0) (sz := 3) (by kernel_rfl) (by decide), r0, r1, r2, r3, rfl, trivial⟩
       ·rintro D u w J hp hJ hs ⟨r0, r1, r2, r3, r4, -⟩ hlit
        have hl_9 := And.left ((And.left hlit) (hp 9 (by kernel_rfl) (by kernel_rfl)))
        replace hs : Sat _ J w.heap.size [⟨nx0, [i6 a1.f0, .string a1.f1, .slice Ap1_2 a1.f2.length cp1_2], 25⟩, ⟨nx0 + 1, [i6 a2.f0, .string a2.f1, .slice Ap2_2 a2.f2.length cp2_2], 25⟩, ⟨c4, [i6 t3.f0, .string t3.f1, .slice A2 t3.f2.length c2], 25⟩, ⟨c5, [i6 t4.f0, .string t4.f1, .slice A3 t4.f2.length c3], 25⟩] [orow 5 1 A7 ((([] : List Int) ++ t5.1).length) c7 cs6, orow 25 3 A10 t8.1.length c10 cs9, orow 25 3 A11 t9.1.length c11 cs10, orow 25 3 ((u 10 0).1) (((([] : List S25) ++ t2) ++ [t3]).length) ((u 10 0).2.1) ((u 10 0).2.2), orow 25 3 ((u 15 0).1) (([] : List S25).length) ((u 15 0).2.1) []] w := hs
        obtain ⟨S', c', cs', w', hr, hp, hs'⟩ := hs.append_runR (P := Tryd.prog) (T := 23) (e := 25) (S := (u 15 0).1) (S2 := A1) 3 48 23 ((u 15 0).2.1) c1 [] t25 ([] : List S25) t2 4 (by kernel_rfl) (by kernel_rfl) (by kernel_rfl) (by decide) (by kernel_rfl) r4 (Rd.ext (Imm.le_trans (Imm.le_trans (Imm.le_trans (Imm.le_trans (Imm.le_trans (Imm.le_trans (Imm.le_trans (Imm.le_trans hi5 hi6) hi7) hi8) hi9) hi10) hi11) hi12) hJ) hr2) hz4 (by omega)
        have hx : execOp (evalK (u10d2f t1 t2 t3 t4 A1 c1 A2 c2 A3 c3 c4 c5 t5 A6 c6 A7 c7 t8 A10 c10 t9 A11 c11 t10 t11 17 u)) (O10_38.getD 17 default) = toNext (Builtin.append_ #[23, 23] 23 #[.slice ((u 15 0).1) ([] : List S25).length ((u 15 0).2.1), .slice A1 t2.length c1]) := by kernel_rfl
        refine Does.run (w' := w') (v := .slice S' (([] : List S25) ++ t2).length c') ?_ ?_
        ·rw [hx]; exact (run_toNext hr)
        exact ⟨fun _ => (S', c', cs'), rfl, J, Imm.le_refl _, hs', r0, r1, r2, r3, hp, trivial⟩
       ·rintro D u w J hp hJ hs ⟨r0, r1, r2, r3, r4, -⟩ hlit
        have hl_9 := And.left ((And.left hlit) (hp 9 (by kernel_rfl) (by kernel_rfl)))
        have hl_19 := And.left ((And.left (And.right hlit)) (hp 19 (by kernel_rfl) (by kernel_rfl)))
        replace hs : Sat _ J w.heap.size [⟨nx0, [i6 a1.f0, .string a1.f1, .slice Ap1_2 a1.f2.length cp1_2], 25⟩, ⟨nx0 + 1, [i6 a2.f0, .string a2.f1, .slice Ap2_2 a2.f2.length cp2_2], 25⟩, ⟨c4, [i6 t3.f0, .string t3.f1, .slice A2 t3.f2.length c2], 25⟩, ⟨c5, [i6 t4.f0, .string t4.f1, .slice A3 t4.f2.length c3], 25⟩] [orow 5 1 A7 ((([] : List Int) ++ t5.1).length) c7 cs6, orow 25 3 A10 t8.1.length c10 cs9, orow 25 3 A11 t9.1.length c11 cs10, orow 25 3 ((u 10 0).1) (((([] : List S25) ++ t2) ++ [t3]).length) ((u 10 0).2.1) ((u 10 0).2.2), orow 25 3 ((u 17 0).1) ((([] : List S25) ++ t2).length) ((u 17 0).2.1) ((u 17 0).2.2)] w := hs
        obtain ⟨S', c', cs', w', hr, hp, hs'⟩ := hs.append_runR (P := Tryd.prog) (T := 23) (e := 25) (S := (u 17 0).1) (S2 := (some ⟨(u 19 0).2.1, 0, none⟩)) 3 48 23 ((u 17 0).2.1) 1 ((u 17 0).2.2) t25 (([] : List S25) ++ t2) [t4] 4 (by kernel_rfl) (by kernel_rfl) (by kernel_rfl) (by decide) (by kernel_rfl) r4 hl_19 hz5 (by omega)
        have hx : execOp (evalK (u10d2f t1 t2 t3 t4 A1 c1 A2 c2 A3 c3 c4 c5 t5 A6 c6 A7 c7 t8 A10 c10 t9 A11 c11 t10 t11 20 u)) (O10_38.getD 20 default) = toNext (Builtin.append_ #[23, 23] 23 #[.slice ((u 17 0).1) (([] : List S25) ++ t2).length ((u 17 0).2.1), .slice (some ⟨(u 19 0).2.1, 0, none⟩) [t4].length 1]) := by kernel_rfl
        refine Does.run (w' := w') (v := .slice S' ((([] : List S25) ++ t2) ++ [t4]).length c') ?_ ?_
        ·rw [hx]; exact (run_toNext hr)
        exact ⟨fun _ => (S', c', cs'), rfl, J, Imm.le_refl _, hs', r0, r1, r2, r3, hp, trivial⟩
      ·refine LitsB.cons ?_ (LitsB.cons ?_ (LitsB.nil))
       ·intro u w J X hJ hs
        refine (Does.make hs.im (fun n_ => .slice (some ⟨n_, 0, none⟩) 1 1) (cs := [i6 t3.f0, .string t3.f1, .slice A2 t3.f2.length c2]) (ty := 25) (fun n_ => by kernel_rfl)).mono ?_
        rintro v w' ⟨rfl, hg⟩
        obtain ⟨J2, hJ2, hg2, hr2⟩ := hg.freezeK (d := t25) (l := [t3]) ⟨_, _, rfl, (t25_mk _ _ hf2 (Rd.ext (Imm.le_trans (Imm.le_trans (Imm.le_trans (Imm.le_trans (Imm.le_trans (Imm.le_trans (Imm.le_trans (Imm.le_trans (Imm.le_trans (Imm.le_trans hi3 hi4) hi5) hi6) hi7) hi8) hi9) hi10) hi11) hi12) hJ) hf3)), rfl⟩ (Nat.le_of_ble_eq_true rfl)
        exact ⟨fun _ => (none, w.heap.size, []), rfl, J2, hJ2, by have h9 := hs.call hg2; rw [List.append_nil] at h9; exact h9, hr2, trivial⟩
       ·intro u w J X hJ hs
        refine (Does.make hs.im (fun n_ => .slice (some ⟨n_, 0, none⟩) 1 1) (cs := [i6 t4.f0, .string t4.f1, .slice A3 t4.f2.length c3]) (ty := 25) (fun n_ => by kernel_rfl)).mono ?_
        rintro v w' ⟨rfl, hg⟩
        obtain ⟨J2, hJ2, hg2, hr2⟩ := hg.freezeK (d := t25) (l := [t4]) ⟨_, _, rfl, (t25_mk _ _ hf4 (Rd.ext (Imm.le_trans (Imm.le_trans (Imm.le_trans (Imm.le_trans (Imm.le_trans (Imm.le_trans (Imm.le_trans (Imm.le_trans (Imm.le_trans (Imm.le_trans hi3 hi4) hi5) hi6) hi7) hi8) hi9) hi10) hi11) hi12) hJ) hf5)), rfl⟩ (Nat.le_of_ble_eq_true rfl)
        exact ⟨fun _ => (none, w.heap.size, []), rfl, J2, hJ2, by have h9 := hs.call hg2; rw [List.append_nil] at h9; exact h9, hr2, trivial⟩
      ·refine Givens.cons (fun u w => ?_) (fun _ _ _ => rfl) (Givens.cons (fun u w => ?_) (fun _ _ _ => rfl) (Givens.nil))
       ·exact giv_run (v := .bool t10) (by kernel_rfl) (by rw [hb1]; try rfl) w
       ·exact giv_run (v := .bool t11) (by kernel_rfl) (by rw [hb2]; try rfl) w
      rintro u I14 nx12 hi14 ⟨hp8, hp9, hp10, hp11, hp12, -⟩
      refine RL.norm (K' := ((94, .slice ((u 20 0).1) (((([] : List S25) ++ t2) ++ [t4]).length) ((u 20 0).2.1)) :: (93, .slice (some ⟨(u 19 0).2.1, 0, none⟩) 1 1) :: (92, .agg #[i6 t4.f0, .string t4.f1, .slice A3 t4.f2.length c3]) :: (91, .slice ((u 17 0).1) ((([] : List S25) ++ t2).length) ((u 17 0).2.1)) :: (90, .slice A1 t2.length c1) :: (89, .slice ((u 15 0).1) (([] : List S25).length) ((u 15 0).2.1)) :: (88, .slice A11 t9.1.length c11) :: (87, .bool true) :: (86, .bool t11) :: (85, .bool t11) :: (84, .slice ((u 10 0).1) (((([] : List S25) ++ t2) ++ [t3]).length) ((u 10 0).2.1)) :: (83, .slice (some ⟨(u 9 0).2.1, 0, none⟩) 1 1) :: (82, .agg #[i6 t3.f0, .string t3.f1, .slice A2 t3.f2.length c2]) :: (81, .slice ((u 7 0).1) ((([] : List S25) ++ t2).length) ((u 7 0).2.1)) :: (80, .slice A1 t2.length c1) :: (79, .slice ((u 5 0).1) (([] : List S25).length) ((u 5 0).2.1)) :: (78, .slice A10 t8.1.length c10) :: (77, .bool true) :: (76, .bool t10) :: (75, .slice A7 ((([] : List Int) ++ t5.1).length) c7) :: (74, .slice A6 t5.1.length c6) :: (21, .slice A11 t9.1.length c11) :: (18, .slice A10 t8.1.length c10) :: (7, .bool t1) :: (8, .slice A1 t2.length c1) :: (9, pt c4 0) :: (10, pt c5 0) :: (11, .slice A6 t5.1.length c6) :: (13, .slice A7 ((([] : List Int) ++ t5.1).length) c7) :: [])) (X' := [orow 5 1 A7 ((([] : List Int) ++ t5.1).length) c7 cs6, orow 25 3 A10 t8.1.length c10 cs9, orow 25 3 A11 t9.1.length c11 cs10, orow 25 3 ((u 10 0).1) (((([] : List S25) ++ t2) ++ [t3]).length) ((u 10 0).2.1) ((u 10 0).2.2), orow 25 3 ((u 20 0).1) (((([] : List S25) ++ t2) ++ [t4]).length) ((u 20 0).2.1) ((u 20 0).2.2)]) (by kernel_rfl) rfl rfl rfl ?_
      revert hp8 hp9 hp10 hp11 hp12
      generalize (u 5 0).1 = A12
      generalize (u 5 0).2.1 = c12
      generalize (u 7 0).1 = A13
      generalize (u 7 0).2.1 = c13
      generalize (u 10 0).1 = A14
      generalize (u 10 0).2.1 = c14
      generalize (u 10 0).2.2 = cs11
      generalize (u 15 0).1 = A15
      generalize (u 15 0).2.1 = c15
      generalize (u 17 0).1 = A16
      generalize (u 17 0).2.1 = c16
      generalize (u 20 0).1 = A17
      generalize (u 20 0).2.1 = c17
      generalize (u 20 0).2.2 = cs12
      generalize (u 9 0).2.1 = c18
      generalize (u 19 0).2.1 = c19
      intro hp8 hp9 hp10 hp11 hp12
      clear u
      obtain ⟨t12, hA12, H⟩ := bnd H
      refine RL.callP 19 [.slice A11 t9.1.length c11, .slice A17 (((([] : List S25) ++ t2) ++ [t4]).length) c17] (some 95) (fun w v w' => ∃ I', Imm.le I14 I' ∧ armillaryref28_Same.Post I' w t12 v w') (by kernel_rfl) (by kernel_rfl) (fun w hs => ?_) ?_
      ·skip
       obtain ⟨JL4, hj4, hn4, hw4, hs⟩ := Sat.freeze (e := 25) (sz := 3) (S := A11) (n := t9.1.length) (cap := c11) (m := 2) hs (by kernel_rfl) hp10 rfl
       obtain ⟨JL5, hj5, hn5, hw5, hs⟩ := Sat.freeze (e := 25) (sz := 3) (S := A17) (n := ((([] : List S25) ++ t2) ++ [t4]).length) (cap := c17) (m := 3) hs (by kernel_rfl) (Reps.ext hj4 hp12) rfl
       exact (armillaryref28_Same.calls k JL5 t9.1 A11 c11 ((([] : List S25) ++ t2) ++ [t4]) A17 c17 _ hs.im hn4 (Rd.ext hj5 hw4) hn5 hw5 t12 hA12).mono (fun e w' ⟨v, hv, hp⟩ => ⟨v, hv, JL5, (Imm.le_trans hj4 hj5), hp⟩)
      rintro w v w' hs ⟨I', hle, J, rfl, hg⟩
      refine RL.resume (X' := [orow 5 1 A7 ((([] : List Int) ++ t5.1).length) c7 cs6, orow 25 3 A10 t8.1.length c10 cs9, orow 25 3 A11 t9.1.length c11 cs10, orow 25 3 A14 (((([] : List S25) ++ t2) ++ [t3]).length) c14 cs11, orow 25 3 A17 (((([] : List S25) ++ t2) ++ [t4]).length) c17 cs12]) rfl (hs.call (hg.back hle)) ?_
      clear hs hg hle I' J
      generalize w'.heap.size = nx13
      clear w w'
      refine RL.s 2 [(97, .bool t12), (7, .bool t1)] ?_
      refine RL.cases t12 (fun hb => ?_) (fun hb => ?_)
      ·have hc := hb
       rw [hb]
       rw [if_pos hc] at H; clear hb
       refine RL.s 3 [(6, .bool t1)] ?_
       refine RL.nil (by kernel_rfl) ?_
       obtain rfl := Option.some.inj H
       refine QN.sel (K' := [(6, .bool t1)]) (L' := [⟨nx0, [i6 a1.f0, .string a1.f1, .slice Ap1_2 a1.f2.length cp1_2], 25⟩, ⟨nx0 + 1, [i6 a2.f0, .string a2.f1, .slice Ap2_2 a2.f2.length cp2_2], 25⟩, ⟨c4, [i6 t3.f0, .string t3.f1, .slice A2 t3.f2.length c2], 25⟩, ⟨c5, [i6 t4.f0, .string t4.f1, .slice A3 t4.f2.length c3], 25⟩]) [] (by kernel_rfl) (by kernel_rfl) (.cons_cons _ (.cons_cons _ (.cons_cons _ (.cons_cons _ .slnil)))) ?_
       refine QN.norm (X' := []) rfl rfl rfl (by kernel_rfl) ?_
       exact hJ2 _ _ _ _ _ ⟨t1, rfl, rfl, rfl, hi14, HK2⟩
      ·have hc := (Bool.eq_false_iff.1 hb)
       rw [hb]
       rw [if_neg hc] at H; clear hb
       refine RL.s 3 [(6, .bool false)] ?_
       refine RL.nil (by kernel_rfl) ?_
       obtain rfl := Option.some.inj H
       refine QN.sel (K' := [(6, .bool false)]) (L' := [⟨nx0, [i6 a1.f0, .string a1.f1, .slice Ap1_2 a1.f2.length cp1_2], 25⟩, ⟨nx0 + 1, [i6 a2.f0, .string a2.f1, .slice Ap2_2 a2.f2.length cp2_2], 25⟩, ⟨c4, [i6 t3.f0, .string t3.f1, .slice A2 t3.f2.length c2], 25⟩, ⟨c5, [i6 t4.f0, .string t4.f1, .slice A3 t4.f2.length c3], 25⟩]) [] (by kernel_rfl) (by kernel_rfl) (.cons_cons _ (.cons_cons _ (.cons_cons _ (.cons_cons _ .slnil)))) ?_
       refine QN.norm (X' := []) rfl rfl rfl (by kernel_rfl) ?_
       exact hJ2 _ _ _ _ _ ⟨false, rfl, rfl, rfl, hi14, HK2⟩
     ·have hc2 := (Bool.eq_false_iff.1 hb2)
      rw [if_neg hc2] at H
      cases H
    ·have hc1 := (Bool.eq_false_iff.1 hb1)
     rw [if_neg hc1] at H
     cases H
 ·intro Q_2 hJ1 hQ1
  obtain ⟨y1, H, HK1⟩ := bnd H
  refine OK.rg ?_
  refine RL.s 3 [(54, .bool (!t5.2)), (17, i6 t7.2), (16, .slice A9 t7.1.length c9), (15, i6 t6.2), (14, .slice A8 t6.1.length c8), (13, .slice A7 ((([] : List Int) ++ t5.1).length) c7), (11, .slice A6 t5.1.length c6), (8, .slice A1 t2.length c1), (10, pt c5 0), (9, pt c4 0), (7, .bool t1)] ?_
  refine RL.cases t5.2 (fun hb => ?_) (fun hb => ?_)
  ·have hc := hb
   rw [hb]
   rw [if_pos hc] at H; clear hb
   refine RL.s 4 [(58, .bool (t6.2 != 0)), (17, i6 t7.2), (16, .slice A9 t7.1.length c9), (14, .slice A8 t6.1.length c8), (13, .slice A7 ((([] : List Int) ++ t5.1).length) c7), (11, .slice A6 t5.1.length c6), (8, .slice A1 t2.length c1), (10, pt c5 0), (9, pt c4 0), (7, .bool t1)] ?_
   refine RL.cases (t6.2 != 0) (fun hb => ?_) (fun hb => ?_)
   ·have hc := (bne_iff_ne.1 hb)
    rw [hb]
    rw [if_pos hc] at H; clear hb
    refine RL.s 3 [(61, .bool true), (16, .slice A9 t7.1.length c9), (14, .slice A8 t6.1.length c8), (13, .slice A7 ((([] : List Int) ++ t5.1).length) c7), (11, .slice A6 t5.1.length c6), (8, .slice A1 t2.length c1), (10, pt c5 0), (9, pt c4 0), (7, .bool t1)] ?_
    refine RL.nil (by kernel_rfl) ?_
    obtain rfl := Option.some.inj H
    exact QN.sb (hJ1 _ _ _ _ _ ⟨true, rfl, rfl, rfl, (Imm.le_refl _), HK1⟩) (.cons_cons _ (.cons_cons _ (.cons_cons _ (.cons_cons _ .slnil)))) (.refl _)
   ·have hc := (not_not_intro (bne_eq_false_iff_eq.1 hb))
    rw [hb]
    rw [if_neg hc] at H; clear hb
    refine RL.s 3 [(61, .bool (t7.2 != 0)), (16, .slice A9 t7.1.length c9), (14, .slice A8 t6.1.length c8), (13, .slice A7 ((([] : List Int) ++ t5.1).length) c7), (11, .slice A6 t5.1.length c6), (8, .slice A1 t2.length c1), (10, pt c5 0), (9, pt c4 0), (7, .bool t1)] ?_
    refine RL.nil (by kernel_rfl) ?_
    obtain rfl := Option.some.inj H
    exact QN.sb (hJ1 _ _ _ _ _ ⟨(t7.2 != 0), rfl, rfl, rfl, (Imm.le_refl _), HK1⟩) (.cons_cons _ (.cons_cons _ (.cons_cons _ (.cons_cons _ .slnil)))) (.refl _)
  ·have hc := (Bool.eq_false_iff.1 hb)
   rw [hb]
   rw [if_neg hc] at H; clear hb
   refine RL.s 7 [(61, .bool true), (16, .slice A9 t7.1.length c9), (14, .slice A8 t6.1.length c8), (13, .slice A7 ((([] : List Int) ++ t5.1).length) c7), (11, .slice A6 t5.1.length c6), (8, .slice A1 t2.length c1), (10, pt c5 0), (9, pt c4 0), (7, .bool t1)] ?_
   refine RL.nil (by kernel_rfl) ?_
   obtain rfl := Option.some.inj H
   exact QN.sb (hJ1 _ _ _ _ _ ⟨true, rfl, rfl, rfl, (Imm.le_refl _), HK1⟩) (.cons_cons _ (.cons_cons _ (.cons_cons _ (.cons_cons _ .slnil)))) (.refl _)

end Go.Proofs.YtiomeaoeegikkaaDoor
namespace Go.Proofs.YtiomeaoeegikkaaDoor
open Go Go.Proofs.YtiomeaoeegikkaaDoor.RW Go.Proofs.YtiomeaoeegikkaaDoor.led
set_option linter.unusedVariables false
theorem armillarylaw28_LedgerIndependence_holds (a0 : List S25) (a1 a2 : S25) (hp0 : ∀ x ∈ a0, p25 x) (h0 : a0.length ≤ 9223372036854775807) (hp1 : p25 a1) (hp2 : p25 a2) : ∃ k, armillarylaw28_LedgerIndependence.f k a0 a1 a2 = some true := by
  obtain ⟨es, e2, hok, hn, _⟩ := made_ev a0 hp0 (by omega) 5 (by decide)
  obtain ⟨x, ex, hx, _⟩ := made_entry hp1
  obtain ⟨y, ey, hy, _⟩ := made_entry hp2
  have hl := logOf_len hok
  have e3 := build_ev es hok (by omega) [] (by decide)
  rw [List.nil_append] at e3
  have one : ∀ {z : S25}, okE z → Ev (fun k => ledger_Append.f k (logOf es) z) (logOf (es ++ [z]), 0) ∧ Ev (fun k => ledger_Scan.f k (logOf (es ++ [z]))) (es ++ [z], ((logOf (es ++ [z])).length : Int), 0) := by
    intro z hz
    have h1 := append_ev hz (logOf es) (by omega)
    have e : logOf es ++ rec_ z = logOf (es ++ [z]) := by rw [logOf_app]; simp [logOf]
    rw [e] at h1
    refine ⟨h1, scan_log (fun q hq => ?_) (by rw [List.length_append, List.length_singleton]; omega)⟩
    rcases List.mem_append.1 hq with hq | hq
    · exact hok q hq
    · rw [List.mem_singleton.1 hq]; exact hz
  obtain ⟨ax, sx⟩ := one hx
  obtain ⟨ay, sy⟩ := one hy
  refine Ev.get (Ev.bind sanity_ev (Ev.bind e2 (Ev.bind1 ex (Ev.bind1 ey (Ev.bind e3 ?_)))))
  refine Ev.congr (fun k => if_pos (by show (0 + (logOf es).length) * 1 ≤ _; omega)) ?_
  refine Ev.bind ax (Ev.bind ay ?_)
  refine Ev.bind (r := false) ?_ ?_
  · refine Ev.congr (fun k => if_pos rfl) ?_
    exact Ev.congr (fun k => if_neg (fun h => h rfl)) (Ev.const rfl)
  refine Ev.congr (fun k => if_neg (by decide)) ?_
  refine Ev.bind sx (Ev.bind sy ?_)
  refine Ev.bind (r := true) ?_ (Ev.const rfl)
  refine Ev.bind (same_bytes (a := logOf es) (by omega)) ?_
  refine Ev.congr (fun k => if_pos rfl) ?_
  refine Ev.congr (fun k => if_pos (by show (0 + es.length) * 48 ≤ _; omega)) ?_
  refine Ev.congr (fun k => if_pos (by show (es.length + 1) * 48 ≤ _; omega)) ?_
  refine Ev.bind (same_ev (a := es ++ [x]) (by rw [List.length_append, List.length_singleton]; omega)) ?_
  refine Ev.congr (fun k => if_pos rfl) ?_
  refine Ev.congr (fun k => if_pos (by show (0 + es.length) * 48 ≤ _; omega)) ?_
  refine Ev.congr (fun k => if_pos (by show (es.length + 1) * 48 ≤ _; omega)) ?_
  refine Ev.bind (same_ev (a := es ++ [y]) (by rw [List.length_append, List.length_singleton]; omega)) ?_
  exact Ev.congr (fun k => if_pos rfl) (Ev.const rfl)
end Go.Proofs.YtiomeaoeegikkaaDoor
namespace Go.Proofs.YtiomeaoeegikkaaDoor.ledgerIndependence
open Go.ChangeShapes Go.WideShapes Go.ChangeAt Go.RowKit Go.Proofs.YtiomeaoeegikkaaDoor Go.Proofs.YtiomeaoeegikkaaDoor.RW
open Go.ChangeMaps (open_string shut_string)
set_option linter.unusedVariables false
set_option maxRecDepth 1000000
set_option maxHeartbeats 8000000

theorem own : ownKnob Tryd.prog.godebug = none := by kernel_rfl
theorem laidOut : laidOutB Tryd.prog = true := by kernel_rfl
theorem lifted (os : Os) (started : os.Started) (H : Type) (enc : TypeId × Value → H) :
  ReturnsInHanded {} Tryd.checked os 10 .any (fun w args => (Rows.ledgerIndependenceSpec.pre enc Tryd.prog Tryd.f10 [] false w args ∧ laidMetH Tryd.prog lh.laid w) ∧ sizedMet enc Tryd.prog Tryd.f10 (OpenSpec.ofChange Rows.ledgerIndependenceSpec) false w args) (Rows.ledgerIndependenceSpec.post enc Tryd.prog Tryd.f10 false true false false) := by
 refine returnsInHanded_of_change_and (C := Tryd.checked) (X := fun w _ => laidMetH Tryd.prog lh.laid w) (fun _ _ _ hh h => h.of_heap hh) own started (by kernel_rfl) Tryd.func10
  (ChangeSpec.witness_at (enc := enc) (C := Tryd.checked) (os := os) (X := fun w _ => laidMetH Tryd.prog lh.laid w) false (lh.laidWorld os) #[.slice none 0 0, .agg #[.int .i64 0, .string (⟨#[]⟩ : ByteArray), .slice none 0 0], .agg #[.int .i64 0, .string (⟨#[]⟩ : ByteArray), .slice none 0 0]] 8 rfl (by kernel_rfl) (by kernel_rfl) (by kernel_rfl) (by kernel_rfl) (by kernel_rfl) (lh.laidWorld_met os _)) ?_
 intro W base args ds gs before hval0 hW hcnd _ hL _
 have hval : ∀ (j : Nat) t v, Tryd.f10.params[j]? = some t → args[j]? = some v → Value.okWide Tryd.prog W .any base t v := hval0
 have hW' := hW
 obtain ⟨p, q, hA0, hV, rfl, hfz, hnd⟩ := hW
 have hA : DataW.TrodAll enc Tryd.prog W 0 (fun _ => true) true Tryd.f10.params.toList args.toList ds p := hA0
 rw [Tryd.params10] at hA hval
 obtain ⟨v0, vs0, d0, ds0, p0, q0, hargs, rfl, rfl, h0, z0⟩ := trodAll_cons hA
 obtain ⟨v1, vs1, d1, ds1, p1, q1, rfl, rfl, rfl, h1, z1⟩ := trodAll_cons z0
 obtain ⟨v2, vs2, d2, ds2, p2, q2, rfl, rfl, rfl, h2, z2⟩ := trodAll_cons z1
 obtain ⟨rfl, rfl, rfl⟩ := trodAll_nil z2
 obtain rfl : args = #[v0, v1, v2] := by cases args; simp_all
 obtain ⟨rfl, rfl⟩ := trodVars_none hV
 have k0 := h0
 have lt0 : ∀ x ∈ p0, x.block < W.heap.size := by obtain ⟨m, hm⟩ := k0; exact DataW.trod_lt m _ _ _ hm
 obtain ⟨b0, len0, cap0, rfl⟩ := okWide_slice Tryd.underlying23 (hval 0 23 v0 rfl rfl)
 obtain ⟨fuel0, hf0⟩ := h0
 obtain ⟨a0, ⟨A0, c0, e0, l0, r0⟩, hp0⟩ := (opens_slice (e := 25) o25 (by kernel_rfl) (by kernel_rfl) (Nat.le_of_ble_eq_true (by kernel_rfl)) : Opens Tryd.prog (Ty.slice t25) 23 (fun l => ∀ x ∈ l, p25 x)) W 0 _ _ _ _ _ hf0
 obtain ⟨rfl, rfl, rfl⟩ : b0 = A0 ∧ len0 = a0.length ∧ cap0 = c0 := by simpa [Value.cells] using e0
 have k1 := h1
 have lt1 : ∀ x ∈ p1, x.block < W.heap.size := by obtain ⟨m, hm⟩ := k1; exact DataW.trod_lt m _ _ _ hm
 obtain ⟨cs1, rfl⟩ : ∃ cs, v1 = .agg cs := by
  have hv := (hval 1 25 v1 rfl rfl)
  simp only [Value.okWide, Tryd.underlying25] at hv
  obtain ⟨cs, e, _⟩ := hv
  exact ⟨cs, e⟩
 obtain ⟨fuel1, hf1⟩ := h1
 obtain ⟨a1, hk1, hp1⟩ := o25 W 0 _ _ _ _ _ hf1
 obtain ⟨A1_2, c1_2, e1, l1_2, r1_2⟩ := t25_open hk1
 obtain rfl : cs1 = #[.int .i64 a1.f0, .string a1.f1, .slice A1_2 a1.f2.length c1_2] := by simpa [Value.cells] using congrArg List.toArray e1
 have k2 := h2
 have lt2 : ∀ x ∈ p2, x.block < W.heap.size := by obtain ⟨m, hm⟩ := k2; exact DataW.trod_lt m _ _ _ hm
 obtain ⟨cs2, rfl⟩ : ∃ cs, v2 = .agg cs := by
  have hv := (hval 2 25 v2 rfl rfl)
  simp only [Value.okWide, Tryd.underlying25] at hv
  obtain ⟨cs, e, _⟩ := hv
  exact ⟨cs, e⟩
 obtain ⟨fuel2, hf2⟩ := h2
 obtain ⟨a2, hk2, hp2⟩ := o25 W 0 _ _ _ _ _ hf2
 obtain ⟨A2_2, c2_2, e2, l2_2, r2_2⟩ := t25_open hk2
 obtain rfl : cs2 = #[.int .i64 a2.f0, .string a2.f1, .slice A2_2 a2.f2.length c2_2] := by simpa [Value.cells] using congrArg List.toArray e2
 clear hA0 hval0
 obtain ⟨k, hk⟩ := armillarylaw28_LedgerIndependence_holds a0 a1 a2 hp0 r0.1 hp1 hp2
 refine (armillarylaw28_LedgerIndependence.calls k (wImm W) a0 b0 cap0 a1 A1_2 c1_2 a2 A2_2 c2_2 W (wImm_at W) (lh.glob_of_laid hL) l0 r0 l1_2 r1_2 l2_2 r2_2 true hk).mono ?_
 rintro e W' ⟨v, rfl, J, rfl, hg⟩
 have bel : Below W.heap.size W W' := ⟨hg.evo.os, hg.evo.tape, hg.evo.output, hg.evo.size, fun k hk => hg.evo.blk k hk (fun h => h)⟩
 exact ⟨_, rfl, _, _, _, [], _, [], hW', trodAll_mk1 (shut_bool Tryd.underlying4 _), (trodAll_cons_mk (Below.trod laidOut (by kernel_rfl) (of_decide_eq_true (by kernel_rfl)) k0 bel lt0) (trodAll_cons_mk (Below.trod laidOut (by kernel_rfl) (of_decide_eq_true (by kernel_rfl)) k1 bel lt1) (trodAll_cons_mk (Below.trod laidOut (by kernel_rfl) (of_decide_eq_true (by kernel_rfl)) k2 bel lt2) trodAll_mk0))), rfl, bel.frame _, fun h => by cases h⟩

theorem over : Rows.ledgerIndependenceRow.holds Tryd.pinned (OpenSpec.ofChange Rows.ledgerIndependenceSpec) :=
 OpenClaim.holds_of_wide 10 Tryd.f10 rfl rfl rfl rfl rfl rfl rfl ⟨rfl, rfl, rfl, rfl, rfl⟩ rfl rfl rfl rfl rfl (by kernel_rfl) Tryd.func10 (by kernel_rfl)
  (of_decide_eq_true (by kernel_rfl)) (by unfold Func.isWrapper; first | (rw [if_pos (by decide +kernel)]; kernel_rfl) | (rw [if_neg (by decide +kernel)]; exact ⟨rfl, rfl⟩))
  (fun os started H enc _ => lifted os started H enc)
theorem tied : Rows.LedgerIndependenceCardSaid :=
  Claim7.holds_tied_plain_at .later [] [.handle] true (true, "fef0f658d46f2b31548aceb5a193b059c844c18693a0855299c2bac37f2f0ac5") true
    over (fun _ h => by cases h) (by kernel_rfl) (fun _ h => by cases h) ledgerIndependence_row_tie rfl ⟨rfl, rfl⟩ (by kernel_rfl) rfl
    (fun f fn hf hfn => by
      obtain rfl : f = 10 := Option.some.inj ((show Tryd.prog.funcNamed "armillary/armillarylaw28.LedgerIndependence" = some 10 by kernel_rfl).symm.trans hf) |>.symm
      obtain rfl : fn = Tryd.f10 := (Option.some.inj (Tryd.func10.symm.trans hfn)).symm
      refine ⟨by kernel_rfl, fun j t ht => ?_⟩
      have hm := Array.mem_of_getElem? ht
      rw [Tryd.params10] at hm
      simp only [List.mem_toArray, List.mem_cons, List.not_mem_nil, or_false] at hm
      first
        | (obtain rfl := hm; show Tryd.prog.wantsStandIn _ = false; kernel_rfl)
        | (rcases hm with rfl | rfl <;> show Tryd.prog.wantsStandIn _ = false <;> kernel_rfl)
        | (rcases hm with rfl | rfl | rfl <;> show Tryd.prog.wantsStandIn _ = false <;> kernel_rfl))
    (by kernel_rfl)
theorem proved : Rows.LedgerIndependenceCardSaid := tied
#print axioms proved
end Go.Proofs.YtiomeaoeegikkaaDoor.ledgerIndependence
