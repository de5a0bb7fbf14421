/- A replica prepares against its lock only what a quorum prepared behind it. -/
import Derived.Test.YtijhdekfbjafgaaY6
import Derived.Test.YtijhdekfbjafgaaRows
import Derived.WalkKit
import Derived.ProofKit
import Derived.OpenShut
import Derived.ShutString
import Derived.ChangeOld
import Derived.Below
import Derived.Carry
import Derived.WideShapes
namespace Go.Proofs.Ytijhdekfbjafgaa
open Go Go.RowKit Go.Proofs.Ytijhdekfbjafgaa.RW
open Go.Proofs.Ytijhdekfbjafgaa.AM hiding lk
set_option linter.unusedVariables false
set_option maxRecDepth 100000
theorem split3 {α : Type} {l : List α} {i k : Nat} (hik : i < k) (hk : k < l.length) : l = l.take i ++ l[i] :: ((l.drop (i + 1)).take (k - (i + 1)) ++ l[k] :: l.drop (k + 1)) := by
 have h1 : l.drop k = l[k] :: l.drop (k + 1) := List.drop_eq_getElem_cons hk
 have h2 : (l.drop (i + 1)).take (k - (i + 1)) ++ l.drop k = l.drop (i + 1) := by
  have := List.take_append_drop (k - (i + 1)) (l.drop (i + 1))
  rw [List.drop_drop, show i + 1 + (k - (i + 1)) = k from by omega] at this
  exact this
 rw [← h1, h2, ← List.drop_eq_getElem_cons (by omega), List.take_append_drop]
theorem relocked_ev {r : Rep} (hs : Sz r) {i k : Nat} (hik : i < k) (hk : k < (rS r).length) (h : ∃ c ∈ ((rS r).drop (i + 1)).take (k - (i + 1)), mK c = 3 ∧ mQ c = mQ (rS r)[i]) : Ev (fun n => armillarylaw30_relocked n r (i : Int) (k : Int)) true := by
 have hsz := hs.s
 generalize hl2 : ((rS r).drop (i + 1)).take (k - (i + 1)) = l2 at h
 have hlen : l2.length = k - (i + 1) := by rw [← hl2, List.length_take, List.length_drop]; omega
 have hget : ∀ t (ht : t < l2.length), l2[t] = (rS r)[i + 1 + t] := by
  intro t ht
  simp only [← hl2, List.getElem_take, List.getElem_drop]
 cases hf : l2.findIdx? fun c => (c.1 == 3) && (c.2.2.2.1 == (rS r)[i].2.2.2.1) with
 | none =>
  obtain ⟨c, hc, c1, c2⟩ := h
  have := List.findIdx?_eq_none_iff.1 hf c hc
  simp only [Bool.and_eq_false_iff, beq_eq_false_iff_ne] at this
  rcases this with h | h
  ·exact absurd c1 h
  ·exact absurd c2 h
 | some t =>
  obtain ⟨ht, hp, hb⟩ := List.findIdx?_eq_some_iff_getElem.1 hf
  unfold armillarylaw30_relocked
  rw [wr64s i (by omega)]
  have hs0 : ∀ u (hu : u < l2.length), Ev (fun n => armillarylaw30_relocked.s0 n ((i + 1 + u : Nat) : Int) (i : Int) (k : Int) r) (if ((l2[u].1 == 3) && (l2[u].2.2.2.1 == (rS r)[i].2.2.2.1)) = true then .inr (.inl (true, r)) else .inl (((i + 1 + (u + 1) : Nat) : Int), r)) := by
   intro u hu
   have huu : i + 1 + u < (rS r).length := by omega
   unfold armillarylaw30_relocked.s0
   refine Ev.T (decide_eq_true (by omega)) (Ev.ck (inbN huu) ?_)
   rw [wr64s _ (by omega), hget u hu]
   show Ev (fun n => bif ((rS r).getD ((i + 1 + u : Nat) : Int).toNat z34).1 == 3 then AM.ck (inb ((i + 1 + u : Nat) : Int) (rS r).length) <| AM.ck (inb (i : Int) (rS r).length) <| bif ((rS r).getD ((i + 1 + u : Nat) : Int).toNat z34).2.2.2.1 == ((rS r).getD (i : Int).toNat z34).2.2.2.1 then _ else _ else _) _
   rw [getD_int huu, getD_int (show i < (rS r).length by omega), inbN huu, inbN (show i < (rS r).length by omega)]
   cases ((rS r)[i + 1 + u].1 == 3) with
   | false => exact Ev.ret _
   | true =>
    cases ((rS r)[i + 1 + u].2.2.2.1 == (rS r)[i].2.2.2.1) with
    | false => exact Ev.ret _
    | true => exact Ev.ret _
  have hrun := loop_run (L := fun n j (s : Int × Rep) => armillarylaw30_relocked.l0 n j s.1 (i : Int) (k : Int) s.2) (S := fun n s => armillarylaw30_relocked.s0 n s.1 (i : Int) (k : Int) s.2) (fun _ _ _ => rfl) (fun u => (((i + 1 + u : Nat) : Int), r)) t (.inl (true, r)) (fun u hu => ?_) ?_
  ·exact Ev.bind hrun (Ev.ret _)
  ·have := hs0 u (by omega)
   rw [if_neg (hb u hu)] at this
   exact this
  ·have := hs0 t ht
   rw [if_pos hp] at this
   exact this
/-- What the law wants of two sent messages. -/
theorem pair_ev {r : Rep} (hi : Inv r) (hl : Lk r) {i k : Nat} (hik : i < k) (hk : k < (rS r).length) : Ev (fun n => armillarylaw30_ReplicaRespectsLock.j4 n (i : Int) (k : Int) r (rS r)[i]) (.inl (r, (rS r)[i])) := by
 have hsz := hi.sz.s
 have hfair := hl.fair _ _ _ _ _ (split3 hik hk)
 have ha := validM_in (hi.said _ (List.getElem_mem (show i < (rS r).length by omega))).1
 have hb := validM_in (hi.said _ (List.getElem_mem hk)).1
 have hrl := relocked_ev hi.sz hik hk
 unfold armillarylaw30_ReplicaRespectsLock.j4
 refine Ev.ck (inbN hk) ?_
 show Ev (fun n => (armillarylaw30_ReplicaRespectsLock.j1 n (rS r)[i] ((rS r).getD (k : Int).toNat z34)).bind fun z13 => sm z13 (fun _ => (armillarylaw30_ReplicaRespectsLock.l3 n n false (W .i64 ((rS r)[i].2.2.1 + 1)) r (rS r)[i] ((rS r).getD (k : Int).toNat z34)).bind _) _) _
 rw [getD_int hk]
 generalize (rS r)[i] = a at hfair ha hrl ⊢
 generalize (rS r)[k] = b at hfair hb ⊢
 unfold armillarylaw30_ReplicaRespectsLock.j1
 by_cases c1 : a.1 = 3
 ·by_cases c2 : b.1 = 2
  ·by_cases c3 : a.2.2.2.1 = b.2.2.2.1
   ·by_cases c4 : a.2.2.2.2.1 = b.2.2.2.2.1
    ·exact Ev.bind (a := (Sum.inr () : Unit ⊕ Unit)) (Ev.F (by simpa [bne] using c1) (Ev.F (by simpa [bne] using c2) (Ev.F (by simpa [bne] using c3) (Ev.T (by simpa using c4) (Ev.ret _))))) (Ev.ret _)
    ·by_cases c5 : b.2.2.1 ≤ a.2.2.1
     ·exact Ev.bind (a := (Sum.inr () : Unit ⊕ Unit)) (Ev.F (by simpa [bne] using c1) (Ev.F (by simpa [bne] using c2) (Ev.F (by simpa [bne] using c3) (Ev.F (by simpa using c4) (Ev.T (decide_eq_true c5) (Ev.ret _)))))) (Ev.ret _)
     ·refine Ev.bind (a := (Sum.inl () : Unit ⊕ Unit)) (Ev.F (by simpa [bne] using c1) (Ev.F (by simpa [bne] using c2) (Ev.F (by simpa [bne] using c3) (Ev.F (by simpa using c4) (Ev.F (decide_eq_false c5) (Ev.ret _)))))) ?_
      have hav : 0 ≤ a.2.2.1 := ha.2.2.2.1
      have hav2 : a.2.2.1 ≤ 1048576 := ha.2.2.2.2.1
      have hfair := hfair c1 c2 c3 c4 (by show a.2.2.1 < b.2.2.1; omega)
      have hrun := loop_run (L := fun n j (s : Bool × Int × Rep × Msg × Msg) => armillarylaw30_ReplicaRespectsLock.l3 n j s.1 s.2.1 s.2.2.1 s.2.2.2.1 s.2.2.2.2) (S := fun n s => armillarylaw30_ReplicaRespectsLock.s3 n s.1 s.2.1 s.2.2.1 s.2.2.2.1 s.2.2.2.2) (fun _ _ _ => rfl)
       (fun t => (decide (∃ u : Nat, u < t ∧ decM (rN r) (rT r) 2 (a.2.2.1 + 1 + (u : Int)) a.2.2.2.1 = some b.2.2.2.2.1), a.2.2.1 + 1 + (t : Int), r, a, b)) (min b.2.2.1 64 - (a.2.2.1 + 1)).toNat
       (decide (∃ u : Nat, u < (min b.2.2.1 64 - (a.2.2.1 + 1)).toNat ∧ decM (rN r) (rT r) 2 (a.2.2.1 + 1 + (u : Int)) a.2.2.2.1 = some b.2.2.2.2.1), r, a, b) (fun t ht => ?_) (Ev.of fun n => ?_)
      ·rw [show decide (∃ u : Nat, u < 0 ∧ decM (rN r) (rT r) 2 (a.2.2.1 + 1 + (u : Int)) a.2.2.2.1 = some b.2.2.2.2.1) = false from decide_eq_false (by rintro ⟨u, h, _⟩; omega), show a.2.2.1 + 1 + ((0 : Nat) : Int) = W .i64 (a.2.2.1 + 1) from by rw [wr64 (by omega) (by omega)]; omega] at hrun
       refine Ev.bind hrun ?_
       by_cases hj : ∃ u : Nat, u < (min b.2.2.1 64 - (a.2.2.1 + 1)).toNat ∧ decM (rN r) (rT r) 2 (a.2.2.1 + 1 + (u : Int)) a.2.2.2.1 = some b.2.2.2.2.1
       ·rw [decide_eq_true hj]
        exact Ev.F rfl (Ev.ret _)
       ·rw [decide_eq_false hj]
        refine Ev.T rfl (Ev.bind (hrl ?_) (Ev.F rfl (Ev.ret _)))
        rcases hfair with ⟨v, v1, v2, v3, hd⟩ | h
        ·exfalso
         have v1 : a.2.2.1 < v := v1
         have v2 : v < b.2.2.1 := v2
         exact hj ⟨(v - (a.2.2.1 + 1)).toNat, by omega, by rw [show a.2.2.1 + 1 + (((v - (a.2.2.1 + 1)).toNat : Nat) : Int) = v from by omega]; exact hd⟩
        ·exact h
      ·simp only
       unfold armillarylaw30_ReplicaRespectsLock.s3 armillarylaw30_ReplicaRespectsLock.j2
       refine Ev.bind (a := (Sum.inl () : Unit ⊕ Unit)) (Ev.T (decide_eq_true (by omega)) (Ev.T (decide_eq_true (by omega)) (Ev.ret _))) (Ev.bind (refprep_ev hi.n1 hi.n2 hi.took hi.bt hi.tl _ _) ?_)
       rw [wr64 (n := a.2.2.1 + 1 + (t : Int) + 1) (by omega) (by omega), show a.2.2.1 + 1 + (t : Int) + 1 = a.2.2.1 + 1 + ((t + 1 : Nat) : Int) from by omega]
       by_cases hx : ∃ u : Nat, u < t ∧ decM (rN r) (rT r) 2 (a.2.2.1 + 1 + (u : Int)) a.2.2.2.1 = some b.2.2.2.2.1
       ·refine Ev.T (decide_eq_true hx) (Ev.cast (Ev.ret _) ?_)
        obtain ⟨u, hu, hd⟩ := hx
        rw [decide_eq_true (⟨u, by omega, hd⟩ : ∃ u : Nat, u < t + 1 ∧ decM (rN r) (rT r) 2 (a.2.2.1 + 1 + (u : Int)) a.2.2.2.1 = some b.2.2.2.2.1)]
       ·refine Ev.F (decide_eq_false hx) ?_
        have hiff : (∃ u : Nat, u < t + 1 ∧ decM (rN r) (rT r) 2 (a.2.2.1 + 1 + (u : Int)) a.2.2.2.1 = some b.2.2.2.2.1) ↔ decM (rN r) (rT r) 2 (a.2.2.1 + 1 + (t : Int)) a.2.2.2.1 = some b.2.2.2.2.1 := by
         constructor
         ·rintro ⟨u, hu, hd⟩
          by_cases e : u = t
          ·rw [← e]; exact hd
          ·exact absurd ⟨u, by omega, hd⟩ hx
         ·intro hd; exact ⟨t, by omega, hd⟩
        cases hdd : decM (rN r) (rT r) 2 (a.2.2.1 + 1 + (t : Int)) a.2.2.2.1 with
        | none =>
         refine Ev.F rfl (Ev.cast (Ev.ret _) ?_)
         rw [decide_eq_false (fun h => by have := hiff.1 h; rw [hdd] at this; cases this)]
        | some s =>
         refine Ev.T rfl (Ev.cast (Ev.ret _) ?_)
         simp only [Option.getD_some]
         congr 2
         rw [Bool.eq_iff_iff, beq_iff_eq, decide_eq_true_eq, hiff, hdd]
         exact ⟨fun h => by rw [h], fun h => Option.some.inj h⟩
      ·simp only
       unfold armillarylaw30_ReplicaRespectsLock.s3 armillarylaw30_ReplicaRespectsLock.j2
       by_cases h1 : a.2.2.1 + 1 + (((min b.2.2.1 64 - (a.2.2.1 + 1)).toNat : Nat) : Int) < b.2.2.1
       ·rw [decide_eq_true h1, show decide (a.2.2.1 + 1 + (((min b.2.2.1 64 - (a.2.2.1 + 1)).toNat : Nat) : Int) < 64) = false from decide_eq_false (by omega)]
        rfl
       ·rw [decide_eq_false h1]
        rfl
   ·exact Ev.bind (a := (Sum.inr () : Unit ⊕ Unit)) (Ev.F (by simpa [bne] using c1) (Ev.F (by simpa [bne] using c2) (Ev.T (by simpa [bne] using c3) (Ev.ret _)))) (Ev.ret _)
  ·exact Ev.bind (a := (Sum.inr () : Unit ⊕ Unit)) (Ev.F (by simpa [bne] using c1) (Ev.T (by simpa [bne] using c2) (Ev.ret _))) (Ev.ret _)
 ·exact Ev.bind (a := (Sum.inr () : Unit ⊕ Unit)) (Ev.T (by simpa [bne] using c1) (Ev.ret _)) (Ev.ret _)
theorem calm_ev {l : List OpM} (hl : l.length * 104 ≤ 140737488355328) : Ev (fun n => armillarylaw30_ReplicaRespectsLock.l0 n n 0 l []) (l.filter fun x => x.1.tmod 12 != 2) := by
 have hrun := loop_run (L := fun n j (s : Int × List OpM) => armillarylaw30_ReplicaRespectsLock.l0 n j s.1 l s.2) (S := fun n s => armillarylaw30_ReplicaRespectsLock.s0 n s.1 l s.2) (fun _ _ _ => rfl) (fun i => ((i : Int), (l.take i).filter fun x => x.1.tmod 12 != 2)) l.length (l.filter fun x => x.1.tmod 12 != 2) (fun i hi => Ev.of fun n => ?_) (Ev.of fun n => ?_)
 ·exact hrun
 ·have hlen : ((l.take i).filter fun x => x.1.tmod 12 != 2).length ≤ i := Nat.le_trans (List.length_filter_le _ _) (by rw [List.length_take]; omega)
  show armillarylaw30_ReplicaRespectsLock.s0 n (i : Int) l ((l.take i).filter fun x => x.1.tmod 12 != 2) = some (.inl (((i + 1 : Nat) : Int), (l.take (i + 1)).filter fun x => x.1.tmod 12 != 2))
  rw [filter_take _ _ _ hi]
  unfold armillarylaw30_ReplicaRespectsLock.s0
  rw [show decide ((i : Int) < (l.length : Int)) = true from decide_eq_true (by omega), inbN hi, getD_int hi, wr64s i (by omega), roomT (n := ((l.take i).filter fun x => x.1.tmod 12 != 2).length + 1) (b := 104) (by omega) (by omega)]
  cases (l[i].1.tmod 12 != 2) with
  | false => simp [AM.ck]
  | true => rfl
 ·show armillarylaw30_ReplicaRespectsLock.s0 n (l.length : Int) l ((l.take l.length).filter fun x => x.1.tmod 12 != 2) = _
  unfold armillarylaw30_ReplicaRespectsLock.s0
  rw [show decide ((l.length : Int) < (l.length : Int)) = false from decide_eq_false (by omega), List.take_length]
  rfl
theorem armillarylaw30_ReplicaRespectsLock_holds (a0 : Int) (w0 : (TC.int .u8).wf a0) (a1 : Int) (w1 : (TC.int .u8).wf a1) (a2 : List S38) (w2 : (TC.row c38).wf a2) (z2 : a2.length * 104 ≤ 140737488355328) : ∃ n, armillarylaw30_ReplicaRespectsLock n a0 a1 a2 = some true := by
 have h0 := wf_u8 w0
 have h1 := wf_u8 w1
 have h2 := ops_wf w2
 have h2c : ∀ x ∈ a2.filter (fun x => x.1.tmod 12 != 2), opWf x := fun x hx => h2.2 x (List.mem_filter.1 hx).1
 have hR := run_ran (n := a1) h0.1 h2c
 have hlk := run_lk (n := a1) h0.1 h2c (fun x hx => by have := (List.mem_filter.1 hx).2; simpa [bne] using this)
 have hi := hR.inv
 have hcl : (a2.filter (fun x => x.1.tmod 12 != 2)).length ≤ 9223372036854775807 := Nat.le_trans (List.length_filter_le _ _) h2.1
 have hcalm := calm_ev z2
 have hrunE := run_ev h0 h1 h2c hcl
 generalize runM a0 a1 (a2.filter (fun x => x.1.tmod 12 != 2)) = r at hR hi hlk hrunE
 have hs := hi.sz.s
 refine Ev.get (r := true) ?_
 unfold armillarylaw30_ReplicaRespectsLock
 refine Ev.bind sane_ev (Ev.bind hcalm (Ev.bind hrunE (Ev.bind (a := (Sum.inr r : (Bool × Rep) ⊕ Rep)) (loop_run (L := fun n j (s : Int × Rep) => armillarylaw30_ReplicaRespectsLock.l6 n j s.1 s.2) (S := fun n s => armillarylaw30_ReplicaRespectsLock.s6 n s.1 s.2) (fun _ _ _ => rfl) (fun i => ((i : Int), r)) (rS r).length _ (fun i hil => ?_) (Ev.of fun n => ?_)) (Ev.ret _))))
 ·show Ev (fun n => armillarylaw30_ReplicaRespectsLock.s6 n (i : Int) r) (.inl (((i + 1 : Nat) : Int), r))
  unfold armillarylaw30_ReplicaRespectsLock.s6
  refine Ev.T (decide_eq_true (show (i : Int) < ((rS r).length : Int) by omega)) (Ev.ck (inbN hil) ?_)
  rw [wr64s i (by omega)]
  show Ev (fun n => (armillarylaw30_ReplicaRespectsLock.l5 n n ((i + 1 : Nat) : Int) (i : Int) r ((rS r).getD (i : Int).toNat z34)).bind _) _
  rw [getD_int hil]
  refine Ev.bind (a := (Sum.inr (r, (rS r)[i]) : (Bool × Rep × Msg) ⊕ (Rep × Msg))) ?_ (Ev.ret _)
  have hrun := loop_run (L := fun n j (s : Int × Rep × Msg) => armillarylaw30_ReplicaRespectsLock.l5 n j s.1 (i : Int) s.2.1 s.2.2) (S := fun n s => armillarylaw30_ReplicaRespectsLock.s5 n s.1 (i : Int) s.2.1 s.2.2) (fun _ _ _ => rfl) (fun j => (((i + 1 + j : Nat) : Int), r, (rS r)[i])) ((rS r).length - (i + 1)) (.inr (r, (rS r)[i])) (fun j hj => ?_) (Ev.of fun n => ?_)
  ·exact hrun
  ·have hk : i + 1 + j < (rS r).length := by omega
   show Ev (fun n => armillarylaw30_ReplicaRespectsLock.s5 n ((i + 1 + j : Nat) : Int) (i : Int) r (rS r)[i]) (.inl (((i + 1 + (j + 1) : Nat) : Int), r, (rS r)[i]))
   unfold armillarylaw30_ReplicaRespectsLock.s5
   rw [wr64s _ (by omega)]
   exact Ev.T (decide_eq_true (show ((i + 1 + j : Nat) : Int) < ((rS r).length : Int) by omega)) (Ev.bind (pair_ev hi hlk (by omega) hk) (Ev.ret _))
  ·show armillarylaw30_ReplicaRespectsLock.s5 n ((i + 1 + ((rS r).length - (i + 1)) : Nat) : Int) (i : Int) r (rS r)[i] = _
   unfold armillarylaw30_ReplicaRespectsLock.s5
   rw [show decide (((i + 1 + ((rS r).length - (i + 1)) : Nat) : Int) < (r.2.2.2.2.1.length : Int)) = false from decide_eq_false (show ¬ (((i + 1 + ((rS r).length - (i + 1)) : Nat) : Int) < ((rS r).length : Int)) by omega)]
   rfl
 ·show armillarylaw30_ReplicaRespectsLock.s6 n ((rS r).length : Int) r = _
  unfold armillarylaw30_ReplicaRespectsLock.s6
  rw [show decide (((rS r).length : Int) < (r.2.2.2.2.1.length : Int)) = false from decide_eq_false (show ¬ (((rS r).length : Int) < ((rS r).length : Int)) by omega)]
  rfl
end Go.Proofs.Ytijhdekfbjafgaa
namespace Go.Proofs.Ytijhdekfbjafgaa.replicaRespectsLock
open Go.ChangeShapes Go.WideShapes Go.ChangeAt Go.RowKit Go.Proofs.Ytijhdekfbjafgaa Go.Proofs.Ytijhdekfbjafgaa.AM
open Go.Proofs.Ytijhdekfbjafgaa.RW hiding lk
set_option linter.unusedVariables false
set_option maxRecDepth 1000000
set_option maxHeartbeats 8000000

theorem own : ownKnob Try.prog.godebug = none := by kernel_rfl
theorem laidOut : laidOutB Try.prog = true := by kernel_rfl
theorem lifted (os : Os) (started : os.Started) (H : Type) (enc : TypeId × Value → H) :
    ReturnsInHanded {} Try.checked os 6 .any (Rows.replicaRespectsLockSpec.pre6 enc Try.prog Try.f6 Rows.replicaRespectsLockRow.domain false) (Rows.replicaRespectsLockSpec.post enc Try.prog Try.f6 false true false false) := by
  refine returnsInHanded_of_change_sized (C := Try.checked) own started (by kernel_rfl) Try.func6
    (ChangeSpec.witness6 (enc := enc) (C := Try.checked) false ⟨#[], #[.int .u8 0, .int .u8 0, .slice none 0 0], []⟩ 8 (by kernel_rfl) (by kernel_rfl) (by kernel_rfl) (by kernel_rfl)) ?_
  intro W base args ds gs before hval0 hW hcnd hz0 _
  have hval : ∀ (j : Nat) t v, Try.f6.params[j]? = some t → args[j]? = some v → Value.okWide Try.prog W .any base t v := hval0
  have hW' := hW
  obtain ⟨p, q, hA0, hV, rfl, hfz, hnd⟩ := hW
  have hA : DataW.TrodAll enc Try.prog W 0 (fun _ => true) true Try.f6.params.toList args.toList ds p := hA0
  rw [Try.params6] at hA hval
  obtain ⟨v0, vs0, d0, ds0, p0, q0, hargs, rfl, rfl, h0, z0⟩ := trodAll_cons hA
  obtain ⟨v1, vs1, d1, ds1, p1, q1, rfl, rfl, rfl, h1, z1⟩ := trodAll_cons z0
  obtain ⟨v2, vs2, d2, ds2, p2, q2, rfl, rfl, rfl, h2, z2⟩ := trodAll_cons z1
  obtain ⟨rfl, rfl, rfl⟩ := trodAll_nil z2
  obtain rfl : args = #[v0, v1, v2] := by cases args; simp_all
  obtain ⟨rfl, rfl⟩ := trodVars_none hV
  have lt0 : ∀ x ∈ p0, x.block < W.heap.size := by obtain ⟨m, hm⟩ := h0; exact DataW.trod_lt m _ _ _ hm
  obtain ⟨a0, w0, f0, g0⟩ := arg_rel (P := Try.prog) (c := (.int .u8)) (fun _ => none) (by kernel_rfl) (hval 0 5 v0 rfl rfl) h0
  have lt1 : ∀ x ∈ p1, x.block < W.heap.size := by obtain ⟨m, hm⟩ := h1; exact DataW.trod_lt m _ _ _ hm
  obtain ⟨a1, w1, f1, g1⟩ := arg_rel (P := Try.prog) (c := (.int .u8)) (fun _ => none) (by kernel_rfl) (hval 1 5 v1 rfl rfl) h1
  have lt2 : ∀ x ∈ p2, x.block < W.heap.size := by obtain ⟨m, hm⟩ := h2; exact DataW.trod_lt m _ _ _ hm
  obtain ⟨a2, w2, f2, g2⟩ := arg_rel (P := Try.prog) (c := (.row c38)) (fun _ => none) (by kernel_rfl) (hval 2 22 v2 rfl rfl) h2
  have y2 := arg_room (P := Try.prog) (c := c38) (π := fun _ => none) Try.underlying22 h2 (j := 2) rfl rfl hz0 (g2 rfl)
  rw [show Try.prog.bytesOf 38 = 104 from by kernel_rfl] at y2
  clear hA0 hval0
  obtain ⟨n, hn⟩ := armillarylaw30_ReplicaRespectsLock_holds a0 w0 a1 w1 a2 w2 y2
  refine (law_calls (fn := Try.f6) (by kernel_rfl) (armillarylaw30_ReplicaRespectsLock.ok n) (a0, (a1, (a2, ()))) hn (vs := [v0, v1, v2]) (Nat.le_of_ble_eq_true (by kernel_rfl)) ⟨rfl, g0 rfl, rfl, g1 rfl, rfl, g2 rfl, trivial⟩).mono ?_
  rintro e W' ⟨rfl, bel⟩
  exact ⟨_, rfl, _, _, _, [], _, [], hW', trodAll_mk1 (shut_bool Try.underlying4 _), (trodAll_cons_mk (Below.trod laidOut (by kernel_rfl) (of_decide_eq_true (by kernel_rfl)) h0 bel lt0) (trodAll_cons_mk (Below.trod laidOut (by kernel_rfl) (of_decide_eq_true (by kernel_rfl)) h1 bel lt1) (trodAll_cons_mk (Below.trod laidOut (by kernel_rfl) (of_decide_eq_true (by kernel_rfl)) h2 bel lt2) trodAll_mk0))), rfl, bel.frame _, fun h => by cases h⟩

theorem over : Rows.replicaRespectsLockRow.holds Try.pinned (OpenSpec.ofChange Rows.replicaRespectsLockSpec) :=
  OpenClaim.holds_of_wide 6 Try.f6 rfl rfl rfl rfl rfl rfl rfl ⟨rfl, rfl, rfl, rfl, rfl⟩ rfl rfl rfl rfl rfl (by kernel_rfl) Try.func6 (by kernel_rfl)
    (of_decide_eq_true (by kernel_rfl)) (by unfold Func.isWrapper; first | (rw [if_pos (by decide +kernel)]; kernel_rfl) | (rw [if_neg (by decide +kernel)]; exact ⟨rfl, rfl⟩))
    (fun os started H enc _ => lifted os started H enc)
theorem proved : Rows.ReplicaRespectsLockSaid := over
#print axioms proved
end Go.Proofs.Ytijhdekfbjafgaa.replicaRespectsLock
