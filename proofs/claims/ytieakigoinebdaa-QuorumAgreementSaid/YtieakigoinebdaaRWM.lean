/- A walk's own words, tenth part: maps whose keys are structs of numbers; a loop over an iterator; a round's frame. -/
import Derived.Test.YtieakigoinebdaaRWH
import Derived.RangeFuncRecord
import Derived.RangeFuncIn
import Derived.RangeFuncStops
import Derived.RangeFuncCalls
import Derived.OrdersIn
import Derived.OwnWalkIn
import Derived.TacticsIn
import Derived.Laws.StructEq
namespace Go.Proofs.Ytieakigoinebdaa.RW
open Go Go.RowKit

/-! ### pairs, as a map holds them -/
section
variable {α β : Type} [DecidableEq α]
def mfind : List (α × β) → α → Nat → Option (Nat × β)
  | [], _, _ => none
  | (x, b) :: r, a, i => if a = x then some (i, b) else mfind r a (i + 1)
def mget : List (α × β) → α → Option β
  | [], _ => none
  | (x, b) :: r, a => if a = x then some b else mget r a
def mput : List (α × β) → α → β → List (α × β)
  | [], a, b => [(a, b)]
  | (x, c) :: r, a, b => if a = x then (x, b) :: r else (x, c) :: mput r a b
/-- The pairs, with one at a. -/
def mens : List (α × β) → α → β → List (α × β)
  | [], a, z => [(a, z)]
  | (x, c) :: r, a, z => if a = x then (x, c) :: r else (x, c) :: mens r a z
def mat : List (α × β) → α → Nat
  | [], _ => 0
  | (x, _) :: r, a => if a = x then 0 else mat r a + 1
theorem mfind_get : ∀ (l : List (α × β)) (a : α) (i : Nat), (mfind l a i).map (·.2) = mget l a
  | [], _, _ => rfl
  | (x, b) :: r, a, i => by
    simp only [mfind, mget]
    split
    · rfl
    · exact mfind_get r a (i + 1)
theorem mfind_at : ∀ (l : List (α × β)) (a : α) (i j : Nat) (b : β), mfind l a i = some (j, b) → j = i + mat l a
  | [], _, _, _, _, h => by cases h
  | (x, c) :: r, a, i, j, b, h => by
    simp only [mfind, mat] at h ⊢
    split at h
    · injection h with h
      injection h with h1 h2
      rw [if_pos ‹_›, ← h1]; rfl
    · rw [if_neg ‹_›, mfind_at r a (i + 1) j b h]
      omega
theorem mput_none : ∀ (l : List (α × β)) (a : α) (b : β) (i : Nat), mfind l a i = none → mput l a b = l ++ [(a, b)] ∧ mens l a b = l ++ [(a, b)] ∧ mat l a = l.length
  | [], _, _, _, _ => ⟨rfl, rfl, rfl⟩
  | (x, c) :: r, a, b, i, h => by
    simp only [mfind, mput, mens, mat] at h ⊢
    split at h
    · cases h
    · rw [if_neg ‹_›, if_neg ‹_›, if_neg ‹_›]
      obtain ⟨h1, h2, h3⟩ := mput_none r a b (i + 1) h
      exact ⟨by rw [h1]; rfl, by rw [h2]; rfl, by rw [h3]; rfl⟩
theorem mens_some : ∀ (l : List (α × β)) (a : α) (z : β) (i : Nat) (p : Nat × β), mfind l a i = some p → mens l a z = l
  | [], _, _, _, _, h => by cases h
  | (x, c) :: r, a, z, i, p, h => by
    simp only [mfind, mens] at h ⊢
    split at h
    · rw [if_pos ‹_›]
    · rw [if_neg ‹_›, mens_some r a z (i + 1) p h]
theorem mens_get : ∀ (l : List (α × β)) (a : α) (z : β), (mget (mens l a z) a).getD z = (mget l a).getD z
  | [], a, z => by simp [mens, mget]
  | (x, c) :: r, a, z => by
    simp only [mens]
    split
    · rfl
    · rename_i h
      simp only [mget, if_neg h]
      exact mens_get r a z
theorem mput_mens : ∀ (l : List (α × β)) (a : α) (z b : β), mput (mens l a z) a b = mput l a b
  | [], a, z, b => by simp [mens, mput]
  | (x, c) :: r, a, z, b => by
    simp only [mens]
    split
    · rfl
    · rename_i h
      simp only [mput, if_neg h]
      rw [mput_mens r a z b]
theorem mput_get : ∀ (l : List (α × β)) (a : α) (b : β), mget (mput l a b) a = some b
  | [], a, b => by simp [mput, mget]
  | (x, c) :: r, a, b => by
    simp only [mput]
    split
    · rename_i h
      simp [mget, h]
    · rename_i h
      simp only [mget, if_neg h]
      exact mput_get r a b
theorem mput_other : ∀ (l : List (α × β)) (a a' : α) (b : β), a' ≠ a → mget (mput l a b) a' = mget l a'
  | [], a, a', b, h => by simp [mput, mget, h]
  | (x, c) :: r, a, a', b, h => by
    simp only [mput]
    split
    · rename_i hax
      subst hax
      simp [mget, h]
    · simp only [mget]
      rw [mput_other r a a' b h]
theorem mens_mat : ∀ (l : List (α × β)) (a : α) (z : β), mat (mens l a z) a = mat l a ∧ mat l a < (mens l a z).length
  | [], a, z => by simp [mens, mat]
  | (x, c) :: r, a, z => by
    simp only [mens]
    split
    · rename_i h
      simp [mat, h]
    · rename_i h
      simp only [mat, if_neg h, List.length_cons]
      have := mens_mat r a z
      omega
end

def ents {α β : Type} (kE : α → Value) (vE : β → Value) : Nat → List (α × β) → List MapEntry
  | _, [] => []
  | i, (a, b) :: r => ⟨kE a, vE b, i⟩ :: ents kE vE (i + 1) r
theorem ents_length {α β : Type} {kE : α → Value} {vE : β → Value} : ∀ (l : List (α × β)) (i : Nat), (ents kE vE i l).length = l.length
  | [], _ => rfl
  | (_, _) :: r, i => by simp [ents, ents_length r]
theorem ents_append {α β : Type} {kE : α → Value} {vE : β → Value} (p : α × β) : ∀ (l : List (α × β)) (i : Nat), ents kE vE i (l ++ [p]) = ents kE vE i l ++ [⟨kE p.1, vE p.2, i + l.length⟩]
  | [], i => by obtain ⟨a, b⟩ := p; rfl
  | (_, _) :: r, i => by
    simp only [List.cons_append, ents, ents_append p r, List.length_cons]
    rw [show i + 1 + r.length = i + (r.length + 1) from by omega]
theorem ents_modify {α β : Type} [DecidableEq α] {kE : α → Value} {vE : β → Value} (b : β) : ∀ (l : List (α × β)) (a : α) (i j : Nat) (c : β), mfind l a i = some (i + j, c) → ∀ q,
    ((ents kE vE q l).modify j fun e => { e with key := kE a, val := vE b }) = ents kE vE q (mput l a b)
  | [], _, _, _, _, h => by cases h
  | (x, d) :: r, a, i, j, c, h => by
    intro q
    simp only [mfind] at h
    split at h
    · rename_i hax
      injection h with h
      injection h with h1 h2
      obtain rfl : j = 0 := by omega
      subst hax
      simp only [ents, mput, if_true, List.modify_zero_cons]
    · rename_i hax
      obtain ⟨j', rfl⟩ : ∃ j', j = j' + 1 := by
        have := mfind_at r a (i + 1) _ _ h
        exact ⟨j - 1, by omega⟩
      simp only [ents, mput, if_neg hax, List.modify_succ_cons]
      rw [ents_modify b r a (i + 1) j' c (by rw [h]; congr 2; omega)]
theorem ents_find {α β : Type} {kE : α → Value} {vE : β → Value} : ∀ (l : List (α × β)) (q j : Nat), j < l.length → (ents kE vE q l).findIdx? (fun e => (e.born : Int) == ((q + j : Nat) : Int)) = some j
  | [], _, _, h => by cases h
  | (a, b) :: r, q, j, h => by
    simp only [ents, List.findIdx?_cons]
    cases j with
    | zero => simp
    | succ j =>
      rw [if_neg (by simp; omega)]
      have := ents_find (kE := kE) (vE := vE) r (q + 1) j (by simpa using h)
      rw [show q + (j + 1) = q + 1 + j from by omega, this]
      rfl
theorem ents_val {α β : Type} [DecidableEq α] {kE : α → Value} {vE : β → Value} (b : β) : ∀ (l : List (α × β)) (a : α), mat l a < l.length → ∀ q, ((ents kE vE q l).modify (mat l a) fun e => { e with val := vE b }) = ents kE vE q (mput l a b)
  | [], _, h => by cases h
  | (x, d) :: r, a, h => by
    intro q
    simp only [mat] at h ⊢
    by_cases hax : a = x
    · simp only [if_pos hax, ents, mput, List.modify_zero_cons]
    · simp only [if_neg hax] at h ⊢
      simp only [ents, mput, if_neg hax, List.modify_succ_cons]
      rw [ents_val b r a (by simpa using h)]
theorem ents_get {α β : Type} [DecidableEq α] {kE : α → Value} {vE : β → Value} : ∀ (l : List (α × β)) (a : α) (i j : Nat) (c : β), mfind l a i = some (i + j, c) → ∀ q, (ents kE vE q l)[j]? = some ⟨kE a, vE c, q + j⟩
  | [], _, _, _, _, h => by cases h
  | (x, d) :: r, a, i, j, c, h => by
    intro q
    simp only [mfind] at h
    split at h
    · rename_i hax
      injection h with h
      injection h with h1 h2
      obtain rfl : j = 0 := by omega
      simp only [ents, List.getElem?_cons_zero, hax, h2]; rfl
    · obtain ⟨j', rfl⟩ : ∃ j', j = j' + 1 := by
        have := mfind_at r a (i + 1) _ _ h
        exact ⟨j - 1, by omega⟩
      simp only [ents, List.getElem?_cons_succ]
      rw [ents_get r a (i + 1) j' c (by rw [h]; congr 2; omega), show q + 1 + j' = q + (j' + 1) from by omega]

/-- A map's type, with what it takes to look into such a map. -/
structure MT (P : Program) (T Kt Et : TypeId) {α β : Type} [DecidableEq α] (kE : α → Value) (vE : β → Value) (z : β) : Prop where
  und : P.underlying T = some (.map Kt Et)
  str : ∃ fs, P.underlying Kt = some (.struct fs)
  agg : ∀ a, ∃ xs, kE a = .agg xs
  eq : ∀ w a b, (Op.equal Kt (kE a) (kE b)).run P w = .ok (decide (a = b)) w
  chk : ∀ em w a, (Instr.checkKey em 10000 Kt (kE a)).run P w = .ok () w
  stay : ∀ w a, (Instr.keyThatStays (kE a) (kE a)).run P w = .ok (kE a) w
  zero : ∀ w, (zeroValue Et).run P w = .ok (vE z) w

section
variable {P : Program} {T Kt Et : TypeId} {α β : Type} [DecidableEq α] {kE : α → Value} {vE : β → Value} {z : β} {w : World}
theorem MT.ask (h : MT P T Kt Et kE vE z) (a : α) : ∀ (l : List (α × β)) (q i : Nat), (Instr.findAsking Kt (kE a) (ents kE vE q l) i).run P w = .ok ((mfind l a i).map fun p => (p.1, vE p.2)) w
  | [], q, i => by simp [ents, Instr.findAsking, mfind]
  | (x, b) :: r, q, i => by
    simp only [ents, Instr.findAsking, mfind, Sem.run_bind, h.eq, Result.andThen_ok]
    by_cases hax : a = x
    · simp [hax]
    · simp only [hax, decide_false, Bool.false_eq_true, if_false]
      exact MT.ask h a r (q + 1) (i + 1)
theorem MT.find (h : MT P T Kt Et kE vE z) (a : α) (l : List (α × β)) (q : Nat) : (Instr.findKey Kt (kE a) (ents kE vE q l)).run P w = .ok ((mfind l a 0).map fun p => (p.1, vE p.2)) w := by
  obtain ⟨fs, hfs⟩ := h.str
  obtain ⟨xs, hxs⟩ := h.agg a
  have hu : ∀ w : World, (underlying Kt).run P w = .ok (.struct fs) w := run_underlying hfs
  unfold Instr.findKey
  simp only [Sem.run_bind, hu, Result.andThen_ok]
  cases l with
  | nil => simp [ents, Instr.findNow, mfind]
  | cons p r =>
    obtain ⟨x, b⟩ := p
    have : Instr.findNow (.struct fs) (kE a) (ents kE vE q ((x, b) :: r)) 0 = none := by
      simp [ents, Instr.findNow, Instr.sameNow]
    rw [this]
    exact MT.ask h a ((x, b) :: r) q 0
theorem run_getMap {g : Nat} {es : Array MapEntry} {c : Nat} (hg : w.heap[g]? = some (.map es c)) : (getObj g).run P w = .ok (.map es c) w := by simp [getObj, Sem.run, hg]
theorem run_setMap {g : Nat} {es : Array MapEntry} {c : Nat} (hg : w.heap[g]? = some (.map es c)) (o : Obj) : (setObj g o).run P w = .ok () (w.putObj g o) := by simp [setObj, Sem.run, hg, World.putObj]
theorem MT.lookup (h : MT P T Kt Et kE vE z) {g c : Nat} {es : Array MapEntry} {q : Nat} {l : List (α × β)} (hes : es.toList = ents kE vE q l) (hg : w.heap[g]? = some (.map es c)) (a : α) (ok : Bool) :
    (Instr.lookup T (.map (some g)) (kE a) ok).run P w = .ok (if ok = true then .tuple #[vE ((mget l a).getD z), .bool (mget l a).isSome] else vE ((mget l a).getD z)) w := by
  have hu : ∀ w : World, (underlying T).run P w = .ok (.map Kt Et) w := run_underlying h.und
  have hf : (mfind l a 0).map (·.2) = mget l a := mfind_get l a 0
  unfold Instr.lookup
  simp only [Sem.run_bind, hu, Result.andThen_ok, run_getMap hg, Sem.run_pure, h.chk, hes, h.find a l q]
  cases hm : mfind l a 0 with
  | none => rw [hm] at hf; simp only [Option.map_none] at hf; simp [← hf, h.zero]
  | some p => rw [hm] at hf; simp only [Option.map_some] at hf; simp [← hf]
/-- Put at a. -/
theorem MT.update (h : MT P T Kt Et kE vE z) {g : Nat} {l : List (α × β)} (hg : w.heap[g]? = some (.map (ents kE vE 0 l).toArray l.length)) (a : α) (b : β) :
    (Instr.mapUpdate T (.map (some g)) (kE a) (vE b)).run P w = .ok () (w.putObj g (.map (ents kE vE 0 (mput l a b)).toArray (mput l a b).length)) := by
  have hu : ∀ w : World, (underlying T).run P w = .ok (.map Kt Et) w := run_underlying h.und
  unfold Instr.mapUpdate
  simp only [Sem.run_bind, hu, Result.andThen_ok, run_getMap hg, Sem.run_pure, h.chk, h.find a l 0]
  cases hm : mfind l a 0 with
  | none =>
    obtain ⟨h1, _, _⟩ := mput_none l a b 0 hm
    simp only [Option.map_none, run_setMap hg, h1, ents_append, List.push_toArray, List.length_append, List.length_cons, List.length_nil, Nat.zero_add]
  | some p =>
    obtain ⟨j, c⟩ := p
    have hj : mfind l a 0 = some (0 + j, c) := by rw [hm, Nat.zero_add]
    have hget : ((ents kE vE 0 l).toArray[j]?.map (·.key)).getD (kE a) = kE a := by
      rw [List.getElem?_toArray, ents_get l a 0 j c hj 0]; rfl
    have hlen : (mput l a b).length = l.length := by
      have := congrArg List.length (ents_modify (kE := kE) (vE := vE) b l a 0 j c hj 0)
      rw [List.length_modify, ents_length, ents_length] at this
      exact this.symm
    simp only [Option.map_some, hget, Sem.run_bind, h.stay, Result.andThen_ok, run_setMap hg, List.modify_toArray, ents_modify b l a 0 j c hj, hlen]
/-- The entry at a, made if it isn't there. -/
theorem MT.entry (h : MT P T Kt Et kE vE z) {g : Nat} {l : List (α × β)} (hg : w.heap[g]? = some (.map (ents kE vE 0 l).toArray l.length)) (a : α) :
    (Instr.mapEntry T (.map (some g)) (kE a)).run P w = .ok (.tuple #[vE ((mget l a).getD z), goInt (mat l a : Nat)]) (w.putObj g (.map (ents kE vE 0 (mens l a z)).toArray (mens l a z).length)) := by
  have hu : ∀ w : World, (underlying T).run P w = .ok (.map Kt Et) w := run_underlying h.und
  have hf : (mfind l a 0).map (·.2) = mget l a := mfind_get l a 0
  unfold Instr.mapEntry
  simp only [Sem.run_bind, hu, Result.andThen_ok, run_getMap hg, Sem.run_pure, h.chk, h.find a l 0]
  cases hm : mfind l a 0 with
  | none =>
    rw [hm] at hf
    simp only [Option.map_none] at hf
    obtain ⟨_, h1, h2⟩ := mput_none l a z 0 hm
    simp only [Option.map_none, Sem.run_bind, h.zero, Result.andThen_ok, run_setMap hg, Sem.run_pure, h1, ents_append, List.push_toArray, List.length_append, List.length_cons, List.length_nil, Nat.zero_add, ← hf, Option.getD_none, h2]
  | some p =>
    obtain ⟨j, c⟩ := p
    rw [hm] at hf
    simp only [Option.map_some] at hf
    have hj : mfind l a 0 = some (0 + j, c) := by rw [hm, Nat.zero_add]
    have hat := mfind_at l a 0 j c hm
    rw [Nat.zero_add] at hat
    subst hat
    have hkey : ((ents kE vE 0 l).toArray[mat l a]?.map (·.key)).getD (kE a) = kE a := by
      rw [List.getElem?_toArray, ents_get l a 0 _ c hj 0]; rfl
    have hborn : ((ents kE vE 0 l).toArray[mat l a]?.map (fun x => (x.born : Int))).getD 0 = (mat l a : Int) := by
      rw [List.getElem?_toArray, ents_get l a 0 _ c hj 0]; simp
    have hid : ((ents kE vE 0 l).modify (mat l a) fun e => { e with key := kE a }) = ents kE vE 0 l := by
      apply List.ext_getElem?
      intro k
      rw [List.getElem?_modify]
      split
      · rename_i hjk
        subst hjk
        rw [ents_get l a 0 _ c hj 0]; rfl
      · cases (ents kE vE 0 l)[k]? <;> rfl
    simp only [Option.map_some, hkey, hborn, Sem.run_bind, h.stay, Result.andThen_ok, run_setMap hg, List.modify_toArray, hid, Sem.run_pure, mens_some l a z 0 _ hm, ← hf, Option.getD_some]
/-- What is put at that entry. -/
theorem run_entryStore {g : Nat} {l : List (α × β)} (hg : w.heap[g]? = some (.map (ents kE vE 0 l).toArray l.length)) (a : α) (b : β) (hl : mat l a < l.length) :
    (Instr.entryStore T (.map (some g)) (goInt (mat l a : Nat)) (vE b)).run P w = .ok () (w.putObj g (.map (ents kE vE 0 (mput l a b)).toArray (mput l a b).length)) := by
  have hfind := ents_find (kE := kE) (vE := vE) l 0 (mat l a) hl
  rw [Nat.zero_add] at hfind
  have hv := ents_val (kE := kE) (vE := vE) b l a hl 0
  have hlen : (mput l a b).length = l.length := by
    have := congrArg List.length hv
    rw [List.length_modify, ents_length, ents_length] at this
    exact this.symm
  unfold Instr.entryStore
  have hi : (asInt (goInt (mat l a : Nat))).run P w = .ok ((mat l a : Nat) : Int) w := rfl
  simp only [Sem.run_bind, run_getMap hg, Result.andThen_ok, hi, Sem.run_pure, List.findIdx?_toArray, hfind, run_setMap hg, List.modify_toArray, hv, hlen]
end
end Go.Proofs.Ytieakigoinebdaa.RW
