/-
  No cell of these rows narrows 'for every input' (looked for: loops, veiled, ifaces, maps, wideKeys, modest, calm, conditions, laid).
  DERIVED. THE GIVEN ROWS OF THIS SEAT. 7 by the template 'for every input the law returns true; each argument reads behind the call as it read before'; 0 by the template 'total and deterministic' (their statements: YtieakigoinebdaaTotals.lean).
  GIVEN WITH THE SEED: the statements are not yours to turn. If you find one false, say at which input.
  Laid BY PROGRAM, IN A SANDBOX (cutbox-rows.mjs): the forced cells as the released guide's own fill.sh prints them over the translation 4e7e329ff442056f… (all of the seat's roots in one cut). By AI agents, Wed Nov 11 2026. No macro, syntax, notation, axiom, sorry.
-/
import Derived.Test.YtieakigoinebdaaChecked
import GoSem.Claim
import GoSem.ClaimJoined
import GoSem.ClaimMapViews
import Derived.JoinedTies
import Derived.KernelRfl
namespace Go.Proofs.Ytieakigoinebdaa
/- THE CELL 'sum', in the pinned program and in every row, IS THE sha256 OF THE DUMP (.gsa) THAT YtieakigoinebdaaProg.lean LOADS. Nothing in Lean hashes anything: it is a label: what it is worth is what the hold of that sum in a sandbox is worth. -/
noncomputable def Try.pinned : Pinned := { name := "ytieakigoinebdaa", sum := "4e7e329ff442056f04d519120fe7af7b170179f51dde3d30bd480c3547843846", checked := Try.checked }
namespace Rows
def none {H : Type} : Left H := { results := [], args := [] }

/-- 'armillarylaw29.QuorumMatchesReference': WHATEVER THE INPUT: true; the input reads as it did. -/
def quorumMatchesReferenceSpec : ChangeSpec := { name := "quorumMatchesReference", fn := fun _ => fun
  | [d1, d2] => { results := [.lit (.bool true)], args := [d1, d2] }
  | _ => none }
def quorumMatchesReferenceRow : OpenClaim := { program := "ytieakigoinebdaa", sum := "4e7e329ff442056f04d519120fe7af7b170179f51dde3d30bd480c3547843846", func := "armillary/armillarylaw29.QuorumMatchesReference", spec := "quorumMatchesReference", unfollowed := true, recurses := true, plainKeys := false, apart := false }
def QuorumMatchesReferenceSaid : Prop := quorumMatchesReferenceRow.holds Try.pinned (OpenSpec.ofChange quorumMatchesReferenceSpec)

/-- ITS FALSE NEIGHBOUR: 'it returns false'. Refute it at one input. -/
def quorumMatchesReferenceWrong : ChangeSpec := { name := "quorumMatchesReference", fn := fun _ => fun
  | [d1, d2] => { results := [.lit (.bool false)], args := [d1, d2] }
  | _ => none }
def QuorumMatchesReferenceWrongFalsely : Prop := quorumMatchesReferenceRow.holds Try.pinned (OpenSpec.ofChange quorumMatchesReferenceWrong)

/-- 'armillarylaw29.QuorumArithmetic': WHATEVER THE INPUT: true; the input reads as it did. -/
def quorumArithmeticSpec : ChangeSpec := { name := "quorumArithmetic", fn := fun _ => fun
  | [d1, d2] => { results := [.lit (.bool true)], args := [d1, d2] }
  | _ => none }
def quorumArithmeticRow : OpenClaim := { program := "ytieakigoinebdaa", sum := "4e7e329ff442056f04d519120fe7af7b170179f51dde3d30bd480c3547843846", func := "armillary/armillarylaw29.QuorumArithmetic", spec := "quorumArithmetic", unfollowed := true, recurses := true, plainKeys := false, apart := false }
def QuorumArithmeticSaid : Prop := quorumArithmeticRow.holds Try.pinned (OpenSpec.ofChange quorumArithmeticSpec)

/-- ITS FALSE NEIGHBOUR: 'it returns false'. Refute it at one input. -/
def quorumArithmeticWrong : ChangeSpec := { name := "quorumArithmetic", fn := fun _ => fun
  | [d1, d2] => { results := [.lit (.bool false)], args := [d1, d2] }
  | _ => none }
def QuorumArithmeticWrongFalsely : Prop := quorumArithmeticRow.holds Try.pinned (OpenSpec.ofChange quorumArithmeticWrong)

/-- 'armillarylaw29.QuorumAgreement': WHATEVER THE INPUT: true; the input reads as it did. -/
def quorumAgreementSpec : ChangeSpec := { name := "quorumAgreement", fn := fun _ => fun
  | [d1, d2, d3] => { results := [.lit (.bool true)], args := [d1, d2, d3] }
  | _ => none }
def quorumAgreementRow : OpenClaim := { program := "ytieakigoinebdaa", sum := "4e7e329ff442056f04d519120fe7af7b170179f51dde3d30bd480c3547843846", func := "armillary/armillarylaw29.QuorumAgreement", spec := "quorumAgreement", unfollowed := true, recurses := true, plainKeys := false, apart := false }
def QuorumAgreementSaid : Prop := quorumAgreementRow.holds Try.pinned (OpenSpec.ofChange quorumAgreementSpec)

/-- ITS FALSE NEIGHBOUR: 'it returns false'. Refute it at one input. -/
def quorumAgreementWrong : ChangeSpec := { name := "quorumAgreement", fn := fun _ => fun
  | [d1, d2, d3] => { results := [.lit (.bool false)], args := [d1, d2, d3] }
  | _ => none }
def QuorumAgreementWrongFalsely : Prop := quorumAgreementRow.holds Try.pinned (OpenSpec.ofChange quorumAgreementWrong)

/-- 'armillarylaw29.QuorumMonotonic': WHATEVER THE INPUT: true; the input reads as it did. -/
def quorumMonotonicSpec : ChangeSpec := { name := "quorumMonotonic", fn := fun _ => fun
  | [d1, d2] => { results := [.lit (.bool true)], args := [d1, d2] }
  | _ => none }
def quorumMonotonicRow : OpenClaim := { program := "ytieakigoinebdaa", sum := "4e7e329ff442056f04d519120fe7af7b170179f51dde3d30bd480c3547843846", func := "armillary/armillarylaw29.QuorumMonotonic", spec := "quorumMonotonic", unfollowed := true, recurses := true, plainKeys := false, apart := false }
def QuorumMonotonicSaid : Prop := quorumMonotonicRow.holds Try.pinned (OpenSpec.ofChange quorumMonotonicSpec)

/-- ITS FALSE NEIGHBOUR: 'it returns false'. Refute it at one input. -/
def quorumMonotonicWrong : ChangeSpec := { name := "quorumMonotonic", fn := fun _ => fun
  | [d1, d2] => { results := [.lit (.bool false)], args := [d1, d2] }
  | _ => none }
def QuorumMonotonicWrongFalsely : Prop := quorumMonotonicRow.holds Try.pinned (OpenSpec.ofChange quorumMonotonicWrong)

/-- 'armillarylaw29.QuorumDuplicates': WHATEVER THE INPUT: true; the input reads as it did. -/
def quorumDuplicatesSpec : ChangeSpec := { name := "quorumDuplicates", fn := fun _ => fun
  | [d1, d2] => { results := [.lit (.bool true)], args := [d1, d2] }
  | _ => none }
def quorumDuplicatesRow : OpenClaim := { program := "ytieakigoinebdaa", sum := "4e7e329ff442056f04d519120fe7af7b170179f51dde3d30bd480c3547843846", func := "armillary/armillarylaw29.QuorumDuplicates", spec := "quorumDuplicates", unfollowed := true, recurses := true, plainKeys := false, apart := false }
def QuorumDuplicatesSaid : Prop := quorumDuplicatesRow.holds Try.pinned (OpenSpec.ofChange quorumDuplicatesSpec)

/-- ITS FALSE NEIGHBOUR: 'it returns false'. Refute it at one input. -/
def quorumDuplicatesWrong : ChangeSpec := { name := "quorumDuplicates", fn := fun _ => fun
  | [d1, d2] => { results := [.lit (.bool false)], args := [d1, d2] }
  | _ => none }
def QuorumDuplicatesWrongFalsely : Prop := quorumDuplicatesRow.holds Try.pinned (OpenSpec.ofChange quorumDuplicatesWrong)

/-- 'armillarylaw29.QuorumThreshold': WHATEVER THE INPUT: true; the input reads as it did. -/
def quorumThresholdSpec : ChangeSpec := { name := "quorumThreshold", fn := fun _ => fun
  | [d] => { results := [.lit (.bool true)], args := [d] }
  | _ => none }
def quorumThresholdRow : OpenClaim := { program := "ytieakigoinebdaa", sum := "4e7e329ff442056f04d519120fe7af7b170179f51dde3d30bd480c3547843846", func := "armillary/armillarylaw29.QuorumThreshold", spec := "quorumThreshold", unfollowed := true, recurses := true, plainKeys := false, apart := false }
def QuorumThresholdSaid : Prop := quorumThresholdRow.holds Try.pinned (OpenSpec.ofChange quorumThresholdSpec)

/-- ITS FALSE NEIGHBOUR: 'it returns false'. Refute it at one input. -/
def quorumThresholdWrong : ChangeSpec := { name := "quorumThreshold", fn := fun _ => fun
  | [d] => { results := [.lit (.bool false)], args := [d] }
  | _ => none }
def QuorumThresholdWrongFalsely : Prop := quorumThresholdRow.holds Try.pinned (OpenSpec.ofChange quorumThresholdWrong)

/-- 'armillarylaw29.QuorumHighest': WHATEVER THE INPUT: true; the input reads as it did. -/
def quorumHighestSpec : ChangeSpec := { name := "quorumHighest", fn := fun _ => fun
  | [d] => { results := [.lit (.bool true)], args := [d] }
  | _ => none }
def quorumHighestRow : OpenClaim := { program := "ytieakigoinebdaa", sum := "4e7e329ff442056f04d519120fe7af7b170179f51dde3d30bd480c3547843846", func := "armillary/armillarylaw29.QuorumHighest", spec := "quorumHighest", unfollowed := true, recurses := true, plainKeys := false, apart := false }
def QuorumHighestSaid : Prop := quorumHighestRow.holds Try.pinned (OpenSpec.ofChange quorumHighestSpec)

/-- ITS FALSE NEIGHBOUR: 'it returns false'. Refute it at one input. -/
def quorumHighestWrong : ChangeSpec := { name := "quorumHighest", fn := fun _ => fun
  | [d] => { results := [.lit (.bool false)], args := [d] }
  | _ => none }
def QuorumHighestWrongFalsely : Prop := quorumHighestRow.holds Try.pinned (OpenSpec.ofChange quorumHighestWrong)

/- THE SECOND FORM. 'bulk': how many values and letters a reading holds, each counted each time it is reached (what is shared counts as often as it is met; a slice's spare places count too). A statement '..UptoSaid' is the law's where the arguments, and the package variables that the reading takes, are together of bulk at most 1048576: NARROWER than '..Said'. Prove '..Said' where nothing that the law and all that it calls make is longer than what came in: it says more and counts as full. Else prove '..UptoSaid'. A law counts once. -/
mutual
def uptoBulk {H : Type} : DataW H → Nat
  | .lit (.string bytes) => bytes.length + 1
  | .lit _ => 1
  | .nil => 1
  | .ptr d => uptoBulk d + 1
  | .slice elems spare => uptoBulkAll elems + uptoBulkAll spare + 1
  | .agg parts => uptoBulkAll parts + 1
  | .iface _ d => uptoBulk d + 1
  | .map entries => uptoBulkEntries entries + 1
  | .held _ => 1
def uptoBulkAll {H : Type} : List (DataW H) → Nat
  | [] => 0
  | d :: r => uptoBulk d + uptoBulkAll r
def uptoBulkEntries {H : Type} : List (Lit × DataW H) → Nat
  | [] => 0
  | x :: r => uptoBulkEntry x + uptoBulkEntries r
def uptoBulkEntry {H : Type} : Lit × DataW H → Nat
  | (.string bytes, d) => bytes.length + uptoBulk d + 1
  | (_, d) => uptoBulk d + 1
 end
def uptoSmall : (H : Type) → List (DataW H) → Bool := fun _ ds => decide (uptoBulkAll ds ≤ 1048576)
def OpenSpec.upto (s : _root_.Go.ChangeSpec) : _root_.Go.OpenSpec := { _root_.Go.OpenSpec.ofChange s with cond := some uptoSmall }

/-- 'armillarylaw29.QuorumMatchesReference', WHERE WHAT IT READS IS OF BULK AT MOST 1048576: true; the input reads as it did. -/
def quorumMatchesReferenceUptoRow : OpenClaim := { program := "ytieakigoinebdaa", sum := "4e7e329ff442056f04d519120fe7af7b170179f51dde3d30bd480c3547843846", func := "armillary/armillarylaw29.QuorumMatchesReference", spec := "quorumMatchesReference", unfollowed := true, recurses := true, plainKeys := false, apart := false, narrowed := true }
def QuorumMatchesReferenceUptoSaid : Prop := quorumMatchesReferenceUptoRow.holds Try.pinned (OpenSpec.upto quorumMatchesReferenceSpec)

/-- 'armillarylaw29.QuorumArithmetic', WHERE WHAT IT READS IS OF BULK AT MOST 1048576: true; the input reads as it did. -/
def quorumArithmeticUptoRow : OpenClaim := { program := "ytieakigoinebdaa", sum := "4e7e329ff442056f04d519120fe7af7b170179f51dde3d30bd480c3547843846", func := "armillary/armillarylaw29.QuorumArithmetic", spec := "quorumArithmetic", unfollowed := true, recurses := true, plainKeys := false, apart := false, narrowed := true }
def QuorumArithmeticUptoSaid : Prop := quorumArithmeticUptoRow.holds Try.pinned (OpenSpec.upto quorumArithmeticSpec)

/-- 'armillarylaw29.QuorumAgreement', WHERE WHAT IT READS IS OF BULK AT MOST 1048576: true; the input reads as it did. -/
def quorumAgreementUptoRow : OpenClaim := { program := "ytieakigoinebdaa", sum := "4e7e329ff442056f04d519120fe7af7b170179f51dde3d30bd480c3547843846", func := "armillary/armillarylaw29.QuorumAgreement", spec := "quorumAgreement", unfollowed := true, recurses := true, plainKeys := false, apart := false, narrowed := true }
def QuorumAgreementUptoSaid : Prop := quorumAgreementUptoRow.holds Try.pinned (OpenSpec.upto quorumAgreementSpec)

/-- 'armillarylaw29.QuorumMonotonic', WHERE WHAT IT READS IS OF BULK AT MOST 1048576: true; the input reads as it did. -/
def quorumMonotonicUptoRow : OpenClaim := { program := "ytieakigoinebdaa", sum := "4e7e329ff442056f04d519120fe7af7b170179f51dde3d30bd480c3547843846", func := "armillary/armillarylaw29.QuorumMonotonic", spec := "quorumMonotonic", unfollowed := true, recurses := true, plainKeys := false, apart := false, narrowed := true }
def QuorumMonotonicUptoSaid : Prop := quorumMonotonicUptoRow.holds Try.pinned (OpenSpec.upto quorumMonotonicSpec)

/-- 'armillarylaw29.QuorumDuplicates', WHERE WHAT IT READS IS OF BULK AT MOST 1048576: true; the input reads as it did. -/
def quorumDuplicatesUptoRow : OpenClaim := { program := "ytieakigoinebdaa", sum := "4e7e329ff442056f04d519120fe7af7b170179f51dde3d30bd480c3547843846", func := "armillary/armillarylaw29.QuorumDuplicates", spec := "quorumDuplicates", unfollowed := true, recurses := true, plainKeys := false, apart := false, narrowed := true }
def QuorumDuplicatesUptoSaid : Prop := quorumDuplicatesUptoRow.holds Try.pinned (OpenSpec.upto quorumDuplicatesSpec)

/-- 'armillarylaw29.QuorumThreshold', WHERE WHAT IT READS IS OF BULK AT MOST 1048576: true; the input reads as it did. -/
def quorumThresholdUptoRow : OpenClaim := { program := "ytieakigoinebdaa", sum := "4e7e329ff442056f04d519120fe7af7b170179f51dde3d30bd480c3547843846", func := "armillary/armillarylaw29.QuorumThreshold", spec := "quorumThreshold", unfollowed := true, recurses := true, plainKeys := false, apart := false, narrowed := true }
def QuorumThresholdUptoSaid : Prop := quorumThresholdUptoRow.holds Try.pinned (OpenSpec.upto quorumThresholdSpec)

/-- 'armillarylaw29.QuorumHighest', WHERE WHAT IT READS IS OF BULK AT MOST 1048576: true; the input reads as it did. -/
def quorumHighestUptoRow : OpenClaim := { program := "ytieakigoinebdaa", sum := "4e7e329ff442056f04d519120fe7af7b170179f51dde3d30bd480c3547843846", func := "armillary/armillarylaw29.QuorumHighest", spec := "quorumHighest", unfollowed := true, recurses := true, plainKeys := false, apart := false, narrowed := true }
def QuorumHighestUptoSaid : Prop := quorumHighestUptoRow.holds Try.pinned (OpenSpec.upto quorumHighestSpec)

end Rows
end Go.Proofs.Ytieakigoinebdaa
