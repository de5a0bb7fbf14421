/-
  No cell of these rows narrows 'for every input' (looked for: loops, veiled, ifaces, maps, wideKeys, modest, calm, conditions, laid).
  DERIVED. THE GIVEN ROWS OF THIS SEAT. 8 by the template 'for every input the law returns true; each argument reads behind the call as it read before'; 0 by the template 'total and deterministic' (their statements: YtihmbmeelheinaaTotals.lean).
  GIVEN WITH THE SEED: the statements are not yours to turn. If you find one false, say at which input.
  Laid BY PROGRAM, IN A SANDBOX (cutbox-rows.mjs): the forced cells as the released guide's own fill.sh prints them over the translation c7c083723f1c9c99… (all of the seat's roots in one cut). By AI agents, Wed Nov 11 2026. No macro, syntax, notation, axiom, sorry.
-/
import Derived.Test.YtihmbmeelheinaaChecked
import GoSem.Claim
import GoSem.ClaimJoined
import GoSem.ClaimMapViews
import Derived.JoinedTies
import Derived.KernelRfl
namespace Go.Proofs.Ytihmbmeelheinaa
/- THE CELL 'sum', in the pinned program and in every row, IS THE sha256 OF THE DUMP (.gsa) THAT YtihmbmeelheinaaProg.lean LOADS. Nothing in Lean hashes anything: it is a label: what it is worth is what the hold of that sum in a sandbox is worth. -/
noncomputable def Try.pinned : Pinned := { name := "ytihmbmeelheinaa", sum := "c7c083723f1c9c99cc3a1e201a993a2d028e21f41cfc5d14aae3f9d729daaf80", checked := Try.checked }
namespace Rows
def none {H : Type} : Left H := { results := [], args := [] }

/-- 'armillarylaw23.AuctionMatchesReference': WHATEVER THE INPUT: true; the input reads as it did. -/
def auctionMatchesReferenceSpec : ChangeSpec := { name := "auctionMatchesReference", fn := fun _ => fun
  | [d1, d2, d3] => { results := [.lit (.bool true)], args := [d1, d2, d3] }
  | _ => none }
def auctionMatchesReferenceRow : OpenClaim := { program := "ytihmbmeelheinaa", sum := "c7c083723f1c9c99cc3a1e201a993a2d028e21f41cfc5d14aae3f9d729daaf80", func := "armillary/armillarylaw23.AuctionMatchesReference", spec := "auctionMatchesReference", unfollowed := true, recurses := true, plainKeys := false, apart := false }
def AuctionMatchesReferenceSaid : Prop := auctionMatchesReferenceRow.holds Try.pinned (OpenSpec.ofChange auctionMatchesReferenceSpec)

/-- ITS FALSE NEIGHBOUR: 'it returns false'. Refute it at one input. -/
def auctionMatchesReferenceWrong : ChangeSpec := { name := "auctionMatchesReference", fn := fun _ => fun
  | [d1, d2, d3] => { results := [.lit (.bool false)], args := [d1, d2, d3] }
  | _ => none }
def AuctionMatchesReferenceWrongFalsely : Prop := auctionMatchesReferenceRow.holds Try.pinned (OpenSpec.ofChange auctionMatchesReferenceWrong)

/-- 'armillarylaw23.AuctionEfficient': WHATEVER THE INPUT: true; the input reads as it did. -/
def auctionEfficientSpec : ChangeSpec := { name := "auctionEfficient", fn := fun _ => fun
  | [d1, d2] => { results := [.lit (.bool true)], args := [d1, d2] }
  | _ => none }
def auctionEfficientRow : OpenClaim := { program := "ytihmbmeelheinaa", sum := "c7c083723f1c9c99cc3a1e201a993a2d028e21f41cfc5d14aae3f9d729daaf80", func := "armillary/armillarylaw23.AuctionEfficient", spec := "auctionEfficient", unfollowed := true, recurses := true, plainKeys := false, apart := false }
def AuctionEfficientSaid : Prop := auctionEfficientRow.holds Try.pinned (OpenSpec.ofChange auctionEfficientSpec)

/-- ITS FALSE NEIGHBOUR: 'it returns false'. Refute it at one input. -/
def auctionEfficientWrong : ChangeSpec := { name := "auctionEfficient", fn := fun _ => fun
  | [d1, d2] => { results := [.lit (.bool false)], args := [d1, d2] }
  | _ => none }
def AuctionEfficientWrongFalsely : Prop := auctionEfficientRow.holds Try.pinned (OpenSpec.ofChange auctionEfficientWrong)

/-- 'armillarylaw23.AuctionRational': WHATEVER THE INPUT: true; the input reads as it did. -/
def auctionRationalSpec : ChangeSpec := { name := "auctionRational", fn := fun _ => fun
  | [d] => { results := [.lit (.bool true)], args := [d] }
  | _ => none }
def auctionRationalRow : OpenClaim := { program := "ytihmbmeelheinaa", sum := "c7c083723f1c9c99cc3a1e201a993a2d028e21f41cfc5d14aae3f9d729daaf80", func := "armillary/armillarylaw23.AuctionRational", spec := "auctionRational", unfollowed := true, recurses := true, plainKeys := false, apart := false }
def AuctionRationalSaid : Prop := auctionRationalRow.holds Try.pinned (OpenSpec.ofChange auctionRationalSpec)

/-- ITS FALSE NEIGHBOUR: 'it returns false'. Refute it at one input. -/
def auctionRationalWrong : ChangeSpec := { name := "auctionRational", fn := fun _ => fun
  | [d] => { results := [.lit (.bool false)], args := [d] }
  | _ => none }
def AuctionRationalWrongFalsely : Prop := auctionRationalRow.holds Try.pinned (OpenSpec.ofChange auctionRationalWrong)

/-- 'armillarylaw23.AuctionTruthful': WHATEVER THE INPUT: true; the input reads as it did. -/
def auctionTruthfulSpec : ChangeSpec := { name := "auctionTruthful", fn := fun _ => fun
  | [d1, d2, d3] => { results := [.lit (.bool true)], args := [d1, d2, d3] }
  | _ => none }
def auctionTruthfulRow : OpenClaim := { program := "ytihmbmeelheinaa", sum := "c7c083723f1c9c99cc3a1e201a993a2d028e21f41cfc5d14aae3f9d729daaf80", func := "armillary/armillarylaw23.AuctionTruthful", spec := "auctionTruthful", unfollowed := true, recurses := true, plainKeys := false, apart := false }
def AuctionTruthfulSaid : Prop := auctionTruthfulRow.holds Try.pinned (OpenSpec.ofChange auctionTruthfulSpec)

/-- ITS FALSE NEIGHBOUR: 'it returns false'. Refute it at one input. -/
def auctionTruthfulWrong : ChangeSpec := { name := "auctionTruthful", fn := fun _ => fun
  | [d1, d2, d3] => { results := [.lit (.bool false)], args := [d1, d2, d3] }
  | _ => none }
def AuctionTruthfulWrongFalsely : Prop := auctionTruthfulRow.holds Try.pinned (OpenSpec.ofChange auctionTruthfulWrong)

/-- 'armillarylaw23.AuctionExternality': WHATEVER THE INPUT: true; the input reads as it did. -/
def auctionExternalitySpec : ChangeSpec := { name := "auctionExternality", fn := fun _ => fun
  | [d] => { results := [.lit (.bool true)], args := [d] }
  | _ => none }
def auctionExternalityRow : OpenClaim := { program := "ytihmbmeelheinaa", sum := "c7c083723f1c9c99cc3a1e201a993a2d028e21f41cfc5d14aae3f9d729daaf80", func := "armillary/armillarylaw23.AuctionExternality", spec := "auctionExternality", unfollowed := true, recurses := true, plainKeys := false, apart := false }
def AuctionExternalitySaid : Prop := auctionExternalityRow.holds Try.pinned (OpenSpec.ofChange auctionExternalitySpec)

/-- ITS FALSE NEIGHBOUR: 'it returns false'. Refute it at one input. -/
def auctionExternalityWrong : ChangeSpec := { name := "auctionExternality", fn := fun _ => fun
  | [d] => { results := [.lit (.bool false)], args := [d] }
  | _ => none }
def AuctionExternalityWrongFalsely : Prop := auctionExternalityRow.holds Try.pinned (OpenSpec.ofChange auctionExternalityWrong)

/-- 'armillarylaw23.AuctionScaled': WHATEVER THE INPUT: true; the input reads as it did. -/
def auctionScaledSpec : ChangeSpec := { name := "auctionScaled", fn := fun _ => fun
  | [d1, d2] => { results := [.lit (.bool true)], args := [d1, d2] }
  | _ => none }
def auctionScaledRow : OpenClaim := { program := "ytihmbmeelheinaa", sum := "c7c083723f1c9c99cc3a1e201a993a2d028e21f41cfc5d14aae3f9d729daaf80", func := "armillary/armillarylaw23.AuctionScaled", spec := "auctionScaled", unfollowed := true, recurses := true, plainKeys := false, apart := false }
def AuctionScaledSaid : Prop := auctionScaledRow.holds Try.pinned (OpenSpec.ofChange auctionScaledSpec)

/-- ITS FALSE NEIGHBOUR: 'it returns false'. Refute it at one input. -/
def auctionScaledWrong : ChangeSpec := { name := "auctionScaled", fn := fun _ => fun
  | [d1, d2] => { results := [.lit (.bool false)], args := [d1, d2] }
  | _ => none }
def AuctionScaledWrongFalsely : Prop := auctionScaledRow.holds Try.pinned (OpenSpec.ofChange auctionScaledWrong)

/-- 'armillarylaw23.AuctionRaised': WHATEVER THE INPUT: true; the input reads as it did. -/
def auctionRaisedSpec : ChangeSpec := { name := "auctionRaised", fn := fun _ => fun
  | [d1, d2, d3] => { results := [.lit (.bool true)], args := [d1, d2, d3] }
  | _ => none }
def auctionRaisedRow : OpenClaim := { program := "ytihmbmeelheinaa", sum := "c7c083723f1c9c99cc3a1e201a993a2d028e21f41cfc5d14aae3f9d729daaf80", func := "armillary/armillarylaw23.AuctionRaised", spec := "auctionRaised", unfollowed := true, recurses := true, plainKeys := false, apart := false }
def AuctionRaisedSaid : Prop := auctionRaisedRow.holds Try.pinned (OpenSpec.ofChange auctionRaisedSpec)

/-- ITS FALSE NEIGHBOUR: 'it returns false'. Refute it at one input. -/
def auctionRaisedWrong : ChangeSpec := { name := "auctionRaised", fn := fun _ => fun
  | [d1, d2, d3] => { results := [.lit (.bool false)], args := [d1, d2, d3] }
  | _ => none }
def AuctionRaisedWrongFalsely : Prop := auctionRaisedRow.holds Try.pinned (OpenSpec.ofChange auctionRaisedWrong)

/-- 'armillarylaw23.AuctionLosers': WHATEVER THE INPUT: true; the input reads as it did. -/
def auctionLosersSpec : ChangeSpec := { name := "auctionLosers", fn := fun _ => fun
  | [d1, d2] => { results := [.lit (.bool true)], args := [d1, d2] }
  | _ => none }
def auctionLosersRow : OpenClaim := { program := "ytihmbmeelheinaa", sum := "c7c083723f1c9c99cc3a1e201a993a2d028e21f41cfc5d14aae3f9d729daaf80", func := "armillary/armillarylaw23.AuctionLosers", spec := "auctionLosers", unfollowed := true, recurses := true, plainKeys := false, apart := false }
def AuctionLosersSaid : Prop := auctionLosersRow.holds Try.pinned (OpenSpec.ofChange auctionLosersSpec)

/-- ITS FALSE NEIGHBOUR: 'it returns false'. Refute it at one input. -/
def auctionLosersWrong : ChangeSpec := { name := "auctionLosers", fn := fun _ => fun
  | [d1, d2] => { results := [.lit (.bool false)], args := [d1, d2] }
  | _ => none }
def AuctionLosersWrongFalsely : Prop := auctionLosersRow.holds Try.pinned (OpenSpec.ofChange auctionLosersWrong)

/- THE SECOND FORM. 'bulk': how many values and letters a reading holds, each counted each time it is reached (what is shared counts as often as it is met; a slice's spare places count too). A statement '..UptoSaid' is the law's where the arguments, and the package variables that the reading takes, are together of bulk at most 1048576: NARROWER than '..Said'. Prove '..Said' where nothing that the law and all that it calls make is longer than what came in: it says more and counts as full. Else prove '..UptoSaid'. A law counts once. -/
mutual
def uptoBulk {H : Type} : DataW H → Nat
  | .lit (.string bytes) => bytes.length + 1
  | .lit _ => 1
  | .nil => 1
  | .ptr d => uptoBulk d + 1
  | .slice elems spare => uptoBulkAll elems + uptoBulkAll spare + 1
  | .agg parts => uptoBulkAll parts + 1
  | .iface _ d => uptoBulk d + 1
  | .map entries => uptoBulkEntries entries + 1
  | .held _ => 1
def uptoBulkAll {H : Type} : List (DataW H) → Nat
  | [] => 0
  | d :: r => uptoBulk d + uptoBulkAll r
def uptoBulkEntries {H : Type} : List (Lit × DataW H) → Nat
  | [] => 0
  | x :: r => uptoBulkEntry x + uptoBulkEntries r
def uptoBulkEntry {H : Type} : Lit × DataW H → Nat
  | (.string bytes, d) => bytes.length + uptoBulk d + 1
  | (_, d) => uptoBulk d + 1
 end
def uptoSmall : (H : Type) → List (DataW H) → Bool := fun _ ds => decide (uptoBulkAll ds ≤ 1048576)
def OpenSpec.upto (s : _root_.Go.ChangeSpec) : _root_.Go.OpenSpec := { _root_.Go.OpenSpec.ofChange s with cond := some uptoSmall }

/-- 'armillarylaw23.AuctionMatchesReference', WHERE WHAT IT READS IS OF BULK AT MOST 1048576: true; the input reads as it did. -/
def auctionMatchesReferenceUptoRow : OpenClaim := { program := "ytihmbmeelheinaa", sum := "c7c083723f1c9c99cc3a1e201a993a2d028e21f41cfc5d14aae3f9d729daaf80", func := "armillary/armillarylaw23.AuctionMatchesReference", spec := "auctionMatchesReference", unfollowed := true, recurses := true, plainKeys := false, apart := false, narrowed := true }
def AuctionMatchesReferenceUptoSaid : Prop := auctionMatchesReferenceUptoRow.holds Try.pinned (OpenSpec.upto auctionMatchesReferenceSpec)

/-- 'armillarylaw23.AuctionEfficient', WHERE WHAT IT READS IS OF BULK AT MOST 1048576: true; the input reads as it did. -/
def auctionEfficientUptoRow : OpenClaim := { program := "ytihmbmeelheinaa", sum := "c7c083723f1c9c99cc3a1e201a993a2d028e21f41cfc5d14aae3f9d729daaf80", func := "armillary/armillarylaw23.AuctionEfficient", spec := "auctionEfficient", unfollowed := true, recurses := true, plainKeys := false, apart := false, narrowed := true }
def AuctionEfficientUptoSaid : Prop := auctionEfficientUptoRow.holds Try.pinned (OpenSpec.upto auctionEfficientSpec)

/-- 'armillarylaw23.AuctionRational', WHERE WHAT IT READS IS OF BULK AT MOST 1048576: true; the input reads as it did. -/
def auctionRationalUptoRow : OpenClaim := { program := "ytihmbmeelheinaa", sum := "c7c083723f1c9c99cc3a1e201a993a2d028e21f41cfc5d14aae3f9d729daaf80", func := "armillary/armillarylaw23.AuctionRational", spec := "auctionRational", unfollowed := true, recurses := true, plainKeys := false, apart := false, narrowed := true }
def AuctionRationalUptoSaid : Prop := auctionRationalUptoRow.holds Try.pinned (OpenSpec.upto auctionRationalSpec)

/-- 'armillarylaw23.AuctionTruthful', WHERE WHAT IT READS IS OF BULK AT MOST 1048576: true; the input reads as it did. -/
def auctionTruthfulUptoRow : OpenClaim := { program := "ytihmbmeelheinaa", sum := "c7c083723f1c9c99cc3a1e201a993a2d028e21f41cfc5d14aae3f9d729daaf80", func := "armillary/armillarylaw23.AuctionTruthful", spec := "auctionTruthful", unfollowed := true, recurses := true, plainKeys := false, apart := false, narrowed := true }
def AuctionTruthfulUptoSaid : Prop := auctionTruthfulUptoRow.holds Try.pinned (OpenSpec.upto auctionTruthfulSpec)

/-- 'armillarylaw23.AuctionExternality', WHERE WHAT IT READS IS OF BULK AT MOST 1048576: true; the input reads as it did. -/
def auctionExternalityUptoRow : OpenClaim := { program := "ytihmbmeelheinaa", sum := "c7c083723f1c9c99cc3a1e201a993a2d028e21f41cfc5d14aae3f9d729daaf80", func := "armillary/armillarylaw23.AuctionExternality", spec := "auctionExternality", unfollowed := true, recurses := true, plainKeys := false, apart := false, narrowed := true }
def AuctionExternalityUptoSaid : Prop := auctionExternalityUptoRow.holds Try.pinned (OpenSpec.upto auctionExternalitySpec)

/-- 'armillarylaw23.AuctionScaled', WHERE WHAT IT READS IS OF BULK AT MOST 1048576: true; the input reads as it did. -/
def auctionScaledUptoRow : OpenClaim := { program := "ytihmbmeelheinaa", sum := "c7c083723f1c9c99cc3a1e201a993a2d028e21f41cfc5d14aae3f9d729daaf80", func := "armillary/armillarylaw23.AuctionScaled", spec := "auctionScaled", unfollowed := true, recurses := true, plainKeys := false, apart := false, narrowed := true }
def AuctionScaledUptoSaid : Prop := auctionScaledUptoRow.holds Try.pinned (OpenSpec.upto auctionScaledSpec)

/-- 'armillarylaw23.AuctionRaised', WHERE WHAT IT READS IS OF BULK AT MOST 1048576: true; the input reads as it did. -/
def auctionRaisedUptoRow : OpenClaim := { program := "ytihmbmeelheinaa", sum := "c7c083723f1c9c99cc3a1e201a993a2d028e21f41cfc5d14aae3f9d729daaf80", func := "armillary/armillarylaw23.AuctionRaised", spec := "auctionRaised", unfollowed := true, recurses := true, plainKeys := false, apart := false, narrowed := true }
def AuctionRaisedUptoSaid : Prop := auctionRaisedUptoRow.holds Try.pinned (OpenSpec.upto auctionRaisedSpec)

/-- 'armillarylaw23.AuctionLosers', WHERE WHAT IT READS IS OF BULK AT MOST 1048576: true; the input reads as it did. -/
def auctionLosersUptoRow : OpenClaim := { program := "ytihmbmeelheinaa", sum := "c7c083723f1c9c99cc3a1e201a993a2d028e21f41cfc5d14aae3f9d729daaf80", func := "armillary/armillarylaw23.AuctionLosers", spec := "auctionLosers", unfollowed := true, recurses := true, plainKeys := false, apart := false, narrowed := true }
def AuctionLosersUptoSaid : Prop := auctionLosersUptoRow.holds Try.pinned (OpenSpec.upto auctionLosersSpec)

end Rows
end Go.Proofs.Ytihmbmeelheinaa
