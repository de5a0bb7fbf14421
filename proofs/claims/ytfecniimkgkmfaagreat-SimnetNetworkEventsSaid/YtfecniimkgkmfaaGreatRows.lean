/-
  No cell of these rows narrows 'for every input' (looked for: loops, veiled, ifaces, maps, wideKeys, modest, calm, conditions, laid).
  DERIVED. THE GIVEN ROWS OF THIS SEAT. 8 by the template 'for every input the law returns true; each argument reads behind the call as it read before'; 0 by the template 'total and deterministic' (their statements: YtfecniimkgkmfaaGreatTotals.lean).
  GIVEN WITH THE SEED: the statements are not yours to turn. If you find one false, say at which input.
  Laid BY PROGRAM, IN A SANDBOX (cutbox-rows.mjs): the forced cells as the released guide's own fill.sh prints them over the translation e1698d38aca3e93f… (all of the seat's roots in one cut). By AI agents, Wed Nov 11 2026. No macro, syntax, notation, axiom, sorry.
-/
import Derived.Test.YtfecniimkgkmfaaGreatChecked
import GoSem.Claim
import GoSem.ClaimJoined
import GoSem.ClaimMapViews
import Derived.JoinedTies
import Derived.KernelRfl
namespace Go.Proofs.YtfecniimkgkmfaaGreat
/- THE CELL 'sum', in the pinned program and in every row, IS THE sha256 OF THE DUMP (.gsa) THAT YtfecniimkgkmfaaGreatProg.lean LOADS. Nothing in Lean hashes anything: it is a label: what it is worth is what the hold of that sum in a sandbox is worth. -/
noncomputable def Tryz.pinned : Pinned := { name := "ytfecniimkgkmfaagreat", sum := "e1698d38aca3e93f2aaecf7d359d57259438a5dd8076fa4455bb13730fdadd00", checked := Tryz.checked }
namespace Rows
def none {H : Type} : Left H := { results := [], args := [] }

/-- 'armillarylaw31.SimnetMatchesReference': WHATEVER THE INPUT: true; the input reads as it did. -/
def simnetMatchesReferenceSpec : ChangeSpec := { name := "simnetMatchesReference", fn := fun _ => fun
  | [d1, d2, d3] => { results := [.lit (.bool true)], args := [d1, d2, d3] }
  | _ => none }
def simnetMatchesReferenceRow : OpenClaim := { program := "ytfecniimkgkmfaagreat", sum := "e1698d38aca3e93f2aaecf7d359d57259438a5dd8076fa4455bb13730fdadd00", func := "armillary/armillarylaw31.SimnetMatchesReference", spec := "simnetMatchesReference", unfollowed := true, recurses := true, plainKeys := false, apart := false }
def SimnetMatchesReferenceSaid : Prop := simnetMatchesReferenceRow.holds Tryz.pinned (OpenSpec.ofChange simnetMatchesReferenceSpec)

/-- ITS FALSE NEIGHBOUR: 'it returns false'. Refute it at one input. -/
def simnetMatchesReferenceWrong : ChangeSpec := { name := "simnetMatchesReference", fn := fun _ => fun
  | [d1, d2, d3] => { results := [.lit (.bool false)], args := [d1, d2, d3] }
  | _ => none }
def SimnetMatchesReferenceWrongFalsely : Prop := simnetMatchesReferenceRow.holds Tryz.pinned (OpenSpec.ofChange simnetMatchesReferenceWrong)

/-- 'armillarylaw31.SimnetAgreement': WHATEVER THE INPUT: true; the input reads as it did. -/
def simnetAgreementSpec : ChangeSpec := { name := "simnetAgreement", fn := fun _ => fun
  | [d] => { results := [.lit (.bool true)], args := [d] }
  | _ => none }
def simnetAgreementRow : OpenClaim := { program := "ytfecniimkgkmfaagreat", sum := "e1698d38aca3e93f2aaecf7d359d57259438a5dd8076fa4455bb13730fdadd00", func := "armillary/armillarylaw31.SimnetAgreement", spec := "simnetAgreement", unfollowed := true, recurses := true, plainKeys := false, apart := false }
def SimnetAgreementSaid : Prop := simnetAgreementRow.holds Tryz.pinned (OpenSpec.ofChange simnetAgreementSpec)

/-- ITS FALSE NEIGHBOUR: 'it returns false'. Refute it at one input. -/
def simnetAgreementWrong : ChangeSpec := { name := "simnetAgreement", fn := fun _ => fun
  | [d] => { results := [.lit (.bool false)], args := [d] }
  | _ => none }
def SimnetAgreementWrongFalsely : Prop := simnetAgreementRow.holds Tryz.pinned (OpenSpec.ofChange simnetAgreementWrong)

/-- 'armillarylaw31.SimnetAgreementRaw': WHATEVER THE INPUT: true; the input reads as it did. -/
def simnetAgreementRawSpec : ChangeSpec := { name := "simnetAgreementRaw", fn := fun _ => fun
  | [d] => { results := [.lit (.bool true)], args := [d] }
  | _ => none }
def simnetAgreementRawRow : OpenClaim := { program := "ytfecniimkgkmfaagreat", sum := "e1698d38aca3e93f2aaecf7d359d57259438a5dd8076fa4455bb13730fdadd00", func := "armillary/armillarylaw31.SimnetAgreementRaw", spec := "simnetAgreementRaw", unfollowed := true, recurses := true, plainKeys := false, apart := false }
def SimnetAgreementRawSaid : Prop := simnetAgreementRawRow.holds Tryz.pinned (OpenSpec.ofChange simnetAgreementRawSpec)

/-- ITS FALSE NEIGHBOUR: 'it returns false'. Refute it at one input. -/
def simnetAgreementRawWrong : ChangeSpec := { name := "simnetAgreementRaw", fn := fun _ => fun
  | [d] => { results := [.lit (.bool false)], args := [d] }
  | _ => none }
def SimnetAgreementRawWrongFalsely : Prop := simnetAgreementRawRow.holds Tryz.pinned (OpenSpec.ofChange simnetAgreementRawWrong)

/-- 'armillarylaw31.SimnetIntegrity': WHATEVER THE INPUT: true; the input reads as it did. -/
def simnetIntegritySpec : ChangeSpec := { name := "simnetIntegrity", fn := fun _ => fun
  | [d] => { results := [.lit (.bool true)], args := [d] }
  | _ => none }
def simnetIntegrityRow : OpenClaim := { program := "ytfecniimkgkmfaagreat", sum := "e1698d38aca3e93f2aaecf7d359d57259438a5dd8076fa4455bb13730fdadd00", func := "armillary/armillarylaw31.SimnetIntegrity", spec := "simnetIntegrity", unfollowed := true, recurses := true, plainKeys := false, apart := false }
def SimnetIntegritySaid : Prop := simnetIntegrityRow.holds Tryz.pinned (OpenSpec.ofChange simnetIntegritySpec)

/-- ITS FALSE NEIGHBOUR: 'it returns false'. Refute it at one input. -/
def simnetIntegrityWrong : ChangeSpec := { name := "simnetIntegrity", fn := fun _ => fun
  | [d] => { results := [.lit (.bool false)], args := [d] }
  | _ => none }
def SimnetIntegrityWrongFalsely : Prop := simnetIntegrityRow.holds Tryz.pinned (OpenSpec.ofChange simnetIntegrityWrong)

/-- 'armillarylaw31.SimnetProgress': WHATEVER THE INPUT: true; the input reads as it did. -/
def simnetProgressSpec : ChangeSpec := { name := "simnetProgress", fn := fun _ => fun
  | [d1, d2, d3] => { results := [.lit (.bool true)], args := [d1, d2, d3] }
  | _ => none }
def simnetProgressRow : OpenClaim := { program := "ytfecniimkgkmfaagreat", sum := "e1698d38aca3e93f2aaecf7d359d57259438a5dd8076fa4455bb13730fdadd00", func := "armillary/armillarylaw31.SimnetProgress", spec := "simnetProgress", unfollowed := true, recurses := true, plainKeys := false, apart := false }
def SimnetProgressSaid : Prop := simnetProgressRow.holds Tryz.pinned (OpenSpec.ofChange simnetProgressSpec)

/-- ITS FALSE NEIGHBOUR: 'it returns false'. Refute it at one input. -/
def simnetProgressWrong : ChangeSpec := { name := "simnetProgress", fn := fun _ => fun
  | [d1, d2, d3] => { results := [.lit (.bool false)], args := [d1, d2, d3] }
  | _ => none }
def SimnetProgressWrongFalsely : Prop := simnetProgressRow.holds Tryz.pinned (OpenSpec.ofChange simnetProgressWrong)

/-- 'armillarylaw31.SimnetNetworkEvents': WHATEVER THE INPUT: true; the input reads as it did. -/
def simnetNetworkEventsSpec : ChangeSpec := { name := "simnetNetworkEvents", fn := fun _ => fun
  | [d1, d2] => { results := [.lit (.bool true)], args := [d1, d2] }
  | _ => none }
def simnetNetworkEventsRow : OpenClaim := { program := "ytfecniimkgkmfaagreat", sum := "e1698d38aca3e93f2aaecf7d359d57259438a5dd8076fa4455bb13730fdadd00", func := "armillary/armillarylaw31.SimnetNetworkEvents", spec := "simnetNetworkEvents", unfollowed := true, recurses := true, plainKeys := false, apart := false }
def SimnetNetworkEventsSaid : Prop := simnetNetworkEventsRow.holds Tryz.pinned (OpenSpec.ofChange simnetNetworkEventsSpec)

/-- ITS FALSE NEIGHBOUR: 'it returns false'. Refute it at one input. -/
def simnetNetworkEventsWrong : ChangeSpec := { name := "simnetNetworkEvents", fn := fun _ => fun
  | [d1, d2] => { results := [.lit (.bool false)], args := [d1, d2] }
  | _ => none }
def SimnetNetworkEventsWrongFalsely : Prop := simnetNetworkEventsRow.holds Tryz.pinned (OpenSpec.ofChange simnetNetworkEventsWrong)

/-- 'armillarylaw31.SimnetDrain': WHATEVER THE INPUT: true; the input reads as it did. -/
def simnetDrainSpec : ChangeSpec := { name := "simnetDrain", fn := fun _ => fun
  | [d1, d2, d3] => { results := [.lit (.bool true)], args := [d1, d2, d3] }
  | _ => none }
def simnetDrainRow : OpenClaim := { program := "ytfecniimkgkmfaagreat", sum := "e1698d38aca3e93f2aaecf7d359d57259438a5dd8076fa4455bb13730fdadd00", func := "armillary/armillarylaw31.SimnetDrain", spec := "simnetDrain", unfollowed := true, recurses := true, plainKeys := false, apart := false }
def SimnetDrainSaid : Prop := simnetDrainRow.holds Tryz.pinned (OpenSpec.ofChange simnetDrainSpec)

/-- ITS FALSE NEIGHBOUR: 'it returns false'. Refute it at one input. -/
def simnetDrainWrong : ChangeSpec := { name := "simnetDrain", fn := fun _ => fun
  | [d1, d2, d3] => { results := [.lit (.bool false)], args := [d1, d2, d3] }
  | _ => none }
def SimnetDrainWrongFalsely : Prop := simnetDrainRow.holds Tryz.pinned (OpenSpec.ofChange simnetDrainWrong)

/-- 'armillarylaw31.SimnetPersistence': WHATEVER THE INPUT: true; the input reads as it did. -/
def simnetPersistenceSpec : ChangeSpec := { name := "simnetPersistence", fn := fun _ => fun
  | [d1, d2] => { results := [.lit (.bool true)], args := [d1, d2] }
  | _ => none }
def simnetPersistenceRow : OpenClaim := { program := "ytfecniimkgkmfaagreat", sum := "e1698d38aca3e93f2aaecf7d359d57259438a5dd8076fa4455bb13730fdadd00", func := "armillary/armillarylaw31.SimnetPersistence", spec := "simnetPersistence", unfollowed := true, recurses := true, plainKeys := false, apart := false }
def SimnetPersistenceSaid : Prop := simnetPersistenceRow.holds Tryz.pinned (OpenSpec.ofChange simnetPersistenceSpec)

/-- ITS FALSE NEIGHBOUR: 'it returns false'. Refute it at one input. -/
def simnetPersistenceWrong : ChangeSpec := { name := "simnetPersistence", fn := fun _ => fun
  | [d1, d2] => { results := [.lit (.bool false)], args := [d1, d2] }
  | _ => none }
def SimnetPersistenceWrongFalsely : Prop := simnetPersistenceRow.holds Tryz.pinned (OpenSpec.ofChange simnetPersistenceWrong)

/- THE SECOND FORM. 'bulk': how many values and letters a reading holds, each counted each time it is reached (what is shared counts as often as it is met; a slice's spare places count too). A statement '..UptoSaid' is the law's where the arguments, and the package variables that the reading takes, are together of bulk at most 1048576: NARROWER than '..Said'. Prove '..Said' where nothing that the law and all that it calls make is longer than what came in: it says more and counts as full. Else prove '..UptoSaid'. A law counts once. -/
mutual
def uptoBulk {H : Type} : DataW H → Nat
  | .lit (.string bytes) => bytes.length + 1
  | .lit _ => 1
  | .nil => 1
  | .ptr d => uptoBulk d + 1
  | .slice elems spare => uptoBulkAll elems + uptoBulkAll spare + 1
  | .agg parts => uptoBulkAll parts + 1
  | .iface _ d => uptoBulk d + 1
  | .map entries => uptoBulkEntries entries + 1
  | .held _ => 1
def uptoBulkAll {H : Type} : List (DataW H) → Nat
  | [] => 0
  | d :: r => uptoBulk d + uptoBulkAll r
def uptoBulkEntries {H : Type} : List (Lit × DataW H) → Nat
  | [] => 0
  | x :: r => uptoBulkEntry x + uptoBulkEntries r
def uptoBulkEntry {H : Type} : Lit × DataW H → Nat
  | (.string bytes, d) => bytes.length + uptoBulk d + 1
  | (_, d) => uptoBulk d + 1
 end
def uptoSmall : (H : Type) → List (DataW H) → Bool := fun _ ds => decide (uptoBulkAll ds ≤ 1048576)
def OpenSpec.upto (s : _root_.Go.ChangeSpec) : _root_.Go.OpenSpec := { _root_.Go.OpenSpec.ofChange s with cond := some uptoSmall }

/-- 'armillarylaw31.SimnetMatchesReference', WHERE WHAT IT READS IS OF BULK AT MOST 1048576: true; the input reads as it did. -/
def simnetMatchesReferenceUptoRow : OpenClaim := { program := "ytfecniimkgkmfaagreat", sum := "e1698d38aca3e93f2aaecf7d359d57259438a5dd8076fa4455bb13730fdadd00", func := "armillary/armillarylaw31.SimnetMatchesReference", spec := "simnetMatchesReference", unfollowed := true, recurses := true, plainKeys := false, apart := false, narrowed := true }
def SimnetMatchesReferenceUptoSaid : Prop := simnetMatchesReferenceUptoRow.holds Tryz.pinned (OpenSpec.upto simnetMatchesReferenceSpec)

/-- 'armillarylaw31.SimnetAgreement', WHERE WHAT IT READS IS OF BULK AT MOST 1048576: true; the input reads as it did. -/
def simnetAgreementUptoRow : OpenClaim := { program := "ytfecniimkgkmfaagreat", sum := "e1698d38aca3e93f2aaecf7d359d57259438a5dd8076fa4455bb13730fdadd00", func := "armillary/armillarylaw31.SimnetAgreement", spec := "simnetAgreement", unfollowed := true, recurses := true, plainKeys := false, apart := false, narrowed := true }
def SimnetAgreementUptoSaid : Prop := simnetAgreementUptoRow.holds Tryz.pinned (OpenSpec.upto simnetAgreementSpec)

/-- 'armillarylaw31.SimnetAgreementRaw', WHERE WHAT IT READS IS OF BULK AT MOST 1048576: true; the input reads as it did. -/
def simnetAgreementRawUptoRow : OpenClaim := { program := "ytfecniimkgkmfaagreat", sum := "e1698d38aca3e93f2aaecf7d359d57259438a5dd8076fa4455bb13730fdadd00", func := "armillary/armillarylaw31.SimnetAgreementRaw", spec := "simnetAgreementRaw", unfollowed := true, recurses := true, plainKeys := false, apart := false, narrowed := true }
def SimnetAgreementRawUptoSaid : Prop := simnetAgreementRawUptoRow.holds Tryz.pinned (OpenSpec.upto simnetAgreementRawSpec)

/-- 'armillarylaw31.SimnetIntegrity', WHERE WHAT IT READS IS OF BULK AT MOST 1048576: true; the input reads as it did. -/
def simnetIntegrityUptoRow : OpenClaim := { program := "ytfecniimkgkmfaagreat", sum := "e1698d38aca3e93f2aaecf7d359d57259438a5dd8076fa4455bb13730fdadd00", func := "armillary/armillarylaw31.SimnetIntegrity", spec := "simnetIntegrity", unfollowed := true, recurses := true, plainKeys := false, apart := false, narrowed := true }
def SimnetIntegrityUptoSaid : Prop := simnetIntegrityUptoRow.holds Tryz.pinned (OpenSpec.upto simnetIntegritySpec)

/-- 'armillarylaw31.SimnetProgress', WHERE WHAT IT READS IS OF BULK AT MOST 1048576: true; the input reads as it did. -/
def simnetProgressUptoRow : OpenClaim := { program := "ytfecniimkgkmfaagreat", sum := "e1698d38aca3e93f2aaecf7d359d57259438a5dd8076fa4455bb13730fdadd00", func := "armillary/armillarylaw31.SimnetProgress", spec := "simnetProgress", unfollowed := true, recurses := true, plainKeys := false, apart := false, narrowed := true }
def SimnetProgressUptoSaid : Prop := simnetProgressUptoRow.holds Tryz.pinned (OpenSpec.upto simnetProgressSpec)

/-- 'armillarylaw31.SimnetNetworkEvents', WHERE WHAT IT READS IS OF BULK AT MOST 1048576: true; the input reads as it did. -/
def simnetNetworkEventsUptoRow : OpenClaim := { program := "ytfecniimkgkmfaagreat", sum := "e1698d38aca3e93f2aaecf7d359d57259438a5dd8076fa4455bb13730fdadd00", func := "armillary/armillarylaw31.SimnetNetworkEvents", spec := "simnetNetworkEvents", unfollowed := true, recurses := true, plainKeys := false, apart := false, narrowed := true }
def SimnetNetworkEventsUptoSaid : Prop := simnetNetworkEventsUptoRow.holds Tryz.pinned (OpenSpec.upto simnetNetworkEventsSpec)

/-- 'armillarylaw31.SimnetDrain', WHERE WHAT IT READS IS OF BULK AT MOST 1048576: true; the input reads as it did. -/
def simnetDrainUptoRow : OpenClaim := { program := "ytfecniimkgkmfaagreat", sum := "e1698d38aca3e93f2aaecf7d359d57259438a5dd8076fa4455bb13730fdadd00", func := "armillary/armillarylaw31.SimnetDrain", spec := "simnetDrain", unfollowed := true, recurses := true, plainKeys := false, apart := false, narrowed := true }
def SimnetDrainUptoSaid : Prop := simnetDrainUptoRow.holds Tryz.pinned (OpenSpec.upto simnetDrainSpec)

/-- 'armillarylaw31.SimnetPersistence', WHERE WHAT IT READS IS OF BULK AT MOST 1048576: true; the input reads as it did. -/
def simnetPersistenceUptoRow : OpenClaim := { program := "ytfecniimkgkmfaagreat", sum := "e1698d38aca3e93f2aaecf7d359d57259438a5dd8076fa4455bb13730fdadd00", func := "armillary/armillarylaw31.SimnetPersistence", spec := "simnetPersistence", unfollowed := true, recurses := true, plainKeys := false, apart := false, narrowed := true }
def SimnetPersistenceUptoSaid : Prop := simnetPersistenceUptoRow.holds Tryz.pinned (OpenSpec.upto simnetPersistenceSpec)

end Rows
end Go.Proofs.YtfecniimkgkmfaaGreat
