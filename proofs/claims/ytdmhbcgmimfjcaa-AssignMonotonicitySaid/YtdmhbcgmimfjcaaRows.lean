/-
  No cell of these rows narrows 'for every input' (looked for: loops, veiled, ifaces, maps, wideKeys, modest, calm, conditions, laid).
  DERIVED. THE GIVEN ROWS OF THIS SEAT. 7 by the template 'for every input the law returns true; each argument reads behind the call as it read before'; 0 by the template 'total and deterministic' (their statements: YtdmhbcgmimfjcaaTotals.lean).
  GIVEN WITH THE SEED: the statements are not yours to turn. If you find one false, say at which input.
  Laid BY PROGRAM, IN A SANDBOX (cutbox-rows.mjs): the forced cells as the released guide's own fill.sh prints them over the translation 32ea9b1fd0debd4e… (all of the seat's roots in one cut). By AI agents, Wed Nov 11 2026. No macro, syntax, notation, axiom, sorry.
-/
import Derived.Test.YtdmhbcgmimfjcaaChecked
import GoSem.Claim
import GoSem.ClaimJoined
import GoSem.ClaimMapViews
import Derived.JoinedTies
import Derived.KernelRfl
namespace Go.Proofs.Ytdmhbcgmimfjcaa
/- THE CELL 'sum', in the pinned program and in every row, IS THE sha256 OF THE DUMP (.gsa) THAT YtdmhbcgmimfjcaaProg.lean LOADS. Nothing in Lean hashes anything: it is a label: what it is worth is what the hold of that sum in a sandbox is worth. -/
noncomputable def Try.pinned : Pinned := { name := "ytdmhbcgmimfjcaa", sum := "32ea9b1fd0debd4eeb733bc649281039d527b8cd261ea9039a486c96b07a6fdf", checked := Try.checked }
namespace Rows
def none {H : Type} : Left H := { results := [], args := [] }

/-- 'armillarylaw22.AssignMatchesReference': WHATEVER THE INPUT: true; the input reads as it did. -/
def assignMatchesReferenceSpec : ChangeSpec := { name := "assignMatchesReference", fn := fun _ => fun
  | [d1, d2, d3] => { results := [.lit (.bool true)], args := [d1, d2, d3] }
  | _ => none }
def assignMatchesReferenceRow : OpenClaim := { program := "ytdmhbcgmimfjcaa", sum := "32ea9b1fd0debd4eeb733bc649281039d527b8cd261ea9039a486c96b07a6fdf", func := "armillary/armillarylaw22.AssignMatchesReference", spec := "assignMatchesReference", unfollowed := true, recurses := true, apart := false }
def AssignMatchesReferenceSaid : Prop := assignMatchesReferenceRow.holds Try.pinned (OpenSpec.ofChange assignMatchesReferenceSpec)

/-- ITS FALSE NEIGHBOUR: 'it returns false'. Refute it at one input. -/
def assignMatchesReferenceWrong : ChangeSpec := { name := "assignMatchesReference", fn := fun _ => fun
  | [d1, d2, d3] => { results := [.lit (.bool false)], args := [d1, d2, d3] }
  | _ => none }
def AssignMatchesReferenceWrongFalsely : Prop := assignMatchesReferenceRow.holds Try.pinned (OpenSpec.ofChange assignMatchesReferenceWrong)

/-- 'armillarylaw22.AssignDuality': WHATEVER THE INPUT: true; the input reads as it did. -/
def assignDualitySpec : ChangeSpec := { name := "assignDuality", fn := fun _ => fun
  | [d] => { results := [.lit (.bool true)], args := [d] }
  | _ => none }
def assignDualityRow : OpenClaim := { program := "ytdmhbcgmimfjcaa", sum := "32ea9b1fd0debd4eeb733bc649281039d527b8cd261ea9039a486c96b07a6fdf", func := "armillary/armillarylaw22.AssignDuality", spec := "assignDuality", unfollowed := true, recurses := true, apart := false }
def AssignDualitySaid : Prop := assignDualityRow.holds Try.pinned (OpenSpec.ofChange assignDualitySpec)

/-- ITS FALSE NEIGHBOUR: 'it returns false'. Refute it at one input. -/
def assignDualityWrong : ChangeSpec := { name := "assignDuality", fn := fun _ => fun
  | [d] => { results := [.lit (.bool false)], args := [d] }
  | _ => none }
def AssignDualityWrongFalsely : Prop := assignDualityRow.holds Try.pinned (OpenSpec.ofChange assignDualityWrong)

/-- 'armillarylaw22.AssignWeakDuality': WHATEVER THE INPUT: true; the input reads as it did. -/
def assignWeakDualitySpec : ChangeSpec := { name := "assignWeakDuality", fn := fun _ => fun
  | [d1, d2, d3] => { results := [.lit (.bool true)], args := [d1, d2, d3] }
  | _ => none }
def assignWeakDualityRow : OpenClaim := { program := "ytdmhbcgmimfjcaa", sum := "32ea9b1fd0debd4eeb733bc649281039d527b8cd261ea9039a486c96b07a6fdf", func := "armillary/armillarylaw22.AssignWeakDuality", spec := "assignWeakDuality", unfollowed := true, recurses := true, apart := false }
def AssignWeakDualitySaid : Prop := assignWeakDualityRow.holds Try.pinned (OpenSpec.ofChange assignWeakDualitySpec)

/-- ITS FALSE NEIGHBOUR: 'it returns false'. Refute it at one input. -/
def assignWeakDualityWrong : ChangeSpec := { name := "assignWeakDuality", fn := fun _ => fun
  | [d1, d2, d3] => { results := [.lit (.bool false)], args := [d1, d2, d3] }
  | _ => none }
def AssignWeakDualityWrongFalsely : Prop := assignWeakDualityRow.holds Try.pinned (OpenSpec.ofChange assignWeakDualityWrong)

/-- 'armillarylaw22.AssignSelection': WHATEVER THE INPUT: true; the input reads as it did. -/
def assignSelectionSpec : ChangeSpec := { name := "assignSelection", fn := fun _ => fun
  | [d1, d2, d3] => { results := [.lit (.bool true)], args := [d1, d2, d3] }
  | _ => none }
def assignSelectionRow : OpenClaim := { program := "ytdmhbcgmimfjcaa", sum := "32ea9b1fd0debd4eeb733bc649281039d527b8cd261ea9039a486c96b07a6fdf", func := "armillary/armillarylaw22.AssignSelection", spec := "assignSelection", unfollowed := true, recurses := true, apart := false }
def AssignSelectionSaid : Prop := assignSelectionRow.holds Try.pinned (OpenSpec.ofChange assignSelectionSpec)

/-- ITS FALSE NEIGHBOUR: 'it returns false'. Refute it at one input. -/
def assignSelectionWrong : ChangeSpec := { name := "assignSelection", fn := fun _ => fun
  | [d1, d2, d3] => { results := [.lit (.bool false)], args := [d1, d2, d3] }
  | _ => none }
def AssignSelectionWrongFalsely : Prop := assignSelectionRow.holds Try.pinned (OpenSpec.ofChange assignSelectionWrong)

/-- 'armillarylaw22.AssignInvariance': WHATEVER THE INPUT: true; the input reads as it did. -/
def assignInvarianceSpec : ChangeSpec := { name := "assignInvariance", fn := fun _ => fun
  | [d1, d2, d3] => { results := [.lit (.bool true)], args := [d1, d2, d3] }
  | _ => none }
def assignInvarianceRow : OpenClaim := { program := "ytdmhbcgmimfjcaa", sum := "32ea9b1fd0debd4eeb733bc649281039d527b8cd261ea9039a486c96b07a6fdf", func := "armillary/armillarylaw22.AssignInvariance", spec := "assignInvariance", unfollowed := true, recurses := true, apart := false }
def AssignInvarianceSaid : Prop := assignInvarianceRow.holds Try.pinned (OpenSpec.ofChange assignInvarianceSpec)

/-- ITS FALSE NEIGHBOUR: 'it returns false'. Refute it at one input. -/
def assignInvarianceWrong : ChangeSpec := { name := "assignInvariance", fn := fun _ => fun
  | [d1, d2, d3] => { results := [.lit (.bool false)], args := [d1, d2, d3] }
  | _ => none }
def AssignInvarianceWrongFalsely : Prop := assignInvarianceRow.holds Try.pinned (OpenSpec.ofChange assignInvarianceWrong)

/-- 'armillarylaw22.AssignMonotonicity': WHATEVER THE INPUT: true; the input reads as it did. -/
def assignMonotonicitySpec : ChangeSpec := { name := "assignMonotonicity", fn := fun _ => fun
  | [d1, d2, d3, d4] => { results := [.lit (.bool true)], args := [d1, d2, d3, d4] }
  | _ => none }
def assignMonotonicityRow : OpenClaim := { program := "ytdmhbcgmimfjcaa", sum := "32ea9b1fd0debd4eeb733bc649281039d527b8cd261ea9039a486c96b07a6fdf", func := "armillary/armillarylaw22.AssignMonotonicity", spec := "assignMonotonicity", unfollowed := true, recurses := true, apart := false }
def AssignMonotonicitySaid : Prop := assignMonotonicityRow.holds Try.pinned (OpenSpec.ofChange assignMonotonicitySpec)

/-- ITS FALSE NEIGHBOUR: 'it returns false'. Refute it at one input. -/
def assignMonotonicityWrong : ChangeSpec := { name := "assignMonotonicity", fn := fun _ => fun
  | [d1, d2, d3, d4] => { results := [.lit (.bool false)], args := [d1, d2, d3, d4] }
  | _ => none }
def AssignMonotonicityWrongFalsely : Prop := assignMonotonicityRow.holds Try.pinned (OpenSpec.ofChange assignMonotonicityWrong)

/-- 'armillarylaw22.AssignDiagonal': WHATEVER THE INPUT: true; the input reads as it did. -/
def assignDiagonalSpec : ChangeSpec := { name := "assignDiagonal", fn := fun _ => fun
  | [d1, d2] => { results := [.lit (.bool true)], args := [d1, d2] }
  | _ => none }
def assignDiagonalRow : OpenClaim := { program := "ytdmhbcgmimfjcaa", sum := "32ea9b1fd0debd4eeb733bc649281039d527b8cd261ea9039a486c96b07a6fdf", func := "armillary/armillarylaw22.AssignDiagonal", spec := "assignDiagonal", unfollowed := true, recurses := true, apart := false }
def AssignDiagonalSaid : Prop := assignDiagonalRow.holds Try.pinned (OpenSpec.ofChange assignDiagonalSpec)

/-- ITS FALSE NEIGHBOUR: 'it returns false'. Refute it at one input. -/
def assignDiagonalWrong : ChangeSpec := { name := "assignDiagonal", fn := fun _ => fun
  | [d1, d2] => { results := [.lit (.bool false)], args := [d1, d2] }
  | _ => none }
def AssignDiagonalWrongFalsely : Prop := assignDiagonalRow.holds Try.pinned (OpenSpec.ofChange assignDiagonalWrong)

/- THE SECOND FORM. 'bulk': how many values and letters a reading holds, each counted each time it is reached (what is shared counts as often as it is met; a slice's spare places count too). A statement '..UptoSaid' is the law's where the arguments, and the package variables that the reading takes, are together of bulk at most 1048576: NARROWER than '..Said'. Prove '..Said' where nothing that the law and all that it calls make is longer than what came in: it says more and counts as full. Else prove '..UptoSaid'. A law counts once. -/
mutual
def uptoBulk {H : Type} : DataW H → Nat
  | .lit (.string bytes) => bytes.length + 1
  | .lit _ => 1
  | .nil => 1
  | .ptr d => uptoBulk d + 1
  | .slice elems spare => uptoBulkAll elems + uptoBulkAll spare + 1
  | .agg parts => uptoBulkAll parts + 1
  | .iface _ d => uptoBulk d + 1
  | .map entries => uptoBulkEntries entries + 1
  | .held _ => 1
def uptoBulkAll {H : Type} : List (DataW H) → Nat
  | [] => 0
  | d :: r => uptoBulk d + uptoBulkAll r
def uptoBulkEntries {H : Type} : List (Lit × DataW H) → Nat
  | [] => 0
  | x :: r => uptoBulkEntry x + uptoBulkEntries r
def uptoBulkEntry {H : Type} : Lit × DataW H → Nat
  | (.string bytes, d) => bytes.length + uptoBulk d + 1
  | (_, d) => uptoBulk d + 1
 end
def uptoSmall : (H : Type) → List (DataW H) → Bool := fun _ ds => decide (uptoBulkAll ds ≤ 1048576)
def OpenSpec.upto (s : _root_.Go.ChangeSpec) : _root_.Go.OpenSpec := { _root_.Go.OpenSpec.ofChange s with cond := some uptoSmall }

/-- 'armillarylaw22.AssignMatchesReference', WHERE WHAT IT READS IS OF BULK AT MOST 1048576: true; the input reads as it did. -/
def assignMatchesReferenceUptoRow : OpenClaim := { program := "ytdmhbcgmimfjcaa", sum := "32ea9b1fd0debd4eeb733bc649281039d527b8cd261ea9039a486c96b07a6fdf", func := "armillary/armillarylaw22.AssignMatchesReference", spec := "assignMatchesReference", unfollowed := true, recurses := true, apart := false, narrowed := true }
def AssignMatchesReferenceUptoSaid : Prop := assignMatchesReferenceUptoRow.holds Try.pinned (OpenSpec.upto assignMatchesReferenceSpec)

/-- 'armillarylaw22.AssignDuality', WHERE WHAT IT READS IS OF BULK AT MOST 1048576: true; the input reads as it did. -/
def assignDualityUptoRow : OpenClaim := { program := "ytdmhbcgmimfjcaa", sum := "32ea9b1fd0debd4eeb733bc649281039d527b8cd261ea9039a486c96b07a6fdf", func := "armillary/armillarylaw22.AssignDuality", spec := "assignDuality", unfollowed := true, recurses := true, apart := false, narrowed := true }
def AssignDualityUptoSaid : Prop := assignDualityUptoRow.holds Try.pinned (OpenSpec.upto assignDualitySpec)

/-- 'armillarylaw22.AssignWeakDuality', WHERE WHAT IT READS IS OF BULK AT MOST 1048576: true; the input reads as it did. -/
def assignWeakDualityUptoRow : OpenClaim := { program := "ytdmhbcgmimfjcaa", sum := "32ea9b1fd0debd4eeb733bc649281039d527b8cd261ea9039a486c96b07a6fdf", func := "armillary/armillarylaw22.AssignWeakDuality", spec := "assignWeakDuality", unfollowed := true, recurses := true, apart := false, narrowed := true }
def AssignWeakDualityUptoSaid : Prop := assignWeakDualityUptoRow.holds Try.pinned (OpenSpec.upto assignWeakDualitySpec)

/-- 'armillarylaw22.AssignSelection', WHERE WHAT IT READS IS OF BULK AT MOST 1048576: true; the input reads as it did. -/
def assignSelectionUptoRow : OpenClaim := { program := "ytdmhbcgmimfjcaa", sum := "32ea9b1fd0debd4eeb733bc649281039d527b8cd261ea9039a486c96b07a6fdf", func := "armillary/armillarylaw22.AssignSelection", spec := "assignSelection", unfollowed := true, recurses := true, apart := false, narrowed := true }
def AssignSelectionUptoSaid : Prop := assignSelectionUptoRow.holds Try.pinned (OpenSpec.upto assignSelectionSpec)

/-- 'armillarylaw22.AssignInvariance', WHERE WHAT IT READS IS OF BULK AT MOST 1048576: true; the input reads as it did. -/
def assignInvarianceUptoRow : OpenClaim := { program := "ytdmhbcgmimfjcaa", sum := "32ea9b1fd0debd4eeb733bc649281039d527b8cd261ea9039a486c96b07a6fdf", func := "armillary/armillarylaw22.AssignInvariance", spec := "assignInvariance", unfollowed := true, recurses := true, apart := false, narrowed := true }
def AssignInvarianceUptoSaid : Prop := assignInvarianceUptoRow.holds Try.pinned (OpenSpec.upto assignInvarianceSpec)

/-- 'armillarylaw22.AssignMonotonicity', WHERE WHAT IT READS IS OF BULK AT MOST 1048576: true; the input reads as it did. -/
def assignMonotonicityUptoRow : OpenClaim := { program := "ytdmhbcgmimfjcaa", sum := "32ea9b1fd0debd4eeb733bc649281039d527b8cd261ea9039a486c96b07a6fdf", func := "armillary/armillarylaw22.AssignMonotonicity", spec := "assignMonotonicity", unfollowed := true, recurses := true, apart := false, narrowed := true }
def AssignMonotonicityUptoSaid : Prop := assignMonotonicityUptoRow.holds Try.pinned (OpenSpec.upto assignMonotonicitySpec)

/-- 'armillarylaw22.AssignDiagonal', WHERE WHAT IT READS IS OF BULK AT MOST 1048576: true; the input reads as it did. -/
def assignDiagonalUptoRow : OpenClaim := { program := "ytdmhbcgmimfjcaa", sum := "32ea9b1fd0debd4eeb733bc649281039d527b8cd261ea9039a486c96b07a6fdf", func := "armillary/armillarylaw22.AssignDiagonal", spec := "assignDiagonal", unfollowed := true, recurses := true, apart := false, narrowed := true }
def AssignDiagonalUptoSaid : Prop := assignDiagonalUptoRow.holds Try.pinned (OpenSpec.upto assignDiagonalSpec)

end Rows
end Go.Proofs.Ytdmhbcgmimfjcaa
