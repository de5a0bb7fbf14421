/-
  No cell of these rows narrows 'for every input' (looked for: loops, veiled, ifaces, maps, wideKeys, modest, calm, conditions, laid).
  DERIVED. THE GIVEN ROWS OF THIS SEAT. 7 by the template 'for every input the law returns true; each argument reads behind the call as it read before'; 0 by the template 'total and deterministic' (their statements: YtijhdekfbjafgaaTotals.lean).
  GIVEN WITH THE SEED: the statements are not yours to turn. If you find one false, say at which input.
  Laid BY PROGRAM, IN A SANDBOX (cutbox-rows.mjs): the forced cells as the released guide's own fill.sh prints them over the translation 5135185a0e904c2d… (all of the seat's roots in one cut). By AI agents, Wed Nov 11 2026. No macro, syntax, notation, axiom, sorry.
-/
import Derived.Test.YtijhdekfbjafgaaChecked
import GoSem.Claim
import GoSem.ClaimJoined
import GoSem.ClaimMapViews
import Derived.JoinedTies
import Derived.KernelRfl
namespace Go.Proofs.Ytijhdekfbjafgaa
/- THE CELL 'sum', in the pinned program and in every row, IS THE sha256 OF THE DUMP (.gsa) THAT YtijhdekfbjafgaaProg.lean LOADS. Nothing in Lean hashes anything: it is a label: what it is worth is what the hold of that sum in a sandbox is worth. -/
noncomputable def Try.pinned : Pinned := { name := "ytijhdekfbjafgaa", sum := "5135185a0e904c2dd92c3edd8232b275a3a6bf508765adff7d7f94173c4bce8f", checked := Try.checked }
namespace Rows
def none {H : Type} : Left H := { results := [], args := [] }

/-- 'armillarylaw30.ReplicaDoesNotEquivocate': WHATEVER THE INPUT: true; the input reads as it did. -/
def replicaDoesNotEquivocateSpec : ChangeSpec := { name := "replicaDoesNotEquivocate", fn := fun _ => fun
  | [d1, d2, d3] => { results := [.lit (.bool true)], args := [d1, d2, d3] }
  | _ => none }
def replicaDoesNotEquivocateRow : OpenClaim := { program := "ytijhdekfbjafgaa", sum := "5135185a0e904c2dd92c3edd8232b275a3a6bf508765adff7d7f94173c4bce8f", func := "armillary/armillarylaw30.ReplicaDoesNotEquivocate", spec := "replicaDoesNotEquivocate", unfollowed := true, recurses := true, plainKeys := false, apart := false }
def ReplicaDoesNotEquivocateSaid : Prop := replicaDoesNotEquivocateRow.holds Try.pinned (OpenSpec.ofChange replicaDoesNotEquivocateSpec)

/-- ITS FALSE NEIGHBOUR: 'it returns false'. Refute it at one input. -/
def replicaDoesNotEquivocateWrong : ChangeSpec := { name := "replicaDoesNotEquivocate", fn := fun _ => fun
  | [d1, d2, d3] => { results := [.lit (.bool false)], args := [d1, d2, d3] }
  | _ => none }
def ReplicaDoesNotEquivocateWrongFalsely : Prop := replicaDoesNotEquivocateRow.holds Try.pinned (OpenSpec.ofChange replicaDoesNotEquivocateWrong)

/-- 'armillarylaw30.ReplicaLogIsAppendOnly': WHATEVER THE INPUT: true; the input reads as it did. -/
def replicaLogIsAppendOnlySpec : ChangeSpec := { name := "replicaLogIsAppendOnly", fn := fun _ => fun
  | [d1, d2, d3, d4] => { results := [.lit (.bool true)], args := [d1, d2, d3, d4] }
  | _ => none }
def replicaLogIsAppendOnlyRow : OpenClaim := { program := "ytijhdekfbjafgaa", sum := "5135185a0e904c2dd92c3edd8232b275a3a6bf508765adff7d7f94173c4bce8f", func := "armillary/armillarylaw30.ReplicaLogIsAppendOnly", spec := "replicaLogIsAppendOnly", unfollowed := true, recurses := true, plainKeys := false, apart := false }
def ReplicaLogIsAppendOnlySaid : Prop := replicaLogIsAppendOnlyRow.holds Try.pinned (OpenSpec.ofChange replicaLogIsAppendOnlySpec)

/-- ITS FALSE NEIGHBOUR: 'it returns false'. Refute it at one input. -/
def replicaLogIsAppendOnlyWrong : ChangeSpec := { name := "replicaLogIsAppendOnly", fn := fun _ => fun
  | [d1, d2, d3, d4] => { results := [.lit (.bool false)], args := [d1, d2, d3, d4] }
  | _ => none }
def ReplicaLogIsAppendOnlyWrongFalsely : Prop := replicaLogIsAppendOnlyRow.holds Try.pinned (OpenSpec.ofChange replicaLogIsAppendOnlyWrong)

/-- 'armillarylaw30.ReplicaCommitsWithQuorum': WHATEVER THE INPUT: true; the input reads as it did. -/
def replicaCommitsWithQuorumSpec : ChangeSpec := { name := "replicaCommitsWithQuorum", fn := fun _ => fun
  | [d1, d2, d3, d4, d5] => { results := [.lit (.bool true)], args := [d1, d2, d3, d4, d5] }
  | _ => none }
def replicaCommitsWithQuorumRow : OpenClaim := { program := "ytijhdekfbjafgaa", sum := "5135185a0e904c2dd92c3edd8232b275a3a6bf508765adff7d7f94173c4bce8f", func := "armillary/armillarylaw30.ReplicaCommitsWithQuorum", spec := "replicaCommitsWithQuorum", unfollowed := true, recurses := true, plainKeys := false, apart := false }
def ReplicaCommitsWithQuorumSaid : Prop := replicaCommitsWithQuorumRow.holds Try.pinned (OpenSpec.ofChange replicaCommitsWithQuorumSpec)

/-- ITS FALSE NEIGHBOUR: 'it returns false'. Refute it at one input. -/
def replicaCommitsWithQuorumWrong : ChangeSpec := { name := "replicaCommitsWithQuorum", fn := fun _ => fun
  | [d1, d2, d3, d4, d5] => { results := [.lit (.bool false)], args := [d1, d2, d3, d4, d5] }
  | _ => none }
def ReplicaCommitsWithQuorumWrongFalsely : Prop := replicaCommitsWithQuorumRow.holds Try.pinned (OpenSpec.ofChange replicaCommitsWithQuorumWrong)

/-- 'armillarylaw30.ReplicaRespectsLock': WHATEVER THE INPUT: true; the input reads as it did. -/
def replicaRespectsLockSpec : ChangeSpec := { name := "replicaRespectsLock", fn := fun _ => fun
  | [d1, d2, d3] => { results := [.lit (.bool true)], args := [d1, d2, d3] }
  | _ => none }
def replicaRespectsLockRow : OpenClaim := { program := "ytijhdekfbjafgaa", sum := "5135185a0e904c2dd92c3edd8232b275a3a6bf508765adff7d7f94173c4bce8f", func := "armillary/armillarylaw30.ReplicaRespectsLock", spec := "replicaRespectsLock", unfollowed := true, recurses := true, plainKeys := false, apart := false }
def ReplicaRespectsLockSaid : Prop := replicaRespectsLockRow.holds Try.pinned (OpenSpec.ofChange replicaRespectsLockSpec)

/-- ITS FALSE NEIGHBOUR: 'it returns false'. Refute it at one input. -/
def replicaRespectsLockWrong : ChangeSpec := { name := "replicaRespectsLock", fn := fun _ => fun
  | [d1, d2, d3] => { results := [.lit (.bool false)], args := [d1, d2, d3] }
  | _ => none }
def ReplicaRespectsLockWrongFalsely : Prop := replicaRespectsLockRow.holds Try.pinned (OpenSpec.ofChange replicaRespectsLockWrong)

/-- 'armillarylaw30.ReplicaIgnoresDuplicates': WHATEVER THE INPUT: true; the input reads as it did. -/
def replicaIgnoresDuplicatesSpec : ChangeSpec := { name := "replicaIgnoresDuplicates", fn := fun _ => fun
  | [d1, d2, d3, d4, d5] => { results := [.lit (.bool true)], args := [d1, d2, d3, d4, d5] }
  | _ => none }
def replicaIgnoresDuplicatesRow : OpenClaim := { program := "ytijhdekfbjafgaa", sum := "5135185a0e904c2dd92c3edd8232b275a3a6bf508765adff7d7f94173c4bce8f", func := "armillary/armillarylaw30.ReplicaIgnoresDuplicates", spec := "replicaIgnoresDuplicates", unfollowed := true, recurses := true, plainKeys := false, apart := false }
def ReplicaIgnoresDuplicatesSaid : Prop := replicaIgnoresDuplicatesRow.holds Try.pinned (OpenSpec.ofChange replicaIgnoresDuplicatesSpec)

/-- ITS FALSE NEIGHBOUR: 'it returns false'. Refute it at one input. -/
def replicaIgnoresDuplicatesWrong : ChangeSpec := { name := "replicaIgnoresDuplicates", fn := fun _ => fun
  | [d1, d2, d3, d4, d5] => { results := [.lit (.bool false)], args := [d1, d2, d3, d4, d5] }
  | _ => none }
def ReplicaIgnoresDuplicatesWrongFalsely : Prop := replicaIgnoresDuplicatesRow.holds Try.pinned (OpenSpec.ofChange replicaIgnoresDuplicatesWrong)

/-- 'armillarylaw30.ReplicaRecovery': WHATEVER THE INPUT: true; the input reads as it did. -/
def replicaRecoverySpec : ChangeSpec := { name := "replicaRecovery", fn := fun _ => fun
  | [d1, d2, d3, d4] => { results := [.lit (.bool true)], args := [d1, d2, d3, d4] }
  | _ => none }
def replicaRecoveryRow : OpenClaim := { program := "ytijhdekfbjafgaa", sum := "5135185a0e904c2dd92c3edd8232b275a3a6bf508765adff7d7f94173c4bce8f", func := "armillary/armillarylaw30.ReplicaRecovery", spec := "replicaRecovery", unfollowed := true, recurses := true, plainKeys := false, apart := false }
def ReplicaRecoverySaid : Prop := replicaRecoveryRow.holds Try.pinned (OpenSpec.ofChange replicaRecoverySpec)

/-- ITS FALSE NEIGHBOUR: 'it returns false'. Refute it at one input. -/
def replicaRecoveryWrong : ChangeSpec := { name := "replicaRecovery", fn := fun _ => fun
  | [d1, d2, d3, d4] => { results := [.lit (.bool false)], args := [d1, d2, d3, d4] }
  | _ => none }
def ReplicaRecoveryWrongFalsely : Prop := replicaRecoveryRow.holds Try.pinned (OpenSpec.ofChange replicaRecoveryWrong)

/-- 'armillarylaw30.ReplicaLeaderProposesPrepared': WHATEVER THE INPUT: true; the input reads as it did. -/
def replicaLeaderProposesPreparedSpec : ChangeSpec := { name := "replicaLeaderProposesPrepared", fn := fun _ => fun
  | [d1, d2, d3, d4] => { results := [.lit (.bool true)], args := [d1, d2, d3, d4] }
  | _ => none }
def replicaLeaderProposesPreparedRow : OpenClaim := { program := "ytijhdekfbjafgaa", sum := "5135185a0e904c2dd92c3edd8232b275a3a6bf508765adff7d7f94173c4bce8f", func := "armillary/armillarylaw30.ReplicaLeaderProposesPrepared", spec := "replicaLeaderProposesPrepared", unfollowed := true, recurses := true, plainKeys := false, apart := false }
def ReplicaLeaderProposesPreparedSaid : Prop := replicaLeaderProposesPreparedRow.holds Try.pinned (OpenSpec.ofChange replicaLeaderProposesPreparedSpec)

/-- ITS FALSE NEIGHBOUR: 'it returns false'. Refute it at one input. -/
def replicaLeaderProposesPreparedWrong : ChangeSpec := { name := "replicaLeaderProposesPrepared", fn := fun _ => fun
  | [d1, d2, d3, d4] => { results := [.lit (.bool false)], args := [d1, d2, d3, d4] }
  | _ => none }
def ReplicaLeaderProposesPreparedWrongFalsely : Prop := replicaLeaderProposesPreparedRow.holds Try.pinned (OpenSpec.ofChange replicaLeaderProposesPreparedWrong)

/- THE SECOND FORM. 'bulk': how many values and letters a reading holds, each counted each time it is reached (what is shared counts as often as it is met; a slice's spare places count too). A statement '..UptoSaid' is the law's where the arguments, and the package variables that the reading takes, are together of bulk at most 1048576: NARROWER than '..Said'. Prove '..Said' where nothing that the law and all that it calls make is longer than what came in: it says more and counts as full. Else prove '..UptoSaid'. A law counts once. -/
mutual
def uptoBulk {H : Type} : DataW H → Nat
  | .lit (.string bytes) => bytes.length + 1
  | .lit _ => 1
  | .nil => 1
  | .ptr d => uptoBulk d + 1
  | .slice elems spare => uptoBulkAll elems + uptoBulkAll spare + 1
  | .agg parts => uptoBulkAll parts + 1
  | .iface _ d => uptoBulk d + 1
  | .map entries => uptoBulkEntries entries + 1
  | .held _ => 1
def uptoBulkAll {H : Type} : List (DataW H) → Nat
  | [] => 0
  | d :: r => uptoBulk d + uptoBulkAll r
def uptoBulkEntries {H : Type} : List (Lit × DataW H) → Nat
  | [] => 0
  | x :: r => uptoBulkEntry x + uptoBulkEntries r
def uptoBulkEntry {H : Type} : Lit × DataW H → Nat
  | (.string bytes, d) => bytes.length + uptoBulk d + 1
  | (_, d) => uptoBulk d + 1
 end
def uptoSmall : (H : Type) → List (DataW H) → Bool := fun _ ds => decide (uptoBulkAll ds ≤ 1048576)
def OpenSpec.upto (s : _root_.Go.ChangeSpec) : _root_.Go.OpenSpec := { _root_.Go.OpenSpec.ofChange s with cond := some uptoSmall }

/-- 'armillarylaw30.ReplicaDoesNotEquivocate', WHERE WHAT IT READS IS OF BULK AT MOST 1048576: true; the input reads as it did. -/
def replicaDoesNotEquivocateUptoRow : OpenClaim := { program := "ytijhdekfbjafgaa", sum := "5135185a0e904c2dd92c3edd8232b275a3a6bf508765adff7d7f94173c4bce8f", func := "armillary/armillarylaw30.ReplicaDoesNotEquivocate", spec := "replicaDoesNotEquivocate", unfollowed := true, recurses := true, plainKeys := false, apart := false, narrowed := true }
def ReplicaDoesNotEquivocateUptoSaid : Prop := replicaDoesNotEquivocateUptoRow.holds Try.pinned (OpenSpec.upto replicaDoesNotEquivocateSpec)

/-- 'armillarylaw30.ReplicaLogIsAppendOnly', WHERE WHAT IT READS IS OF BULK AT MOST 1048576: true; the input reads as it did. -/
def replicaLogIsAppendOnlyUptoRow : OpenClaim := { program := "ytijhdekfbjafgaa", sum := "5135185a0e904c2dd92c3edd8232b275a3a6bf508765adff7d7f94173c4bce8f", func := "armillary/armillarylaw30.ReplicaLogIsAppendOnly", spec := "replicaLogIsAppendOnly", unfollowed := true, recurses := true, plainKeys := false, apart := false, narrowed := true }
def ReplicaLogIsAppendOnlyUptoSaid : Prop := replicaLogIsAppendOnlyUptoRow.holds Try.pinned (OpenSpec.upto replicaLogIsAppendOnlySpec)

/-- 'armillarylaw30.ReplicaCommitsWithQuorum', WHERE WHAT IT READS IS OF BULK AT MOST 1048576: true; the input reads as it did. -/
def replicaCommitsWithQuorumUptoRow : OpenClaim := { program := "ytijhdekfbjafgaa", sum := "5135185a0e904c2dd92c3edd8232b275a3a6bf508765adff7d7f94173c4bce8f", func := "armillary/armillarylaw30.ReplicaCommitsWithQuorum", spec := "replicaCommitsWithQuorum", unfollowed := true, recurses := true, plainKeys := false, apart := false, narrowed := true }
def ReplicaCommitsWithQuorumUptoSaid : Prop := replicaCommitsWithQuorumUptoRow.holds Try.pinned (OpenSpec.upto replicaCommitsWithQuorumSpec)

/-- 'armillarylaw30.ReplicaRespectsLock', WHERE WHAT IT READS IS OF BULK AT MOST 1048576: true; the input reads as it did. -/
def replicaRespectsLockUptoRow : OpenClaim := { program := "ytijhdekfbjafgaa", sum := "5135185a0e904c2dd92c3edd8232b275a3a6bf508765adff7d7f94173c4bce8f", func := "armillary/armillarylaw30.ReplicaRespectsLock", spec := "replicaRespectsLock", unfollowed := true, recurses := true, plainKeys := false, apart := false, narrowed := true }
def ReplicaRespectsLockUptoSaid : Prop := replicaRespectsLockUptoRow.holds Try.pinned (OpenSpec.upto replicaRespectsLockSpec)

/-- 'armillarylaw30.ReplicaIgnoresDuplicates', WHERE WHAT IT READS IS OF BULK AT MOST 1048576: true; the input reads as it did. -/
def replicaIgnoresDuplicatesUptoRow : OpenClaim := { program := "ytijhdekfbjafgaa", sum := "5135185a0e904c2dd92c3edd8232b275a3a6bf508765adff7d7f94173c4bce8f", func := "armillary/armillarylaw30.ReplicaIgnoresDuplicates", spec := "replicaIgnoresDuplicates", unfollowed := true, recurses := true, plainKeys := false, apart := false, narrowed := true }
def ReplicaIgnoresDuplicatesUptoSaid : Prop := replicaIgnoresDuplicatesUptoRow.holds Try.pinned (OpenSpec.upto replicaIgnoresDuplicatesSpec)

/-- 'armillarylaw30.ReplicaRecovery', WHERE WHAT IT READS IS OF BULK AT MOST 1048576: true; the input reads as it did. -/
def replicaRecoveryUptoRow : OpenClaim := { program := "ytijhdekfbjafgaa", sum := "5135185a0e904c2dd92c3edd8232b275a3a6bf508765adff7d7f94173c4bce8f", func := "armillary/armillarylaw30.ReplicaRecovery", spec := "replicaRecovery", unfollowed := true, recurses := true, plainKeys := false, apart := false, narrowed := true }
def ReplicaRecoveryUptoSaid : Prop := replicaRecoveryUptoRow.holds Try.pinned (OpenSpec.upto replicaRecoverySpec)

/-- 'armillarylaw30.ReplicaLeaderProposesPrepared', WHERE WHAT IT READS IS OF BULK AT MOST 1048576: true; the input reads as it did. -/
def replicaLeaderProposesPreparedUptoRow : OpenClaim := { program := "ytijhdekfbjafgaa", sum := "5135185a0e904c2dd92c3edd8232b275a3a6bf508765adff7d7f94173c4bce8f", func := "armillary/armillarylaw30.ReplicaLeaderProposesPrepared", spec := "replicaLeaderProposesPrepared", unfollowed := true, recurses := true, plainKeys := false, apart := false, narrowed := true }
def ReplicaLeaderProposesPreparedUptoSaid : Prop := replicaLeaderProposesPreparedUptoRow.holds Try.pinned (OpenSpec.upto replicaLeaderProposesPreparedSpec)

end Rows
end Go.Proofs.Ytijhdekfbjafgaa
