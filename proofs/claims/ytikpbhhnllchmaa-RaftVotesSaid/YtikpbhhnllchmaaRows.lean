/-
  No cell of these rows narrows 'for every input' (looked for: loops, veiled, ifaces, maps, wideKeys, modest, calm, conditions, laid).
  DERIVED. THE GIVEN ROWS OF THIS SEAT. 7 by the template 'for every input the law returns true; each argument reads behind the call as it read before'; 0 by the template 'total and deterministic' (their statements: YtikpbhhnllchmaaTotals.lean).
  GIVEN WITH THE SEED: the statements are not yours to turn. If you find one false, say at which input.
  Laid BY PROGRAM, IN A SANDBOX (cutbox-rows.mjs): the forced cells as the released guide's own fill.sh prints them over the translation 27e2a7897e415ab3… (all of the seat's roots in one cut). By AI agents, Wed Nov 11 2026. No macro, syntax, notation, axiom, sorry.
-/
import Derived.Test.YtikpbhhnllchmaaChecked
import GoSem.Claim
import GoSem.ClaimJoined
import GoSem.ClaimMapViews
import Derived.JoinedTies
import Derived.KernelRfl
namespace Go.Proofs.Ytikpbhhnllchmaa
/- THE CELL 'sum', in the pinned program and in every row, IS THE sha256 OF THE DUMP (.gsa) THAT YtikpbhhnllchmaaProg.lean LOADS. Nothing in Lean hashes anything: it is a label: what it is worth is what the hold of that sum in a sandbox is worth. -/
noncomputable def Try.pinned : Pinned := { name := "ytikpbhhnllchmaa", sum := "27e2a7897e415ab38bc490a97b6ac2272cf93ee9794a56e74d83762fb27a7211", checked := Try.checked }
namespace Rows
def none {H : Type} : Left H := { results := [], args := [] }

/-- 'cooperagelaw18.RaftElects': WHATEVER THE INPUT: true; the input reads as it did. -/
def raftElectsSpec : ChangeSpec := { name := "raftElects", fn := fun _ => fun
  | [d1, d2, d3] => { results := [.lit (.bool true)], args := [d1, d2, d3] }
  | _ => none }
def raftElectsRow : OpenClaim := { program := "ytikpbhhnllchmaa", sum := "27e2a7897e415ab38bc490a97b6ac2272cf93ee9794a56e74d83762fb27a7211", func := "cooperage/cooperagelaw18.RaftElects", spec := "raftElects", unfollowed := true, recurses := true, apart := false }
def RaftElectsSaid : Prop := raftElectsRow.holds Try.pinned (OpenSpec.ofChange raftElectsSpec)

/-- ITS FALSE NEIGHBOUR: 'it returns false'. Refute it at one input. -/
def raftElectsWrong : ChangeSpec := { name := "raftElects", fn := fun _ => fun
  | [d1, d2, d3] => { results := [.lit (.bool false)], args := [d1, d2, d3] }
  | _ => none }
def RaftElectsWrongFalsely : Prop := raftElectsRow.holds Try.pinned (OpenSpec.ofChange raftElectsWrong)

/-- 'cooperagelaw18.RaftRefuses': WHATEVER THE INPUT: true; the input reads as it did. -/
def raftRefusesSpec : ChangeSpec := { name := "raftRefuses", fn := fun _ => fun
  | [d1, d2, d3, d4] => { results := [.lit (.bool true)], args := [d1, d2, d3, d4] }
  | _ => none }
def raftRefusesRow : OpenClaim := { program := "ytikpbhhnllchmaa", sum := "27e2a7897e415ab38bc490a97b6ac2272cf93ee9794a56e74d83762fb27a7211", func := "cooperage/cooperagelaw18.RaftRefuses", spec := "raftRefuses", unfollowed := true, recurses := true, apart := false }
def RaftRefusesSaid : Prop := raftRefusesRow.holds Try.pinned (OpenSpec.ofChange raftRefusesSpec)

/-- ITS FALSE NEIGHBOUR: 'it returns false'. Refute it at one input. -/
def raftRefusesWrong : ChangeSpec := { name := "raftRefuses", fn := fun _ => fun
  | [d1, d2, d3, d4] => { results := [.lit (.bool false)], args := [d1, d2, d3, d4] }
  | _ => none }
def RaftRefusesWrongFalsely : Prop := raftRefusesRow.holds Try.pinned (OpenSpec.ofChange raftRefusesWrong)

/-- 'cooperagelaw18.RaftVotes': WHATEVER THE INPUT: true; the input reads as it did. -/
def raftVotesSpec : ChangeSpec := { name := "raftVotes", fn := fun _ => fun
  | [d] => { results := [.lit (.bool true)], args := [d] }
  | _ => none }
def raftVotesRow : OpenClaim := { program := "ytikpbhhnllchmaa", sum := "27e2a7897e415ab38bc490a97b6ac2272cf93ee9794a56e74d83762fb27a7211", func := "cooperage/cooperagelaw18.RaftVotes", spec := "raftVotes", unfollowed := true, recurses := true, apart := false }
def RaftVotesSaid : Prop := raftVotesRow.holds Try.pinned (OpenSpec.ofChange raftVotesSpec)

/-- ITS FALSE NEIGHBOUR: 'it returns false'. Refute it at one input. -/
def raftVotesWrong : ChangeSpec := { name := "raftVotes", fn := fun _ => fun
  | [d] => { results := [.lit (.bool false)], args := [d] }
  | _ => none }
def RaftVotesWrongFalsely : Prop := raftVotesRow.holds Try.pinned (OpenSpec.ofChange raftVotesWrong)

/-- 'cooperagelaw18.RaftReplaces': WHATEVER THE INPUT: true; the input reads as it did. -/
def raftReplacesSpec : ChangeSpec := { name := "raftReplaces", fn := fun _ => fun
  | [d1, d2, d3, d4] => { results := [.lit (.bool true)], args := [d1, d2, d3, d4] }
  | _ => none }
def raftReplacesRow : OpenClaim := { program := "ytikpbhhnllchmaa", sum := "27e2a7897e415ab38bc490a97b6ac2272cf93ee9794a56e74d83762fb27a7211", func := "cooperage/cooperagelaw18.RaftReplaces", spec := "raftReplaces", unfollowed := true, recurses := true, apart := false }
def RaftReplacesSaid : Prop := raftReplacesRow.holds Try.pinned (OpenSpec.ofChange raftReplacesSpec)

/-- ITS FALSE NEIGHBOUR: 'it returns false'. Refute it at one input. -/
def raftReplacesWrong : ChangeSpec := { name := "raftReplaces", fn := fun _ => fun
  | [d1, d2, d3, d4] => { results := [.lit (.bool false)], args := [d1, d2, d3, d4] }
  | _ => none }
def RaftReplacesWrongFalsely : Prop := raftReplacesRow.holds Try.pinned (OpenSpec.ofChange raftReplacesWrong)

/-- 'cooperagelaw18.RaftInstalls': WHATEVER THE INPUT: true; the input reads as it did. -/
def raftInstallsSpec : ChangeSpec := { name := "raftInstalls", fn := fun _ => fun
  | [d1, d2, d3, d4, d5] => { results := [.lit (.bool true)], args := [d1, d2, d3, d4, d5] }
  | _ => none }
def raftInstallsRow : OpenClaim := { program := "ytikpbhhnllchmaa", sum := "27e2a7897e415ab38bc490a97b6ac2272cf93ee9794a56e74d83762fb27a7211", func := "cooperage/cooperagelaw18.RaftInstalls", spec := "raftInstalls", unfollowed := true, recurses := true, apart := false }
def RaftInstallsSaid : Prop := raftInstallsRow.holds Try.pinned (OpenSpec.ofChange raftInstallsSpec)

/-- ITS FALSE NEIGHBOUR: 'it returns false'. Refute it at one input. -/
def raftInstallsWrong : ChangeSpec := { name := "raftInstalls", fn := fun _ => fun
  | [d1, d2, d3, d4, d5] => { results := [.lit (.bool false)], args := [d1, d2, d3, d4, d5] }
  | _ => none }
def RaftInstallsWrongFalsely : Prop := raftInstallsRow.holds Try.pinned (OpenSpec.ofChange raftInstallsWrong)

/-- 'cooperagelaw18.RaftCommits': WHATEVER THE INPUT: true; the input reads as it did. -/
def raftCommitsSpec : ChangeSpec := { name := "raftCommits", fn := fun _ => fun
  | [d1, d2, d3] => { results := [.lit (.bool true)], args := [d1, d2, d3] }
  | _ => none }
def raftCommitsRow : OpenClaim := { program := "ytikpbhhnllchmaa", sum := "27e2a7897e415ab38bc490a97b6ac2272cf93ee9794a56e74d83762fb27a7211", func := "cooperage/cooperagelaw18.RaftCommits", spec := "raftCommits", unfollowed := true, recurses := true, apart := false }
def RaftCommitsSaid : Prop := raftCommitsRow.holds Try.pinned (OpenSpec.ofChange raftCommitsSpec)

/-- ITS FALSE NEIGHBOUR: 'it returns false'. Refute it at one input. -/
def raftCommitsWrong : ChangeSpec := { name := "raftCommits", fn := fun _ => fun
  | [d1, d2, d3] => { results := [.lit (.bool false)], args := [d1, d2, d3] }
  | _ => none }
def RaftCommitsWrongFalsely : Prop := raftCommitsRow.holds Try.pinned (OpenSpec.ofChange raftCommitsWrong)

/-- 'cooperagelaw18.RaftSends': WHATEVER THE INPUT: true; the input reads as it did. -/
def raftSendsSpec : ChangeSpec := { name := "raftSends", fn := fun _ => fun
  | [d1, d2, d3] => { results := [.lit (.bool true)], args := [d1, d2, d3] }
  | _ => none }
def raftSendsRow : OpenClaim := { program := "ytikpbhhnllchmaa", sum := "27e2a7897e415ab38bc490a97b6ac2272cf93ee9794a56e74d83762fb27a7211", func := "cooperage/cooperagelaw18.RaftSends", spec := "raftSends", unfollowed := true, recurses := true, apart := false }
def RaftSendsSaid : Prop := raftSendsRow.holds Try.pinned (OpenSpec.ofChange raftSendsSpec)

/-- ITS FALSE NEIGHBOUR: 'it returns false'. Refute it at one input. -/
def raftSendsWrong : ChangeSpec := { name := "raftSends", fn := fun _ => fun
  | [d1, d2, d3] => { results := [.lit (.bool false)], args := [d1, d2, d3] }
  | _ => none }
def RaftSendsWrongFalsely : Prop := raftSendsRow.holds Try.pinned (OpenSpec.ofChange raftSendsWrong)

/- THE SECOND FORM. 'bulk': how many values and letters a reading holds, each counted each time it is reached (what is shared counts as often as it is met; a slice's spare places count too). A statement '..UptoSaid' is the law's where the arguments, and the package variables that the reading takes, are together of bulk at most 1048576: NARROWER than '..Said'. Prove '..Said' where nothing that the law and all that it calls make is longer than what came in: it says more and counts as full. Else prove '..UptoSaid'. A law counts once. -/
mutual
def uptoBulk {H : Type} : DataW H → Nat
  | .lit (.string bytes) => bytes.length + 1
  | .lit _ => 1
  | .nil => 1
  | .ptr d => uptoBulk d + 1
  | .slice elems spare => uptoBulkAll elems + uptoBulkAll spare + 1
  | .agg parts => uptoBulkAll parts + 1
  | .iface _ d => uptoBulk d + 1
  | .map entries => uptoBulkEntries entries + 1
  | .held _ => 1
def uptoBulkAll {H : Type} : List (DataW H) → Nat
  | [] => 0
  | d :: r => uptoBulk d + uptoBulkAll r
def uptoBulkEntries {H : Type} : List (Lit × DataW H) → Nat
  | [] => 0
  | x :: r => uptoBulkEntry x + uptoBulkEntries r
def uptoBulkEntry {H : Type} : Lit × DataW H → Nat
  | (.string bytes, d) => bytes.length + uptoBulk d + 1
  | (_, d) => uptoBulk d + 1
 end
def uptoSmall : (H : Type) → List (DataW H) → Bool := fun _ ds => decide (uptoBulkAll ds ≤ 1048576)
def OpenSpec.upto (s : _root_.Go.ChangeSpec) : _root_.Go.OpenSpec := { _root_.Go.OpenSpec.ofChange s with cond := some uptoSmall }

/-- 'cooperagelaw18.RaftElects', WHERE WHAT IT READS IS OF BULK AT MOST 1048576: true; the input reads as it did. -/
def raftElectsUptoRow : OpenClaim := { program := "ytikpbhhnllchmaa", sum := "27e2a7897e415ab38bc490a97b6ac2272cf93ee9794a56e74d83762fb27a7211", func := "cooperage/cooperagelaw18.RaftElects", spec := "raftElects", unfollowed := true, recurses := true, apart := false, narrowed := true }
def RaftElectsUptoSaid : Prop := raftElectsUptoRow.holds Try.pinned (OpenSpec.upto raftElectsSpec)

/-- 'cooperagelaw18.RaftRefuses', WHERE WHAT IT READS IS OF BULK AT MOST 1048576: true; the input reads as it did. -/
def raftRefusesUptoRow : OpenClaim := { program := "ytikpbhhnllchmaa", sum := "27e2a7897e415ab38bc490a97b6ac2272cf93ee9794a56e74d83762fb27a7211", func := "cooperage/cooperagelaw18.RaftRefuses", spec := "raftRefuses", unfollowed := true, recurses := true, apart := false, narrowed := true }
def RaftRefusesUptoSaid : Prop := raftRefusesUptoRow.holds Try.pinned (OpenSpec.upto raftRefusesSpec)

/-- 'cooperagelaw18.RaftVotes', WHERE WHAT IT READS IS OF BULK AT MOST 1048576: true; the input reads as it did. -/
def raftVotesUptoRow : OpenClaim := { program := "ytikpbhhnllchmaa", sum := "27e2a7897e415ab38bc490a97b6ac2272cf93ee9794a56e74d83762fb27a7211", func := "cooperage/cooperagelaw18.RaftVotes", spec := "raftVotes", unfollowed := true, recurses := true, apart := false, narrowed := true }
def RaftVotesUptoSaid : Prop := raftVotesUptoRow.holds Try.pinned (OpenSpec.upto raftVotesSpec)

/-- 'cooperagelaw18.RaftReplaces', WHERE WHAT IT READS IS OF BULK AT MOST 1048576: true; the input reads as it did. -/
def raftReplacesUptoRow : OpenClaim := { program := "ytikpbhhnllchmaa", sum := "27e2a7897e415ab38bc490a97b6ac2272cf93ee9794a56e74d83762fb27a7211", func := "cooperage/cooperagelaw18.RaftReplaces", spec := "raftReplaces", unfollowed := true, recurses := true, apart := false, narrowed := true }
def RaftReplacesUptoSaid : Prop := raftReplacesUptoRow.holds Try.pinned (OpenSpec.upto raftReplacesSpec)

/-- 'cooperagelaw18.RaftInstalls', WHERE WHAT IT READS IS OF BULK AT MOST 1048576: true; the input reads as it did. -/
def raftInstallsUptoRow : OpenClaim := { program := "ytikpbhhnllchmaa", sum := "27e2a7897e415ab38bc490a97b6ac2272cf93ee9794a56e74d83762fb27a7211", func := "cooperage/cooperagelaw18.RaftInstalls", spec := "raftInstalls", unfollowed := true, recurses := true, apart := false, narrowed := true }
def RaftInstallsUptoSaid : Prop := raftInstallsUptoRow.holds Try.pinned (OpenSpec.upto raftInstallsSpec)

/-- 'cooperagelaw18.RaftCommits', WHERE WHAT IT READS IS OF BULK AT MOST 1048576: true; the input reads as it did. -/
def raftCommitsUptoRow : OpenClaim := { program := "ytikpbhhnllchmaa", sum := "27e2a7897e415ab38bc490a97b6ac2272cf93ee9794a56e74d83762fb27a7211", func := "cooperage/cooperagelaw18.RaftCommits", spec := "raftCommits", unfollowed := true, recurses := true, apart := false, narrowed := true }
def RaftCommitsUptoSaid : Prop := raftCommitsUptoRow.holds Try.pinned (OpenSpec.upto raftCommitsSpec)

/-- 'cooperagelaw18.RaftSends', WHERE WHAT IT READS IS OF BULK AT MOST 1048576: true; the input reads as it did. -/
def raftSendsUptoRow : OpenClaim := { program := "ytikpbhhnllchmaa", sum := "27e2a7897e415ab38bc490a97b6ac2272cf93ee9794a56e74d83762fb27a7211", func := "cooperage/cooperagelaw18.RaftSends", spec := "raftSends", unfollowed := true, recurses := true, apart := false, narrowed := true }
def RaftSendsUptoSaid : Prop := raftSendsUptoRow.holds Try.pinned (OpenSpec.upto raftSendsSpec)

end Rows
end Go.Proofs.Ytikpbhhnllchmaa
