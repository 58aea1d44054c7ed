/-
  No cell of these rows narrows 'for every input' (looked for: loops, veiled, ifaces, maps, wideKeys, modest, calm, conditions, laid).
  DERIVED. THE GIVEN ROWS OF THIS SEAT. 7 by the template 'for every input the law returns true; each argument reads behind the call as it read before'; 0 by the template 'total and deterministic' (their statements: YtngmipppgnlkdaaTotals.lean).
  GIVEN WITH THE SEED: the statements are not yours to turn. If you find one false, say at which input.
  Laid BY PROGRAM, IN A SANDBOX (cutbox-rows.mjs): the forced cells as the released guide's own fill.sh prints them over the translation 1965562f251caaf6… (all of the seat's roots in one cut). By AI agents, Wed Nov 11 2026. No macro, syntax, notation, axiom, sorry.
-/
import Derived.Test.YtngmipppgnlkdaaChecked
import GoSem.Claim
import GoSem.ClaimJoined
import GoSem.ClaimMapViews
import Derived.JoinedTies
import Derived.KernelRfl
namespace Go.Proofs.Ytngmipppgnlkdaa
/- THE CELL 'sum', in the pinned program and in every row, IS THE sha256 OF THE DUMP (.gsa) THAT YtngmipppgnlkdaaProg.lean LOADS. Nothing in Lean hashes anything: it is a label: what it is worth is what the hold of that sum in a sandbox is worth. -/
noncomputable def Try.pinned : Pinned := { name := "ytngmipppgnlkdaa", sum := "1965562f251caaf6b192abe221aa591fe570d1ff7cf767530eaca6f98bdfad88", checked := Try.checked }
namespace Rows
def none {H : Type} : Left H := { results := [], args := [] }

/-- 'cooperagelaw17.RaftlogCuts': WHATEVER THE INPUT: true; the input reads as it did. -/
def raftlogCutsSpec : ChangeSpec := { name := "raftlogCuts", fn := fun _ => fun
  | [d1, d2] => { results := [.lit (.bool true)], args := [d1, d2] }
  | _ => none }
def raftlogCutsRow : OpenClaim := { program := "ytngmipppgnlkdaa", sum := "1965562f251caaf6b192abe221aa591fe570d1ff7cf767530eaca6f98bdfad88", func := "cooperage/cooperagelaw17.RaftlogCuts", spec := "raftlogCuts", apart := false }
def RaftlogCutsSaid : Prop := raftlogCutsRow.holds Try.pinned (OpenSpec.ofChange raftlogCutsSpec)

/-- ITS FALSE NEIGHBOUR: 'it returns false'. Refute it at one input. -/
def raftlogCutsWrong : ChangeSpec := { name := "raftlogCuts", fn := fun _ => fun
  | [d1, d2] => { results := [.lit (.bool false)], args := [d1, d2] }
  | _ => none }
def RaftlogCutsWrongFalsely : Prop := raftlogCutsRow.holds Try.pinned (OpenSpec.ofChange raftlogCutsWrong)

/-- 'cooperagelaw24.NetOrders': WHATEVER THE INPUT: true; the input reads as it did. -/
def netOrdersSpec : ChangeSpec := { name := "netOrders", fn := fun _ => fun
  | [d1, d2] => { results := [.lit (.bool true)], args := [d1, d2] }
  | _ => none }
def netOrdersRow : OpenClaim := { program := "ytngmipppgnlkdaa", sum := "1965562f251caaf6b192abe221aa591fe570d1ff7cf767530eaca6f98bdfad88", func := "cooperage/cooperagelaw24.NetOrders", spec := "netOrders", apart := false }
def NetOrdersSaid : Prop := netOrdersRow.holds Try.pinned (OpenSpec.ofChange netOrdersSpec)

/-- ITS FALSE NEIGHBOUR: 'it returns false'. Refute it at one input. -/
def netOrdersWrong : ChangeSpec := { name := "netOrders", fn := fun _ => fun
  | [d1, d2] => { results := [.lit (.bool false)], args := [d1, d2] }
  | _ => none }
def NetOrdersWrongFalsely : Prop := netOrdersRow.holds Try.pinned (OpenSpec.ofChange netOrdersWrong)

/-- 'cooperagelaw24.NetRoom': WHATEVER THE INPUT: true; the input reads as it did. -/
def netRoomSpec : ChangeSpec := { name := "netRoom", fn := fun _ => fun
  | [d1, d2] => { results := [.lit (.bool true)], args := [d1, d2] }
  | _ => none }
def netRoomRow : OpenClaim := { program := "ytngmipppgnlkdaa", sum := "1965562f251caaf6b192abe221aa591fe570d1ff7cf767530eaca6f98bdfad88", func := "cooperage/cooperagelaw24.NetRoom", spec := "netRoom", apart := false }
def NetRoomSaid : Prop := netRoomRow.holds Try.pinned (OpenSpec.ofChange netRoomSpec)

/-- ITS FALSE NEIGHBOUR: 'it returns false'. Refute it at one input. -/
def netRoomWrong : ChangeSpec := { name := "netRoom", fn := fun _ => fun
  | [d1, d2] => { results := [.lit (.bool false)], args := [d1, d2] }
  | _ => none }
def NetRoomWrongFalsely : Prop := netRoomRow.holds Try.pinned (OpenSpec.ofChange netRoomWrong)

/-- 'cooperagelaw17.RaftlogPuts': WHATEVER THE INPUT: true; the input reads as it did. -/
def raftlogPutsSpec : ChangeSpec := { name := "raftlogPuts", fn := fun _ => fun
  | [d1, d2, d3] => { results := [.lit (.bool true)], args := [d1, d2, d3] }
  | _ => none }
def raftlogPutsRow : OpenClaim := { program := "ytngmipppgnlkdaa", sum := "1965562f251caaf6b192abe221aa591fe570d1ff7cf767530eaca6f98bdfad88", func := "cooperage/cooperagelaw17.RaftlogPuts", spec := "raftlogPuts", apart := false }
def RaftlogPutsSaid : Prop := raftlogPutsRow.holds Try.pinned (OpenSpec.ofChange raftlogPutsSpec)

/-- ITS FALSE NEIGHBOUR: 'it returns false'. Refute it at one input. -/
def raftlogPutsWrong : ChangeSpec := { name := "raftlogPuts", fn := fun _ => fun
  | [d1, d2, d3] => { results := [.lit (.bool false)], args := [d1, d2, d3] }
  | _ => none }
def RaftlogPutsWrongFalsely : Prop := raftlogPutsRow.holds Try.pinned (OpenSpec.ofChange raftlogPutsWrong)

/-- 'cooperagelaw24.NetTwice': WHATEVER THE INPUT: true; the input reads as it did. -/
def netTwiceSpec : ChangeSpec := { name := "netTwice", fn := fun _ => fun
  | [d1, d2, d3] => { results := [.lit (.bool true)], args := [d1, d2, d3] }
  | _ => none }
def netTwiceRow : OpenClaim := { program := "ytngmipppgnlkdaa", sum := "1965562f251caaf6b192abe221aa591fe570d1ff7cf767530eaca6f98bdfad88", func := "cooperage/cooperagelaw24.NetTwice", spec := "netTwice", apart := false }
def NetTwiceSaid : Prop := netTwiceRow.holds Try.pinned (OpenSpec.ofChange netTwiceSpec)

/-- ITS FALSE NEIGHBOUR: 'it returns false'. Refute it at one input. -/
def netTwiceWrong : ChangeSpec := { name := "netTwice", fn := fun _ => fun
  | [d1, d2, d3] => { results := [.lit (.bool false)], args := [d1, d2, d3] }
  | _ => none }
def NetTwiceWrongFalsely : Prop := netTwiceRow.holds Try.pinned (OpenSpec.ofChange netTwiceWrong)

/-- 'cooperagelaw24.NetPlays': WHATEVER THE INPUT: true; the input reads as it did. -/
def netPlaysSpec : ChangeSpec := { name := "netPlays", fn := fun _ => fun
  | [d] => { results := [.lit (.bool true)], args := [d] }
  | _ => none }
def netPlaysRow : OpenClaim := { program := "ytngmipppgnlkdaa", sum := "1965562f251caaf6b192abe221aa591fe570d1ff7cf767530eaca6f98bdfad88", func := "cooperage/cooperagelaw24.NetPlays", spec := "netPlays", apart := false }
def NetPlaysSaid : Prop := netPlaysRow.holds Try.pinned (OpenSpec.ofChange netPlaysSpec)

/-- ITS FALSE NEIGHBOUR: 'it returns false'. Refute it at one input. -/
def netPlaysWrong : ChangeSpec := { name := "netPlays", fn := fun _ => fun
  | [d] => { results := [.lit (.bool false)], args := [d] }
  | _ => none }
def NetPlaysWrongFalsely : Prop := netPlaysRow.holds Try.pinned (OpenSpec.ofChange netPlaysWrong)

/-- 'cooperagelaw17.RaftlogPlays': WHATEVER THE INPUT: true; the input reads as it did. -/
def raftlogPlaysSpec : ChangeSpec := { name := "raftlogPlays", fn := fun _ => fun
  | [d] => { results := [.lit (.bool true)], args := [d] }
  | _ => none }
def raftlogPlaysRow : OpenClaim := { program := "ytngmipppgnlkdaa", sum := "1965562f251caaf6b192abe221aa591fe570d1ff7cf767530eaca6f98bdfad88", func := "cooperage/cooperagelaw17.RaftlogPlays", spec := "raftlogPlays", apart := false }
def RaftlogPlaysSaid : Prop := raftlogPlaysRow.holds Try.pinned (OpenSpec.ofChange raftlogPlaysSpec)

/-- ITS FALSE NEIGHBOUR: 'it returns false'. Refute it at one input. -/
def raftlogPlaysWrong : ChangeSpec := { name := "raftlogPlays", fn := fun _ => fun
  | [d] => { results := [.lit (.bool false)], args := [d] }
  | _ => none }
def RaftlogPlaysWrongFalsely : Prop := raftlogPlaysRow.holds Try.pinned (OpenSpec.ofChange raftlogPlaysWrong)

/- THE SECOND FORM. 'bulk': how many values and letters a reading holds, each counted each time it is reached (what is shared counts as often as it is met; a slice's spare places count too). A statement '..UptoSaid' is the law's where the arguments, and the package variables that the reading takes, are together of bulk at most 1048576: NARROWER than '..Said'. Prove '..Said' where nothing that the law and all that it calls make is longer than what came in: it says more and counts as full. Else prove '..UptoSaid'. A law counts once. -/
mutual
def uptoBulk {H : Type} : DataW H → Nat
  | .lit (.string bytes) => bytes.length + 1
  | .lit _ => 1
  | .nil => 1
  | .ptr d => uptoBulk d + 1
  | .slice elems spare => uptoBulkAll elems + uptoBulkAll spare + 1
  | .agg parts => uptoBulkAll parts + 1
  | .iface _ d => uptoBulk d + 1
  | .map entries => uptoBulkEntries entries + 1
  | .held _ => 1
def uptoBulkAll {H : Type} : List (DataW H) → Nat
  | [] => 0
  | d :: r => uptoBulk d + uptoBulkAll r
def uptoBulkEntries {H : Type} : List (Lit × DataW H) → Nat
  | [] => 0
  | x :: r => uptoBulkEntry x + uptoBulkEntries r
def uptoBulkEntry {H : Type} : Lit × DataW H → Nat
  | (.string bytes, d) => bytes.length + uptoBulk d + 1
  | (_, d) => uptoBulk d + 1
 end
def uptoSmall : (H : Type) → List (DataW H) → Bool := fun _ ds => decide (uptoBulkAll ds ≤ 1048576)
def OpenSpec.upto (s : _root_.Go.ChangeSpec) : _root_.Go.OpenSpec := { _root_.Go.OpenSpec.ofChange s with cond := some uptoSmall }

/-- 'cooperagelaw17.RaftlogCuts', WHERE WHAT IT READS IS OF BULK AT MOST 1048576: true; the input reads as it did. -/
def raftlogCutsUptoRow : OpenClaim := { program := "ytngmipppgnlkdaa", sum := "1965562f251caaf6b192abe221aa591fe570d1ff7cf767530eaca6f98bdfad88", func := "cooperage/cooperagelaw17.RaftlogCuts", spec := "raftlogCuts", apart := false, narrowed := true }
def RaftlogCutsUptoSaid : Prop := raftlogCutsUptoRow.holds Try.pinned (OpenSpec.upto raftlogCutsSpec)

/-- 'cooperagelaw24.NetOrders', WHERE WHAT IT READS IS OF BULK AT MOST 1048576: true; the input reads as it did. -/
def netOrdersUptoRow : OpenClaim := { program := "ytngmipppgnlkdaa", sum := "1965562f251caaf6b192abe221aa591fe570d1ff7cf767530eaca6f98bdfad88", func := "cooperage/cooperagelaw24.NetOrders", spec := "netOrders", apart := false, narrowed := true }
def NetOrdersUptoSaid : Prop := netOrdersUptoRow.holds Try.pinned (OpenSpec.upto netOrdersSpec)

/-- 'cooperagelaw24.NetRoom', WHERE WHAT IT READS IS OF BULK AT MOST 1048576: true; the input reads as it did. -/
def netRoomUptoRow : OpenClaim := { program := "ytngmipppgnlkdaa", sum := "1965562f251caaf6b192abe221aa591fe570d1ff7cf767530eaca6f98bdfad88", func := "cooperage/cooperagelaw24.NetRoom", spec := "netRoom", apart := false, narrowed := true }
def NetRoomUptoSaid : Prop := netRoomUptoRow.holds Try.pinned (OpenSpec.upto netRoomSpec)

/-- 'cooperagelaw17.RaftlogPuts', WHERE WHAT IT READS IS OF BULK AT MOST 1048576: true; the input reads as it did. -/
def raftlogPutsUptoRow : OpenClaim := { program := "ytngmipppgnlkdaa", sum := "1965562f251caaf6b192abe221aa591fe570d1ff7cf767530eaca6f98bdfad88", func := "cooperage/cooperagelaw17.RaftlogPuts", spec := "raftlogPuts", apart := false, narrowed := true }
def RaftlogPutsUptoSaid : Prop := raftlogPutsUptoRow.holds Try.pinned (OpenSpec.upto raftlogPutsSpec)

/-- 'cooperagelaw24.NetTwice', WHERE WHAT IT READS IS OF BULK AT MOST 1048576: true; the input reads as it did. -/
def netTwiceUptoRow : OpenClaim := { program := "ytngmipppgnlkdaa", sum := "1965562f251caaf6b192abe221aa591fe570d1ff7cf767530eaca6f98bdfad88", func := "cooperage/cooperagelaw24.NetTwice", spec := "netTwice", apart := false, narrowed := true }
def NetTwiceUptoSaid : Prop := netTwiceUptoRow.holds Try.pinned (OpenSpec.upto netTwiceSpec)

/-- 'cooperagelaw24.NetPlays', WHERE WHAT IT READS IS OF BULK AT MOST 1048576: true; the input reads as it did. -/
def netPlaysUptoRow : OpenClaim := { program := "ytngmipppgnlkdaa", sum := "1965562f251caaf6b192abe221aa591fe570d1ff7cf767530eaca6f98bdfad88", func := "cooperage/cooperagelaw24.NetPlays", spec := "netPlays", apart := false, narrowed := true }
def NetPlaysUptoSaid : Prop := netPlaysUptoRow.holds Try.pinned (OpenSpec.upto netPlaysSpec)

/-- 'cooperagelaw17.RaftlogPlays', WHERE WHAT IT READS IS OF BULK AT MOST 1048576: true; the input reads as it did. -/
def raftlogPlaysUptoRow : OpenClaim := { program := "ytngmipppgnlkdaa", sum := "1965562f251caaf6b192abe221aa591fe570d1ff7cf767530eaca6f98bdfad88", func := "cooperage/cooperagelaw17.RaftlogPlays", spec := "raftlogPlays", apart := false, narrowed := true }
def RaftlogPlaysUptoSaid : Prop := raftlogPlaysUptoRow.holds Try.pinned (OpenSpec.upto raftlogPlaysSpec)

end Rows
end Go.Proofs.Ytngmipppgnlkdaa
