/-
  No cell of these rows narrows 'for every input' (looked for: loops, veiled, ifaces, maps, wideKeys, modest, calm, conditions, laid).
  DERIVED. THE GIVEN ROWS OF THIS SEAT. 8 by the template 'for every input the law returns true; each argument reads behind the call as it read before'; 0 by the template 'total and deterministic' (their statements: YtmocfgghccmdgaaTotals.lean).
  GIVEN WITH THE SEED: the statements are not yours to turn. If you find one false, say at which input.
  Laid BY PROGRAM, IN A SANDBOX (cutbox-rows.mjs): the forced cells as the released guide's own fill.sh prints them over the translation a1893bbf24ee9b52… (all of the seat's roots in one cut). By AI agents, Wed Nov 11 2026. No macro, syntax, notation, axiom, sorry.
-/
import Derived.Test.YtmocfgghccmdgaaChecked
import GoSem.Claim
import GoSem.ClaimJoined
import GoSem.ClaimMapViews
import Derived.JoinedTies
import Derived.KernelRfl
namespace Go.Proofs.Ytmocfgghccmdgaa
/- THE CELL 'sum', in the pinned program and in every row, IS THE sha256 OF THE DUMP (.gsa) THAT YtmocfgghccmdgaaProg.lean LOADS. Nothing in Lean hashes anything: it is a label: what it is worth is what the hold of that sum in a sandbox is worth. -/
noncomputable def Try.pinned : Pinned := { name := "ytmocfgghccmdgaa", sum := "a1893bbf24ee9b52e404c2f3322c3c76b6ce3d5de58b51788a08d705843d6829", checked := Try.checked }
namespace Rows
def none {H : Type} : Left H := { results := [], args := [] }

/-- 'graftbedlaw02.TreeTurned': WHATEVER THE INPUT: true; the input reads as it did. -/
def treeTurnedSpec : ChangeSpec := { name := "treeTurned", fn := fun _ => fun
  | [d1, d2, d3] => { results := [.lit (.bool true)], args := [d1, d2, d3] }
  | _ => none }
def treeTurnedRow : OpenClaim := { program := "ytmocfgghccmdgaa", sum := "a1893bbf24ee9b52e404c2f3322c3c76b6ce3d5de58b51788a08d705843d6829", func := "graftbed/graftbedlaw02.TreeTurned", spec := "treeTurned", inPlace := ["internal/bytealg.IndexByteString", "internal/bytealg.IndexString", "slices.overlaps[graftbed/api.File]"], unfollowed := true, recurses := true, named := ["internal/bytealg.MaxLen"], apart := false }
def TreeTurnedSaid : Prop := treeTurnedRow.holds Try.pinned (OpenSpec.ofChange treeTurnedSpec)

/-- ITS FALSE NEIGHBOUR: 'it returns false'. Refute it at one input. -/
def treeTurnedWrong : ChangeSpec := { name := "treeTurned", fn := fun _ => fun
  | [d1, d2, d3] => { results := [.lit (.bool false)], args := [d1, d2, d3] }
  | _ => none }
def TreeTurnedWrongFalsely : Prop := treeTurnedRow.holds Try.pinned (OpenSpec.ofChange treeTurnedWrong)

/-- 'graftbedlaw02.TreeFinds': WHATEVER THE INPUT: true; the input reads as it did. -/
def treeFindsSpec : ChangeSpec := { name := "treeFinds", fn := fun _ => fun
  | [d1, d2] => { results := [.lit (.bool true)], args := [d1, d2] }
  | _ => none }
def treeFindsRow : OpenClaim := { program := "ytmocfgghccmdgaa", sum := "a1893bbf24ee9b52e404c2f3322c3c76b6ce3d5de58b51788a08d705843d6829", func := "graftbed/graftbedlaw02.TreeFinds", spec := "treeFinds", inPlace := ["internal/bytealg.IndexByteString", "internal/bytealg.IndexString", "slices.overlaps[graftbed/api.File]"], unfollowed := true, recurses := true, named := ["internal/bytealg.MaxLen"], apart := false }
def TreeFindsSaid : Prop := treeFindsRow.holds Try.pinned (OpenSpec.ofChange treeFindsSpec)

/-- ITS FALSE NEIGHBOUR: 'it returns false'. Refute it at one input. -/
def treeFindsWrong : ChangeSpec := { name := "treeFinds", fn := fun _ => fun
  | [d1, d2] => { results := [.lit (.bool false)], args := [d1, d2] }
  | _ => none }
def TreeFindsWrongFalsely : Prop := treeFindsRow.holds Try.pinned (OpenSpec.ofChange treeFindsWrong)

/-- 'graftbedlaw02.TreeMerges': WHATEVER THE INPUT: true; the input reads as it did. -/
def treeMergesSpec : ChangeSpec := { name := "treeMerges", fn := fun _ => fun
  | [d1, d2] => { results := [.lit (.bool true)], args := [d1, d2] }
  | _ => none }
def treeMergesRow : OpenClaim := { program := "ytmocfgghccmdgaa", sum := "a1893bbf24ee9b52e404c2f3322c3c76b6ce3d5de58b51788a08d705843d6829", func := "graftbed/graftbedlaw02.TreeMerges", spec := "treeMerges", inPlace := ["internal/bytealg.IndexByteString", "internal/bytealg.IndexString", "slices.overlaps[graftbed/api.File]"], unfollowed := true, recurses := true, named := ["internal/bytealg.MaxLen"], apart := false }
def TreeMergesSaid : Prop := treeMergesRow.holds Try.pinned (OpenSpec.ofChange treeMergesSpec)

/-- ITS FALSE NEIGHBOUR: 'it returns false'. Refute it at one input. -/
def treeMergesWrong : ChangeSpec := { name := "treeMerges", fn := fun _ => fun
  | [d1, d2] => { results := [.lit (.bool false)], args := [d1, d2] }
  | _ => none }
def TreeMergesWrongFalsely : Prop := treeMergesRow.holds Try.pinned (OpenSpec.ofChange treeMergesWrong)

/-- 'graftbedlaw02.TreePuts': WHATEVER THE INPUT: true; the input reads as it did. -/
def treePutsSpec : ChangeSpec := { name := "treePuts", fn := fun _ => fun
  | [d1, d2] => { results := [.lit (.bool true)], args := [d1, d2] }
  | _ => none }
def treePutsRow : OpenClaim := { program := "ytmocfgghccmdgaa", sum := "a1893bbf24ee9b52e404c2f3322c3c76b6ce3d5de58b51788a08d705843d6829", func := "graftbed/graftbedlaw02.TreePuts", spec := "treePuts", inPlace := ["internal/bytealg.IndexByteString", "internal/bytealg.IndexString", "slices.overlaps[graftbed/api.File]"], unfollowed := true, recurses := true, named := ["internal/bytealg.MaxLen"], apart := false }
def TreePutsSaid : Prop := treePutsRow.holds Try.pinned (OpenSpec.ofChange treePutsSpec)

/-- ITS FALSE NEIGHBOUR: 'it returns false'. Refute it at one input. -/
def treePutsWrong : ChangeSpec := { name := "treePuts", fn := fun _ => fun
  | [d1, d2] => { results := [.lit (.bool false)], args := [d1, d2] }
  | _ => none }
def TreePutsWrongFalsely : Prop := treePutsRow.holds Try.pinned (OpenSpec.ofChange treePutsWrong)

/-- 'graftbedlaw02.TreeDiffs': WHATEVER THE INPUT: true; the input reads as it did. -/
def treeDiffsSpec : ChangeSpec := { name := "treeDiffs", fn := fun _ => fun
  | [d1, d2] => { results := [.lit (.bool true)], args := [d1, d2] }
  | _ => none }
def treeDiffsRow : OpenClaim := { program := "ytmocfgghccmdgaa", sum := "a1893bbf24ee9b52e404c2f3322c3c76b6ce3d5de58b51788a08d705843d6829", func := "graftbed/graftbedlaw02.TreeDiffs", spec := "treeDiffs", inPlace := ["internal/bytealg.IndexByteString", "internal/bytealg.IndexString", "slices.overlaps[graftbed/api.File]"], unfollowed := true, recurses := true, named := ["internal/bytealg.MaxLen"], apart := false }
def TreeDiffsSaid : Prop := treeDiffsRow.holds Try.pinned (OpenSpec.ofChange treeDiffsSpec)

/-- ITS FALSE NEIGHBOUR: 'it returns false'. Refute it at one input. -/
def treeDiffsWrong : ChangeSpec := { name := "treeDiffs", fn := fun _ => fun
  | [d1, d2] => { results := [.lit (.bool false)], args := [d1, d2] }
  | _ => none }
def TreeDiffsWrongFalsely : Prop := treeDiffsRow.holds Try.pinned (OpenSpec.ofChange treeDiffsWrong)

/-- 'graftbedlaw02.TreeNames': WHATEVER THE INPUT: true; the input reads as it did. -/
def treeNamesSpec : ChangeSpec := { name := "treeNames", fn := fun _ => fun
  | [d1, d2] => { results := [.lit (.bool true)], args := [d1, d2] }
  | _ => none }
def treeNamesRow : OpenClaim := { program := "ytmocfgghccmdgaa", sum := "a1893bbf24ee9b52e404c2f3322c3c76b6ce3d5de58b51788a08d705843d6829", func := "graftbed/graftbedlaw02.TreeNames", spec := "treeNames", inPlace := ["internal/bytealg.IndexByteString", "internal/bytealg.IndexString", "slices.overlaps[graftbed/api.File]", "internal/bytealg.abigen_runtime_cmpstring", "slices.overlaps[string]"], unfollowed := true, recurses := true, named := ["internal/bytealg.MaxLen"], apart := false }
def TreeNamesSaid : Prop := treeNamesRow.holds Try.pinned (OpenSpec.ofChange treeNamesSpec)

/-- ITS FALSE NEIGHBOUR: 'it returns false'. Refute it at one input. -/
def treeNamesWrong : ChangeSpec := { name := "treeNames", fn := fun _ => fun
  | [d1, d2] => { results := [.lit (.bool false)], args := [d1, d2] }
  | _ => none }
def TreeNamesWrongFalsely : Prop := treeNamesRow.holds Try.pinned (OpenSpec.ofChange treeNamesWrong)

/-- 'graftbedlaw02.TreeDrops': WHATEVER THE INPUT: true; the input reads as it did. -/
def treeDropsSpec : ChangeSpec := { name := "treeDrops", fn := fun _ => fun
  | [d1, d2] => { results := [.lit (.bool true)], args := [d1, d2] }
  | _ => none }
def treeDropsRow : OpenClaim := { program := "ytmocfgghccmdgaa", sum := "a1893bbf24ee9b52e404c2f3322c3c76b6ce3d5de58b51788a08d705843d6829", func := "graftbed/graftbedlaw02.TreeDrops", spec := "treeDrops", inPlace := ["internal/bytealg.IndexByteString", "internal/bytealg.IndexString", "slices.overlaps[graftbed/api.File]"], unfollowed := true, recurses := true, named := ["internal/bytealg.MaxLen"], apart := false }
def TreeDropsSaid : Prop := treeDropsRow.holds Try.pinned (OpenSpec.ofChange treeDropsSpec)

/-- ITS FALSE NEIGHBOUR: 'it returns false'. Refute it at one input. -/
def treeDropsWrong : ChangeSpec := { name := "treeDrops", fn := fun _ => fun
  | [d1, d2] => { results := [.lit (.bool false)], args := [d1, d2] }
  | _ => none }
def TreeDropsWrongFalsely : Prop := treeDropsRow.holds Try.pinned (OpenSpec.ofChange treeDropsWrong)

/-- 'graftbedlaw02.TreeChecks': WHATEVER THE INPUT: true; the input reads as it did. -/
def treeChecksSpec : ChangeSpec := { name := "treeChecks", fn := fun _ => fun
  | [d1, d2] => { results := [.lit (.bool true)], args := [d1, d2] }
  | _ => none }
def treeChecksRow : OpenClaim := { program := "ytmocfgghccmdgaa", sum := "a1893bbf24ee9b52e404c2f3322c3c76b6ce3d5de58b51788a08d705843d6829", func := "graftbed/graftbedlaw02.TreeChecks", spec := "treeChecks", inPlace := ["internal/bytealg.IndexByteString", "internal/bytealg.IndexString", "slices.overlaps[graftbed/api.File]"], unfollowed := true, recurses := true, named := ["internal/bytealg.MaxLen"], apart := false }
def TreeChecksSaid : Prop := treeChecksRow.holds Try.pinned (OpenSpec.ofChange treeChecksSpec)

/-- ITS FALSE NEIGHBOUR: 'it returns false'. Refute it at one input. -/
def treeChecksWrong : ChangeSpec := { name := "treeChecks", fn := fun _ => fun
  | [d1, d2] => { results := [.lit (.bool false)], args := [d1, d2] }
  | _ => none }
def TreeChecksWrongFalsely : Prop := treeChecksRow.holds Try.pinned (OpenSpec.ofChange treeChecksWrong)

/- THE SECOND FORM. 'bulk': how many values and letters a reading holds, each counted each time it is reached (what is shared counts as often as it is met; a slice's spare places count too). A statement '..UptoSaid' is the law's where the arguments, and the package variables that the reading takes, are together of bulk at most 1048576: NARROWER than '..Said'. Prove '..Said' where nothing that the law and all that it calls make is longer than what came in: it says more and counts as full. Else prove '..UptoSaid'. A law counts once. -/
mutual
def uptoBulk {H : Type} : DataW H → Nat
  | .lit (.string bytes) => bytes.length + 1
  | .lit _ => 1
  | .nil => 1
  | .ptr d => uptoBulk d + 1
  | .slice elems spare => uptoBulkAll elems + uptoBulkAll spare + 1
  | .agg parts => uptoBulkAll parts + 1
  | .iface _ d => uptoBulk d + 1
  | .map entries => uptoBulkEntries entries + 1
  | .held _ => 1
def uptoBulkAll {H : Type} : List (DataW H) → Nat
  | [] => 0
  | d :: r => uptoBulk d + uptoBulkAll r
def uptoBulkEntries {H : Type} : List (Lit × DataW H) → Nat
  | [] => 0
  | x :: r => uptoBulkEntry x + uptoBulkEntries r
def uptoBulkEntry {H : Type} : Lit × DataW H → Nat
  | (.string bytes, d) => bytes.length + uptoBulk d + 1
  | (_, d) => uptoBulk d + 1
 end
def uptoSmall : (H : Type) → List (DataW H) → Bool := fun _ ds => decide (uptoBulkAll ds ≤ 1048576)
def OpenSpec.upto (s : _root_.Go.ChangeSpec) : _root_.Go.OpenSpec := { _root_.Go.OpenSpec.ofChange s with cond := some uptoSmall }

/-- 'graftbedlaw02.TreeTurned', WHERE WHAT IT READS IS OF BULK AT MOST 1048576: true; the input reads as it did. -/
def treeTurnedUptoRow : OpenClaim := { program := "ytmocfgghccmdgaa", sum := "a1893bbf24ee9b52e404c2f3322c3c76b6ce3d5de58b51788a08d705843d6829", func := "graftbed/graftbedlaw02.TreeTurned", spec := "treeTurned", inPlace := ["internal/bytealg.IndexByteString", "internal/bytealg.IndexString", "slices.overlaps[graftbed/api.File]"], unfollowed := true, recurses := true, named := ["internal/bytealg.MaxLen"], apart := false, narrowed := true }
def TreeTurnedUptoSaid : Prop := treeTurnedUptoRow.holds Try.pinned (OpenSpec.upto treeTurnedSpec)

/-- 'graftbedlaw02.TreeFinds', WHERE WHAT IT READS IS OF BULK AT MOST 1048576: true; the input reads as it did. -/
def treeFindsUptoRow : OpenClaim := { program := "ytmocfgghccmdgaa", sum := "a1893bbf24ee9b52e404c2f3322c3c76b6ce3d5de58b51788a08d705843d6829", func := "graftbed/graftbedlaw02.TreeFinds", spec := "treeFinds", inPlace := ["internal/bytealg.IndexByteString", "internal/bytealg.IndexString", "slices.overlaps[graftbed/api.File]"], unfollowed := true, recurses := true, named := ["internal/bytealg.MaxLen"], apart := false, narrowed := true }
def TreeFindsUptoSaid : Prop := treeFindsUptoRow.holds Try.pinned (OpenSpec.upto treeFindsSpec)

/-- 'graftbedlaw02.TreeMerges', WHERE WHAT IT READS IS OF BULK AT MOST 1048576: true; the input reads as it did. -/
def treeMergesUptoRow : OpenClaim := { program := "ytmocfgghccmdgaa", sum := "a1893bbf24ee9b52e404c2f3322c3c76b6ce3d5de58b51788a08d705843d6829", func := "graftbed/graftbedlaw02.TreeMerges", spec := "treeMerges", inPlace := ["internal/bytealg.IndexByteString", "internal/bytealg.IndexString", "slices.overlaps[graftbed/api.File]"], unfollowed := true, recurses := true, named := ["internal/bytealg.MaxLen"], apart := false, narrowed := true }
def TreeMergesUptoSaid : Prop := treeMergesUptoRow.holds Try.pinned (OpenSpec.upto treeMergesSpec)

/-- 'graftbedlaw02.TreePuts', WHERE WHAT IT READS IS OF BULK AT MOST 1048576: true; the input reads as it did. -/
def treePutsUptoRow : OpenClaim := { program := "ytmocfgghccmdgaa", sum := "a1893bbf24ee9b52e404c2f3322c3c76b6ce3d5de58b51788a08d705843d6829", func := "graftbed/graftbedlaw02.TreePuts", spec := "treePuts", inPlace := ["internal/bytealg.IndexByteString", "internal/bytealg.IndexString", "slices.overlaps[graftbed/api.File]"], unfollowed := true, recurses := true, named := ["internal/bytealg.MaxLen"], apart := false, narrowed := true }
def TreePutsUptoSaid : Prop := treePutsUptoRow.holds Try.pinned (OpenSpec.upto treePutsSpec)

/-- 'graftbedlaw02.TreeDiffs', WHERE WHAT IT READS IS OF BULK AT MOST 1048576: true; the input reads as it did. -/
def treeDiffsUptoRow : OpenClaim := { program := "ytmocfgghccmdgaa", sum := "a1893bbf24ee9b52e404c2f3322c3c76b6ce3d5de58b51788a08d705843d6829", func := "graftbed/graftbedlaw02.TreeDiffs", spec := "treeDiffs", inPlace := ["internal/bytealg.IndexByteString", "internal/bytealg.IndexString", "slices.overlaps[graftbed/api.File]"], unfollowed := true, recurses := true, named := ["internal/bytealg.MaxLen"], apart := false, narrowed := true }
def TreeDiffsUptoSaid : Prop := treeDiffsUptoRow.holds Try.pinned (OpenSpec.upto treeDiffsSpec)

/-- 'graftbedlaw02.TreeNames', WHERE WHAT IT READS IS OF BULK AT MOST 1048576: true; the input reads as it did. -/
def treeNamesUptoRow : OpenClaim := { program := "ytmocfgghccmdgaa", sum := "a1893bbf24ee9b52e404c2f3322c3c76b6ce3d5de58b51788a08d705843d6829", func := "graftbed/graftbedlaw02.TreeNames", spec := "treeNames", inPlace := ["internal/bytealg.IndexByteString", "internal/bytealg.IndexString", "slices.overlaps[graftbed/api.File]", "internal/bytealg.abigen_runtime_cmpstring", "slices.overlaps[string]"], unfollowed := true, recurses := true, named := ["internal/bytealg.MaxLen"], apart := false, narrowed := true }
def TreeNamesUptoSaid : Prop := treeNamesUptoRow.holds Try.pinned (OpenSpec.upto treeNamesSpec)

/-- 'graftbedlaw02.TreeDrops', WHERE WHAT IT READS IS OF BULK AT MOST 1048576: true; the input reads as it did. -/
def treeDropsUptoRow : OpenClaim := { program := "ytmocfgghccmdgaa", sum := "a1893bbf24ee9b52e404c2f3322c3c76b6ce3d5de58b51788a08d705843d6829", func := "graftbed/graftbedlaw02.TreeDrops", spec := "treeDrops", inPlace := ["internal/bytealg.IndexByteString", "internal/bytealg.IndexString", "slices.overlaps[graftbed/api.File]"], unfollowed := true, recurses := true, named := ["internal/bytealg.MaxLen"], apart := false, narrowed := true }
def TreeDropsUptoSaid : Prop := treeDropsUptoRow.holds Try.pinned (OpenSpec.upto treeDropsSpec)

/-- 'graftbedlaw02.TreeChecks', WHERE WHAT IT READS IS OF BULK AT MOST 1048576: true; the input reads as it did. -/
def treeChecksUptoRow : OpenClaim := { program := "ytmocfgghccmdgaa", sum := "a1893bbf24ee9b52e404c2f3322c3c76b6ce3d5de58b51788a08d705843d6829", func := "graftbed/graftbedlaw02.TreeChecks", spec := "treeChecks", inPlace := ["internal/bytealg.IndexByteString", "internal/bytealg.IndexString", "slices.overlaps[graftbed/api.File]"], unfollowed := true, recurses := true, named := ["internal/bytealg.MaxLen"], apart := false, narrowed := true }
def TreeChecksUptoSaid : Prop := treeChecksUptoRow.holds Try.pinned (OpenSpec.upto treeChecksSpec)

end Rows
end Go.Proofs.Ytmocfgghccmdgaa
