/-
  No cell of these rows narrows 'for every input' (looked for: loops, veiled, ifaces, maps, wideKeys, modest, calm, conditions, laid).
  DERIVED. THE GIVEN ROWS OF THIS SEAT. 7 by the template 'for every input the law returns true; each argument reads behind the call as it read before'; 0 by the template 'total and deterministic' (their statements: YthiecbkkbiejjaaTotals.lean).
  GIVEN WITH THE SEED: the statements are not yours to turn. If you find one false, say at which input.
  Laid BY PROGRAM, IN A SANDBOX (cutbox-rows.mjs): the forced cells as the released guide's own fill.sh prints them over the translation 29a7c449ef796246… (all of the seat's roots in one cut). By AI agents, Wed Nov 11 2026. No macro, syntax, notation, axiom, sorry.
-/
import Derived.Test.YthiecbkkbiejjaaChecked
import GoSem.Claim
import GoSem.ClaimJoined
import GoSem.ClaimMapViews
import Derived.JoinedTies
import Derived.KernelRfl
namespace Go.Proofs.Ythiecbkkbiejjaa
/- THE CELL 'sum', in the pinned program and in every row, IS THE sha256 OF THE DUMP (.gsa) THAT YthiecbkkbiejjaaProg.lean LOADS. Nothing in Lean hashes anything: it is a label: what it is worth is what the hold of that sum in a sandbox is worth. -/
noncomputable def Try.pinned : Pinned := { name := "ythiecbkkbiejjaa", sum := "29a7c449ef796246319efdb957f20fe935ec38cd0bb025e2f7c3de0fced0e04f", checked := Try.checked }
namespace Rows
def none {H : Type} : Left H := { results := [], args := [] }

/-- 'graftbedlaw01.PathsJoins': WHATEVER THE INPUT: true; the input reads as it did. -/
def pathsJoinsSpec : ChangeSpec := { name := "pathsJoins", fn := fun _ => fun
  | [d1, d2] => { results := [.lit (.bool true)], args := [d1, d2] }
  | _ => none }
def pathsJoinsRow : OpenClaim := { program := "ythiecbkkbiejjaa", sum := "29a7c449ef796246319efdb957f20fe935ec38cd0bb025e2f7c3de0fced0e04f", func := "graftbed/graftbedlaw01.PathsJoins", spec := "pathsJoins", apart := false }
def PathsJoinsSaid : Prop := pathsJoinsRow.holds Try.pinned (OpenSpec.ofChange pathsJoinsSpec)

/-- ITS FALSE NEIGHBOUR: 'it returns false'. Refute it at one input. -/
def pathsJoinsWrong : ChangeSpec := { name := "pathsJoins", fn := fun _ => fun
  | [d1, d2] => { results := [.lit (.bool false)], args := [d1, d2] }
  | _ => none }
def PathsJoinsWrongFalsely : Prop := pathsJoinsRow.holds Try.pinned (OpenSpec.ofChange pathsJoinsWrong)

/-- 'graftbedlaw01.PathsElems': WHATEVER THE INPUT: true; the input reads as it did. -/
def pathsElemsSpec : ChangeSpec := { name := "pathsElems", fn := fun _ => fun
  | [d] => { results := [.lit (.bool true)], args := [d] }
  | _ => none }
def pathsElemsRow : OpenClaim := { program := "ythiecbkkbiejjaa", sum := "29a7c449ef796246319efdb957f20fe935ec38cd0bb025e2f7c3de0fced0e04f", func := "graftbed/graftbedlaw01.PathsElems", spec := "pathsElems", inPlace := ["internal/bytealg.IndexByteString", "internal/bytealg.IndexString"], unfollowed := true, recurses := true, named := ["internal/bytealg.MaxLen"], apart := false }
def PathsElemsSaid : Prop := pathsElemsRow.holds Try.pinned (OpenSpec.ofChange pathsElemsSpec)

/-- ITS FALSE NEIGHBOUR: 'it returns false'. Refute it at one input. -/
def pathsElemsWrong : ChangeSpec := { name := "pathsElems", fn := fun _ => fun
  | [d] => { results := [.lit (.bool false)], args := [d] }
  | _ => none }
def PathsElemsWrongFalsely : Prop := pathsElemsRow.holds Try.pinned (OpenSpec.ofChange pathsElemsWrong)

/-- 'graftbedlaw01.PathsOrder': WHATEVER THE INPUT: true; the input reads as it did. -/
def pathsOrderSpec : ChangeSpec := { name := "pathsOrder", fn := fun _ => fun
  | [d1, d2, d3] => { results := [.lit (.bool true)], args := [d1, d2, d3] }
  | _ => none }
def pathsOrderRow : OpenClaim := { program := "ythiecbkkbiejjaa", sum := "29a7c449ef796246319efdb957f20fe935ec38cd0bb025e2f7c3de0fced0e04f", func := "graftbed/graftbedlaw01.PathsOrder", spec := "pathsOrder", inPlace := ["internal/bytealg.IndexByteString", "internal/bytealg.IndexString"], unfollowed := true, recurses := true, named := ["internal/bytealg.MaxLen"], apart := false }
def PathsOrderSaid : Prop := pathsOrderRow.holds Try.pinned (OpenSpec.ofChange pathsOrderSpec)

/-- ITS FALSE NEIGHBOUR: 'it returns false'. Refute it at one input. -/
def pathsOrderWrong : ChangeSpec := { name := "pathsOrder", fn := fun _ => fun
  | [d1, d2, d3] => { results := [.lit (.bool false)], args := [d1, d2, d3] }
  | _ => none }
def PathsOrderWrongFalsely : Prop := pathsOrderRow.holds Try.pinned (OpenSpec.ofChange pathsOrderWrong)

/-- 'graftbedlaw01.PathsUnder': WHATEVER THE INPUT: true; the input reads as it did. -/
def pathsUnderSpec : ChangeSpec := { name := "pathsUnder", fn := fun _ => fun
  | [d1, d2, d3] => { results := [.lit (.bool true)], args := [d1, d2, d3] }
  | _ => none }
def pathsUnderRow : OpenClaim := { program := "ythiecbkkbiejjaa", sum := "29a7c449ef796246319efdb957f20fe935ec38cd0bb025e2f7c3de0fced0e04f", func := "graftbed/graftbedlaw01.PathsUnder", spec := "pathsUnder", inPlace := ["internal/bytealg.IndexByteString", "internal/bytealg.IndexString"], unfollowed := true, recurses := true, named := ["internal/bytealg.MaxLen"], apart := false }
def PathsUnderSaid : Prop := pathsUnderRow.holds Try.pinned (OpenSpec.ofChange pathsUnderSpec)

/-- ITS FALSE NEIGHBOUR: 'it returns false'. Refute it at one input. -/
def pathsUnderWrong : ChangeSpec := { name := "pathsUnder", fn := fun _ => fun
  | [d1, d2, d3] => { results := [.lit (.bool false)], args := [d1, d2, d3] }
  | _ => none }
def PathsUnderWrongFalsely : Prop := pathsUnderRow.holds Try.pinned (OpenSpec.ofChange pathsUnderWrong)

/-- 'graftbedlaw01.PathsWithin': WHATEVER THE INPUT: true; the input reads as it did. -/
def pathsWithinSpec : ChangeSpec := { name := "pathsWithin", fn := fun _ => fun
  | [d1, d2] => { results := [.lit (.bool true)], args := [d1, d2] }
  | _ => none }
def pathsWithinRow : OpenClaim := { program := "ythiecbkkbiejjaa", sum := "29a7c449ef796246319efdb957f20fe935ec38cd0bb025e2f7c3de0fced0e04f", func := "graftbed/graftbedlaw01.PathsWithin", spec := "pathsWithin", inPlace := ["internal/bytealg.IndexByteString", "internal/bytealg.IndexString"], unfollowed := true, recurses := true, named := ["internal/bytealg.MaxLen"], apart := false }
def PathsWithinSaid : Prop := pathsWithinRow.holds Try.pinned (OpenSpec.ofChange pathsWithinSpec)

/-- ITS FALSE NEIGHBOUR: 'it returns false'. Refute it at one input. -/
def pathsWithinWrong : ChangeSpec := { name := "pathsWithin", fn := fun _ => fun
  | [d1, d2] => { results := [.lit (.bool false)], args := [d1, d2] }
  | _ => none }
def PathsWithinWrongFalsely : Prop := pathsWithinRow.holds Try.pinned (OpenSpec.ofChange pathsWithinWrong)

/-- 'graftbedlaw01.PathsNear': WHATEVER THE INPUT: true; the input reads as it did. -/
def pathsNearSpec : ChangeSpec := { name := "pathsNear", fn := fun _ => fun
  | [d1, d2, d3, d4] => { results := [.lit (.bool true)], args := [d1, d2, d3, d4] }
  | _ => none }
def pathsNearRow : OpenClaim := { program := "ythiecbkkbiejjaa", sum := "29a7c449ef796246319efdb957f20fe935ec38cd0bb025e2f7c3de0fced0e04f", func := "graftbed/graftbedlaw01.PathsNear", spec := "pathsNear", inPlace := ["internal/bytealg.IndexByteString", "internal/bytealg.IndexString"], unfollowed := true, recurses := true, named := ["internal/bytealg.MaxLen"], apart := false }
def PathsNearSaid : Prop := pathsNearRow.holds Try.pinned (OpenSpec.ofChange pathsNearSpec)

/-- ITS FALSE NEIGHBOUR: 'it returns false'. Refute it at one input. -/
def pathsNearWrong : ChangeSpec := { name := "pathsNear", fn := fun _ => fun
  | [d1, d2, d3, d4] => { results := [.lit (.bool false)], args := [d1, d2, d3, d4] }
  | _ => none }
def PathsNearWrongFalsely : Prop := pathsNearRow.holds Try.pinned (OpenSpec.ofChange pathsNearWrong)

/-- 'graftbedlaw01.PathsCleans': WHATEVER THE INPUT: true; the input reads as it did. -/
def pathsCleansSpec : ChangeSpec := { name := "pathsCleans", fn := fun _ => fun
  | [d] => { results := [.lit (.bool true)], args := [d] }
  | _ => none }
def pathsCleansRow : OpenClaim := { program := "ythiecbkkbiejjaa", sum := "29a7c449ef796246319efdb957f20fe935ec38cd0bb025e2f7c3de0fced0e04f", func := "graftbed/graftbedlaw01.PathsCleans", spec := "pathsCleans", inPlace := ["internal/bytealg.IndexByteString", "internal/bytealg.IndexString", "internal/abi.NoEscape", "internal/bytealg.MakeNoZero"], unfollowed := true, recurses := true, named := ["internal/bytealg.MaxLen"], apart := false }
def PathsCleansSaid : Prop := pathsCleansRow.holds Try.pinned (OpenSpec.ofChange pathsCleansSpec)

/-- ITS FALSE NEIGHBOUR: 'it returns false'. Refute it at one input. -/
def pathsCleansWrong : ChangeSpec := { name := "pathsCleans", fn := fun _ => fun
  | [d] => { results := [.lit (.bool false)], args := [d] }
  | _ => none }
def PathsCleansWrongFalsely : Prop := pathsCleansRow.holds Try.pinned (OpenSpec.ofChange pathsCleansWrong)

/- THE SECOND FORM. 'bulk': how many values and letters a reading holds, each counted each time it is reached (what is shared counts as often as it is met; a slice's spare places count too). A statement '..UptoSaid' is the law's where the arguments, and the package variables that the reading takes, are together of bulk at most 1048576: NARROWER than '..Said'. Prove '..Said' where nothing that the law and all that it calls make is longer than what came in: it says more and counts as full. Else prove '..UptoSaid'. A law counts once. -/
mutual
def uptoBulk {H : Type} : DataW H → Nat
  | .lit (.string bytes) => bytes.length + 1
  | .lit _ => 1
  | .nil => 1
  | .ptr d => uptoBulk d + 1
  | .slice elems spare => uptoBulkAll elems + uptoBulkAll spare + 1
  | .agg parts => uptoBulkAll parts + 1
  | .iface _ d => uptoBulk d + 1
  | .map entries => uptoBulkEntries entries + 1
  | .held _ => 1
def uptoBulkAll {H : Type} : List (DataW H) → Nat
  | [] => 0
  | d :: r => uptoBulk d + uptoBulkAll r
def uptoBulkEntries {H : Type} : List (Lit × DataW H) → Nat
  | [] => 0
  | x :: r => uptoBulkEntry x + uptoBulkEntries r
def uptoBulkEntry {H : Type} : Lit × DataW H → Nat
  | (.string bytes, d) => bytes.length + uptoBulk d + 1
  | (_, d) => uptoBulk d + 1
 end
def uptoSmall : (H : Type) → List (DataW H) → Bool := fun _ ds => decide (uptoBulkAll ds ≤ 1048576)
def OpenSpec.upto (s : _root_.Go.ChangeSpec) : _root_.Go.OpenSpec := { _root_.Go.OpenSpec.ofChange s with cond := some uptoSmall }

/-- 'graftbedlaw01.PathsJoins', WHERE WHAT IT READS IS OF BULK AT MOST 1048576: true; the input reads as it did. -/
def pathsJoinsUptoRow : OpenClaim := { program := "ythiecbkkbiejjaa", sum := "29a7c449ef796246319efdb957f20fe935ec38cd0bb025e2f7c3de0fced0e04f", func := "graftbed/graftbedlaw01.PathsJoins", spec := "pathsJoins", apart := false, narrowed := true }
def PathsJoinsUptoSaid : Prop := pathsJoinsUptoRow.holds Try.pinned (OpenSpec.upto pathsJoinsSpec)

/-- 'graftbedlaw01.PathsElems', WHERE WHAT IT READS IS OF BULK AT MOST 1048576: true; the input reads as it did. -/
def pathsElemsUptoRow : OpenClaim := { program := "ythiecbkkbiejjaa", sum := "29a7c449ef796246319efdb957f20fe935ec38cd0bb025e2f7c3de0fced0e04f", func := "graftbed/graftbedlaw01.PathsElems", spec := "pathsElems", inPlace := ["internal/bytealg.IndexByteString", "internal/bytealg.IndexString"], unfollowed := true, recurses := true, named := ["internal/bytealg.MaxLen"], apart := false, narrowed := true }
def PathsElemsUptoSaid : Prop := pathsElemsUptoRow.holds Try.pinned (OpenSpec.upto pathsElemsSpec)

/-- 'graftbedlaw01.PathsOrder', WHERE WHAT IT READS IS OF BULK AT MOST 1048576: true; the input reads as it did. -/
def pathsOrderUptoRow : OpenClaim := { program := "ythiecbkkbiejjaa", sum := "29a7c449ef796246319efdb957f20fe935ec38cd0bb025e2f7c3de0fced0e04f", func := "graftbed/graftbedlaw01.PathsOrder", spec := "pathsOrder", inPlace := ["internal/bytealg.IndexByteString", "internal/bytealg.IndexString"], unfollowed := true, recurses := true, named := ["internal/bytealg.MaxLen"], apart := false, narrowed := true }
def PathsOrderUptoSaid : Prop := pathsOrderUptoRow.holds Try.pinned (OpenSpec.upto pathsOrderSpec)

/-- 'graftbedlaw01.PathsUnder', WHERE WHAT IT READS IS OF BULK AT MOST 1048576: true; the input reads as it did. -/
def pathsUnderUptoRow : OpenClaim := { program := "ythiecbkkbiejjaa", sum := "29a7c449ef796246319efdb957f20fe935ec38cd0bb025e2f7c3de0fced0e04f", func := "graftbed/graftbedlaw01.PathsUnder", spec := "pathsUnder", inPlace := ["internal/bytealg.IndexByteString", "internal/bytealg.IndexString"], unfollowed := true, recurses := true, named := ["internal/bytealg.MaxLen"], apart := false, narrowed := true }
def PathsUnderUptoSaid : Prop := pathsUnderUptoRow.holds Try.pinned (OpenSpec.upto pathsUnderSpec)

/-- 'graftbedlaw01.PathsWithin', WHERE WHAT IT READS IS OF BULK AT MOST 1048576: true; the input reads as it did. -/
def pathsWithinUptoRow : OpenClaim := { program := "ythiecbkkbiejjaa", sum := "29a7c449ef796246319efdb957f20fe935ec38cd0bb025e2f7c3de0fced0e04f", func := "graftbed/graftbedlaw01.PathsWithin", spec := "pathsWithin", inPlace := ["internal/bytealg.IndexByteString", "internal/bytealg.IndexString"], unfollowed := true, recurses := true, named := ["internal/bytealg.MaxLen"], apart := false, narrowed := true }
def PathsWithinUptoSaid : Prop := pathsWithinUptoRow.holds Try.pinned (OpenSpec.upto pathsWithinSpec)

/-- 'graftbedlaw01.PathsNear', WHERE WHAT IT READS IS OF BULK AT MOST 1048576: true; the input reads as it did. -/
def pathsNearUptoRow : OpenClaim := { program := "ythiecbkkbiejjaa", sum := "29a7c449ef796246319efdb957f20fe935ec38cd0bb025e2f7c3de0fced0e04f", func := "graftbed/graftbedlaw01.PathsNear", spec := "pathsNear", inPlace := ["internal/bytealg.IndexByteString", "internal/bytealg.IndexString"], unfollowed := true, recurses := true, named := ["internal/bytealg.MaxLen"], apart := false, narrowed := true }
def PathsNearUptoSaid : Prop := pathsNearUptoRow.holds Try.pinned (OpenSpec.upto pathsNearSpec)

/-- 'graftbedlaw01.PathsCleans', WHERE WHAT IT READS IS OF BULK AT MOST 1048576: true; the input reads as it did. -/
def pathsCleansUptoRow : OpenClaim := { program := "ythiecbkkbiejjaa", sum := "29a7c449ef796246319efdb957f20fe935ec38cd0bb025e2f7c3de0fced0e04f", func := "graftbed/graftbedlaw01.PathsCleans", spec := "pathsCleans", inPlace := ["internal/bytealg.IndexByteString", "internal/bytealg.IndexString", "internal/abi.NoEscape", "internal/bytealg.MakeNoZero"], unfollowed := true, recurses := true, named := ["internal/bytealg.MaxLen"], apart := false, narrowed := true }
def PathsCleansUptoSaid : Prop := pathsCleansUptoRow.holds Try.pinned (OpenSpec.upto pathsCleansSpec)

end Rows
end Go.Proofs.Ythiecbkkbiejjaa
