/-
  NARROWER THAN 'FOR EVERY INPUT', by the rows' own cells (each row's printed sentence says how): ExprMay: laid · ExprEither: laid · ExprLogic: laid · ExprTurns: laid · PlusLines: laid · PlusMeans: laid · PlusJoined: laid · PlusPrints: laid.
  DERIVED. THE GIVEN ROWS OF THIS SEAT. 8 by the template 'for every input the law returns true; each argument reads behind the call as it read before'; 0 by the template 'total and deterministic' (their statements: YtjndccjpjknbkaaDoorTotals.lean).
  GIVEN WITH THE SEED: the statements are not yours to turn. If you find one false, say at which input.
  Laid BY PROGRAM, IN A SANDBOX (cutbox-rows.mjs): the forced cells as the released guide's own fill.sh prints them over the translation 463a3065511f3492… (all of the seat's roots in one cut). By AI agents, Wed Nov 11 2026. No macro, syntax, notation, axiom, sorry.
-/
import Derived.Test.YtjndccjpjknbkaaDoorChecked
import GoSem.PinnedTables
import GoSem.Claim
import GoSem.ClaimJoined
import GoSem.ClaimMapViews
import Derived.JoinedTies
import Derived.KernelRfl
namespace Go.Proofs.YtjndccjpjknbkaaDoor
/- THE CELL 'sum', in the pinned program and in every row, IS THE sha256 OF THE DUMP (.gsa) THAT YtjndccjpjknbkaaDoorProg.lean LOADS. Nothing in Lean hashes anything: it is a label: what it is worth is what the hold of that sum in a sandbox is worth. -/
noncomputable def Tryd.pinned : Pinned := { name := "ytjndccjpjknbkaadoor", sum := "463a3065511f34928b7538973824d356319ddf6c3eeb09fbf2a2e708530a304e", checked := Tryd.checked }
namespace Rows
def none {H : Type} : Left H := { results := [], args := [] }

/- WHAT THE LISTED PACKAGE-LEVEL VARIABLES READ AS WHEN THE CALL BEGINS. Each datum BY PROGRAM (the guide's laid-datum.mjs) off the statement by which the dump's own 'gosem.cut.vars' lays the variable. In a bare row this is a premise. The card (YtjndccjpjknbkaaDoorCards.lean) ties it to the program's text. -/
def laid_unicode_utf8_acceptRanges {H : Type} : DataW H := .agg [.agg [.lit (.int .u8 128), .lit (.int .u8 191)], .agg [.lit (.int .u8 160), .lit (.int .u8 191)], .agg [.lit (.int .u8 128), .lit (.int .u8 159)], .agg [.lit (.int .u8 144), .lit (.int .u8 191)], .agg [.lit (.int .u8 128), .lit (.int .u8 143)], .agg [.lit (.int .u8 0), .lit (.int .u8 0)], .agg [.lit (.int .u8 0), .lit (.int .u8 0)], .agg [.lit (.int .u8 0), .lit (.int .u8 0)], .agg [.lit (.int .u8 0), .lit (.int .u8 0)], .agg [.lit (.int .u8 0), .lit (.int .u8 0)], .agg [.lit (.int .u8 0), .lit (.int .u8 0)], .agg [.lit (.int .u8 0), .lit (.int .u8 0)], .agg [.lit (.int .u8 0), .lit (.int .u8 0)], .agg [.lit (.int .u8 0), .lit (.int .u8 0)], .agg [.lit (.int .u8 0), .lit (.int .u8 0)], .agg [.lit (.int .u8 0), .lit (.int .u8 0)]]
/-- One of Go's own tables, pinned by name: the form's constant. -/
def laid_unicode_utf8_first : DataW Unit := Go.Pinned.utf8First

/-- 'graftbedlaw12.ExprMay': WHATEVER THE INPUT: true; the input reads as it did. -/
def exprMaySpec : ChangeSpec := { name := "exprMay", fn := fun _ => fun
  | [d1, d2] => { results := [.lit (.bool true)], args := [d1, d2] }
  | _ => none }
def exprMayRow : OpenClaim := { program := "ytjndccjpjknbkaadoor", sum := "463a3065511f34928b7538973824d356319ddf6c3eeb09fbf2a2e708530a304e", func := "graftbed/graftbedlaw12.ExprMay", spec := "exprMay", inPlace := ["internal/bytealg.IndexByteString", "internal/bytealg.IndexString"], unfollowed := true, recurses := true, named := ["unicode/utf8.first", "unicode/utf8.acceptRanges", "internal/bytealg.MaxLen"], apart := false, laid := [("unicode/utf8.acceptRanges", laid_unicode_utf8_acceptRanges), ("unicode/utf8.first", laid_unicode_utf8_first)] }
def ExprMaySaid : Prop := exprMayRow.holds Tryd.pinned (OpenSpec.ofChange exprMaySpec)

/-- ITS FALSE NEIGHBOUR: 'it returns false'. Refute it at one input. -/
def exprMayWrong : ChangeSpec := { name := "exprMay", fn := fun _ => fun
  | [d1, d2] => { results := [.lit (.bool false)], args := [d1, d2] }
  | _ => none }
def ExprMayWrongFalsely : Prop := exprMayRow.holds Tryd.pinned (OpenSpec.ofChange exprMayWrong)

/-- 'graftbedlaw12.ExprEither': WHATEVER THE INPUT: true; the input reads as it did. -/
def exprEitherSpec : ChangeSpec := { name := "exprEither", fn := fun _ => fun
  | [d1, d2, d3] => { results := [.lit (.bool true)], args := [d1, d2, d3] }
  | _ => none }
def exprEitherRow : OpenClaim := { program := "ytjndccjpjknbkaadoor", sum := "463a3065511f34928b7538973824d356319ddf6c3eeb09fbf2a2e708530a304e", func := "graftbed/graftbedlaw12.ExprEither", spec := "exprEither", inPlace := ["internal/bytealg.IndexByteString", "internal/bytealg.IndexString"], unfollowed := true, recurses := true, named := ["unicode/utf8.first", "unicode/utf8.acceptRanges", "internal/bytealg.MaxLen"], apart := false, laid := [("unicode/utf8.acceptRanges", laid_unicode_utf8_acceptRanges), ("unicode/utf8.first", laid_unicode_utf8_first)] }
def ExprEitherSaid : Prop := exprEitherRow.holds Tryd.pinned (OpenSpec.ofChange exprEitherSpec)

/-- ITS FALSE NEIGHBOUR: 'it returns false'. Refute it at one input. -/
def exprEitherWrong : ChangeSpec := { name := "exprEither", fn := fun _ => fun
  | [d1, d2, d3] => { results := [.lit (.bool false)], args := [d1, d2, d3] }
  | _ => none }
def ExprEitherWrongFalsely : Prop := exprEitherRow.holds Tryd.pinned (OpenSpec.ofChange exprEitherWrong)

/-- 'graftbedlaw12.ExprLogic': WHATEVER THE INPUT: true; the input reads as it did. -/
def exprLogicSpec : ChangeSpec := { name := "exprLogic", fn := fun _ => fun
  | [d1, d2, d3] => { results := [.lit (.bool true)], args := [d1, d2, d3] }
  | _ => none }
def exprLogicRow : OpenClaim := { program := "ytjndccjpjknbkaadoor", sum := "463a3065511f34928b7538973824d356319ddf6c3eeb09fbf2a2e708530a304e", func := "graftbed/graftbedlaw12.ExprLogic", spec := "exprLogic", inPlace := ["internal/bytealg.IndexByteString", "internal/bytealg.IndexString"], unfollowed := true, recurses := true, named := ["unicode/utf8.first", "unicode/utf8.acceptRanges", "internal/bytealg.MaxLen"], apart := false, laid := [("unicode/utf8.acceptRanges", laid_unicode_utf8_acceptRanges), ("unicode/utf8.first", laid_unicode_utf8_first)] }
def ExprLogicSaid : Prop := exprLogicRow.holds Tryd.pinned (OpenSpec.ofChange exprLogicSpec)

/-- ITS FALSE NEIGHBOUR: 'it returns false'. Refute it at one input. -/
def exprLogicWrong : ChangeSpec := { name := "exprLogic", fn := fun _ => fun
  | [d1, d2, d3] => { results := [.lit (.bool false)], args := [d1, d2, d3] }
  | _ => none }
def ExprLogicWrongFalsely : Prop := exprLogicRow.holds Tryd.pinned (OpenSpec.ofChange exprLogicWrong)

/-- 'graftbedlaw12.ExprTurns': WHATEVER THE INPUT: true; the input reads as it did. -/
def exprTurnsSpec : ChangeSpec := { name := "exprTurns", fn := fun _ => fun
  | [d1, d2, d3] => { results := [.lit (.bool true)], args := [d1, d2, d3] }
  | _ => none }
def exprTurnsRow : OpenClaim := { program := "ytjndccjpjknbkaadoor", sum := "463a3065511f34928b7538973824d356319ddf6c3eeb09fbf2a2e708530a304e", func := "graftbed/graftbedlaw12.ExprTurns", spec := "exprTurns", inPlace := ["internal/bytealg.IndexByteString", "internal/bytealg.IndexString"], unfollowed := true, recurses := true, named := ["unicode/utf8.first", "unicode/utf8.acceptRanges", "internal/bytealg.MaxLen"], apart := false, laid := [("unicode/utf8.acceptRanges", laid_unicode_utf8_acceptRanges), ("unicode/utf8.first", laid_unicode_utf8_first)] }
def ExprTurnsSaid : Prop := exprTurnsRow.holds Tryd.pinned (OpenSpec.ofChange exprTurnsSpec)

/-- ITS FALSE NEIGHBOUR: 'it returns false'. Refute it at one input. -/
def exprTurnsWrong : ChangeSpec := { name := "exprTurns", fn := fun _ => fun
  | [d1, d2, d3] => { results := [.lit (.bool false)], args := [d1, d2, d3] }
  | _ => none }
def ExprTurnsWrongFalsely : Prop := exprTurnsRow.holds Tryd.pinned (OpenSpec.ofChange exprTurnsWrong)

/-- 'graftbedlaw13.PlusLines': WHATEVER THE INPUT: true; the input reads as it did. -/
def plusLinesSpec : ChangeSpec := { name := "plusLines", fn := fun _ => fun
  | [d1, d2] => { results := [.lit (.bool true)], args := [d1, d2] }
  | _ => none }
def plusLinesRow : OpenClaim := { program := "ytjndccjpjknbkaadoor", sum := "463a3065511f34928b7538973824d356319ddf6c3eeb09fbf2a2e708530a304e", func := "graftbed/graftbedlaw13.PlusLines", spec := "plusLines", inPlace := ["internal/bytealg.CountString", "internal/bytealg.IndexByteString", "internal/bytealg.IndexString"], unfollowed := true, recurses := true, named := ["unicode/utf8.first", "unicode/utf8.acceptRanges", "internal/bytealg.MaxLen"], apart := false, laid := [("unicode/utf8.acceptRanges", laid_unicode_utf8_acceptRanges), ("unicode/utf8.first", laid_unicode_utf8_first)] }
def PlusLinesSaid : Prop := plusLinesRow.holds Tryd.pinned (OpenSpec.ofChange plusLinesSpec)

/-- ITS FALSE NEIGHBOUR: 'it returns false'. Refute it at one input. -/
def plusLinesWrong : ChangeSpec := { name := "plusLines", fn := fun _ => fun
  | [d1, d2] => { results := [.lit (.bool false)], args := [d1, d2] }
  | _ => none }
def PlusLinesWrongFalsely : Prop := plusLinesRow.holds Tryd.pinned (OpenSpec.ofChange plusLinesWrong)

/-- 'graftbedlaw13.PlusMeans': WHATEVER THE INPUT: true; the input reads as it did. -/
def plusMeansSpec : ChangeSpec := { name := "plusMeans", fn := fun _ => fun
  | [d1, d2] => { results := [.lit (.bool true)], args := [d1, d2] }
  | _ => none }
def plusMeansRow : OpenClaim := { program := "ytjndccjpjknbkaadoor", sum := "463a3065511f34928b7538973824d356319ddf6c3eeb09fbf2a2e708530a304e", func := "graftbed/graftbedlaw13.PlusMeans", spec := "plusMeans", inPlace := ["internal/bytealg.CountString", "internal/bytealg.IndexByteString", "internal/bytealg.IndexString"], unfollowed := true, recurses := true, named := ["unicode/utf8.first", "unicode/utf8.acceptRanges", "internal/bytealg.MaxLen"], apart := false, laid := [("unicode/utf8.acceptRanges", laid_unicode_utf8_acceptRanges), ("unicode/utf8.first", laid_unicode_utf8_first)] }
def PlusMeansSaid : Prop := plusMeansRow.holds Tryd.pinned (OpenSpec.ofChange plusMeansSpec)

/-- ITS FALSE NEIGHBOUR: 'it returns false'. Refute it at one input. -/
def plusMeansWrong : ChangeSpec := { name := "plusMeans", fn := fun _ => fun
  | [d1, d2] => { results := [.lit (.bool false)], args := [d1, d2] }
  | _ => none }
def PlusMeansWrongFalsely : Prop := plusMeansRow.holds Tryd.pinned (OpenSpec.ofChange plusMeansWrong)

/-- 'graftbedlaw13.PlusJoined': WHATEVER THE INPUT: true; the input reads as it did. -/
def plusJoinedSpec : ChangeSpec := { name := "plusJoined", fn := fun _ => fun
  | [d1, d2, d3] => { results := [.lit (.bool true)], args := [d1, d2, d3] }
  | _ => none }
def plusJoinedRow : OpenClaim := { program := "ytjndccjpjknbkaadoor", sum := "463a3065511f34928b7538973824d356319ddf6c3eeb09fbf2a2e708530a304e", func := "graftbed/graftbedlaw13.PlusJoined", spec := "plusJoined", inPlace := ["internal/bytealg.CountString", "internal/bytealg.IndexByteString", "internal/bytealg.IndexString"], unfollowed := true, recurses := true, named := ["unicode/utf8.first", "unicode/utf8.acceptRanges", "internal/bytealg.MaxLen"], apart := false, laid := [("unicode/utf8.acceptRanges", laid_unicode_utf8_acceptRanges), ("unicode/utf8.first", laid_unicode_utf8_first)] }
def PlusJoinedSaid : Prop := plusJoinedRow.holds Tryd.pinned (OpenSpec.ofChange plusJoinedSpec)

/-- ITS FALSE NEIGHBOUR: 'it returns false'. Refute it at one input. -/
def plusJoinedWrong : ChangeSpec := { name := "plusJoined", fn := fun _ => fun
  | [d1, d2, d3] => { results := [.lit (.bool false)], args := [d1, d2, d3] }
  | _ => none }
def PlusJoinedWrongFalsely : Prop := plusJoinedRow.holds Tryd.pinned (OpenSpec.ofChange plusJoinedWrong)

/-- 'graftbedlaw13.PlusPrints': WHATEVER THE INPUT: true; the input reads as it did. -/
def plusPrintsSpec : ChangeSpec := { name := "plusPrints", fn := fun _ => fun
  | [d1, d2] => { results := [.lit (.bool true)], args := [d1, d2] }
  | _ => none }
def plusPrintsRow : OpenClaim := { program := "ytjndccjpjknbkaadoor", sum := "463a3065511f34928b7538973824d356319ddf6c3eeb09fbf2a2e708530a304e", func := "graftbed/graftbedlaw13.PlusPrints", spec := "plusPrints", inPlace := ["internal/bytealg.CountString", "internal/bytealg.IndexByteString", "internal/bytealg.IndexString", "internal/abi.NoEscape", "internal/bytealg.MakeNoZero"], unfollowed := true, recurses := true, named := ["unicode/utf8.first", "unicode/utf8.acceptRanges", "internal/bytealg.MaxLen"], apart := false, laid := [("unicode/utf8.acceptRanges", laid_unicode_utf8_acceptRanges), ("unicode/utf8.first", laid_unicode_utf8_first)] }
def PlusPrintsSaid : Prop := plusPrintsRow.holds Tryd.pinned (OpenSpec.ofChange plusPrintsSpec)

/-- ITS FALSE NEIGHBOUR: 'it returns false'. Refute it at one input. -/
def plusPrintsWrong : ChangeSpec := { name := "plusPrints", fn := fun _ => fun
  | [d1, d2] => { results := [.lit (.bool false)], args := [d1, d2] }
  | _ => none }
def PlusPrintsWrongFalsely : Prop := plusPrintsRow.holds Tryd.pinned (OpenSpec.ofChange plusPrintsWrong)

/- THE SECOND FORM. 'bulk': how many values and letters a reading holds, each counted each time it is reached (what is shared counts as often as it is met; a slice's spare places count too). A statement '..UptoSaid' is the law's where the arguments, and the package variables that the reading takes, are together of bulk at most 1048576: NARROWER than '..Said'. Prove '..Said' where nothing that the law and all that it calls make is longer than what came in: it says more and counts as full. Else prove '..UptoSaid'. A law counts once. -/
mutual
def uptoBulk {H : Type} : DataW H → Nat
  | .lit (.string bytes) => bytes.length + 1
  | .lit _ => 1
  | .nil => 1
  | .ptr d => uptoBulk d + 1
  | .slice elems spare => uptoBulkAll elems + uptoBulkAll spare + 1
  | .agg parts => uptoBulkAll parts + 1
  | .iface _ d => uptoBulk d + 1
  | .map entries => uptoBulkEntries entries + 1
  | .held _ => 1
def uptoBulkAll {H : Type} : List (DataW H) → Nat
  | [] => 0
  | d :: r => uptoBulk d + uptoBulkAll r
def uptoBulkEntries {H : Type} : List (Lit × DataW H) → Nat
  | [] => 0
  | x :: r => uptoBulkEntry x + uptoBulkEntries r
def uptoBulkEntry {H : Type} : Lit × DataW H → Nat
  | (.string bytes, d) => bytes.length + uptoBulk d + 1
  | (_, d) => uptoBulk d + 1
 end
def uptoSmall : (H : Type) → List (DataW H) → Bool := fun _ ds => decide (uptoBulkAll ds ≤ 1048576)
def OpenSpec.upto (s : _root_.Go.ChangeSpec) : _root_.Go.OpenSpec := { _root_.Go.OpenSpec.ofChange s with cond := some uptoSmall }

/-- 'graftbedlaw12.ExprMay', WHERE WHAT IT READS IS OF BULK AT MOST 1048576: true; the input reads as it did. -/
def exprMayUptoRow : OpenClaim := { program := "ytjndccjpjknbkaadoor", sum := "463a3065511f34928b7538973824d356319ddf6c3eeb09fbf2a2e708530a304e", func := "graftbed/graftbedlaw12.ExprMay", spec := "exprMay", inPlace := ["internal/bytealg.IndexByteString", "internal/bytealg.IndexString"], unfollowed := true, recurses := true, named := ["unicode/utf8.first", "unicode/utf8.acceptRanges", "internal/bytealg.MaxLen"], apart := false, laid := [("unicode/utf8.acceptRanges", laid_unicode_utf8_acceptRanges), ("unicode/utf8.first", laid_unicode_utf8_first)], narrowed := true }
def ExprMayUptoSaid : Prop := exprMayUptoRow.holds Tryd.pinned (OpenSpec.upto exprMaySpec)

/-- 'graftbedlaw12.ExprEither', WHERE WHAT IT READS IS OF BULK AT MOST 1048576: true; the input reads as it did. -/
def exprEitherUptoRow : OpenClaim := { program := "ytjndccjpjknbkaadoor", sum := "463a3065511f34928b7538973824d356319ddf6c3eeb09fbf2a2e708530a304e", func := "graftbed/graftbedlaw12.ExprEither", spec := "exprEither", inPlace := ["internal/bytealg.IndexByteString", "internal/bytealg.IndexString"], unfollowed := true, recurses := true, named := ["unicode/utf8.first", "unicode/utf8.acceptRanges", "internal/bytealg.MaxLen"], apart := false, laid := [("unicode/utf8.acceptRanges", laid_unicode_utf8_acceptRanges), ("unicode/utf8.first", laid_unicode_utf8_first)], narrowed := true }
def ExprEitherUptoSaid : Prop := exprEitherUptoRow.holds Tryd.pinned (OpenSpec.upto exprEitherSpec)

/-- 'graftbedlaw12.ExprLogic', WHERE WHAT IT READS IS OF BULK AT MOST 1048576: true; the input reads as it did. -/
def exprLogicUptoRow : OpenClaim := { program := "ytjndccjpjknbkaadoor", sum := "463a3065511f34928b7538973824d356319ddf6c3eeb09fbf2a2e708530a304e", func := "graftbed/graftbedlaw12.ExprLogic", spec := "exprLogic", inPlace := ["internal/bytealg.IndexByteString", "internal/bytealg.IndexString"], unfollowed := true, recurses := true, named := ["unicode/utf8.first", "unicode/utf8.acceptRanges", "internal/bytealg.MaxLen"], apart := false, laid := [("unicode/utf8.acceptRanges", laid_unicode_utf8_acceptRanges), ("unicode/utf8.first", laid_unicode_utf8_first)], narrowed := true }
def ExprLogicUptoSaid : Prop := exprLogicUptoRow.holds Tryd.pinned (OpenSpec.upto exprLogicSpec)

/-- 'graftbedlaw12.ExprTurns', WHERE WHAT IT READS IS OF BULK AT MOST 1048576: true; the input reads as it did. -/
def exprTurnsUptoRow : OpenClaim := { program := "ytjndccjpjknbkaadoor", sum := "463a3065511f34928b7538973824d356319ddf6c3eeb09fbf2a2e708530a304e", func := "graftbed/graftbedlaw12.ExprTurns", spec := "exprTurns", inPlace := ["internal/bytealg.IndexByteString", "internal/bytealg.IndexString"], unfollowed := true, recurses := true, named := ["unicode/utf8.first", "unicode/utf8.acceptRanges", "internal/bytealg.MaxLen"], apart := false, laid := [("unicode/utf8.acceptRanges", laid_unicode_utf8_acceptRanges), ("unicode/utf8.first", laid_unicode_utf8_first)], narrowed := true }
def ExprTurnsUptoSaid : Prop := exprTurnsUptoRow.holds Tryd.pinned (OpenSpec.upto exprTurnsSpec)

/-- 'graftbedlaw13.PlusLines', WHERE WHAT IT READS IS OF BULK AT MOST 1048576: true; the input reads as it did. -/
def plusLinesUptoRow : OpenClaim := { program := "ytjndccjpjknbkaadoor", sum := "463a3065511f34928b7538973824d356319ddf6c3eeb09fbf2a2e708530a304e", func := "graftbed/graftbedlaw13.PlusLines", spec := "plusLines", inPlace := ["internal/bytealg.CountString", "internal/bytealg.IndexByteString", "internal/bytealg.IndexString"], unfollowed := true, recurses := true, named := ["unicode/utf8.first", "unicode/utf8.acceptRanges", "internal/bytealg.MaxLen"], apart := false, laid := [("unicode/utf8.acceptRanges", laid_unicode_utf8_acceptRanges), ("unicode/utf8.first", laid_unicode_utf8_first)], narrowed := true }
def PlusLinesUptoSaid : Prop := plusLinesUptoRow.holds Tryd.pinned (OpenSpec.upto plusLinesSpec)

/-- 'graftbedlaw13.PlusMeans', WHERE WHAT IT READS IS OF BULK AT MOST 1048576: true; the input reads as it did. -/
def plusMeansUptoRow : OpenClaim := { program := "ytjndccjpjknbkaadoor", sum := "463a3065511f34928b7538973824d356319ddf6c3eeb09fbf2a2e708530a304e", func := "graftbed/graftbedlaw13.PlusMeans", spec := "plusMeans", inPlace := ["internal/bytealg.CountString", "internal/bytealg.IndexByteString", "internal/bytealg.IndexString"], unfollowed := true, recurses := true, named := ["unicode/utf8.first", "unicode/utf8.acceptRanges", "internal/bytealg.MaxLen"], apart := false, laid := [("unicode/utf8.acceptRanges", laid_unicode_utf8_acceptRanges), ("unicode/utf8.first", laid_unicode_utf8_first)], narrowed := true }
def PlusMeansUptoSaid : Prop := plusMeansUptoRow.holds Tryd.pinned (OpenSpec.upto plusMeansSpec)

/-- 'graftbedlaw13.PlusJoined', WHERE WHAT IT READS IS OF BULK AT MOST 1048576: true; the input reads as it did. -/
def plusJoinedUptoRow : OpenClaim := { program := "ytjndccjpjknbkaadoor", sum := "463a3065511f34928b7538973824d356319ddf6c3eeb09fbf2a2e708530a304e", func := "graftbed/graftbedlaw13.PlusJoined", spec := "plusJoined", inPlace := ["internal/bytealg.CountString", "internal/bytealg.IndexByteString", "internal/bytealg.IndexString"], unfollowed := true, recurses := true, named := ["unicode/utf8.first", "unicode/utf8.acceptRanges", "internal/bytealg.MaxLen"], apart := false, laid := [("unicode/utf8.acceptRanges", laid_unicode_utf8_acceptRanges), ("unicode/utf8.first", laid_unicode_utf8_first)], narrowed := true }
def PlusJoinedUptoSaid : Prop := plusJoinedUptoRow.holds Tryd.pinned (OpenSpec.upto plusJoinedSpec)

/-- 'graftbedlaw13.PlusPrints', WHERE WHAT IT READS IS OF BULK AT MOST 1048576: true; the input reads as it did. -/
def plusPrintsUptoRow : OpenClaim := { program := "ytjndccjpjknbkaadoor", sum := "463a3065511f34928b7538973824d356319ddf6c3eeb09fbf2a2e708530a304e", func := "graftbed/graftbedlaw13.PlusPrints", spec := "plusPrints", inPlace := ["internal/bytealg.CountString", "internal/bytealg.IndexByteString", "internal/bytealg.IndexString", "internal/abi.NoEscape", "internal/bytealg.MakeNoZero"], unfollowed := true, recurses := true, named := ["unicode/utf8.first", "unicode/utf8.acceptRanges", "internal/bytealg.MaxLen"], apart := false, laid := [("unicode/utf8.acceptRanges", laid_unicode_utf8_acceptRanges), ("unicode/utf8.first", laid_unicode_utf8_first)], narrowed := true }
def PlusPrintsUptoSaid : Prop := plusPrintsUptoRow.holds Tryd.pinned (OpenSpec.upto plusPrintsSpec)

end Rows
end Go.Proofs.YtjndccjpjknbkaaDoor
