/-
  DERIVED. GIVEN WITH THE SEED: THE CARDS: each row of YtjndccjpjknbkaaDoorRows.lean that lists a variable, with what it lists TIED to the program's text (the seventh form; the later family's looks); each row that meets fmt, with fmt's text TOLD by the authors' own Lean function (tested against real Go, not proved from fmt's source: count such statements apart). THE CARD IS WHAT COUNTS. Prove the row's statement (the work); the ties are given (YtjndccjpjknbkaaDoorTie.lean); close each card by the builder's one call (the guide's Derived/Test/ToyasCard.lean, 'card_holds'). Laid BY PROGRAM, IN A SANDBOX (cutbox-door.mjs). By AI agents, Wed Nov 11 2026. No macro, syntax, notation, axiom, sorry.
-/
import Derived.Test.YtjndccjpjknbkaaDoorRows
import GoSem.ClaimSeven
namespace Go.Proofs.YtjndccjpjknbkaaDoor
namespace Rows

/-- THE TIED CARD OF 'graftbedlaw12.ExprMay'. -/
def exprMayCard : Claim7 := { stood := { row := exprMayRow, standIns := [], harness := (true, "76f857a5b61f807f33e1131fdc6e9e62f99ad7d78a61d3206e7d1e449a56a9ae"), looks := false }, kinds := [], alts := [], laidByText := true, laidKinds := [.data, .pinned], laidTests := true, laidLooks := .later }
def ExprMayCardSaid : Prop := Claim7.holds Tryd.pinned (.plain (OpenSpec.ofChange exprMaySpec)) exprMayCard

/-- THE TIED CARD OF 'graftbedlaw12.ExprEither'. -/
def exprEitherCard : Claim7 := { stood := { row := exprEitherRow, standIns := [], harness := (true, "76f857a5b61f807f33e1131fdc6e9e62f99ad7d78a61d3206e7d1e449a56a9ae"), looks := false }, kinds := [], alts := [], laidByText := true, laidKinds := [.data, .pinned], laidTests := true, laidLooks := .later }
def ExprEitherCardSaid : Prop := Claim7.holds Tryd.pinned (.plain (OpenSpec.ofChange exprEitherSpec)) exprEitherCard

/-- THE TIED CARD OF 'graftbedlaw12.ExprLogic'. -/
def exprLogicCard : Claim7 := { stood := { row := exprLogicRow, standIns := [], harness := (true, "76f857a5b61f807f33e1131fdc6e9e62f99ad7d78a61d3206e7d1e449a56a9ae"), looks := false }, kinds := [], alts := [], laidByText := true, laidKinds := [.data, .pinned], laidTests := true, laidLooks := .later }
def ExprLogicCardSaid : Prop := Claim7.holds Tryd.pinned (.plain (OpenSpec.ofChange exprLogicSpec)) exprLogicCard

/-- THE TIED CARD OF 'graftbedlaw12.ExprTurns'. -/
def exprTurnsCard : Claim7 := { stood := { row := exprTurnsRow, standIns := [], harness := (true, "76f857a5b61f807f33e1131fdc6e9e62f99ad7d78a61d3206e7d1e449a56a9ae"), looks := false }, kinds := [], alts := [], laidByText := true, laidKinds := [.data, .pinned], laidTests := true, laidLooks := .later }
def ExprTurnsCardSaid : Prop := Claim7.holds Tryd.pinned (.plain (OpenSpec.ofChange exprTurnsSpec)) exprTurnsCard

/-- THE TIED CARD OF 'graftbedlaw13.PlusLines'. -/
def plusLinesCard : Claim7 := { stood := { row := plusLinesRow, standIns := [], harness := (true, "76f857a5b61f807f33e1131fdc6e9e62f99ad7d78a61d3206e7d1e449a56a9ae"), looks := false }, kinds := [], alts := [], laidByText := true, laidKinds := [.data, .pinned], laidTests := true, laidLooks := .later }
def PlusLinesCardSaid : Prop := Claim7.holds Tryd.pinned (.plain (OpenSpec.ofChange plusLinesSpec)) plusLinesCard

/-- THE TIED CARD OF 'graftbedlaw13.PlusMeans'. -/
def plusMeansCard : Claim7 := { stood := { row := plusMeansRow, standIns := [], harness := (true, "76f857a5b61f807f33e1131fdc6e9e62f99ad7d78a61d3206e7d1e449a56a9ae"), looks := false }, kinds := [], alts := [], laidByText := true, laidKinds := [.data, .pinned], laidTests := true, laidLooks := .later }
def PlusMeansCardSaid : Prop := Claim7.holds Tryd.pinned (.plain (OpenSpec.ofChange plusMeansSpec)) plusMeansCard

/-- THE TIED CARD OF 'graftbedlaw13.PlusJoined'. -/
def plusJoinedCard : Claim7 := { stood := { row := plusJoinedRow, standIns := [], harness := (true, "76f857a5b61f807f33e1131fdc6e9e62f99ad7d78a61d3206e7d1e449a56a9ae"), looks := false }, kinds := [], alts := [], laidByText := true, laidKinds := [.data, .pinned], laidTests := true, laidLooks := .later }
def PlusJoinedCardSaid : Prop := Claim7.holds Tryd.pinned (.plain (OpenSpec.ofChange plusJoinedSpec)) plusJoinedCard

/-- THE TIED CARD OF 'graftbedlaw13.PlusPrints'. -/
def plusPrintsCard : Claim7 := { stood := { row := plusPrintsRow, standIns := [], harness := (true, "76f857a5b61f807f33e1131fdc6e9e62f99ad7d78a61d3206e7d1e449a56a9ae"), looks := false }, kinds := [], alts := [], laidByText := true, laidKinds := [.data, .pinned], laidTests := true, laidLooks := .later }
def PlusPrintsCardSaid : Prop := Claim7.holds Tryd.pinned (.plain (OpenSpec.ofChange plusPrintsSpec)) plusPrintsCard

/-- THE SECOND FORM's CARD OF 'graftbedlaw12.ExprMay'. -/
def exprMayUptoCard : Claim7 := { stood := { row := exprMayUptoRow, standIns := [], harness := (true, "76f857a5b61f807f33e1131fdc6e9e62f99ad7d78a61d3206e7d1e449a56a9ae"), looks := false }, kinds := [], alts := [], laidByText := true, laidKinds := [.data, .pinned], laidTests := true, laidLooks := .later }
def ExprMayUptoCardSaid : Prop := Claim7.holds Tryd.pinned (.plain (OpenSpec.upto exprMaySpec)) exprMayUptoCard

/-- THE SECOND FORM's CARD OF 'graftbedlaw12.ExprEither'. -/
def exprEitherUptoCard : Claim7 := { stood := { row := exprEitherUptoRow, standIns := [], harness := (true, "76f857a5b61f807f33e1131fdc6e9e62f99ad7d78a61d3206e7d1e449a56a9ae"), looks := false }, kinds := [], alts := [], laidByText := true, laidKinds := [.data, .pinned], laidTests := true, laidLooks := .later }
def ExprEitherUptoCardSaid : Prop := Claim7.holds Tryd.pinned (.plain (OpenSpec.upto exprEitherSpec)) exprEitherUptoCard

/-- THE SECOND FORM's CARD OF 'graftbedlaw12.ExprLogic'. -/
def exprLogicUptoCard : Claim7 := { stood := { row := exprLogicUptoRow, standIns := [], harness := (true, "76f857a5b61f807f33e1131fdc6e9e62f99ad7d78a61d3206e7d1e449a56a9ae"), looks := false }, kinds := [], alts := [], laidByText := true, laidKinds := [.data, .pinned], laidTests := true, laidLooks := .later }
def ExprLogicUptoCardSaid : Prop := Claim7.holds Tryd.pinned (.plain (OpenSpec.upto exprLogicSpec)) exprLogicUptoCard

/-- THE SECOND FORM's CARD OF 'graftbedlaw12.ExprTurns'. -/
def exprTurnsUptoCard : Claim7 := { stood := { row := exprTurnsUptoRow, standIns := [], harness := (true, "76f857a5b61f807f33e1131fdc6e9e62f99ad7d78a61d3206e7d1e449a56a9ae"), looks := false }, kinds := [], alts := [], laidByText := true, laidKinds := [.data, .pinned], laidTests := true, laidLooks := .later }
def ExprTurnsUptoCardSaid : Prop := Claim7.holds Tryd.pinned (.plain (OpenSpec.upto exprTurnsSpec)) exprTurnsUptoCard

/-- THE SECOND FORM's CARD OF 'graftbedlaw13.PlusLines'. -/
def plusLinesUptoCard : Claim7 := { stood := { row := plusLinesUptoRow, standIns := [], harness := (true, "76f857a5b61f807f33e1131fdc6e9e62f99ad7d78a61d3206e7d1e449a56a9ae"), looks := false }, kinds := [], alts := [], laidByText := true, laidKinds := [.data, .pinned], laidTests := true, laidLooks := .later }
def PlusLinesUptoCardSaid : Prop := Claim7.holds Tryd.pinned (.plain (OpenSpec.upto plusLinesSpec)) plusLinesUptoCard

/-- THE SECOND FORM's CARD OF 'graftbedlaw13.PlusMeans'. -/
def plusMeansUptoCard : Claim7 := { stood := { row := plusMeansUptoRow, standIns := [], harness := (true, "76f857a5b61f807f33e1131fdc6e9e62f99ad7d78a61d3206e7d1e449a56a9ae"), looks := false }, kinds := [], alts := [], laidByText := true, laidKinds := [.data, .pinned], laidTests := true, laidLooks := .later }
def PlusMeansUptoCardSaid : Prop := Claim7.holds Tryd.pinned (.plain (OpenSpec.upto plusMeansSpec)) plusMeansUptoCard

/-- THE SECOND FORM's CARD OF 'graftbedlaw13.PlusJoined'. -/
def plusJoinedUptoCard : Claim7 := { stood := { row := plusJoinedUptoRow, standIns := [], harness := (true, "76f857a5b61f807f33e1131fdc6e9e62f99ad7d78a61d3206e7d1e449a56a9ae"), looks := false }, kinds := [], alts := [], laidByText := true, laidKinds := [.data, .pinned], laidTests := true, laidLooks := .later }
def PlusJoinedUptoCardSaid : Prop := Claim7.holds Tryd.pinned (.plain (OpenSpec.upto plusJoinedSpec)) plusJoinedUptoCard

/-- THE SECOND FORM's CARD OF 'graftbedlaw13.PlusPrints'. -/
def plusPrintsUptoCard : Claim7 := { stood := { row := plusPrintsUptoRow, standIns := [], harness := (true, "76f857a5b61f807f33e1131fdc6e9e62f99ad7d78a61d3206e7d1e449a56a9ae"), looks := false }, kinds := [], alts := [], laidByText := true, laidKinds := [.data, .pinned], laidTests := true, laidLooks := .later }
def PlusPrintsUptoCardSaid : Prop := Claim7.holds Tryd.pinned (.plain (OpenSpec.upto plusPrintsSpec)) plusPrintsUptoCard
end Rows
end Go.Proofs.YtjndccjpjknbkaaDoor
