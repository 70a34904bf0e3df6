/-
  DERIVED. GIVEN WITH THE SEED: THE CARDS: each row of YtaddonafdllciaaDoorRows.lean that lists a variable, with what it lists TIED to the program's text (the seventh form; the later family's looks); each row that meets fmt, with fmt's text TOLD by the authors' own Lean function (tested against real Go, not proved from fmt's source: count such statements apart). THE CARD IS WHAT COUNTS. Prove the row's statement (the work); the ties are given (YtaddonafdllciaaDoorTie.lean); close each card by the builder's one call (the guide's Derived/Test/ToyasCard.lean, 'card_holds'). Laid BY PROGRAM, IN A SANDBOX (cutbox-door.mjs). By AI agents, Wed Nov 11 2026. No macro, syntax, notation, axiom, sorry.
-/
import Derived.Test.YtaddonafdllciaaDoorRows
import GoSem.ClaimSeven
namespace Go.Proofs.YtaddonafdllciaaDoor
namespace Rows

/-- THE TIED CARD OF 'graftbedlaw03.SemverParses'. -/
def semverParsesCard : Claim7 := { stood := { row := semverParsesRow, standIns := [], harness := (true, "532694baa4b240d1c52de111e9e067fd7d21f6a6a77587bd9535e66fb3b32f68"), looks := true }, kinds := [], alts := [], laidByText := true, laidKinds := [.data, .data, .data, .sentinel, .sentinel], laidTests := true, laidLooks := .later }
def SemverParsesCardSaid : Prop := Claim7.holds Tryd.pinned (.plain (OpenSpec.ofChange semverParsesSpec)) semverParsesCard

/-- THE TIED CARD OF 'graftbedlaw03.SemverPrints'. -/
def semverPrintsCard : Claim7 := { stood := { row := semverPrintsRow, standIns := [], harness := (true, "532694baa4b240d1c52de111e9e067fd7d21f6a6a77587bd9535e66fb3b32f68"), looks := true }, kinds := [], alts := [], laidByText := true, laidKinds := [.data, .data, .data, .sentinel, .sentinel], laidTests := true, laidLooks := .later }
def SemverPrintsCardSaid : Prop := Claim7.holds Tryd.pinned (.plain (OpenSpec.ofChange semverPrintsSpec)) semverPrintsCard

/-- THE TIED CARD OF 'graftbedlaw03.SemverPseudo'. -/
def semverPseudoCard : Claim7 := { stood := { row := semverPseudoRow, standIns := [], harness := (true, "532694baa4b240d1c52de111e9e067fd7d21f6a6a77587bd9535e66fb3b32f68"), looks := true }, kinds := [], alts := [], laidByText := true, laidKinds := [.data, .data, .data, .sentinel, .sentinel], laidTests := true, laidLooks := .later }
def SemverPseudoCardSaid : Prop := Claim7.holds Tryd.pinned (.plain (OpenSpec.ofChange semverPseudoSpec)) semverPseudoCard

/-- THE TIED CARD OF 'graftbedlaw03.SemverFits'. -/
def semverFitsCard : Claim7 := { stood := { row := semverFitsRow, standIns := [], harness := (true, "532694baa4b240d1c52de111e9e067fd7d21f6a6a77587bd9535e66fb3b32f68"), looks := true }, kinds := [], alts := [], laidByText := true, laidKinds := [.data, .data, .data, .sentinel, .sentinel], laidTests := true, laidLooks := .later }
def SemverFitsCardSaid : Prop := Claim7.holds Tryd.pinned (.plain (OpenSpec.ofChange semverFitsSpec)) semverFitsCard

/-- THE TIED CARD OF 'graftbedlaw03.SemverSteps'. -/
def semverStepsCard : Claim7 := { stood := { row := semverStepsRow, standIns := [], harness := (true, "532694baa4b240d1c52de111e9e067fd7d21f6a6a77587bd9535e66fb3b32f68"), looks := true }, kinds := [], alts := [], laidByText := true, laidKinds := [.data, .data, .data, .sentinel, .sentinel], laidTests := true, laidLooks := .later }
def SemverStepsCardSaid : Prop := Claim7.holds Tryd.pinned (.plain (OpenSpec.ofChange semverStepsSpec)) semverStepsCard

/-- THE TIED CARD OF 'graftbedlaw03.SemverPre'. -/
def semverPreCard : Claim7 := { stood := { row := semverPreRow, standIns := [], harness := (true, "532694baa4b240d1c52de111e9e067fd7d21f6a6a77587bd9535e66fb3b32f68"), looks := true }, kinds := [], alts := [], laidByText := true, laidKinds := [.data, .data, .data, .sentinel, .sentinel], laidTests := true, laidLooks := .later }
def SemverPreCardSaid : Prop := Claim7.holds Tryd.pinned (.plain (OpenSpec.ofChange semverPreSpec)) semverPreCard

/-- THE TIED CARD OF 'graftbedlaw03.SemverOrder'. -/
def semverOrderCard : Claim7 := { stood := { row := semverOrderRow, standIns := [], harness := (true, "532694baa4b240d1c52de111e9e067fd7d21f6a6a77587bd9535e66fb3b32f68"), looks := true }, kinds := [], alts := [], laidByText := true, laidKinds := [.data, .data, .data, .sentinel, .sentinel], laidTests := true, laidLooks := .later }
def SemverOrderCardSaid : Prop := Claim7.holds Tryd.pinned (.plain (OpenSpec.ofChange semverOrderSpec)) semverOrderCard

/-- THE TIED CARD OF 'graftbedlaw03.SemverCanonical'. -/
def semverCanonicalCard : Claim7 := { stood := { row := semverCanonicalRow, standIns := [], harness := (true, "532694baa4b240d1c52de111e9e067fd7d21f6a6a77587bd9535e66fb3b32f68"), looks := true }, kinds := [], alts := [], laidByText := true, laidKinds := [.data, .data, .data, .sentinel, .sentinel], laidTests := true, laidLooks := .later }
def SemverCanonicalCardSaid : Prop := Claim7.holds Tryd.pinned (.plain (OpenSpec.ofChange semverCanonicalSpec)) semverCanonicalCard

/-- THE SECOND FORM's CARD OF 'graftbedlaw03.SemverParses'. -/
def semverParsesUptoCard : Claim7 := { stood := { row := semverParsesUptoRow, standIns := [], harness := (true, "532694baa4b240d1c52de111e9e067fd7d21f6a6a77587bd9535e66fb3b32f68"), looks := true }, kinds := [], alts := [], laidByText := true, laidKinds := [.data, .data, .data, .sentinel, .sentinel], laidTests := true, laidLooks := .later }
def SemverParsesUptoCardSaid : Prop := Claim7.holds Tryd.pinned (.plain (OpenSpec.upto semverParsesSpec)) semverParsesUptoCard

/-- THE SECOND FORM's CARD OF 'graftbedlaw03.SemverPrints'. -/
def semverPrintsUptoCard : Claim7 := { stood := { row := semverPrintsUptoRow, standIns := [], harness := (true, "532694baa4b240d1c52de111e9e067fd7d21f6a6a77587bd9535e66fb3b32f68"), looks := true }, kinds := [], alts := [], laidByText := true, laidKinds := [.data, .data, .data, .sentinel, .sentinel], laidTests := true, laidLooks := .later }
def SemverPrintsUptoCardSaid : Prop := Claim7.holds Tryd.pinned (.plain (OpenSpec.upto semverPrintsSpec)) semverPrintsUptoCard

/-- THE SECOND FORM's CARD OF 'graftbedlaw03.SemverPseudo'. -/
def semverPseudoUptoCard : Claim7 := { stood := { row := semverPseudoUptoRow, standIns := [], harness := (true, "532694baa4b240d1c52de111e9e067fd7d21f6a6a77587bd9535e66fb3b32f68"), looks := true }, kinds := [], alts := [], laidByText := true, laidKinds := [.data, .data, .data, .sentinel, .sentinel], laidTests := true, laidLooks := .later }
def SemverPseudoUptoCardSaid : Prop := Claim7.holds Tryd.pinned (.plain (OpenSpec.upto semverPseudoSpec)) semverPseudoUptoCard

/-- THE SECOND FORM's CARD OF 'graftbedlaw03.SemverFits'. -/
def semverFitsUptoCard : Claim7 := { stood := { row := semverFitsUptoRow, standIns := [], harness := (true, "532694baa4b240d1c52de111e9e067fd7d21f6a6a77587bd9535e66fb3b32f68"), looks := true }, kinds := [], alts := [], laidByText := true, laidKinds := [.data, .data, .data, .sentinel, .sentinel], laidTests := true, laidLooks := .later }
def SemverFitsUptoCardSaid : Prop := Claim7.holds Tryd.pinned (.plain (OpenSpec.upto semverFitsSpec)) semverFitsUptoCard

/-- THE SECOND FORM's CARD OF 'graftbedlaw03.SemverSteps'. -/
def semverStepsUptoCard : Claim7 := { stood := { row := semverStepsUptoRow, standIns := [], harness := (true, "532694baa4b240d1c52de111e9e067fd7d21f6a6a77587bd9535e66fb3b32f68"), looks := true }, kinds := [], alts := [], laidByText := true, laidKinds := [.data, .data, .data, .sentinel, .sentinel], laidTests := true, laidLooks := .later }
def SemverStepsUptoCardSaid : Prop := Claim7.holds Tryd.pinned (.plain (OpenSpec.upto semverStepsSpec)) semverStepsUptoCard

/-- THE SECOND FORM's CARD OF 'graftbedlaw03.SemverPre'. -/
def semverPreUptoCard : Claim7 := { stood := { row := semverPreUptoRow, standIns := [], harness := (true, "532694baa4b240d1c52de111e9e067fd7d21f6a6a77587bd9535e66fb3b32f68"), looks := true }, kinds := [], alts := [], laidByText := true, laidKinds := [.data, .data, .data, .sentinel, .sentinel], laidTests := true, laidLooks := .later }
def SemverPreUptoCardSaid : Prop := Claim7.holds Tryd.pinned (.plain (OpenSpec.upto semverPreSpec)) semverPreUptoCard

/-- THE SECOND FORM's CARD OF 'graftbedlaw03.SemverOrder'. -/
def semverOrderUptoCard : Claim7 := { stood := { row := semverOrderUptoRow, standIns := [], harness := (true, "532694baa4b240d1c52de111e9e067fd7d21f6a6a77587bd9535e66fb3b32f68"), looks := true }, kinds := [], alts := [], laidByText := true, laidKinds := [.data, .data, .data, .sentinel, .sentinel], laidTests := true, laidLooks := .later }
def SemverOrderUptoCardSaid : Prop := Claim7.holds Tryd.pinned (.plain (OpenSpec.upto semverOrderSpec)) semverOrderUptoCard

/-- THE SECOND FORM's CARD OF 'graftbedlaw03.SemverCanonical'. -/
def semverCanonicalUptoCard : Claim7 := { stood := { row := semverCanonicalUptoRow, standIns := [], harness := (true, "532694baa4b240d1c52de111e9e067fd7d21f6a6a77587bd9535e66fb3b32f68"), looks := true }, kinds := [], alts := [], laidByText := true, laidKinds := [.data, .data, .data, .sentinel, .sentinel], laidTests := true, laidLooks := .later }
def SemverCanonicalUptoCardSaid : Prop := Claim7.holds Tryd.pinned (.plain (OpenSpec.upto semverCanonicalSpec)) semverCanonicalUptoCard
end Rows
end Go.Proofs.YtaddonafdllciaaDoor
