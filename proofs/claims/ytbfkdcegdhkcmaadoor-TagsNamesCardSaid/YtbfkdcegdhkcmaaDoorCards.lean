/-
  DERIVED. GIVEN WITH THE SEED: THE CARDS: each row of YtbfkdcegdhkcmaaDoorRows.lean that lists a variable, with what it lists TIED to the program's text (the seventh form; the later family's looks); each row that meets fmt, with fmt's text TOLD by the authors' own Lean function (tested against real Go, not proved from fmt's source: count such statements apart). THE CARD IS WHAT COUNTS. Prove the row's statement (the work); the ties are given (YtbfkdcegdhkcmaaDoorTie.lean); close each card by the builder's one call (the guide's Derived/Test/ToyasCard.lean, 'card_holds'). Laid BY PROGRAM, IN A SANDBOX (cutbox-door.mjs). By AI agents, Wed Nov 11 2026. No macro, syntax, notation, axiom, sorry.
-/
import Derived.Test.YtbfkdcegdhkcmaaDoorRows
import GoSem.ClaimSeven
namespace Go.Proofs.YtbfkdcegdhkcmaaDoor
namespace Rows

/-- THE TIED CARD OF 'graftbedlaw14.TagsNames'. -/
def tagsNamesCard : Claim7 := { stood := { row := tagsNamesRow, standIns := [], harness := (true, "ca1e422c1fa33cd3d4f4cf04b0d9d27dc70bc825acde187a7db2eb603126901e"), looks := false }, kinds := [], alts := [], laidByText := true, laidKinds := [.data, .pinned], laidTests := true, laidLooks := .later }
def TagsNamesCardSaid : Prop := Claim7.holds Tryd.pinned (.plain (OpenSpec.ofChange tagsNamesSpec)) tagsNamesCard

/-- THE TIED CARD OF 'graftbedlaw14.TagsOne'. -/
def tagsOneCard : Claim7 := { stood := { row := tagsOneRow, standIns := [], harness := (true, "ca1e422c1fa33cd3d4f4cf04b0d9d27dc70bc825acde187a7db2eb603126901e"), looks := false }, kinds := [], alts := [], laidByText := true, laidKinds := [.data, .pinned], laidTests := true, laidLooks := .later }
def TagsOneCardSaid : Prop := Claim7.holds Tryd.pinned (.plain (OpenSpec.ofChange tagsOneSpec)) tagsOneCard

/-- THE TIED CARD OF 'graftbedlaw14.TagsBuild'. -/
def tagsBuildCard : Claim7 := { stood := { row := tagsBuildRow, standIns := [], harness := (true, "ca1e422c1fa33cd3d4f4cf04b0d9d27dc70bc825acde187a7db2eb603126901e"), looks := false }, kinds := [], alts := [], laidByText := true, laidKinds := [.data, .pinned], laidTests := true, laidLooks := .later }
def TagsBuildCardSaid : Prop := Claim7.holds Tryd.pinned (.plain (OpenSpec.ofChange tagsBuildSpec)) tagsBuildCard

/-- THE SECOND FORM's CARD OF 'graftbedlaw14.TagsNames'. -/
def tagsNamesUptoCard : Claim7 := { stood := { row := tagsNamesUptoRow, standIns := [], harness := (true, "ca1e422c1fa33cd3d4f4cf04b0d9d27dc70bc825acde187a7db2eb603126901e"), looks := false }, kinds := [], alts := [], laidByText := true, laidKinds := [.data, .pinned], laidTests := true, laidLooks := .later }
def TagsNamesUptoCardSaid : Prop := Claim7.holds Tryd.pinned (.plain (OpenSpec.upto tagsNamesSpec)) tagsNamesUptoCard

/-- THE SECOND FORM's CARD OF 'graftbedlaw14.TagsOne'. -/
def tagsOneUptoCard : Claim7 := { stood := { row := tagsOneUptoRow, standIns := [], harness := (true, "ca1e422c1fa33cd3d4f4cf04b0d9d27dc70bc825acde187a7db2eb603126901e"), looks := false }, kinds := [], alts := [], laidByText := true, laidKinds := [.data, .pinned], laidTests := true, laidLooks := .later }
def TagsOneUptoCardSaid : Prop := Claim7.holds Tryd.pinned (.plain (OpenSpec.upto tagsOneSpec)) tagsOneUptoCard

/-- THE SECOND FORM's CARD OF 'graftbedlaw14.TagsBuild'. -/
def tagsBuildUptoCard : Claim7 := { stood := { row := tagsBuildUptoRow, standIns := [], harness := (true, "ca1e422c1fa33cd3d4f4cf04b0d9d27dc70bc825acde187a7db2eb603126901e"), looks := false }, kinds := [], alts := [], laidByText := true, laidKinds := [.data, .pinned], laidTests := true, laidLooks := .later }
def TagsBuildUptoCardSaid : Prop := Claim7.holds Tryd.pinned (.plain (OpenSpec.upto tagsBuildSpec)) tagsBuildUptoCard
end Rows
end Go.Proofs.YtbfkdcegdhkcmaaDoor
