/- The order of versions, as a comparison that goes on. No condition on the program. -/
import Derived.Test.YtaddonafdllciaaDoorSemOrder
import Derived.Test.YtaddonafdllciaaDoorSemSplit
namespace Go.Proofs.YtaddonafdllciaaDoor.SemCmp
open Go.RowKit Go.Proofs.YtaddonafdllciaaDoorW.PrintWords Go.Proofs.YtaddonafdllciaaDoor.BytesLib Go.Proofs.YtaddonafdllciaaDoor.SemParts Go.Proofs.YtaddonafdllciaaDoor.SemNum Go.Proofs.YtaddonafdllciaaDoor.SemParse Go.Proofs.YtaddonafdllciaaDoor.SemOrder Go.Proofs.YtaddonafdllciaaDoor.SemSplit
set_option linter.unusedVariables false
set_option linter.unusedSimpArgs false

/-- A comparison: turned round it turns its sign; it goes on; it tells -1, 0 or 1. -/
structure IsCmp {α : Type} (C : α → α → Int) : Prop where
  anti : ∀ a b, C b a = - C a b
  trans : ∀ a b c, C a b ≤ 0 → C b c ≤ 0 → C a c ≤ 0
  one : ∀ a b, C a b = -1 ∨ C a b = 0 ∨ C a b = 1

/-- Two identifiers. -/
def nd (a : ByteArray) : Int := if everyB digB a = true then 0 else 1
end Go.Proofs.YtaddonafdllciaaDoor.SemCmp

