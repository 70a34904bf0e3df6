/- What the program's Compare and Max come to. -/
import Derived.Test.YtaddonafdllciaaDoorMpa
import Derived.Test.YtaddonafdllciaaDoorMpb
import Derived.Test.YtaddonafdllciaaDoorMpc
import Derived.Test.YtaddonafdllciaaDoorSemCmp
namespace Go.Proofs.YtaddonafdllciaaDoor.Pure
open Go.RowKit Go.Proofs.YtaddonafdllciaaDoor.PAll Go.Proofs.YtaddonafdllciaaDoorW.PrintWords Go.Proofs.YtaddonafdllciaaDoorW.PrintLast
open Go.Proofs.YtaddonafdllciaaDoor.BytesLib Go.Proofs.YtaddonafdllciaaDoor.SemParts Go.Proofs.YtaddonafdllciaaDoor.SemNum Go.Proofs.YtaddonafdllciaaDoor.SemParse Go.Proofs.YtaddonafdllciaaDoor.SemOrder Go.Proofs.YtaddonafdllciaaDoor.SemSplit Go.Proofs.YtaddonafdllciaaDoor.SemCmp
set_option linter.unusedVariables false
set_option linter.unusedSimpArgs false

theorem parse_two (s : ByteArray) : (parseF s).2.2.2.2.2 = 0 ∨ parseF s = (0, 0, 0, ⟨#[]⟩, ⟨#[]⟩, 30) := by
  unfold parseF
  split
  · exact .inl rfl
  · exact .inr rfl
end Go.Proofs.YtaddonafdllciaaDoor.Pure

