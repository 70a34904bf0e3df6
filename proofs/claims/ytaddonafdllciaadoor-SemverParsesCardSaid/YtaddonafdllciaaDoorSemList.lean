/- Texts cut at a sign, and what a version's parts are then. No condition on the program. -/
import Derived.Test.YtaddonafdllciaaDoorSemCmp
namespace Go.Proofs.YtaddonafdllciaaDoor.SemList
open Go.RowKit Go.Proofs.YtaddonafdllciaaDoorW.PrintWords Go.Proofs.YtaddonafdllciaaDoor.BytesLib Go.Proofs.YtaddonafdllciaaDoor.SemParts Go.Proofs.YtaddonafdllciaaDoor.SemNum Go.Proofs.YtaddonafdllciaaDoor.SemParse Go.Proofs.YtaddonafdllciaaDoor.SemOrder Go.Proofs.YtaddonafdllciaaDoor.SemSplit Go.Proofs.YtaddonafdllciaaDoor.SemCmp
set_option linter.unusedVariables false
set_option linter.unusedSimpArgs false

theorem cutB_none {c : UInt8} {s : ByteArray} (h : cutF c s = false) : cutB c s = ⟨#[]⟩ := by
  unfold cutB
  rw [if_neg (of_decide_eq_false h)]

/-- A text that is a version, and its parts. -/
theorem parse_ok {s : ByteArray} (h : (parseF s).2.2.2.2.2 = 0) : (L s).head? = some 118 ∧ s.size ≤ 60 ∧ ok4 (s.extract 1 s.size) = true := by
  by_cases h1 : (L s).head? = some 118 ∧ s.size ≤ 60 ∧ ok4 (s.extract 1 s.size) = true
  · exact h1
  · unfold parseF at h
    rw [if_neg h1] at h
    exact absurd h (by decide)
end Go.Proofs.YtaddonafdllciaaDoor.SemList

