/- SemverParses, as a statement over numbers and lists: any text is the reference's version, or none; what is parsed is printed as it stands. No condition but the machine's own. -/
import Derived.Test.YtaddonafdllciaaDoorMpa
import Derived.Test.YtaddonafdllciaaDoorPureSemPrint
namespace Go.Proofs.YtaddonafdllciaaDoor.Pure
open Go.RowKit Go.Proofs.YtaddonafdllciaaDoor.PPr Go.Proofs.YtaddonafdllciaaDoorW.PrintWords Go.Proofs.YtaddonafdllciaaDoorW.PrintLast
open Go.Proofs.YtaddonafdllciaaDoor.BytesLib Go.Proofs.YtaddonafdllciaaDoor.SemParts Go.Proofs.YtaddonafdllciaaDoor.SemNum Go.Proofs.YtaddonafdllciaaDoor.SemParse Go.Proofs.YtaddonafdllciaaDoor.SemOrder Go.Proofs.YtaddonafdllciaaDoor.SemSplit Go.Proofs.YtaddonafdllciaaDoor.SemCmp Go.Proofs.YtaddonafdllciaaDoor.SemList
set_option linter.unusedVariables false
set_option linter.unusedSimpArgs false

theorem SemverParses : graftbedlaw03_SemverParses.Pure := by
  intro s hs
  refine ⟨1 + 1, ?_⟩
  unfold graftbedlaw03_SemverParses.f
  by_cases hbig : s.size > 1024
  · rw [if_pos (by omega)]
  · have hq := parse_ints s
    have hpr := prog_print (parseF s).1 (parseF s).2.1 (parseF s).2.2.1 (parseF s).2.2.2.1 (parseF s).2.2.2.2.1 1 (by omega) (by omega) (by omega) (by omega) (by omega) (by omega) (by omega) (by omega)
    have hn := parse_none
    unfold semver_Parse.f graftbedref03_Parse.f
    rw [if_neg (by omega), if_pos hs, if_pos (by decide)]
    simp only [Option.bind_some]
    rw [if_pos trivial, if_neg (by simp), if_pos hn, hpr, Option.bind_some]
    by_cases he : (parseF s).2.2.2.2.2 = 0
    · have ht := own_text he
      have hp : printF (textT nP (parseF s).1 (parseF s).2.1 (parseF s).2.2.1 (parseF s).2.2.2.1 (parseF s).2.2.2.2.1) (parseF s).1 (parseF s).2.1 (parseF s).2.2.1 (parseF s).2.2.2.1 (parseF s).2.2.2.2.1 = (s, 0) := by
        rw [ht]
        unfold printF
        rw [if_pos]
        rw [← he]
      rw [if_pos he, hp, if_pos rfl]
      simp
    · rw [if_neg he]

end Go.Proofs.YtaddonafdllciaaDoor.Pure
