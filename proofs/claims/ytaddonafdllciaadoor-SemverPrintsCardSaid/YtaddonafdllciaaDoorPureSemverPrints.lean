/- SemverPrints, as a statement over numbers and lists: any parts are printed as the reference prints them, or refused; what is printed is parsed. No condition but the machine's own. -/
import Derived.Test.YtaddonafdllciaaDoorMpb
import Derived.Test.YtaddonafdllciaaDoorMpa
import Derived.Test.YtaddonafdllciaaDoorPureSemPrint
import Derived.DataShut
namespace Go.Proofs.YtaddonafdllciaaDoor.Pure
open Go.RowKit Go.Proofs.YtaddonafdllciaaDoor.PPr Go.Proofs.YtaddonafdllciaaDoorW.PrintWords Go.Proofs.YtaddonafdllciaaDoorW.PrintLast
open Go.Proofs.YtaddonafdllciaaDoor.BytesLib Go.Proofs.YtaddonafdllciaaDoor.SemParts Go.Proofs.YtaddonafdllciaaDoor.SemNum Go.Proofs.YtaddonafdllciaaDoor.SemParse Go.Proofs.YtaddonafdllciaaDoor.SemOrder Go.Proofs.YtaddonafdllciaaDoor.SemSplit Go.Proofs.YtaddonafdllciaaDoor.SemCmp Go.Proofs.YtaddonafdllciaaDoor.SemList
set_option linter.unusedVariables false
set_option linter.unusedSimpArgs false

theorem SemverPrints (a b c : Int) (p m : ByteArray) (wa : (Lit.int .i64 a).wf = true) (wb : (Lit.int .i64 b).wf = true) (wc : (Lit.int .i64 c).wf = true) (hp : p.size ≤ 140737488351232) (hm : m.size ≤ 140737488351232) :
    ∃ k, graftbedlaw03_SemverPrints.f k a b c p m = some true := by
  by_cases hbig : p.size > 1024 ∨ m.size > 1024
  · refine ⟨1, ?_⟩
    have hT : graftbedlaw03_SemverPrints.j0 1 true a b c p m = some true := by
      rw [graftbedlaw03_SemverPrints.j0, if_pos rfl]
    unfold graftbedlaw03_SemverPrints.f
    rw [hT]
    split
    · rfl
    · rw [decide_eq_true (by omega)]; exact hT
  · have ia : -9223372036854775808 ≤ a ∧ a ≤ 9223372036854775807 := (Lit.wf_int_iff .i64 a).1 wa
    have ib : -9223372036854775808 ≤ b ∧ b ≤ 9223372036854775807 := (Lit.wf_int_iff .i64 b).1 wb
    have ic : -9223372036854775808 ≤ c ∧ c ≤ 9223372036854775807 := (Lit.wf_int_iff .i64 c).1 wc
    have e1 := prog_print a b c p m 24 ia.1 ia.2 ib.1 ib.2 ic.1 ic.2 (by omega) (by omega)
    have e2 := ref_print a b c p m 24 (by omega) ia.2 ib.2 ic.2 (by omega) (by omega)
    rw [← print_alike] at e2
    have hz : (textT nP a b c p m).size ≤ 100000 := by
      unfold textT
      rw [size_ofL]
      unfold headT tailT
      have z1 := nP_len ia.1 ia.2
      have z2 := nP_len ib.1 ib.2
      have z3 := nP_len ic.1 ic.2
      have z4 := L_length p
      have z5 := L_length m
      simp only [List.length_append, List.length_cons]
      have z6 : (if L p = [] then ([] : List UInt8) else 45 :: L p).length ≤ 1025 := by split <;> simp <;> omega
      have z7 : (if L m = [] then ([] : List UInt8) else 43 :: L m).length ≤ 1025 := by split <;> simp <;> omega
      omega
    generalize textT nP a b c p m = t at *
    refine ⟨25 + 1, ?_⟩
    have hJ : graftbedlaw03_SemverPrints.j1 25 (printF t a b c p m).1 (printF t a b c p m).2 false a b c p m = some true := by
      rw [graftbedlaw03_SemverPrints.j1, if_neg (by decide)]
      unfold semver_Parse.f printF
      by_cases h : parseF t = (a, b, c, p, m, 0)
      · rw [if_pos h]
        rw [if_pos (show t.size ≤ 140737488351232 by omega), if_pos (by decide)]
        simp only [Option.bind_some]
        rw [if_pos parse_none, if_pos trivial, h, if_pos rfl]
        simp
      · rw [if_neg h, if_pos (by decide)]
        simp only [Option.bind_some]
        rw [if_pos parse_none, if_neg (by decide), if_pos (toList_nil.2 rfl)]
    unfold graftbedlaw03_SemverPrints.f
    rw [if_neg (by omega), decide_eq_false (by omega)]
    rw [graftbedlaw03_SemverPrints.j0, if_neg (by decide), e1, e2]
    simp only [Option.bind_some]
    rw [if_pos trivial, bne_self_eq_false]
    exact hJ

end Go.Proofs.YtaddonafdllciaaDoor.Pure
