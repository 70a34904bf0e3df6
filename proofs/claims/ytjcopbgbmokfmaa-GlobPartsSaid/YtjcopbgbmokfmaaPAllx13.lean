-- by hprint.py (wip/): the kit's print over contracts proved by hand; a text of this session
import Derived.Test.YtjcopbgbmokfmaaPAllx0
namespace Go.Proofs.Ytjcopbgbmokfmaa.PAll
open Go.RowKit Go.Proofs.YtjcopbgbmokfmaaW.PrintWords Go.Proofs.YtjcopbgbmokfmaaW.PrintLast Go.Proofs.YtjcopbgbmokfmaaW.PrintMore
attribute [local go_sem] max2_int min2_int max_two min_two max_three min_three max_four min_four   -- for this text's walks alone
set_option linter.unusedVariables false
set_option linter.unusedSimpArgs false

/-! ### glob_Check: function 11 -/
def glob_Check.f (a0 : ByteArray) : Option Int := if a0.size ≤ 8796093022206 then some (GlobMain.checkF (BytesLib.L a0)) else none
theorem glob_Check.calls (a0 : ByteArray) (r : Int) (w : World) (h : glob_Check.f a0 = some r) :
    Calls Try.prog 11 #[.string a0] w fun e w' => e = .returned (.int .i64 r) ∧ Below w.heap.size w w' := by
  unfold glob_Check.f at h
  by_cases h1 : a0.size ≤ 8796093022206
  · rw [if_pos h1] at h
    obtain rfl := Option.some.inj h
    exact GlobMain.Check_calls a0 h1 w
  · rw [if_neg h1] at h
    cases h

end Go.Proofs.Ytjcopbgbmokfmaa.PAll
