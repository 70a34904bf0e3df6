-- by hprint.py (wip/): the kit's print over contracts proved by hand; a text of this session
import Derived.Test.YtjcopbgbmokfmaaPAllx0
namespace Go.Proofs.Ytjcopbgbmokfmaa.PAll
open Go.RowKit Go.Proofs.YtjcopbgbmokfmaaW.PrintWords Go.Proofs.YtjcopbgbmokfmaaW.PrintLast Go.Proofs.YtjcopbgbmokfmaaW.PrintMore
attribute [local go_sem] max2_int min2_int max_two min_two max_three min_three max_four min_four   -- for this text's walks alone
set_option linter.unusedVariables false
set_option linter.unusedSimpArgs false

/-! ### graftbedref15_in: function 33 -/
def graftbedref15_in.f (a0 : ByteArray) (a1 : Int) : Option Bool := if a0.size ≤ 1099511627776 then GlobIn.inF (BytesLib.L a0) a1 else none
theorem graftbedref15_in.calls (a0 : ByteArray) (a1 : Int) (r : Bool) (w : World) (h : graftbedref15_in.f a0 a1 = some r) :
    Calls Try.prog 33 #[.string a0, .int .u8 a1] w fun e w' => e = .returned (.bool r) ∧ Drawn0 w w' := by
  unfold graftbedref15_in.f at h
  by_cases h1 : a0.size ≤ 1099511627776
  · rw [if_pos h1] at h
    exact GlobIn.in_calls a0 a1 r w h1 h
  · rw [if_neg h1] at h
    cases h

end Go.Proofs.Ytjcopbgbmokfmaa.PAll
