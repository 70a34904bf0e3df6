-- by hprint.py (wip/): the kit's print over contracts proved by hand; a text of this session
import Derived.Test.YtjcopbgbmokfmaaPAllx0
namespace Go.Proofs.Ytjcopbgbmokfmaa.PAll
open Go.RowKit Go.Proofs.YtjcopbgbmokfmaaW.PrintWords Go.Proofs.YtjcopbgbmokfmaaW.PrintLast Go.Proofs.YtjcopbgbmokfmaaW.PrintMore
attribute [local go_sem] max2_int min2_int max_two min_two max_three min_three max_four min_four   -- for this text's walks alone
set_option linter.unusedVariables false
set_option linter.unusedSimpArgs false

/-! ### glob_Plain: function 10 -/
def glob_Plain.f (a0 : ByteArray) : Option Bool := if a0 = ⟨#[97]⟩ then some true else none
theorem glob_Plain.calls (a0 : ByteArray) (r : Bool) (w : World) (h : glob_Plain.f a0 = some r) :
    Calls Try.prog 10 #[.string a0] w fun e w' => e = .returned (.bool r) ∧ Below w.heap.size w w' := by
  unfold glob_Plain.f at h
  by_cases h1 : a0 = ⟨#[97]⟩
  · rw [if_pos h1] at h
    obtain rfl := Option.some.inj h
    subst h1
    exact GlobMain.Plain_a w
  · rw [if_neg h1] at h
    cases h

end Go.Proofs.Ytjcopbgbmokfmaa.PAll
