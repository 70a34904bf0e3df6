-- by hprint.py (wip/): the kit's print over contracts proved by hand; a text of this session
import Derived.Test.YtbfkdcegdhkcmaaDoorPTnx0
namespace Go.Proofs.YtbfkdcegdhkcmaaDoor.PTn
open Go.RowKit Go.Proofs.YtbfkdcegdhkcmaaDoorW.PrintWords Go.Proofs.YtbfkdcegdhkcmaaDoorW.PrintLast Go.Proofs.YtbfkdcegdhkcmaaDoorW.PrintMore
attribute [local go_sem] max2_int min2_int max_two min_two max_three min_three max_four min_four   -- for this text's walks alone
set_option linter.unusedVariables false
set_option linter.unusedSimpArgs false

/-! ### stringslite_Index: function 53 -/
def stringslite_Index.f (a0 : ByteArray) (a1 : ByteArray) : Option Int := if a1.size = 1 then some (Lib.indexByte a0.data.toList (a1.data.toList.headD 0)) else none
theorem stringslite_Index.calls (a0 : ByteArray) (a1 : ByteArray) (r : Int) (w : World) (h : stringslite_Index.f a0 a1 = some r) :
    Calls Tryd.prog 53 #[.string a0, .string a1] w fun e w' => e = .returned (.int .i64 r) ∧ Drawn0 w w' := by
  unfold stringslite_Index.f at h
  by_cases h1 : a1.size = 1
  · rw [if_pos h1] at h
    obtain ⟨c, rfl⟩ : ∃ c, a1 = ⟨#[c]⟩ := by
      obtain ⟨⟨l⟩⟩ := a1
      cases l with
      | nil => cases h1
      | cons c t =>
        cases t with
        | nil => exact ⟨c, rfl⟩
        | cons d t => simp [ByteArray.size] at h1
    obtain rfl := Option.some.inj h
    exact (Tryd.stringslite_Index_one a0 c w).mono (fun e w' hw => ⟨hw.1, by rw [hw.2]; exact Drawn0.refl _⟩)
  · rw [if_neg h1] at h
    cases h

end Go.Proofs.YtbfkdcegdhkcmaaDoor.PTn
