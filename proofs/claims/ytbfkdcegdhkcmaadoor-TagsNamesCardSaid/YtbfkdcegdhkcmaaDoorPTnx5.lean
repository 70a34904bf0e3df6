-- by hprint.py (wip/): the kit's print over contracts proved by hand; a text of this session
import Derived.Test.YtbfkdcegdhkcmaaDoorPTnx0
namespace Go.Proofs.YtbfkdcegdhkcmaaDoor.PTn
open Go.RowKit Go.Proofs.YtbfkdcegdhkcmaaDoorW.PrintWords Go.Proofs.YtbfkdcegdhkcmaaDoorW.PrintLast Go.Proofs.YtbfkdcegdhkcmaaDoorW.PrintMore
attribute [local go_sem] max2_int min2_int max_two min_two max_three min_three max_four min_four   -- for this text's walks alone
set_option linter.unusedVariables false
set_option linter.unusedSimpArgs false

/-! ### strings_Split: function 19 -/
def strings_Split.f (a0 : ByteArray) (a1 : ByteArray) : Option (List ByteArray) := if a0.size < 4294967281 ∧ a1.size = 1 then some (SplitW.splitF a0 (a1.data.getD 0 0)) else none
theorem strings_Split.calls (a0 : ByteArray) (a1 : ByteArray) (r : List ByteArray) (w : World) (h : strings_Split.f a0 a1 = some r) :
    Calls Tryd.prog 19 #[.string a0, .string a1] w fun e w' => ∃ v0_, e = .returned v0_ ∧ Kd.string.R 9 w' w.heap.size (fun _ => True) v0_ r ∧ Below w.heap.size w w' := by
  unfold strings_Split.f at h
  by_cases h1 : a0.size < 4294967281 ∧ a1.size = 1
  · rw [if_pos h1] at h
    obtain rfl := Option.some.inj h
    obtain ⟨c, rfl⟩ := Lib.one_byte a1 h1.2
    exact SplitW.Split_calls a0 c w h1.1
  · rw [if_neg h1] at h
    cases h

end Go.Proofs.YtbfkdcegdhkcmaaDoor.PTn
