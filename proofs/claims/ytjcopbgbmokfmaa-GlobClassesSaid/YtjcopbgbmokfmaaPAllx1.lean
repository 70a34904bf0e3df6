-- by hprint.py (wip/): the kit's print over contracts proved by hand; a text of this session
import Derived.Test.YtjcopbgbmokfmaaPAllx0
namespace Go.Proofs.Ytjcopbgbmokfmaa.PAll
open Go.RowKit Go.Proofs.YtjcopbgbmokfmaaW.PrintWords Go.Proofs.YtjcopbgbmokfmaaW.PrintLast Go.Proofs.YtjcopbgbmokfmaaW.PrintMore
attribute [local go_sem] max2_int min2_int max_two min_two max_three min_three max_four min_four   -- for this text's walks alone
set_option linter.unusedVariables false
set_option linter.unusedSimpArgs false

/-! ### glob_Match: function 8 -/
def glob_Match.f (a0 : ByteArray) (a1 : ByteArray) : Option (Bool × Int) := if a0.size ≤ 8796093022206 ∧ a1.size ≤ 140737488351232 then some (GlobMain.matchF (BytesLib.L a0) (BytesLib.L a1)) else none
theorem glob_Match.calls (a0 : ByteArray) (a1 : ByteArray) (r1 : Bool) (r2 : Int) (w : World) (h : glob_Match.f a0 a1 = some (r1, r2)) :
    Calls Try.prog 8 #[.string a0, .string a1] w fun e w' => e = .returned (.tuple #[.bool r1, .int .i64 r2]) ∧ Below w.heap.size w w' := by
  unfold glob_Match.f at h
  by_cases h1 : a0.size ≤ 8796093022206 ∧ a1.size ≤ 140737488351232
  · rw [if_pos h1] at h
    have e1 : (GlobMain.matchF (BytesLib.L a0) (BytesLib.L a1)) = (r1, r2) := Option.some.inj h
    have h2 := GlobMain.Match_calls a0 a1 h1.1 h1.2 w
    rw [e1] at h2
    exact h2
  · rw [if_neg h1] at h
    cases h

end Go.Proofs.Ytjcopbgbmokfmaa.PAll
