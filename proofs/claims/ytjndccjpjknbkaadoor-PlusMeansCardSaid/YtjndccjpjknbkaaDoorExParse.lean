/- The parser of expressions: what it does, and the walk. The conditions: the machine's sizes. -/
import Derived.Test.YtjndccjpjknbkaaDoorExNode
import Derived.Test.YtjndccjpjknbkaaDoorExTag
import Derived.Deep.LoopGhost
namespace Go.Proofs.YtjndccjpjknbkaaDoor.ExParse
open Go Go.Proofs Go.RowKit Go.Proofs.YtjndccjpjknbkaaDoorW.PrintWords Go.Proofs.YtjndccjpjknbkaaDoor.BytesLib Go.Proofs.YtjndccjpjknbkaaDoor.ExLib Go.Proofs.YtjndccjpjknbkaaDoor.ExNode Go.Proofs.YtjndccjpjknbkaaDoor.ExTag
set_option linter.unusedVariables false
set_option linter.unusedSimpArgs false

/-- A parser's state. -/
structure St where
  s : ByteArray
  l : List Nd
  ok : Bool

def e0 : ByteArray := ⟨#[]⟩

/-- How many letters there are ahead. -/
def pre (l : List UInt8) : Nat := (l.takeWhile letB).length
def bang : ByteArray := ⟨#[33]⟩
/-! ### Sizes -/
theorem cutP_size (s t : ByteArray) : (cutP s t).size = if hasP s t = true then s.size - t.size else s.size := by
  unfold cutP hasP Lib.trimPrefix
  rw [show ∀ l : List UInt8, (⟨l.toArray⟩ : ByteArray).size = l.length from fun l => rfl]
  by_cases h : Lib.hasPrefix s.data.toList t.data.toList = true
  · rw [if_pos h, if_pos h, List.length_drop]
    rw [show s.data.toList.length = s.size from L_length s, show t.data.toList.length = t.size from L_length t]
  · rw [if_neg h, if_neg h]; exact L_length s
/-- The bound of all sizes. -/
def M : Nat := 1099511627776
end Go.Proofs.YtjndccjpjknbkaaDoor.ExParse

