/- TagsNames, as a statement over four truth values: sixteen closed runs of the printed law. -/
import Derived.Test.YtbfkdcegdhkcmaaDoorPTnx14
namespace Go.Proofs.YtbfkdcegdhkcmaaDoor.Pure
open Go.RowKit Go.Proofs.YtbfkdcegdhkcmaaDoor.PTn

theorem TagsNames (a b c d : Bool) : ∃ k, graftbedlaw14_TagsNames.f k a b c d = some true := by
  refine ⟨60, ?_⟩
  cases a <;> cases b <;> cases c <;> cases d <;> decide +kernel
end Go.Proofs.YtbfkdcegdhkcmaaDoor.Pure
