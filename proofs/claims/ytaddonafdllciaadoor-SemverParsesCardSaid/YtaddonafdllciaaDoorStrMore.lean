/- Two spellings of the walk's: a text held against the empty one; the size of a constant text. -/
import Derived.Test.YtaddonafdllciaaDoorStrOrd
namespace Go.Proofs.YtaddonafdllciaaDoor.StrMore

theorem size_lit (l : List UInt8) : (⟨l.toArray⟩ : ByteArray).size = l.length := rfl

end Go.Proofs.YtaddonafdllciaaDoor.StrMore

