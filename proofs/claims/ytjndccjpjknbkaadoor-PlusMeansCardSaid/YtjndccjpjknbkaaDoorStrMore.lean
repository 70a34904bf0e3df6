/- Two spellings of the walk's: a text held against the empty one; the size of a constant text. -/
import Derived.Test.YtjndccjpjknbkaaDoorStrOrd
namespace Go.Proofs.YtjndccjpjknbkaaDoor.StrMore

theorem size_lit (l : List UInt8) : (⟨l.toArray⟩ : ByteArray).size = l.length := rfl

end Go.Proofs.YtjndccjpjknbkaaDoor.StrMore

