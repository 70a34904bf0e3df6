/- Two spellings of the walk's: a text held against the empty one; the size of a constant text. -/
import Derived.Test.YtmocfgghccmdgaaStrOrd
namespace Go.Proofs.Ytmocfgghccmdgaa.StrMore

theorem size_lit (l : List UInt8) : (⟨l.toArray⟩ : ByteArray).size = l.length := rfl

end Go.Proofs.Ytmocfgghccmdgaa.StrMore

