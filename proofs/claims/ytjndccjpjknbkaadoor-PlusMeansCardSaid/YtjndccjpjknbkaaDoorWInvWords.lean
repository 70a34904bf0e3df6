-- of the print's words, those that this claim uses: a text of this session
import Derived.Test.YtjndccjpjknbkaaDoorWInv
import Derived.Test.YtjndccjpjknbkaaDoorWFootNe
namespace Go.Proofs.YtjndccjpjknbkaaDoorW.PrintWords
open Go.RowKit
end Go.Proofs.YtjndccjpjknbkaaDoorW.PrintWords
namespace Go.Proofs.YtjndccjpjknbkaaDoorW.PrintLast
section
variable {ops : Array Oper} {a : Act} {o og : Oper} {g : Nat} {t : Tmp} {u : Bool}
end
end Go.Proofs.YtjndccjpjknbkaaDoorW.PrintLast

