/- What is known of the arguments of PlusLines: sizes alone. -/
import Derived.Test.YtjndccjpjknbkaaDoorMpa
import Derived.Test.YtjndccjpjknbkaaDoorOpens
namespace Go.Proofs.YtjndccjpjknbkaaDoor.RowOksPlusLines
open Go.RowKit Go.Proofs.YtjndccjpjknbkaaDoorW.PrintWords Go.Proofs.YtjndccjpjknbkaaDoor.Opens Go.Proofs.YtjndccjpjknbkaaDoor.PPl Go.WideShapes
end Go.Proofs.YtjndccjpjknbkaaDoor.RowOksPlusLines
