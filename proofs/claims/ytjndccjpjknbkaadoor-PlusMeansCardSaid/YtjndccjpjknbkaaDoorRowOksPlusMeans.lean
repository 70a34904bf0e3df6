/- What is known of the arguments of PlusMeans: sizes alone. -/
import Derived.Test.YtjndccjpjknbkaaDoorMpa
import Derived.Test.YtjndccjpjknbkaaDoorOpens
namespace Go.Proofs.YtjndccjpjknbkaaDoor.RowOksPlusMeans
open Go.RowKit Go.Proofs.YtjndccjpjknbkaaDoorW.PrintWords Go.Proofs.YtjndccjpjknbkaaDoor.Opens Go.Proofs.YtjndccjpjknbkaaDoor.PPl Go.WideShapes
end Go.Proofs.YtjndccjpjknbkaaDoor.RowOksPlusMeans
