/- What is known of the arguments of ExprLogic: sizes alone. -/
import Derived.Test.YtjndccjpjknbkaaDoorMpa
import Derived.Test.YtjndccjpjknbkaaDoorOpens
namespace Go.Proofs.YtjndccjpjknbkaaDoor.RowOksExprLogic
open Go.RowKit Go.Proofs.YtjndccjpjknbkaaDoorW.PrintWords Go.Proofs.YtjndccjpjknbkaaDoor.Opens Go.Proofs.YtjndccjpjknbkaaDoor.PEx Go.WideShapes
end Go.Proofs.YtjndccjpjknbkaaDoor.RowOksExprLogic
