/- What is known of the arguments of ExprTurns: sizes alone. -/
import Derived.Test.YtjndccjpjknbkaaDoorMpa
import Derived.Test.YtjndccjpjknbkaaDoorOpens
namespace Go.Proofs.YtjndccjpjknbkaaDoor.RowOksExprTurns
open Go.RowKit Go.Proofs.YtjndccjpjknbkaaDoorW.PrintWords Go.Proofs.YtjndccjpjknbkaaDoor.Opens Go.Proofs.YtjndccjpjknbkaaDoor.PEx Go.WideShapes
end Go.Proofs.YtjndccjpjknbkaaDoor.RowOksExprTurns
