/- The parser's not: the walk, way by way. The conditions: the machine's sizes. -/
import Derived.Test.YtjndccjpjknbkaaDoorExParse
namespace Go.Proofs.YtjndccjpjknbkaaDoor.ExNot
open Go Go.Proofs Go.RowKit Go.Proofs.YtjndccjpjknbkaaDoorW.PrintWords Go.Proofs.YtjndccjpjknbkaaDoor.BytesLib Go.Proofs.YtjndccjpjknbkaaDoor.ExLib Go.Proofs.YtjndccjpjknbkaaDoor.ExNode Go.Proofs.YtjndccjpjknbkaaDoor.ExTag Go.Proofs.YtjndccjpjknbkaaDoor.ExParse
set_option linter.unusedVariables false
set_option linter.unusedSimpArgs false

end Go.Proofs.YtjndccjpjknbkaaDoor.ExNot

