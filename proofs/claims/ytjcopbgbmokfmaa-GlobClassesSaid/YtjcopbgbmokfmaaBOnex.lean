-- by hprint.py (wip/): the kit's print over contracts proved by hand; a text of this session
import Derived.Test.YtjcopbgbmokfmaaBOnex0
import Derived.Test.YtjcopbgbmokfmaaBOnex1
namespace Go.Proofs.Ytjcopbgbmokfmaa.BOne
open Go.RowKit Go.Proofs.YtjcopbgbmokfmaaW.PrintWords Go.Proofs.YtjcopbgbmokfmaaW.PrintLast Go.Proofs.YtjcopbgbmokfmaaW.PrintMore
attribute [local go_sem] max2_int min2_int max_two min_two max_three min_three max_four min_four   -- for this text's walks alone
set_option linter.unusedVariables false
set_option linter.unusedSimpArgs false

end Go.Proofs.Ytjcopbgbmokfmaa.BOne
