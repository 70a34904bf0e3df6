-- by hprint.py (wip/): the kit's print over contracts proved by hand; a text of this session
import Derived.Test.YtjcopbgbmokfmaaProg
import Derived.Below
import Derived.Deep.Draws
import Derived.Deep.AppendLies
import Derived.Maps.AppendAt
import Derived.OwnWalk
import Derived.Laws.BytesArg
import Derived.Laws.MakeOwn
import Derived.Laws.OwnMore
import Derived.Deep.OwnRows
import Derived.Tactics
import Derived.Lib.ConvBytes
import Derived.Laws.Slices
import Derived.WalkKit
import Derived.KernelRfl
import Derived.RowKit3
import Derived.Deep.LoopGhost
import Derived.Deep.QuietTactic
import Derived.BigQuiet
import Derived.WideLaws
import Derived.Deep.DeepCutAuto
import Derived.Deep.CutBlock
import Derived.Deep.RegionHeld3
import Derived.Laws.Rows
import Derived.Lib.AppendStr
import Derived.ArgAppend
import Derived.Laws.IdiomCopy
import Derived.OrdersHeld
import Derived.Laws.BitsLemmas
import Derived.RowKit
import Derived.Test.YtjcopbgbmokfmaaStrOrd
import Derived.Test.YtjcopbgbmokfmaaStrMore
import Derived.Test.YtjcopbgbmokfmaaShelf
import Derived.Test.YtjcopbgbmokfmaaGlobMain
import Derived.Test.YtjcopbgbmokfmaaGlobIn
import Derived.Test.YtjcopbgbmokfmaaWWords
import Derived.Test.YtjcopbgbmokfmaaWLast
import Derived.Test.YtjcopbgbmokfmaaWTab
import Derived.Test.YtjcopbgbmokfmaaWFour
import Derived.Test.YtjcopbgbmokfmaaWQPut
import Derived.Test.YtjcopbgbmokfmaaWApart
import Derived.Test.YtjcopbgbmokfmaaWArr
import Derived.Test.YtjcopbgbmokfmaaWZeros
import Derived.Test.YtjcopbgbmokfmaaWFoot
import Derived.Test.YtjcopbgbmokfmaaWKept
import Derived.Test.YtjcopbgbmokfmaaWShare
import Derived.Test.YtjcopbgbmokfmaaWN
import Derived.Test.YtjcopbgbmokfmaaWFootNe
import Derived.Test.YtjcopbgbmokfmaaWAt
import Derived.Test.YtjcopbgbmokfmaaWEqStruct
import Derived.Test.YtjcopbgbmokfmaaWRepsOne
import Derived.Test.YtjcopbgbmokfmaaWInv
import Derived.Test.YtjcopbgbmokfmaaWInvWords
import Derived.Test.YtjcopbgbmokfmaaWGuard
import Derived.Test.YtjcopbgbmokfmaaWNEv
import Derived.Test.YtjcopbgbmokfmaaWMore
namespace Go.Proofs.Ytjcopbgbmokfmaa.PAll
open Go.RowKit Go.Proofs.YtjcopbgbmokfmaaW.PrintWords Go.Proofs.YtjcopbgbmokfmaaW.PrintLast Go.Proofs.YtjcopbgbmokfmaaW.PrintMore
attribute [local go_sem] max2_int min2_int max_two min_two max_three min_three max_four min_four   -- for this text's walks alone
set_option linter.unusedVariables false
set_option linter.unusedSimpArgs false



def errW : Option Int → Value
  | none => .nilIface
  | some c => .iface 0 (.int .i64 c)
theorem errW_none : errW none = .nilIface := rfl
theorem errW_some (c : Int) : errW (some c) = .iface 0 (.int .i64 c) := rfl

theorem info4 : (Try.prog.info? 4).map (fun i => (i.zero, i.size, i.bytes)) = some (some (.bool false), 1, 1) := by kernel_rfl
theorem info5 : (Try.prog.info? 5).map (fun i => (i.zero, i.size, i.bytes)) = some (some (.int .u8 0), 1, 1) := by kernel_rfl
-- the values' own types

end Go.Proofs.Ytjcopbgbmokfmaa.PAll
