-- by hprint.py (wip/): the kit's print over contracts proved by hand; a text of this session
import Derived.Test.YthiecbkkbiejjaaProg
import Derived.Below
import Derived.Deep.Draws
import Derived.Deep.AppendLies
import Derived.Maps.AppendAt
import Derived.OwnWalk
import Derived.Laws.BytesArg
import Derived.Laws.MakeOwn
import Derived.Laws.OwnMore
import Derived.Deep.OwnRows
import Derived.Tactics
import Derived.Lib.ConvBytes
import Derived.Laws.Slices
import Derived.WalkKit
import Derived.KernelRfl
import Derived.RowKit3
import Derived.Deep.LoopGhost
import Derived.Deep.QuietTactic
import Derived.BigQuiet
import Derived.WideLaws
import Derived.Deep.DeepCutAuto
import Derived.Deep.CutBlock
import Derived.Deep.RegionHeld3
import Derived.Laws.Rows
import Derived.Lib.AppendStr
import Derived.ArgAppend
import Derived.Laws.IdiomCopy
import Derived.OrdersHeld
import Derived.Laws.BitsLemmas
import Derived.RowKit
import Derived.Test.YthiecbkkbiejjaaStrOrd
import Derived.Test.YthiecbkkbiejjaaShelf
import Derived.Test.YthiecbkkbiejjaaValid
import Derived.Test.YthiecbkkbiejjaaClean
import Derived.Test.YthiecbkkbiejjaaWWords
import Derived.Test.YthiecbkkbiejjaaWLast
import Derived.Test.YthiecbkkbiejjaaWTab
import Derived.Test.YthiecbkkbiejjaaWFour
import Derived.Test.YthiecbkkbiejjaaWQPut
import Derived.Test.YthiecbkkbiejjaaWApart
import Derived.Test.YthiecbkkbiejjaaWArr
import Derived.Test.YthiecbkkbiejjaaWZeros
import Derived.Test.YthiecbkkbiejjaaWFoot
import Derived.Test.YthiecbkkbiejjaaWKept
import Derived.Test.YthiecbkkbiejjaaWShare
import Derived.Test.YthiecbkkbiejjaaWN
import Derived.Test.YthiecbkkbiejjaaWFootNe
import Derived.Test.YthiecbkkbiejjaaWAt
import Derived.Test.YthiecbkkbiejjaaWEqStruct
import Derived.Test.YthiecbkkbiejjaaWRepsOne
import Derived.Test.YthiecbkkbiejjaaWInv
import Derived.Test.YthiecbkkbiejjaaWInvWords
import Derived.Test.YthiecbkkbiejjaaWGuard
import Derived.Test.YthiecbkkbiejjaaWNEv
import Derived.Test.YthiecbkkbiejjaaWMore
namespace Go.Proofs.Ythiecbkkbiejjaa.PPathsCleans
open Go.RowKit Go.Proofs.YthiecbkkbiejjaaW.PrintWords Go.Proofs.YthiecbkkbiejjaaW.PrintLast Go.Proofs.YthiecbkkbiejjaaW.PrintMore
attribute [local go_sem] max2_int min2_int max_two min_two max_three min_three max_four min_four   -- for this text's walks alone
set_option linter.unusedVariables false
set_option linter.unusedSimpArgs false



def errW : Option Int → Value
  | none => .nilIface
  | some c => .iface 0 (.int .i64 c)
theorem errW_none : errW none = .nilIface := rfl
theorem errW_some (c : Int) : errW (some c) = .iface 0 (.int .i64 c) := rfl

theorem info9 : (Try.prog.info? 9).map (fun i => (i.zero, i.size, i.bytes)) = some (some (.string ⟨#[]⟩), 1, 16) := by kernel_rfl
-- the values' own types

end Go.Proofs.Ythiecbkkbiejjaa.PPathsCleans
