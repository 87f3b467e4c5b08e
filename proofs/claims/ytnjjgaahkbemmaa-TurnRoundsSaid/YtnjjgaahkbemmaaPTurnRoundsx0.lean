/- What the functions that the law reaches answer, each as a plain Lean function, with a proof that the call in memory comes to that answer. Written by wip/tools/given.py of this session out of the print.py of the kit, with stand-ins for some functions. -/
import Derived.Test.YtnjjgaahkbemmaaProg
import Derived.Below
import Derived.Deep.Draws
import Derived.Deep.AppendLies
import Derived.Maps.AppendAt
import Derived.OwnWalk
import Derived.Laws.BytesArg
import Derived.Laws.MakeOwn
import Derived.Laws.OwnMore
import Derived.Deep.OwnRows
import Derived.Tactics
import Derived.Lib.ConvBytes
import Derived.Laws.Slices
import Derived.WalkKit
import Derived.KernelRfl
import Derived.RowKit3
import Derived.Deep.LoopGhost
import Derived.Deep.QuietTactic
import Derived.BigQuiet
import Derived.WideLaws
import Derived.Deep.DeepCutAuto
import Derived.Deep.CutBlock
import Derived.Deep.RegionHeld3
import Derived.Laws.Rows
import Derived.Lib.AppendStr
import Derived.ArgAppend
import Derived.Laws.IdiomCopy
import Derived.OrdersHeld
import Derived.Laws.BitsLemmas
import Derived.RowKit
import Derived.Test.YtnjjgaahkbemmaaWWords
import Derived.Test.YtnjjgaahkbemmaaWLast
import Derived.Test.YtnjjgaahkbemmaaWTab
import Derived.Test.YtnjjgaahkbemmaaWFour
import Derived.Test.YtnjjgaahkbemmaaWQPut
import Derived.Test.YtnjjgaahkbemmaaWApart
import Derived.Test.YtnjjgaahkbemmaaWArr
import Derived.Test.YtnjjgaahkbemmaaWZeros
import Derived.Test.YtnjjgaahkbemmaaWFoot
import Derived.Test.YtnjjgaahkbemmaaWKept
import Derived.Test.YtnjjgaahkbemmaaWShare
import Derived.Test.YtnjjgaahkbemmaaWN
import Derived.Test.YtnjjgaahkbemmaaWFootNe
import Derived.Test.YtnjjgaahkbemmaaWAt
import Derived.Test.YtnjjgaahkbemmaaWEqStruct
import Derived.Test.YtnjjgaahkbemmaaWRepsOne
import Derived.Test.YtnjjgaahkbemmaaWInv
import Derived.Test.YtnjjgaahkbemmaaWInvWords
import Derived.Test.YtnjjgaahkbemmaaWGuard
import Derived.Test.YtnjjgaahkbemmaaWNEv
import Derived.Test.YtnjjgaahkbemmaaWMore
namespace Go.Proofs.Ytnjjgaahkbemmaa.PTurnRounds
open Go.RowKit Go.Proofs.YtnjjgaahkbemmaaW.PrintWords Go.Proofs.YtnjjgaahkbemmaaW.PrintLast Go.Proofs.YtnjjgaahkbemmaaW.PrintMore
attribute [local go_sem] max2_int min2_int max_two min_two max_three min_three max_four min_four   -- for this text's walks alone
set_option linter.unusedVariables false
set_option linter.unusedSimpArgs false



def errW : Option Int → Value
  | none => .nilIface
  | some c => .iface 0 (.int .i64 c)
theorem errW_none : errW none = .nilIface := rfl
theorem errW_some (c : Int) : errW (some c) = .iface 0 (.int .i64 c) := rfl

theorem info3 : (Try.prog.info? 3).map (fun i => (i.zero, i.size, i.bytes)) = some (some (.int .i64 0), 1, 8) := by kernel_rfl
theorem info4 : (Try.prog.info? 4).map (fun i => (i.zero, i.size, i.bytes)) = some (some (.bool false), 1, 1) := by kernel_rfl
-- the values' own types

end Go.Proofs.Ytnjjgaahkbemmaa.PTurnRounds
