/- What the functions that the law reaches answer, each as a plain Lean function, with a proof that the call in memory comes to that answer. Written by wip/tools/given.py of this session out of the print.py of the kit, with stand-ins for some functions. -/
import Derived.Test.YtjbhjjdahakjmaaProg
import Derived.Below
import Derived.Deep.Draws
import Derived.Deep.AppendLies
import Derived.Maps.AppendAt
import Derived.OwnWalk
import Derived.Laws.BytesArg
import Derived.Laws.MakeOwn
import Derived.Laws.OwnMore
import Derived.Deep.OwnRows
import Derived.Tactics
import Derived.Lib.ConvBytes
import Derived.Laws.Slices
import Derived.WalkKit
import Derived.KernelRfl
import Derived.RowKit3
import Derived.Deep.LoopGhost
import Derived.Deep.QuietTactic
import Derived.BigQuiet
import Derived.WideLaws
import Derived.Deep.DeepCutAuto
import Derived.Deep.CutBlock
import Derived.Deep.RegionHeld3
import Derived.Laws.Rows
import Derived.Lib.AppendStr
import Derived.ArgAppend
import Derived.Laws.IdiomCopy
import Derived.OrdersHeld
import Derived.Laws.BitsLemmas
import Derived.RowKit
import Derived.Test.YtjbhjjdahakjmaaWWords
import Derived.Test.YtjbhjjdahakjmaaWLast
import Derived.Test.YtjbhjjdahakjmaaWTab
import Derived.Test.YtjbhjjdahakjmaaWFour
import Derived.Test.YtjbhjjdahakjmaaWQPut
import Derived.Test.YtjbhjjdahakjmaaWApart
import Derived.Test.YtjbhjjdahakjmaaWArr
import Derived.Test.YtjbhjjdahakjmaaWZeros
import Derived.Test.YtjbhjjdahakjmaaWFoot
import Derived.Test.YtjbhjjdahakjmaaWKept
import Derived.Test.YtjbhjjdahakjmaaWShare
import Derived.Test.YtjbhjjdahakjmaaWN
import Derived.Test.YtjbhjjdahakjmaaWFootNe
import Derived.Test.YtjbhjjdahakjmaaWAt
import Derived.Test.YtjbhjjdahakjmaaWEqStruct
import Derived.Test.YtjbhjjdahakjmaaWRepsOne
import Derived.Test.YtjbhjjdahakjmaaWInv
import Derived.Test.YtjbhjjdahakjmaaWInvWords
import Derived.Test.YtjbhjjdahakjmaaWGuard
import Derived.Test.YtjbhjjdahakjmaaWNEv
import Derived.Test.YtjbhjjdahakjmaaWMore
namespace Go.Proofs.Ytjbhjjdahakjmaa.PLockFirst
open Go.RowKit Go.Proofs.YtjbhjjdahakjmaaW.PrintWords Go.Proofs.YtjbhjjdahakjmaaW.PrintLast Go.Proofs.YtjbhjjdahakjmaaW.PrintMore
attribute [local go_sem] max2_int min2_int max_two min_two max_three min_three max_four min_four   -- for this text's walks alone
set_option linter.unusedVariables false
set_option linter.unusedSimpArgs false



def errW : Option Int → Value
  | none => .nilIface
  | some c => .iface 0 (.int .i64 c)
theorem errW_none : errW none = .nilIface := rfl
theorem errW_some (c : Int) : errW (some c) = .iface 0 (.int .i64 c) := rfl

theorem info3 : (Try.prog.info? 3).map (fun i => (i.zero, i.size, i.bytes)) = some (some (.int .i64 0), 1, 8) := by kernel_rfl
-- the values' own types

end Go.Proofs.Ytjbhjjdahakjmaa.PLockFirst
