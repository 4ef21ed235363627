/- The machine side of a law: what Go functions compute, as Lean functions, and the proofs of it. Conditions: none. (Written by wip/myprint.py of this session's repo.) -/
import Derived.Test.YtgbncimfkjfjcaaProg
import Derived.Below
import Derived.Deep.Draws
import Derived.Deep.AppendLies
import Derived.Maps.AppendAt
import Derived.OwnWalk
import Derived.Laws.BytesArg
import Derived.Laws.MakeOwn
import Derived.Laws.OwnMore
import Derived.Deep.OwnRows
import Derived.Tactics
import Derived.Lib.ConvBytes
import Derived.Laws.Slices
import Derived.WalkKit
import Derived.KernelRfl
import Derived.RowKit3
import Derived.Deep.LoopGhost
import Derived.Deep.QuietTactic
import Derived.BigQuiet
import Derived.WideLaws
import Derived.Deep.DeepCutAuto
import Derived.Deep.CutBlock
import Derived.Deep.RegionHeld3
import Derived.Laws.Rows
import Derived.Lib.AppendStr
import Derived.ArgAppend
import Derived.Laws.IdiomCopy
import Derived.OrdersHeld
import Derived.Laws.BitsLemmas
import Derived.RowKit
import Derived.Lib.SlBytesConst
import Derived.Test.YtgbncimfkjfjcaaWWords
import Derived.Test.YtgbncimfkjfjcaaWLast
import Derived.Test.YtgbncimfkjfjcaaWTab
import Derived.Test.YtgbncimfkjfjcaaWFour
import Derived.Test.YtgbncimfkjfjcaaWQPut
import Derived.Test.YtgbncimfkjfjcaaWApart
import Derived.Test.YtgbncimfkjfjcaaWArr
import Derived.Test.YtgbncimfkjfjcaaWZeros
import Derived.Test.YtgbncimfkjfjcaaWFoot
import Derived.Test.YtgbncimfkjfjcaaWKept
import Derived.Test.YtgbncimfkjfjcaaWShare
import Derived.Test.YtgbncimfkjfjcaaWN
import Derived.Test.YtgbncimfkjfjcaaWFootNe
import Derived.Test.YtgbncimfkjfjcaaWAt
import Derived.Test.YtgbncimfkjfjcaaWEqStruct
import Derived.Test.YtgbncimfkjfjcaaWRepsOne
import Derived.Test.YtgbncimfkjfjcaaWInv
import Derived.Test.YtgbncimfkjfjcaaWInvWords
import Derived.Test.YtgbncimfkjfjcaaWGuard
import Derived.Test.YtgbncimfkjfjcaaWNEv
import Derived.Test.YtgbncimfkjfjcaaWMore
namespace Go.Proofs.Ytgbncimfkjfjcaa.STu
open Go.RowKit Go.Proofs.YtgbncimfkjfjcaaW.PrintWords Go.Proofs.YtgbncimfkjfjcaaW.PrintLast Go.Proofs.YtgbncimfkjfjcaaW.PrintMore
attribute [local go_sem] max2_int min2_int max_two min_two max_three min_three max_four min_four   -- for this text's walks alone
set_option linter.unusedVariables false
set_option linter.unusedSimpArgs false



def errW : Option Int → Value
  | none => .nilIface
  | some c => .iface 0 (.int .i64 c)
theorem errW_none : errW none = .nilIface := rfl
theorem errW_some (c : Int) : errW (some c) = .iface 0 (.int .i64 c) := rfl

theorem info5 : (Try.prog.info? 5).map (fun i => (i.zero, i.size, i.bytes)) = some (some (.int .u8 0), 1, 1) := by kernel_rfl
-- the values' own types

end Go.Proofs.Ytgbncimfkjfjcaa.STu
