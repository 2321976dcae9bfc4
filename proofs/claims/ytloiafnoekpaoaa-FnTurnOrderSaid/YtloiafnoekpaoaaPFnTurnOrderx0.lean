/- Laid by a program of this session out of the translation: functions, their contracts, the row. Lean checks it. -/
import Derived.Test.YtloiafnoekpaoaaProg
import Derived.Below
import Derived.Deep.Draws
import Derived.Deep.AppendLies
import Derived.Maps.AppendAt
import Derived.OwnWalk
import Derived.Laws.BytesArg
import Derived.Laws.MakeOwn
import Derived.Laws.OwnMore
import Derived.Deep.OwnRows
import Derived.Tactics
import Derived.Lib.ConvBytes
import Derived.Laws.Slices
import Derived.WalkKit
import Derived.KernelRfl
import Derived.RowKit3
import Derived.Deep.LoopGhost
import Derived.Deep.QuietTactic
import Derived.BigQuiet
import Derived.WideLaws
import Derived.Deep.DeepCutAuto
import Derived.Deep.CutBlock
import Derived.Deep.RegionHeld3
import Derived.Laws.Rows
import Derived.Lib.AppendStr
import Derived.ArgAppend
import Derived.Laws.IdiomCopy
import Derived.OrdersHeld
import Derived.Laws.BitsLemmas
import Derived.RowKit
import Derived.Test.YtloiafnoekpaoaaK
import Derived.Test.YtloiafnoekpaoaaWWords
import Derived.Test.YtloiafnoekpaoaaWLast
import Derived.Test.YtloiafnoekpaoaaWTab
import Derived.Test.YtloiafnoekpaoaaWFour
import Derived.Test.YtloiafnoekpaoaaWQPut
import Derived.Test.YtloiafnoekpaoaaWApart
import Derived.Test.YtloiafnoekpaoaaWArr
import Derived.Test.YtloiafnoekpaoaaWZeros
import Derived.Test.YtloiafnoekpaoaaWFoot
import Derived.Test.YtloiafnoekpaoaaWKept
import Derived.Test.YtloiafnoekpaoaaWShare
import Derived.Test.YtloiafnoekpaoaaWN
import Derived.Test.YtloiafnoekpaoaaWFootNe
import Derived.Test.YtloiafnoekpaoaaWAt
import Derived.Test.YtloiafnoekpaoaaWEqStruct
import Derived.Test.YtloiafnoekpaoaaWRepsOne
import Derived.Test.YtloiafnoekpaoaaWInv
import Derived.Test.YtloiafnoekpaoaaWInvWords
import Derived.Test.YtloiafnoekpaoaaWGuard
import Derived.Test.YtloiafnoekpaoaaWNEv
import Derived.Test.YtloiafnoekpaoaaWMore
namespace Go.Proofs.Ytloiafnoekpaoaa.PFnTurnOrder
open Go.RowKit Go.Proofs.YtloiafnoekpaoaaW.PrintWords Go.Proofs.YtloiafnoekpaoaaW.PrintLast Go.Proofs.YtloiafnoekpaoaaW.PrintMore
attribute [local go_sem] max2_int min2_int max_two min_two max_three min_three max_four min_four   -- for this text's walks alone
set_option linter.unusedVariables false
set_option linter.unusedSimpArgs false



def errW : Option Int → Value
  | none => .nilIface
  | some c => .iface 0 (.int .i64 c)
theorem errW_none : errW none = .nilIface := rfl
theorem errW_some (c : Int) : errW (some c) = .iface 0 (.int .i64 c) := rfl

theorem info3 : (Try.prog.info? 3).map (fun i => (i.zero, i.size, i.bytes)) = some (some (.int .i64 0), 1, 8) := by kernel_rfl
theorem info5 : (Try.prog.info? 5).map (fun i => (i.zero, i.size, i.bytes)) = some (some (.int .u8 0), 1, 1) := by kernel_rfl
-- the values' own types

end Go.Proofs.Ytloiafnoekpaoaa.PFnTurnOrder
