/- Laid by a program of this session out of the translation: functions, their contracts, the row. Lean checks it. -/
import Derived.Test.YtokjmppkiihdlaaProg
import Derived.Below
import Derived.Deep.Draws
import Derived.Deep.AppendLies
import Derived.Maps.AppendAt
import Derived.OwnWalk
import Derived.Laws.BytesArg
import Derived.Laws.MakeOwn
import Derived.Laws.OwnMore
import Derived.Deep.OwnRows
import Derived.Tactics
import Derived.Lib.ConvBytes
import Derived.Laws.Slices
import Derived.WalkKit
import Derived.KernelRfl
import Derived.RowKit3
import Derived.Deep.LoopGhost
import Derived.Deep.QuietTactic
import Derived.BigQuiet
import Derived.WideLaws
import Derived.Deep.DeepCutAuto
import Derived.Deep.CutBlock
import Derived.Deep.RegionHeld3
import Derived.Laws.Rows
import Derived.Lib.AppendStr
import Derived.ArgAppend
import Derived.Laws.IdiomCopy
import Derived.OrdersHeld
import Derived.Laws.BitsLemmas
import Derived.RowKit
import Derived.Test.YtokjmppkiihdlaaK
import Derived.Test.YtokjmppkiihdlaaWWords
import Derived.Test.YtokjmppkiihdlaaWLast
import Derived.Test.YtokjmppkiihdlaaWTab
import Derived.Test.YtokjmppkiihdlaaWFour
import Derived.Test.YtokjmppkiihdlaaWQPut
import Derived.Test.YtokjmppkiihdlaaWApart
import Derived.Test.YtokjmppkiihdlaaWArr
import Derived.Test.YtokjmppkiihdlaaWZeros
import Derived.Test.YtokjmppkiihdlaaWFoot
import Derived.Test.YtokjmppkiihdlaaWKept
import Derived.Test.YtokjmppkiihdlaaWShare
import Derived.Test.YtokjmppkiihdlaaWN
import Derived.Test.YtokjmppkiihdlaaWFootNe
import Derived.Test.YtokjmppkiihdlaaWAt
import Derived.Test.YtokjmppkiihdlaaWEqStruct
import Derived.Test.YtokjmppkiihdlaaWRepsOne
import Derived.Test.YtokjmppkiihdlaaWInv
import Derived.Test.YtokjmppkiihdlaaWInvWords
import Derived.Test.YtokjmppkiihdlaaWGuard
import Derived.Test.YtokjmppkiihdlaaWNEv
import Derived.Test.YtokjmppkiihdlaaWMore
namespace Go.Proofs.Ytokjmppkiihdlaa.PFnExactTotalValid
open Go.RowKit Go.Proofs.YtokjmppkiihdlaaW.PrintWords Go.Proofs.YtokjmppkiihdlaaW.PrintLast Go.Proofs.YtokjmppkiihdlaaW.PrintMore
attribute [local go_sem] max2_int min2_int max_two min_two max_three min_three max_four min_four   -- for this text's walks alone
set_option linter.unusedVariables false
set_option linter.unusedSimpArgs false



def errW : Option Int → Value
  | none => .nilIface
  | some c => .iface 0 (.int .i64 c)
theorem errW_none : errW none = .nilIface := rfl
theorem errW_some (c : Int) : errW (some c) = .iface 0 (.int .i64 c) := rfl

-- the values' own types

end Go.Proofs.Ytokjmppkiihdlaa.PFnExactTotalValid
