/- Laid by a program of this session out of the translation: functions, their contracts, the row. Lean checks it. -/
import Derived.Test.YtokjmppkiihdlaaPFnExactTurnOrderx0
import Derived.Test.YtokjmppkiihdlaaPFnExactTurnOrderx1
import Derived.Test.YtokjmppkiihdlaaPFnExactTurnOrderx2
namespace Go.Proofs.Ytokjmppkiihdlaa.PFnExactTurnOrder
open Go.RowKit Go.Proofs.YtokjmppkiihdlaaW.PrintWords Go.Proofs.YtokjmppkiihdlaaW.PrintLast Go.Proofs.YtokjmppkiihdlaaW.PrintMore
attribute [local go_sem] max2_int min2_int max_two min_two max_three min_three max_four min_four   -- for this text's walks alone
set_option linter.unusedVariables false
set_option linter.unusedSimpArgs false

end Go.Proofs.Ytokjmppkiihdlaa.PFnExactTurnOrder
