/- Laid by a program of this session out of the translation: functions, their contracts, the row. Lean checks it. -/
import Derived.Test.YtgdcnlmhdbdijaaPFnExactCombineMessagesx0
import Derived.Test.YtgdcnlmhdbdijaaPFnExactCombineMessagesx1
import Derived.Test.YtgdcnlmhdbdijaaPFnExactCombineMessagesx2
import Derived.Test.YtgdcnlmhdbdijaaPFnExactCombineMessagesx3
import Derived.Test.YtgdcnlmhdbdijaaPFnExactCombineMessagesx4
import Derived.Test.YtgdcnlmhdbdijaaPFnExactCombineMessagesx5
import Derived.Test.YtgdcnlmhdbdijaaPFnExactCombineMessagesx6
import Derived.Test.YtgdcnlmhdbdijaaPFnExactCombineMessagesx7
import Derived.Test.YtgdcnlmhdbdijaaPFnExactCombineMessagesx8
import Derived.Test.YtgdcnlmhdbdijaaPFnExactCombineMessagesx9
namespace Go.Proofs.Ytgdcnlmhdbdijaa.PFnExactCombineMessages
open Go.RowKit Go.Proofs.YtgdcnlmhdbdijaaW.PrintWords Go.Proofs.YtgdcnlmhdbdijaaW.PrintLast Go.Proofs.YtgdcnlmhdbdijaaW.PrintMore
attribute [local go_sem] max2_int min2_int max_two min_two max_three min_three max_four min_four   -- for this text's walks alone
set_option linter.unusedVariables false
set_option linter.unusedSimpArgs false

end Go.Proofs.Ytgdcnlmhdbdijaa.PFnExactCombineMessages
