/- Laid by a program of this session out of the translation: functions, their contracts, the row. Lean checks it. -/
import Derived.Test.YtgdcnlmhdbdijaaPFnCombineMessagesx0
import Derived.Test.YtgdcnlmhdbdijaaPFnCombineMessagesx1
import Derived.Test.YtgdcnlmhdbdijaaPFnCombineMessagesx2
import Derived.Test.YtgdcnlmhdbdijaaPFnCombineMessagesx3
import Derived.Test.YtgdcnlmhdbdijaaPFnCombineMessagesx4
import Derived.Test.YtgdcnlmhdbdijaaPFnCombineMessagesx5
import Derived.Test.YtgdcnlmhdbdijaaPFnCombineMessagesx6
import Derived.Test.YtgdcnlmhdbdijaaPFnCombineMessagesx7
import Derived.Test.YtgdcnlmhdbdijaaPFnCombineMessagesx8
import Derived.Test.YtgdcnlmhdbdijaaPFnCombineMessagesx9
import Derived.Test.YtgdcnlmhdbdijaaPFnCombineMessagesx10
import Derived.Test.YtgdcnlmhdbdijaaPFnCombineMessagesx11
import Derived.Test.YtgdcnlmhdbdijaaPFnCombineMessagesx12
namespace Go.Proofs.Ytgdcnlmhdbdijaa.PFnCombineMessages
open Go.RowKit Go.Proofs.YtgdcnlmhdbdijaaW.PrintWords Go.Proofs.YtgdcnlmhdbdijaaW.PrintLast Go.Proofs.YtgdcnlmhdbdijaaW.PrintMore
attribute [local go_sem] max2_int min2_int max_two min_two max_three min_three max_four min_four   -- for this text's walks alone
set_option linter.unusedVariables false
set_option linter.unusedSimpArgs false

end Go.Proofs.Ytgdcnlmhdbdijaa.PFnCombineMessages
