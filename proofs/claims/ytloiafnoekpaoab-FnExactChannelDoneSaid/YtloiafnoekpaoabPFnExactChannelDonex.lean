/- Laid by a program of this session out of the translation: functions, their contracts, the row. Lean checks it. -/
import Derived.Test.YtloiafnoekpaoabPFnExactChannelDonex0
import Derived.Test.YtloiafnoekpaoabPFnExactChannelDonex1
import Derived.Test.YtloiafnoekpaoabPFnExactChannelDonex2
import Derived.Test.YtloiafnoekpaoabPFnExactChannelDonex3
import Derived.Test.YtloiafnoekpaoabPFnExactChannelDonex4
import Derived.Test.YtloiafnoekpaoabPFnExactChannelDonex5
import Derived.Test.YtloiafnoekpaoabPFnExactChannelDonex6
namespace Go.Proofs.Ytloiafnoekpaoab.PFnExactChannelDone
open Go.RowKit Go.Proofs.YtloiafnoekpaoabW.PrintWords Go.Proofs.YtloiafnoekpaoabW.PrintLast Go.Proofs.YtloiafnoekpaoabW.PrintMore
attribute [local go_sem] max2_int min2_int max_two min_two max_three min_three max_four min_four   -- for this text's walks alone
set_option linter.unusedVariables false
set_option linter.unusedSimpArgs false

end Go.Proofs.Ytloiafnoekpaoab.PFnExactChannelDone
