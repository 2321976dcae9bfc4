/- Laid by a program of this session out of the translation: functions, their contracts, the row. Lean checks it. -/
import Derived.Test.YtloiafnoekpaoabPFnExactStateDonex0
import Derived.Test.YtloiafnoekpaoabPFnExactStateDonex1
import Derived.Test.YtloiafnoekpaoabPFnExactStateDonex2
import Derived.Test.YtloiafnoekpaoabPFnExactStateDonex3
import Derived.Test.YtloiafnoekpaoabPFnExactStateDonex4
import Derived.Test.YtloiafnoekpaoabPFnExactStateDonex5
import Derived.Test.YtloiafnoekpaoabPFnExactStateDonex6
import Derived.Test.YtloiafnoekpaoabPFnExactStateDonex7
namespace Go.Proofs.Ytloiafnoekpaoab.PFnExactStateDone
open Go.RowKit Go.Proofs.YtloiafnoekpaoabW.PrintWords Go.Proofs.YtloiafnoekpaoabW.PrintLast Go.Proofs.YtloiafnoekpaoabW.PrintMore
attribute [local go_sem] max2_int min2_int max_two min_two max_three min_three max_four min_four   -- for this text's walks alone
set_option linter.unusedVariables false
set_option linter.unusedSimpArgs false

end Go.Proofs.Ytloiafnoekpaoab.PFnExactStateDone
