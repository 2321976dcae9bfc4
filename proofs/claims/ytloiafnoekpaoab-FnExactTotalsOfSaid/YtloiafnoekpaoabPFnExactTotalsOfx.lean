/- Laid by a program of this session out of the translation: functions, their contracts, the row. Lean checks it. -/
import Derived.Test.YtloiafnoekpaoabPFnExactTotalsOfx0
import Derived.Test.YtloiafnoekpaoabPFnExactTotalsOfx1
import Derived.Test.YtloiafnoekpaoabPFnExactTotalsOfx2
import Derived.Test.YtloiafnoekpaoabPFnExactTotalsOfx3
import Derived.Test.YtloiafnoekpaoabPFnExactTotalsOfx4
import Derived.Test.YtloiafnoekpaoabPFnExactTotalsOfx5
namespace Go.Proofs.Ytloiafnoekpaoab.PFnExactTotalsOf
open Go.RowKit Go.Proofs.YtloiafnoekpaoabW.PrintWords Go.Proofs.YtloiafnoekpaoabW.PrintLast Go.Proofs.YtloiafnoekpaoabW.PrintMore
attribute [local go_sem] max2_int min2_int max_two min_two max_three min_three max_four min_four   -- for this text's walks alone
set_option linter.unusedVariables false
set_option linter.unusedSimpArgs false

end Go.Proofs.Ytloiafnoekpaoab.PFnExactTotalsOf
