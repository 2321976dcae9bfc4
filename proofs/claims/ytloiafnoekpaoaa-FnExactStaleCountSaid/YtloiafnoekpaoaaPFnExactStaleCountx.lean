/- Laid by a program of this session out of the translation: functions, their contracts, the row. Lean checks it. -/
import Derived.Test.YtloiafnoekpaoaaPFnExactStaleCountx0
import Derived.Test.YtloiafnoekpaoaaPFnExactStaleCountx1
import Derived.Test.YtloiafnoekpaoaaPFnExactStaleCountx2
namespace Go.Proofs.Ytloiafnoekpaoaa.PFnExactStaleCount
open Go.RowKit Go.Proofs.YtloiafnoekpaoaaW.PrintWords Go.Proofs.YtloiafnoekpaoaaW.PrintLast Go.Proofs.YtloiafnoekpaoaaW.PrintMore
attribute [local go_sem] max2_int min2_int max_two min_two max_three min_three max_four min_four   -- for this text's walks alone
set_option linter.unusedVariables false
set_option linter.unusedSimpArgs false

end Go.Proofs.Ytloiafnoekpaoaa.PFnExactStaleCount
