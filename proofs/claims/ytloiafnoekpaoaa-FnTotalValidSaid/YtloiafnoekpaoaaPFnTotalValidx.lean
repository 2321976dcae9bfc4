/- Laid by a program of this session out of the translation: functions, their contracts, the row. Lean checks it. -/
import Derived.Test.YtloiafnoekpaoaaPFnTotalValidx0
import Derived.Test.YtloiafnoekpaoaaPFnTotalValidx1
import Derived.Test.YtloiafnoekpaoaaPFnTotalValidx2
import Derived.Test.YtloiafnoekpaoaaPFnTotalValidx3
import Derived.Test.YtloiafnoekpaoaaPFnTotalValidx4
import Derived.Test.YtloiafnoekpaoaaPFnTotalValidx5
namespace Go.Proofs.Ytloiafnoekpaoaa.PFnTotalValid
open Go.RowKit Go.Proofs.YtloiafnoekpaoaaW.PrintWords Go.Proofs.YtloiafnoekpaoaaW.PrintLast Go.Proofs.YtloiafnoekpaoaaW.PrintMore
attribute [local go_sem] max2_int min2_int max_two min_two max_three min_three max_four min_four   -- for this text's walks alone
set_option linter.unusedVariables false
set_option linter.unusedSimpArgs false

end Go.Proofs.Ytloiafnoekpaoaa.PFnTotalValid
