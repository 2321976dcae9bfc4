/- Laid by a program of this session out of the translation: functions, their contracts, the row. Lean checks it. -/
import Derived.Test.YtloiafnoekpaoabPFnExactPiecesValidx0
import Derived.Test.YtloiafnoekpaoabPFnExactPiecesValidx1
import Derived.Test.YtloiafnoekpaoabPFnExactPiecesValidx2
import Derived.Test.YtloiafnoekpaoabPFnExactPiecesValidx3
import Derived.Test.YtloiafnoekpaoabPFnExactPiecesValidx4
import Derived.Test.YtloiafnoekpaoabPFnExactPiecesValidx5
import Derived.Test.YtloiafnoekpaoabPFnExactPiecesValidx6
import Derived.Test.YtloiafnoekpaoabPFnExactPiecesValidx7
import Derived.Test.YtloiafnoekpaoabPFnExactPiecesValidx8
import Derived.Test.YtloiafnoekpaoabPFnExactPiecesValidx9
import Derived.Test.YtloiafnoekpaoabPFnExactPiecesValidx10
namespace Go.Proofs.Ytloiafnoekpaoab.PFnExactPiecesValid
open Go.RowKit Go.Proofs.YtloiafnoekpaoabW.PrintWords Go.Proofs.YtloiafnoekpaoabW.PrintLast Go.Proofs.YtloiafnoekpaoabW.PrintMore
attribute [local go_sem] max2_int min2_int max_two min_two max_three min_three max_four min_four   -- for this text's walks alone
set_option linter.unusedVariables false
set_option linter.unusedSimpArgs false

end Go.Proofs.Ytloiafnoekpaoab.PFnExactPiecesValid
