-- Laid by a program of this session (tools/patch_print.py) out of the translation. Not trusted: Lean checks it.
import Derived.Test.YtfkgklbaafbbiaaPAKeepx0
import Derived.Test.YtfkgklbaafbbiaaPAKeepx1
import Derived.Test.YtfkgklbaafbbiaaPAKeepx2
namespace Go.Proofs.Ytfkgklbaafbbiaa.PAKeep
open Go.RowKit Go.Proofs.YtfkgklbaafbbiaaW.PrintWords Go.Proofs.YtfkgklbaafbbiaaW.PrintLast Go.Proofs.YtfkgklbaafbbiaaW.PrintMore
attribute [local go_sem] max2_int min2_int max_two min_two max_three min_three max_four min_four   -- for this text's walks alone
set_option linter.unusedVariables false
set_option linter.unusedSimpArgs false

end Go.Proofs.Ytfkgklbaafbbiaa.PAKeep
