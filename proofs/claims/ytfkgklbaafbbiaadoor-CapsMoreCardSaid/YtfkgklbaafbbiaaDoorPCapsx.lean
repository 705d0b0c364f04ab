-- Laid by a program of this session (tools/patch_print.py) out of the translation. Not trusted: Lean checks it.
import Derived.Test.YtfkgklbaafbbiaaDoorPCapsx0
import Derived.Test.YtfkgklbaafbbiaaDoorPCapsx1
import Derived.Test.YtfkgklbaafbbiaaDoorPCapsx2
import Derived.Test.YtfkgklbaafbbiaaDoorPCapsx3
import Derived.Test.YtfkgklbaafbbiaaDoorPCapsx4
namespace Go.Proofs.YtfkgklbaafbbiaaDoor.PCaps
open Go.RowKit Go.Proofs.YtfkgklbaafbbiaaDoorW.PrintWords Go.Proofs.YtfkgklbaafbbiaaDoorW.PrintLast Go.Proofs.YtfkgklbaafbbiaaDoorW.PrintMore
attribute [local go_sem] max2_int min2_int max_two min_two max_three min_three max_four min_four   -- for this text's walks alone
set_option linter.unusedVariables false
set_option linter.unusedSimpArgs false

end Go.Proofs.YtfkgklbaafbbiaaDoor.PCaps
