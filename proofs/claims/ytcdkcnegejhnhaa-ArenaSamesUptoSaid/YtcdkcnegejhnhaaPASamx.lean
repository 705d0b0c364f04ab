-- Laid by a program of this session (tools/patch_print.py) out of the translation. Not trusted: Lean checks it.
import Derived.Test.YtcdkcnegejhnhaaPASamx0
import Derived.Test.YtcdkcnegejhnhaaPASamx1
import Derived.Test.YtcdkcnegejhnhaaPASamx2
import Derived.Test.YtcdkcnegejhnhaaPASamx3
import Derived.Test.YtcdkcnegejhnhaaPASamx4
import Derived.Test.YtcdkcnegejhnhaaPASamx5
namespace Go.Proofs.Ytcdkcnegejhnhaa.PASam
open Go.RowKit Go.Proofs.YtcdkcnegejhnhaaW.PrintWords Go.Proofs.YtcdkcnegejhnhaaW.PrintLast Go.Proofs.YtcdkcnegejhnhaaW.PrintMore
attribute [local go_sem] max2_int min2_int max_two min_two max_three min_three max_four min_four   -- for this text's walks alone
set_option linter.unusedVariables false
set_option linter.unusedSimpArgs false

end Go.Proofs.Ytcdkcnegejhnhaa.PASam
