-- Laid by a program of this session (tools/patch_print.py) out of the translation. Not trusted: Lean checks it.
import Derived.Test.YtinjbabmpnljoaaProg
import Derived.Below
import Derived.Deep.Draws
import Derived.Deep.AppendLies
import Derived.Maps.AppendAt
import Derived.OwnWalk
import Derived.Laws.BytesArg
import Derived.Laws.MakeOwn
import Derived.Laws.OwnMore
import Derived.Deep.OwnRows
import Derived.Tactics
import Derived.Lib.ConvBytes
import Derived.Laws.Slices
import Derived.WalkKit
import Derived.KernelRfl
import Derived.RowKit3
import Derived.Deep.LoopGhost
import Derived.Deep.QuietTactic
import Derived.BigQuiet
import Derived.WideLaws
import Derived.Deep.DeepCutAuto
import Derived.Deep.CutBlock
import Derived.Deep.RegionHeld3
import Derived.Laws.Rows
import Derived.Lib.AppendStr
import Derived.ArgAppend
import Derived.Laws.IdiomCopy
import Derived.OrdersHeld
import Derived.Laws.BitsLemmas
import Derived.RowKit
import Derived.Handy
import Derived.Lib.Hide
import Derived.Lib.Bytealg
import Derived.Lib.IndexBytes
import Derived.WalkMore
import Derived.Test.YtinjbabmpnljoaaWWords
import Derived.Test.YtinjbabmpnljoaaWLast
import Derived.Test.YtinjbabmpnljoaaWTab
import Derived.Test.YtinjbabmpnljoaaWFour
import Derived.Test.YtinjbabmpnljoaaWQPut
import Derived.Test.YtinjbabmpnljoaaWApart
import Derived.Test.YtinjbabmpnljoaaWArr
import Derived.Test.YtinjbabmpnljoaaWZeros
import Derived.Test.YtinjbabmpnljoaaWFoot
import Derived.Test.YtinjbabmpnljoaaWKept
import Derived.Test.YtinjbabmpnljoaaWShare
import Derived.Test.YtinjbabmpnljoaaWN
import Derived.Test.YtinjbabmpnljoaaWFootNe
import Derived.Test.YtinjbabmpnljoaaWAt
import Derived.Test.YtinjbabmpnljoaaWEqStruct
import Derived.Test.YtinjbabmpnljoaaWRepsOne
import Derived.Test.YtinjbabmpnljoaaWInv
import Derived.Test.YtinjbabmpnljoaaWInvWords
import Derived.Test.YtinjbabmpnljoaaWGuard
import Derived.Test.YtinjbabmpnljoaaWNEv
import Derived.Test.YtinjbabmpnljoaaWMore
namespace Go.Proofs.Ytinjbabmpnljoaa.PClassTells
open Go.RowKit Go.Proofs.YtinjbabmpnljoaaW.PrintWords Go.Proofs.YtinjbabmpnljoaaW.PrintLast Go.Proofs.YtinjbabmpnljoaaW.PrintMore
attribute [local go_sem] max2_int min2_int max_two min_two max_three min_three max_four min_four   -- for this text's walks alone
set_option linter.unusedVariables false
set_option linter.unusedSimpArgs false



def errW : Option Int → Value
  | none => .nilIface
  | some c => .iface 0 (.int .i64 c)
theorem errW_none : errW none = .nilIface := rfl
theorem errW_some (c : Int) : errW (some c) = .iface 0 (.int .i64 c) := rfl

-- the values' own types

end Go.Proofs.Ytinjbabmpnljoaa.PClassTells
