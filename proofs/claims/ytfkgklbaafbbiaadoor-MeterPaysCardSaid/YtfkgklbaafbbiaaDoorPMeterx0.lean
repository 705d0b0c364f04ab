-- Laid by a program of this session (tools/patch_print.py) out of the translation. Not trusted: Lean checks it.
import Derived.Test.YtfkgklbaafbbiaaDoorProg
import Derived.Below
import Derived.Deep.Draws
import Derived.Deep.AppendLies
import Derived.Maps.AppendAt
import Derived.OwnWalk
import Derived.Laws.BytesArg
import Derived.Laws.MakeOwn
import Derived.Laws.OwnMore
import Derived.Deep.OwnRows
import Derived.Tactics
import Derived.Lib.ConvBytes
import Derived.Laws.Slices
import Derived.WalkKit
import Derived.KernelRfl
import Derived.RowKit3
import Derived.Deep.LoopGhost
import Derived.Deep.QuietTactic
import Derived.BigQuiet
import Derived.WideLaws
import Derived.Deep.DeepCutAuto
import Derived.Deep.CutBlock
import Derived.Deep.RegionHeld3
import Derived.Laws.Rows
import Derived.Lib.AppendStr
import Derived.ArgAppend
import Derived.Laws.IdiomCopy
import Derived.OrdersHeld
import Derived.Laws.BitsLemmas
import Derived.RowKit
import Derived.Handy
import Derived.Outline
import Derived.Deep.LoopGhost
import Derived.Deep.RegionHeld3
import Derived.Laws.Rows
import Derived.Lib.Hide
import Derived.Laws.EntriesVeiled
import Derived.OpenShut
import Derived.ChangeSame
import Derived.LaidHandle
import Derived.LaidMore
import Derived.Test.YtfkgklbaafbbiaaDoorRows
import Derived.Test.YtfkgklbaafbbiaaDoorShelf
import Derived.Test.YtfkgklbaafbbiaaDoorRows
import Derived.Lib.LaidU8
import Derived.Lib.LaidTab
import Derived.MakeChecks
import Derived.Handy
import Derived.Lib.AppendIntMem
import Derived.Test.YtfkgklbaafbbiaaDoorWWords
import Derived.Test.YtfkgklbaafbbiaaDoorWLast
import Derived.Test.YtfkgklbaafbbiaaDoorWTab
import Derived.Test.YtfkgklbaafbbiaaDoorWFour
import Derived.Test.YtfkgklbaafbbiaaDoorWQPut
import Derived.Test.YtfkgklbaafbbiaaDoorWApart
import Derived.Test.YtfkgklbaafbbiaaDoorWArr
import Derived.Test.YtfkgklbaafbbiaaDoorWZeros
import Derived.Test.YtfkgklbaafbbiaaDoorWFoot
import Derived.Test.YtfkgklbaafbbiaaDoorWKept
import Derived.Test.YtfkgklbaafbbiaaDoorWShare
import Derived.Test.YtfkgklbaafbbiaaDoorWN
import Derived.Test.YtfkgklbaafbbiaaDoorWFootNe
import Derived.Test.YtfkgklbaafbbiaaDoorWAt
import Derived.Test.YtfkgklbaafbbiaaDoorWEqStruct
import Derived.Test.YtfkgklbaafbbiaaDoorWRepsOne
import Derived.Test.YtfkgklbaafbbiaaDoorWInv
import Derived.Test.YtfkgklbaafbbiaaDoorWInvWords
import Derived.Test.YtfkgklbaafbbiaaDoorWGuard
import Derived.Test.YtfkgklbaafbbiaaDoorWNEv
import Derived.Test.YtfkgklbaafbbiaaDoorWMore
namespace Go.Proofs.YtfkgklbaafbbiaaDoor.PMeter
open Go.RowKit Go.Proofs.YtfkgklbaafbbiaaDoorW.PrintWords Go.Proofs.YtfkgklbaafbbiaaDoorW.PrintLast Go.Proofs.YtfkgklbaafbbiaaDoorW.PrintMore
attribute [local go_sem] max2_int min2_int max_two min_two max_three min_three max_four min_four   -- for this text's walks alone
set_option linter.unusedVariables false
set_option linter.unusedSimpArgs false



def errW : Option Int → Value
  | none => .nilIface
  | some c => .iface 0 (.int .i64 c)
theorem errW_none : errW none = .nilIface := rfl
theorem errW_some (c : Int) : errW (some c) = .iface 0 (.int .i64 c) := rfl

theorem info5 : (Tryd.prog.info? 5).map (fun i => (i.zero, i.size, i.bytes)) = some (some (.int .u8 0), 1, 1) := by kernel_rfl
-- the values' own types

end Go.Proofs.YtfkgklbaafbbiaaDoor.PMeter
