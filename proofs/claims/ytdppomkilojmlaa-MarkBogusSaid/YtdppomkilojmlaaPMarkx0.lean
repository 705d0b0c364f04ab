-- Laid by a program of this session (tools/patch_print.py) out of the translation. Not trusted: Lean checks it.
import Derived.Test.YtdppomkilojmlaaProg
import Derived.Below
import Derived.Deep.Draws
import Derived.Deep.AppendLies
import Derived.Maps.AppendAt
import Derived.OwnWalk
import Derived.Laws.BytesArg
import Derived.Laws.MakeOwn
import Derived.Laws.OwnMore
import Derived.Deep.OwnRows
import Derived.Tactics
import Derived.Lib.ConvBytes
import Derived.Laws.Slices
import Derived.WalkKit
import Derived.KernelRfl
import Derived.RowKit3
import Derived.Deep.LoopGhost
import Derived.Deep.QuietTactic
import Derived.BigQuiet
import Derived.WideLaws
import Derived.Deep.DeepCutAuto
import Derived.Deep.CutBlock
import Derived.Deep.RegionHeld3
import Derived.Laws.Rows
import Derived.Lib.AppendStr
import Derived.ArgAppend
import Derived.Laws.IdiomCopy
import Derived.OrdersHeld
import Derived.Laws.BitsLemmas
import Derived.RowKit
import Derived.Shelf.Bytes.SlIndexAt
import Derived.Handy
import Derived.Lib.Hide
import Derived.Lib.Bytealg
import Derived.Lib.IndexBytes
import Derived.WalkMore
import Derived.Lib.SlBytesConst
import Derived.Lib.SlBytesConst
import Derived.Test.YtdppomkilojmlaaShelf
import Derived.Test.YtdppomkilojmlaaWWords
import Derived.Test.YtdppomkilojmlaaWLast
import Derived.Test.YtdppomkilojmlaaWTab
import Derived.Test.YtdppomkilojmlaaWFour
import Derived.Test.YtdppomkilojmlaaWQPut
import Derived.Test.YtdppomkilojmlaaWApart
import Derived.Test.YtdppomkilojmlaaWArr
import Derived.Test.YtdppomkilojmlaaWZeros
import Derived.Test.YtdppomkilojmlaaWFoot
import Derived.Test.YtdppomkilojmlaaWKept
import Derived.Test.YtdppomkilojmlaaWShare
import Derived.Test.YtdppomkilojmlaaWN
import Derived.Test.YtdppomkilojmlaaWFootNe
import Derived.Test.YtdppomkilojmlaaWAt
import Derived.Test.YtdppomkilojmlaaWEqStruct
import Derived.Test.YtdppomkilojmlaaWRepsOne
import Derived.Test.YtdppomkilojmlaaWInv
import Derived.Test.YtdppomkilojmlaaWInvWords
import Derived.Test.YtdppomkilojmlaaWGuard
import Derived.Test.YtdppomkilojmlaaWNEv
import Derived.Test.YtdppomkilojmlaaWMore
namespace Go.Proofs.Ytdppomkilojmlaa.PMark
open Go.RowKit Go.Proofs.YtdppomkilojmlaaW.PrintWords Go.Proofs.YtdppomkilojmlaaW.PrintLast Go.Proofs.YtdppomkilojmlaaW.PrintMore
attribute [local go_sem] max2_int min2_int max_two min_two max_three min_three max_four min_four   -- for this text's walks alone
set_option linter.unusedVariables false
set_option linter.unusedSimpArgs false



def errW : Option Int → Value
  | none => .nilIface
  | some c => .iface 0 (.int .i64 c)
theorem errW_none : errW none = .nilIface := rfl
theorem errW_some (c : Int) : errW (some c) = .iface 0 (.int .i64 c) := rfl

theorem info5 : (Try.prog.info? 5).map (fun i => (i.zero, i.size, i.bytes)) = some (some (.int .u8 0), 1, 1) := by kernel_rfl
theorem info9 : (Try.prog.info? 9).map (fun i => (i.zero, i.size, i.bytes)) = some (some (.string ⟨#[]⟩), 1, 16) := by kernel_rfl
-- the values' own types

end Go.Proofs.Ytdppomkilojmlaa.PMark
