/-
  No cell of these rows narrows 'for every input' (looked for: loops, veiled, ifaces, maps, wideKeys, modest, calm, conditions, laid).
  DERIVED. THE GIVEN ROWS OF THIS SEAT. 5 by the template 'for every input the law returns true; each argument reads behind the call as it read before'; 0 by the template 'total and deterministic' (their statements: YtfkgklbaafbbiaaTotals.lean).
  GIVEN WITH THE SEED: the statements are not yours to turn. If you find one false, say at which input.
  Laid BY PROGRAM, IN A SANDBOX (cutbox-rows.mjs): the forced cells as the released guide's own fill.sh prints them over the translation 25bfc63bb40f0674… (all of the seat's roots in one cut). By AI agents, Wed Nov 11 2026. No macro, syntax, notation, axiom, sorry.
-/
import Derived.Test.YtfkgklbaafbbiaaChecked
import GoSem.Claim
import GoSem.ClaimJoined
import GoSem.ClaimMapViews
import Derived.JoinedTies
import Derived.KernelRfl
namespace Go.Proofs.Ytfkgklbaafbbiaa
/- THE CELL 'sum', in the pinned program and in every row, IS THE sha256 OF THE DUMP (.gsa) THAT YtfkgklbaafbbiaaProg.lean LOADS. Nothing in Lean hashes anything: it is a label: what it is worth is what the hold of that sum in a sandbox is worth. -/
noncomputable def Try.pinned : Pinned := { name := "ytfkgklbaafbbiaa", sum := "25bfc63bb40f06745d0d0bf6714b9e2732d730ff756021d0c719f0f11efba980", checked := Try.checked }
namespace Rows
def none {H : Type} : Left H := { results := [], args := [] }

/-- 'decanterlaw01.MeterKeeps': WHATEVER THE INPUT: true; the input reads as it did. -/
def meterKeepsSpec : ChangeSpec := { name := "meterKeeps", fn := fun _ => fun
  | [d1, d2] => { results := [.lit (.bool true)], args := [d1, d2] }
  | _ => none }
def meterKeepsRow : OpenClaim := { program := "ytfkgklbaafbbiaa", sum := "25bfc63bb40f06745d0d0bf6714b9e2732d730ff756021d0c719f0f11efba980", func := "decanter/decanterlaw01.MeterKeeps", spec := "meterKeeps", apart := false }
def MeterKeepsSaid : Prop := meterKeepsRow.holds Try.pinned (OpenSpec.ofChange meterKeepsSpec)

/-- ITS FALSE NEIGHBOUR: 'it returns false'. Refute it at one input. -/
def meterKeepsWrong : ChangeSpec := { name := "meterKeeps", fn := fun _ => fun
  | [d1, d2] => { results := [.lit (.bool false)], args := [d1, d2] }
  | _ => none }
def MeterKeepsWrongFalsely : Prop := meterKeepsRow.holds Try.pinned (OpenSpec.ofChange meterKeepsWrong)

/-- 'decanterlaw01.MeterSplit': WHATEVER THE INPUT: true; the input reads as it did. -/
def meterSplitSpec : ChangeSpec := { name := "meterSplit", fn := fun _ => fun
  | [d1, d2, d3, d4] => { results := [.lit (.bool true)], args := [d1, d2, d3, d4] }
  | _ => none }
def meterSplitRow : OpenClaim := { program := "ytfkgklbaafbbiaa", sum := "25bfc63bb40f06745d0d0bf6714b9e2732d730ff756021d0c719f0f11efba980", func := "decanter/decanterlaw01.MeterSplit", spec := "meterSplit", apart := false }
def MeterSplitSaid : Prop := meterSplitRow.holds Try.pinned (OpenSpec.ofChange meterSplitSpec)

/-- ITS FALSE NEIGHBOUR: 'it returns false'. Refute it at one input. -/
def meterSplitWrong : ChangeSpec := { name := "meterSplit", fn := fun _ => fun
  | [d1, d2, d3, d4] => { results := [.lit (.bool false)], args := [d1, d2, d3, d4] }
  | _ => none }
def MeterSplitWrongFalsely : Prop := meterSplitRow.holds Try.pinned (OpenSpec.ofChange meterSplitWrong)

/-- 'decanterlaw06.AttrOnce': WHATEVER THE INPUT: true; the input reads as it did. -/
def attrOnceSpec : ChangeSpec := { name := "attrOnce", fn := fun _ => fun
  | [d] => { results := [.lit (.bool true)], args := [d] }
  | _ => none }
def attrOnceRow : OpenClaim := { program := "ytfkgklbaafbbiaa", sum := "25bfc63bb40f06745d0d0bf6714b9e2732d730ff756021d0c719f0f11efba980", func := "decanter/decanterlaw06.AttrOnce", spec := "attrOnce", unfollowed := true, recurses := true, apart := false }
def AttrOnceSaid : Prop := attrOnceRow.holds Try.pinned (OpenSpec.ofChange attrOnceSpec)

/-- ITS FALSE NEIGHBOUR: 'it returns false'. Refute it at one input. -/
def attrOnceWrong : ChangeSpec := { name := "attrOnce", fn := fun _ => fun
  | [d] => { results := [.lit (.bool false)], args := [d] }
  | _ => none }
def AttrOnceWrongFalsely : Prop := attrOnceRow.holds Try.pinned (OpenSpec.ofChange attrOnceWrong)

/-- 'decanterlaw06.AttrGets': WHATEVER THE INPUT: true; the input reads as it did. -/
def attrGetsSpec : ChangeSpec := { name := "attrGets", fn := fun _ => fun
  | [d1, d2, d3] => { results := [.lit (.bool true)], args := [d1, d2, d3] }
  | _ => none }
def attrGetsRow : OpenClaim := { program := "ytfkgklbaafbbiaa", sum := "25bfc63bb40f06745d0d0bf6714b9e2732d730ff756021d0c719f0f11efba980", func := "decanter/decanterlaw06.AttrGets", spec := "attrGets", unfollowed := true, recurses := true, apart := false }
def AttrGetsSaid : Prop := attrGetsRow.holds Try.pinned (OpenSpec.ofChange attrGetsSpec)

/-- ITS FALSE NEIGHBOUR: 'it returns false'. Refute it at one input. -/
def attrGetsWrong : ChangeSpec := { name := "attrGets", fn := fun _ => fun
  | [d1, d2, d3] => { results := [.lit (.bool false)], args := [d1, d2, d3] }
  | _ => none }
def AttrGetsWrongFalsely : Prop := attrGetsRow.holds Try.pinned (OpenSpec.ofChange attrGetsWrong)

/-- 'decanterlaw06.AttrKeeps': WHATEVER THE INPUT: true; the input reads as it did. -/
def attrKeepsSpec : ChangeSpec := { name := "attrKeeps", fn := fun _ => fun
  | [d1, d2] => { results := [.lit (.bool true)], args := [d1, d2] }
  | _ => none }
def attrKeepsRow : OpenClaim := { program := "ytfkgklbaafbbiaa", sum := "25bfc63bb40f06745d0d0bf6714b9e2732d730ff756021d0c719f0f11efba980", func := "decanter/decanterlaw06.AttrKeeps", spec := "attrKeeps", unfollowed := true, recurses := true, apart := false }
def AttrKeepsSaid : Prop := attrKeepsRow.holds Try.pinned (OpenSpec.ofChange attrKeepsSpec)

/-- ITS FALSE NEIGHBOUR: 'it returns false'. Refute it at one input. -/
def attrKeepsWrong : ChangeSpec := { name := "attrKeeps", fn := fun _ => fun
  | [d1, d2] => { results := [.lit (.bool false)], args := [d1, d2] }
  | _ => none }
def AttrKeepsWrongFalsely : Prop := attrKeepsRow.holds Try.pinned (OpenSpec.ofChange attrKeepsWrong)

/- THE SECOND FORM. 'bulk': how many values and letters a reading holds, each counted each time it is reached (what is shared counts as often as it is met; a slice's spare places count too). A statement '..UptoSaid' is the law's where the arguments, and the package variables that the reading takes, are together of bulk at most 1048576: NARROWER than '..Said'. Prove '..Said' where nothing that the law and all that it calls make is longer than what came in: it says more and counts as full. Else prove '..UptoSaid'. A law counts once. -/
mutual
def uptoBulk {H : Type} : DataW H → Nat
  | .lit (.string bytes) => bytes.length + 1
  | .lit _ => 1
  | .nil => 1
  | .ptr d => uptoBulk d + 1
  | .slice elems spare => uptoBulkAll elems + uptoBulkAll spare + 1
  | .agg parts => uptoBulkAll parts + 1
  | .iface _ d => uptoBulk d + 1
  | .map entries => uptoBulkEntries entries + 1
  | .held _ => 1
def uptoBulkAll {H : Type} : List (DataW H) → Nat
  | [] => 0
  | d :: r => uptoBulk d + uptoBulkAll r
def uptoBulkEntries {H : Type} : List (Lit × DataW H) → Nat
  | [] => 0
  | x :: r => uptoBulkEntry x + uptoBulkEntries r
def uptoBulkEntry {H : Type} : Lit × DataW H → Nat
  | (.string bytes, d) => bytes.length + uptoBulk d + 1
  | (_, d) => uptoBulk d + 1
 end
def uptoSmall : (H : Type) → List (DataW H) → Bool := fun _ ds => decide (uptoBulkAll ds ≤ 1048576)
def OpenSpec.upto (s : _root_.Go.ChangeSpec) : _root_.Go.OpenSpec := { _root_.Go.OpenSpec.ofChange s with cond := some uptoSmall }

/-- 'decanterlaw01.MeterKeeps', WHERE WHAT IT READS IS OF BULK AT MOST 1048576: true; the input reads as it did. -/
def meterKeepsUptoRow : OpenClaim := { program := "ytfkgklbaafbbiaa", sum := "25bfc63bb40f06745d0d0bf6714b9e2732d730ff756021d0c719f0f11efba980", func := "decanter/decanterlaw01.MeterKeeps", spec := "meterKeeps", apart := false, narrowed := true }
def MeterKeepsUptoSaid : Prop := meterKeepsUptoRow.holds Try.pinned (OpenSpec.upto meterKeepsSpec)

/-- 'decanterlaw01.MeterSplit', WHERE WHAT IT READS IS OF BULK AT MOST 1048576: true; the input reads as it did. -/
def meterSplitUptoRow : OpenClaim := { program := "ytfkgklbaafbbiaa", sum := "25bfc63bb40f06745d0d0bf6714b9e2732d730ff756021d0c719f0f11efba980", func := "decanter/decanterlaw01.MeterSplit", spec := "meterSplit", apart := false, narrowed := true }
def MeterSplitUptoSaid : Prop := meterSplitUptoRow.holds Try.pinned (OpenSpec.upto meterSplitSpec)

/-- 'decanterlaw06.AttrOnce', WHERE WHAT IT READS IS OF BULK AT MOST 1048576: true; the input reads as it did. -/
def attrOnceUptoRow : OpenClaim := { program := "ytfkgklbaafbbiaa", sum := "25bfc63bb40f06745d0d0bf6714b9e2732d730ff756021d0c719f0f11efba980", func := "decanter/decanterlaw06.AttrOnce", spec := "attrOnce", unfollowed := true, recurses := true, apart := false, narrowed := true }
def AttrOnceUptoSaid : Prop := attrOnceUptoRow.holds Try.pinned (OpenSpec.upto attrOnceSpec)

/-- 'decanterlaw06.AttrGets', WHERE WHAT IT READS IS OF BULK AT MOST 1048576: true; the input reads as it did. -/
def attrGetsUptoRow : OpenClaim := { program := "ytfkgklbaafbbiaa", sum := "25bfc63bb40f06745d0d0bf6714b9e2732d730ff756021d0c719f0f11efba980", func := "decanter/decanterlaw06.AttrGets", spec := "attrGets", unfollowed := true, recurses := true, apart := false, narrowed := true }
def AttrGetsUptoSaid : Prop := attrGetsUptoRow.holds Try.pinned (OpenSpec.upto attrGetsSpec)

/-- 'decanterlaw06.AttrKeeps', WHERE WHAT IT READS IS OF BULK AT MOST 1048576: true; the input reads as it did. -/
def attrKeepsUptoRow : OpenClaim := { program := "ytfkgklbaafbbiaa", sum := "25bfc63bb40f06745d0d0bf6714b9e2732d730ff756021d0c719f0f11efba980", func := "decanter/decanterlaw06.AttrKeeps", spec := "attrKeeps", unfollowed := true, recurses := true, apart := false, narrowed := true }
def AttrKeepsUptoSaid : Prop := attrKeepsUptoRow.holds Try.pinned (OpenSpec.upto attrKeepsSpec)

end Rows
end Go.Proofs.Ytfkgklbaafbbiaa
