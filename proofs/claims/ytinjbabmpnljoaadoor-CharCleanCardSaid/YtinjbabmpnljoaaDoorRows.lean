/-
  NARROWER THAN 'FOR EVERY INPUT', by the rows' own cells (each row's printed sentence says how): CharNext: laid · CharSteps: laid · CharCuts: laid · CharAll: laid · CharPlain: laid · CharClean: laid · ClassTexts: laid · ClassLaws: laid · ClassEnds: laid.
  DERIVED. THE GIVEN ROWS OF THIS SEAT. 9 by the template 'for every input the law returns true; each argument reads behind the call as it read before'; 0 by the template 'total and deterministic' (their statements: YtinjbabmpnljoaaDoorTotals.lean).
  GIVEN WITH THE SEED: the statements are not yours to turn. If you find one false, say at which input.
  Laid BY PROGRAM, IN A SANDBOX (cutbox-rows.mjs): the forced cells as the released guide's own fill.sh prints them over the translation 89e1e3305fd3ec57… (all of the seat's roots in one cut). By AI agents, Wed Nov 11 2026. No macro, syntax, notation, axiom, sorry.
-/
import Derived.Test.YtinjbabmpnljoaaDoorChecked
import GoSem.PinnedTables
import GoSem.Claim
import GoSem.ClaimJoined
import GoSem.ClaimMapViews
import Derived.JoinedTies
import Derived.KernelRfl
namespace Go.Proofs.YtinjbabmpnljoaaDoor
/- THE CELL 'sum', in the pinned program and in every row, IS THE sha256 OF THE DUMP (.gsa) THAT YtinjbabmpnljoaaDoorProg.lean LOADS. Nothing in Lean hashes anything: it is a label: what it is worth is what the hold of that sum in a sandbox is worth. -/
noncomputable def Tryd.pinned : Pinned := { name := "ytinjbabmpnljoaadoor", sum := "89e1e3305fd3ec57225abf3cc9c4f69ef5e505854e3cbe1c15e31d8382f62f6a", checked := Tryd.checked }
namespace Rows
def none {H : Type} : Left H := { results := [], args := [] }

/- WHAT THE LISTED PACKAGE-LEVEL VARIABLES READ AS WHEN THE CALL BEGINS. Each datum BY PROGRAM (the guide's laid-datum.mjs) off the statement by which the dump's own 'gosem.cut.vars' lays the variable. In a bare row this is a premise. The card (YtinjbabmpnljoaaDoorCards.lean) ties it to the program's text. -/
def laid_unicode_utf8_acceptRanges {H : Type} : DataW H := .agg [.agg [.lit (.int .u8 128), .lit (.int .u8 191)], .agg [.lit (.int .u8 160), .lit (.int .u8 191)], .agg [.lit (.int .u8 128), .lit (.int .u8 159)], .agg [.lit (.int .u8 144), .lit (.int .u8 191)], .agg [.lit (.int .u8 128), .lit (.int .u8 143)], .agg [.lit (.int .u8 0), .lit (.int .u8 0)], .agg [.lit (.int .u8 0), .lit (.int .u8 0)], .agg [.lit (.int .u8 0), .lit (.int .u8 0)], .agg [.lit (.int .u8 0), .lit (.int .u8 0)], .agg [.lit (.int .u8 0), .lit (.int .u8 0)], .agg [.lit (.int .u8 0), .lit (.int .u8 0)], .agg [.lit (.int .u8 0), .lit (.int .u8 0)], .agg [.lit (.int .u8 0), .lit (.int .u8 0)], .agg [.lit (.int .u8 0), .lit (.int .u8 0)], .agg [.lit (.int .u8 0), .lit (.int .u8 0)], .agg [.lit (.int .u8 0), .lit (.int .u8 0)]]
/-- One of Go's own tables, pinned by name: the form's constant. -/
def laid_unicode_utf8_first : DataW Unit := Go.Pinned.utf8First

/-- 'decanterlaw02.CharNext': WHATEVER THE INPUT: true; the input reads as it did. -/
def charNextSpec : ChangeSpec := { name := "charNext", fn := fun _ => fun
  | [d1, d2] => { results := [.lit (.bool true)], args := [d1, d2] }
  | _ => none }
def charNextRow : OpenClaim := { program := "ytinjbabmpnljoaadoor", sum := "89e1e3305fd3ec57225abf3cc9c4f69ef5e505854e3cbe1c15e31d8382f62f6a", func := "decanter/decanterlaw02.CharNext", spec := "charNext", inPlace := ["internal/abi.NoEscape"], named := ["unicode/utf8.first", "unicode/utf8.acceptRanges"], apart := false, laid := [("unicode/utf8.acceptRanges", laid_unicode_utf8_acceptRanges), ("unicode/utf8.first", laid_unicode_utf8_first)] }
def CharNextSaid : Prop := charNextRow.holds Tryd.pinned (OpenSpec.ofChange charNextSpec)

/-- ITS FALSE NEIGHBOUR: 'it returns false'. Refute it at one input. -/
def charNextWrong : ChangeSpec := { name := "charNext", fn := fun _ => fun
  | [d1, d2] => { results := [.lit (.bool false)], args := [d1, d2] }
  | _ => none }
def CharNextWrongFalsely : Prop := charNextRow.holds Tryd.pinned (OpenSpec.ofChange charNextWrong)

/-- 'decanterlaw02.CharSteps': WHATEVER THE INPUT: true; the input reads as it did. -/
def charStepsSpec : ChangeSpec := { name := "charSteps", fn := fun _ => fun
  | [d1, d2] => { results := [.lit (.bool true)], args := [d1, d2] }
  | _ => none }
def charStepsRow : OpenClaim := { program := "ytinjbabmpnljoaadoor", sum := "89e1e3305fd3ec57225abf3cc9c4f69ef5e505854e3cbe1c15e31d8382f62f6a", func := "decanter/decanterlaw02.CharSteps", spec := "charSteps", inPlace := ["internal/abi.NoEscape"], named := ["unicode/utf8.first", "unicode/utf8.acceptRanges"], apart := false, laid := [("unicode/utf8.acceptRanges", laid_unicode_utf8_acceptRanges), ("unicode/utf8.first", laid_unicode_utf8_first)] }
def CharStepsSaid : Prop := charStepsRow.holds Tryd.pinned (OpenSpec.ofChange charStepsSpec)

/-- ITS FALSE NEIGHBOUR: 'it returns false'. Refute it at one input. -/
def charStepsWrong : ChangeSpec := { name := "charSteps", fn := fun _ => fun
  | [d1, d2] => { results := [.lit (.bool false)], args := [d1, d2] }
  | _ => none }
def CharStepsWrongFalsely : Prop := charStepsRow.holds Tryd.pinned (OpenSpec.ofChange charStepsWrong)

/-- 'decanterlaw02.CharCuts': WHATEVER THE INPUT: true; the input reads as it did. -/
def charCutsSpec : ChangeSpec := { name := "charCuts", fn := fun _ => fun
  | [d1, d2] => { results := [.lit (.bool true)], args := [d1, d2] }
  | _ => none }
def charCutsRow : OpenClaim := { program := "ytinjbabmpnljoaadoor", sum := "89e1e3305fd3ec57225abf3cc9c4f69ef5e505854e3cbe1c15e31d8382f62f6a", func := "decanter/decanterlaw02.CharCuts", spec := "charCuts", inPlace := ["internal/abi.NoEscape"], named := ["unicode/utf8.first", "unicode/utf8.acceptRanges"], apart := false, laid := [("unicode/utf8.acceptRanges", laid_unicode_utf8_acceptRanges), ("unicode/utf8.first", laid_unicode_utf8_first)] }
def CharCutsSaid : Prop := charCutsRow.holds Tryd.pinned (OpenSpec.ofChange charCutsSpec)

/-- ITS FALSE NEIGHBOUR: 'it returns false'. Refute it at one input. -/
def charCutsWrong : ChangeSpec := { name := "charCuts", fn := fun _ => fun
  | [d1, d2] => { results := [.lit (.bool false)], args := [d1, d2] }
  | _ => none }
def CharCutsWrongFalsely : Prop := charCutsRow.holds Tryd.pinned (OpenSpec.ofChange charCutsWrong)

/-- 'decanterlaw02.CharAll': WHATEVER THE INPUT: true; the input reads as it did. -/
def charAllSpec : ChangeSpec := { name := "charAll", fn := fun _ => fun
  | [d1, d2, d3] => { results := [.lit (.bool true)], args := [d1, d2, d3] }
  | _ => none }
def charAllRow : OpenClaim := { program := "ytinjbabmpnljoaadoor", sum := "89e1e3305fd3ec57225abf3cc9c4f69ef5e505854e3cbe1c15e31d8382f62f6a", func := "decanter/decanterlaw02.CharAll", spec := "charAll", inPlace := ["internal/abi.NoEscape"], named := ["unicode/utf8.first", "unicode/utf8.acceptRanges"], apart := false, laid := [("unicode/utf8.acceptRanges", laid_unicode_utf8_acceptRanges), ("unicode/utf8.first", laid_unicode_utf8_first)] }
def CharAllSaid : Prop := charAllRow.holds Tryd.pinned (OpenSpec.ofChange charAllSpec)

/-- ITS FALSE NEIGHBOUR: 'it returns false'. Refute it at one input. -/
def charAllWrong : ChangeSpec := { name := "charAll", fn := fun _ => fun
  | [d1, d2, d3] => { results := [.lit (.bool false)], args := [d1, d2, d3] }
  | _ => none }
def CharAllWrongFalsely : Prop := charAllRow.holds Tryd.pinned (OpenSpec.ofChange charAllWrong)

/-- 'decanterlaw02.CharPlain': WHATEVER THE INPUT: true; the input reads as it did. -/
def charPlainSpec : ChangeSpec := { name := "charPlain", fn := fun _ => fun
  | [d1, d2] => { results := [.lit (.bool true)], args := [d1, d2] }
  | _ => none }
def charPlainRow : OpenClaim := { program := "ytinjbabmpnljoaadoor", sum := "89e1e3305fd3ec57225abf3cc9c4f69ef5e505854e3cbe1c15e31d8382f62f6a", func := "decanter/decanterlaw02.CharPlain", spec := "charPlain", inPlace := ["internal/abi.NoEscape"], named := ["unicode/utf8.first", "unicode/utf8.acceptRanges"], apart := false, laid := [("unicode/utf8.acceptRanges", laid_unicode_utf8_acceptRanges), ("unicode/utf8.first", laid_unicode_utf8_first)] }
def CharPlainSaid : Prop := charPlainRow.holds Tryd.pinned (OpenSpec.ofChange charPlainSpec)

/-- ITS FALSE NEIGHBOUR: 'it returns false'. Refute it at one input. -/
def charPlainWrong : ChangeSpec := { name := "charPlain", fn := fun _ => fun
  | [d1, d2] => { results := [.lit (.bool false)], args := [d1, d2] }
  | _ => none }
def CharPlainWrongFalsely : Prop := charPlainRow.holds Tryd.pinned (OpenSpec.ofChange charPlainWrong)

/-- 'decanterlaw02.CharClean': WHATEVER THE INPUT: true; the input reads as it did. -/
def charCleanSpec : ChangeSpec := { name := "charClean", fn := fun _ => fun
  | [d] => { results := [.lit (.bool true)], args := [d] }
  | _ => none }
def charCleanRow : OpenClaim := { program := "ytinjbabmpnljoaadoor", sum := "89e1e3305fd3ec57225abf3cc9c4f69ef5e505854e3cbe1c15e31d8382f62f6a", func := "decanter/decanterlaw02.CharClean", spec := "charClean", inPlace := ["internal/abi.NoEscape"], named := ["unicode/utf8.first", "unicode/utf8.acceptRanges"], apart := false, laid := [("unicode/utf8.acceptRanges", laid_unicode_utf8_acceptRanges), ("unicode/utf8.first", laid_unicode_utf8_first)] }
def CharCleanSaid : Prop := charCleanRow.holds Tryd.pinned (OpenSpec.ofChange charCleanSpec)

/-- ITS FALSE NEIGHBOUR: 'it returns false'. Refute it at one input. -/
def charCleanWrong : ChangeSpec := { name := "charClean", fn := fun _ => fun
  | [d] => { results := [.lit (.bool false)], args := [d] }
  | _ => none }
def CharCleanWrongFalsely : Prop := charCleanRow.holds Tryd.pinned (OpenSpec.ofChange charCleanWrong)

/-- 'decanterlaw03.ClassTexts': WHATEVER THE INPUT: true; the input reads as it did. -/
def classTextsSpec : ChangeSpec := { name := "classTexts", fn := fun _ => fun
  | [d] => { results := [.lit (.bool true)], args := [d] }
  | _ => none }
def classTextsRow : OpenClaim := { program := "ytinjbabmpnljoaadoor", sum := "89e1e3305fd3ec57225abf3cc9c4f69ef5e505854e3cbe1c15e31d8382f62f6a", func := "decanter/decanterlaw03.ClassTexts", spec := "classTexts", inPlace := ["internal/bytealg.IndexByteString", "internal/bytealg.IndexString"], named := ["unicode/utf8.first", "unicode/utf8.acceptRanges", "internal/bytealg.MaxLen"], apart := false, laid := [("unicode/utf8.acceptRanges", laid_unicode_utf8_acceptRanges), ("unicode/utf8.first", laid_unicode_utf8_first)] }
def ClassTextsSaid : Prop := classTextsRow.holds Tryd.pinned (OpenSpec.ofChange classTextsSpec)

/-- ITS FALSE NEIGHBOUR: 'it returns false'. Refute it at one input. -/
def classTextsWrong : ChangeSpec := { name := "classTexts", fn := fun _ => fun
  | [d] => { results := [.lit (.bool false)], args := [d] }
  | _ => none }
def ClassTextsWrongFalsely : Prop := classTextsRow.holds Tryd.pinned (OpenSpec.ofChange classTextsWrong)

/-- 'decanterlaw03.ClassLaws': WHATEVER THE INPUT: true; the input reads as it did. -/
def classLawsSpec : ChangeSpec := { name := "classLaws", fn := fun _ => fun
  | [d1, d2] => { results := [.lit (.bool true)], args := [d1, d2] }
  | _ => none }
def classLawsRow : OpenClaim := { program := "ytinjbabmpnljoaadoor", sum := "89e1e3305fd3ec57225abf3cc9c4f69ef5e505854e3cbe1c15e31d8382f62f6a", func := "decanter/decanterlaw03.ClassLaws", spec := "classLaws", inPlace := ["internal/bytealg.IndexByteString", "internal/bytealg.IndexString"], named := ["unicode/utf8.first", "unicode/utf8.acceptRanges", "internal/bytealg.MaxLen"], apart := false, laid := [("unicode/utf8.acceptRanges", laid_unicode_utf8_acceptRanges), ("unicode/utf8.first", laid_unicode_utf8_first)] }
def ClassLawsSaid : Prop := classLawsRow.holds Tryd.pinned (OpenSpec.ofChange classLawsSpec)

/-- ITS FALSE NEIGHBOUR: 'it returns false'. Refute it at one input. -/
def classLawsWrong : ChangeSpec := { name := "classLaws", fn := fun _ => fun
  | [d1, d2] => { results := [.lit (.bool false)], args := [d1, d2] }
  | _ => none }
def ClassLawsWrongFalsely : Prop := classLawsRow.holds Tryd.pinned (OpenSpec.ofChange classLawsWrong)

/-- 'decanterlaw03.ClassEnds': WHATEVER THE INPUT: true; the input reads as it did. -/
def classEndsSpec : ChangeSpec := { name := "classEnds", fn := fun _ => fun
  | [d1, d2, d3] => { results := [.lit (.bool true)], args := [d1, d2, d3] }
  | _ => none }
def classEndsRow : OpenClaim := { program := "ytinjbabmpnljoaadoor", sum := "89e1e3305fd3ec57225abf3cc9c4f69ef5e505854e3cbe1c15e31d8382f62f6a", func := "decanter/decanterlaw03.ClassEnds", spec := "classEnds", inPlace := ["internal/bytealg.IndexByteString", "internal/bytealg.IndexString"], unfollowed := true, recurses := true, named := ["unicode/utf8.first", "unicode/utf8.acceptRanges", "internal/bytealg.MaxLen"], apart := false, laid := [("unicode/utf8.acceptRanges", laid_unicode_utf8_acceptRanges), ("unicode/utf8.first", laid_unicode_utf8_first)] }
def ClassEndsSaid : Prop := classEndsRow.holds Tryd.pinned (OpenSpec.ofChange classEndsSpec)

/-- ITS FALSE NEIGHBOUR: 'it returns false'. Refute it at one input. -/
def classEndsWrong : ChangeSpec := { name := "classEnds", fn := fun _ => fun
  | [d1, d2, d3] => { results := [.lit (.bool false)], args := [d1, d2, d3] }
  | _ => none }
def ClassEndsWrongFalsely : Prop := classEndsRow.holds Tryd.pinned (OpenSpec.ofChange classEndsWrong)

/- THE SECOND FORM. 'bulk': how many values and letters a reading holds, each counted each time it is reached (what is shared counts as often as it is met; a slice's spare places count too). A statement '..UptoSaid' is the law's where the arguments, and the package variables that the reading takes, are together of bulk at most 1048576: NARROWER than '..Said'. Prove '..Said' where nothing that the law and all that it calls make is longer than what came in: it says more and counts as full. Else prove '..UptoSaid'. A law counts once. -/
mutual
def uptoBulk {H : Type} : DataW H → Nat
  | .lit (.string bytes) => bytes.length + 1
  | .lit _ => 1
  | .nil => 1
  | .ptr d => uptoBulk d + 1
  | .slice elems spare => uptoBulkAll elems + uptoBulkAll spare + 1
  | .agg parts => uptoBulkAll parts + 1
  | .iface _ d => uptoBulk d + 1
  | .map entries => uptoBulkEntries entries + 1
  | .held _ => 1
def uptoBulkAll {H : Type} : List (DataW H) → Nat
  | [] => 0
  | d :: r => uptoBulk d + uptoBulkAll r
def uptoBulkEntries {H : Type} : List (Lit × DataW H) → Nat
  | [] => 0
  | x :: r => uptoBulkEntry x + uptoBulkEntries r
def uptoBulkEntry {H : Type} : Lit × DataW H → Nat
  | (.string bytes, d) => bytes.length + uptoBulk d + 1
  | (_, d) => uptoBulk d + 1
 end
def uptoSmall : (H : Type) → List (DataW H) → Bool := fun _ ds => decide (uptoBulkAll ds ≤ 1048576)
def OpenSpec.upto (s : _root_.Go.ChangeSpec) : _root_.Go.OpenSpec := { _root_.Go.OpenSpec.ofChange s with cond := some uptoSmall }

/-- 'decanterlaw02.CharNext', WHERE WHAT IT READS IS OF BULK AT MOST 1048576: true; the input reads as it did. -/
def charNextUptoRow : OpenClaim := { program := "ytinjbabmpnljoaadoor", sum := "89e1e3305fd3ec57225abf3cc9c4f69ef5e505854e3cbe1c15e31d8382f62f6a", func := "decanter/decanterlaw02.CharNext", spec := "charNext", inPlace := ["internal/abi.NoEscape"], named := ["unicode/utf8.first", "unicode/utf8.acceptRanges"], apart := false, laid := [("unicode/utf8.acceptRanges", laid_unicode_utf8_acceptRanges), ("unicode/utf8.first", laid_unicode_utf8_first)], narrowed := true }
def CharNextUptoSaid : Prop := charNextUptoRow.holds Tryd.pinned (OpenSpec.upto charNextSpec)

/-- 'decanterlaw02.CharSteps', WHERE WHAT IT READS IS OF BULK AT MOST 1048576: true; the input reads as it did. -/
def charStepsUptoRow : OpenClaim := { program := "ytinjbabmpnljoaadoor", sum := "89e1e3305fd3ec57225abf3cc9c4f69ef5e505854e3cbe1c15e31d8382f62f6a", func := "decanter/decanterlaw02.CharSteps", spec := "charSteps", inPlace := ["internal/abi.NoEscape"], named := ["unicode/utf8.first", "unicode/utf8.acceptRanges"], apart := false, laid := [("unicode/utf8.acceptRanges", laid_unicode_utf8_acceptRanges), ("unicode/utf8.first", laid_unicode_utf8_first)], narrowed := true }
def CharStepsUptoSaid : Prop := charStepsUptoRow.holds Tryd.pinned (OpenSpec.upto charStepsSpec)

/-- 'decanterlaw02.CharCuts', WHERE WHAT IT READS IS OF BULK AT MOST 1048576: true; the input reads as it did. -/
def charCutsUptoRow : OpenClaim := { program := "ytinjbabmpnljoaadoor", sum := "89e1e3305fd3ec57225abf3cc9c4f69ef5e505854e3cbe1c15e31d8382f62f6a", func := "decanter/decanterlaw02.CharCuts", spec := "charCuts", inPlace := ["internal/abi.NoEscape"], named := ["unicode/utf8.first", "unicode/utf8.acceptRanges"], apart := false, laid := [("unicode/utf8.acceptRanges", laid_unicode_utf8_acceptRanges), ("unicode/utf8.first", laid_unicode_utf8_first)], narrowed := true }
def CharCutsUptoSaid : Prop := charCutsUptoRow.holds Tryd.pinned (OpenSpec.upto charCutsSpec)

/-- 'decanterlaw02.CharAll', WHERE WHAT IT READS IS OF BULK AT MOST 1048576: true; the input reads as it did. -/
def charAllUptoRow : OpenClaim := { program := "ytinjbabmpnljoaadoor", sum := "89e1e3305fd3ec57225abf3cc9c4f69ef5e505854e3cbe1c15e31d8382f62f6a", func := "decanter/decanterlaw02.CharAll", spec := "charAll", inPlace := ["internal/abi.NoEscape"], named := ["unicode/utf8.first", "unicode/utf8.acceptRanges"], apart := false, laid := [("unicode/utf8.acceptRanges", laid_unicode_utf8_acceptRanges), ("unicode/utf8.first", laid_unicode_utf8_first)], narrowed := true }
def CharAllUptoSaid : Prop := charAllUptoRow.holds Tryd.pinned (OpenSpec.upto charAllSpec)

/-- 'decanterlaw02.CharPlain', WHERE WHAT IT READS IS OF BULK AT MOST 1048576: true; the input reads as it did. -/
def charPlainUptoRow : OpenClaim := { program := "ytinjbabmpnljoaadoor", sum := "89e1e3305fd3ec57225abf3cc9c4f69ef5e505854e3cbe1c15e31d8382f62f6a", func := "decanter/decanterlaw02.CharPlain", spec := "charPlain", inPlace := ["internal/abi.NoEscape"], named := ["unicode/utf8.first", "unicode/utf8.acceptRanges"], apart := false, laid := [("unicode/utf8.acceptRanges", laid_unicode_utf8_acceptRanges), ("unicode/utf8.first", laid_unicode_utf8_first)], narrowed := true }
def CharPlainUptoSaid : Prop := charPlainUptoRow.holds Tryd.pinned (OpenSpec.upto charPlainSpec)

/-- 'decanterlaw02.CharClean', WHERE WHAT IT READS IS OF BULK AT MOST 1048576: true; the input reads as it did. -/
def charCleanUptoRow : OpenClaim := { program := "ytinjbabmpnljoaadoor", sum := "89e1e3305fd3ec57225abf3cc9c4f69ef5e505854e3cbe1c15e31d8382f62f6a", func := "decanter/decanterlaw02.CharClean", spec := "charClean", inPlace := ["internal/abi.NoEscape"], named := ["unicode/utf8.first", "unicode/utf8.acceptRanges"], apart := false, laid := [("unicode/utf8.acceptRanges", laid_unicode_utf8_acceptRanges), ("unicode/utf8.first", laid_unicode_utf8_first)], narrowed := true }
def CharCleanUptoSaid : Prop := charCleanUptoRow.holds Tryd.pinned (OpenSpec.upto charCleanSpec)

/-- 'decanterlaw03.ClassTexts', WHERE WHAT IT READS IS OF BULK AT MOST 1048576: true; the input reads as it did. -/
def classTextsUptoRow : OpenClaim := { program := "ytinjbabmpnljoaadoor", sum := "89e1e3305fd3ec57225abf3cc9c4f69ef5e505854e3cbe1c15e31d8382f62f6a", func := "decanter/decanterlaw03.ClassTexts", spec := "classTexts", inPlace := ["internal/bytealg.IndexByteString", "internal/bytealg.IndexString"], named := ["unicode/utf8.first", "unicode/utf8.acceptRanges", "internal/bytealg.MaxLen"], apart := false, laid := [("unicode/utf8.acceptRanges", laid_unicode_utf8_acceptRanges), ("unicode/utf8.first", laid_unicode_utf8_first)], narrowed := true }
def ClassTextsUptoSaid : Prop := classTextsUptoRow.holds Tryd.pinned (OpenSpec.upto classTextsSpec)

/-- 'decanterlaw03.ClassLaws', WHERE WHAT IT READS IS OF BULK AT MOST 1048576: true; the input reads as it did. -/
def classLawsUptoRow : OpenClaim := { program := "ytinjbabmpnljoaadoor", sum := "89e1e3305fd3ec57225abf3cc9c4f69ef5e505854e3cbe1c15e31d8382f62f6a", func := "decanter/decanterlaw03.ClassLaws", spec := "classLaws", inPlace := ["internal/bytealg.IndexByteString", "internal/bytealg.IndexString"], named := ["unicode/utf8.first", "unicode/utf8.acceptRanges", "internal/bytealg.MaxLen"], apart := false, laid := [("unicode/utf8.acceptRanges", laid_unicode_utf8_acceptRanges), ("unicode/utf8.first", laid_unicode_utf8_first)], narrowed := true }
def ClassLawsUptoSaid : Prop := classLawsUptoRow.holds Tryd.pinned (OpenSpec.upto classLawsSpec)

/-- 'decanterlaw03.ClassEnds', WHERE WHAT IT READS IS OF BULK AT MOST 1048576: true; the input reads as it did. -/
def classEndsUptoRow : OpenClaim := { program := "ytinjbabmpnljoaadoor", sum := "89e1e3305fd3ec57225abf3cc9c4f69ef5e505854e3cbe1c15e31d8382f62f6a", func := "decanter/decanterlaw03.ClassEnds", spec := "classEnds", inPlace := ["internal/bytealg.IndexByteString", "internal/bytealg.IndexString"], unfollowed := true, recurses := true, named := ["unicode/utf8.first", "unicode/utf8.acceptRanges", "internal/bytealg.MaxLen"], apart := false, laid := [("unicode/utf8.acceptRanges", laid_unicode_utf8_acceptRanges), ("unicode/utf8.first", laid_unicode_utf8_first)], narrowed := true }
def ClassEndsUptoSaid : Prop := classEndsUptoRow.holds Tryd.pinned (OpenSpec.upto classEndsSpec)

end Rows
end Go.Proofs.YtinjbabmpnljoaaDoor
