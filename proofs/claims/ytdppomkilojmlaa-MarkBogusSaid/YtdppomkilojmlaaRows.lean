/-
  No cell of these rows narrows 'for every input' (looked for: loops, veiled, ifaces, maps, wideKeys, modest, calm, conditions, laid).
  DERIVED. THE GIVEN ROWS OF THIS SEAT. 6 by the template 'for every input the law returns true; each argument reads behind the call as it read before'; 0 by the template 'total and deterministic' (their statements: YtdppomkilojmlaaTotals.lean).
  GIVEN WITH THE SEED: the statements are not yours to turn. If you find one false, say at which input.
  Laid BY PROGRAM, IN A SANDBOX (cutbox-rows.mjs): the forced cells as the released guide's own fill.sh prints them over the translation b08fbd5adcc24ed8… (all of the seat's roots in one cut). By AI agents, Wed Nov 11 2026. No macro, syntax, notation, axiom, sorry.
-/
import Derived.Test.YtdppomkilojmlaaChecked
import GoSem.Claim
import GoSem.ClaimJoined
import GoSem.ClaimMapViews
import Derived.JoinedTies
import Derived.KernelRfl
namespace Go.Proofs.Ytdppomkilojmlaa
/- THE CELL 'sum', in the pinned program and in every row, IS THE sha256 OF THE DUMP (.gsa) THAT YtdppomkilojmlaaProg.lean LOADS. Nothing in Lean hashes anything: it is a label: what it is worth is what the hold of that sum in a sandbox is worth. -/
noncomputable def Try.pinned : Pinned := { name := "ytdppomkilojmlaa", sum := "b08fbd5adcc24ed8d81347c4bcc8873bc97f65b9b8276d6d540bb19d9af46eee", checked := Try.checked }
namespace Rows
def none {H : Type} : Left H := { results := [], args := [] }

/-- 'decanterlaw09.RawEnds': WHATEVER THE INPUT: true; the input reads as it did. -/
def rawEndsSpec : ChangeSpec := { name := "rawEnds", fn := fun _ => fun
  | [d1, d2] => { results := [.lit (.bool true)], args := [d1, d2] }
  | _ => none }
def rawEndsRow : OpenClaim := { program := "ytdppomkilojmlaa", sum := "b08fbd5adcc24ed8d81347c4bcc8873bc97f65b9b8276d6d540bb19d9af46eee", func := "decanter/decanterlaw09.RawEnds", spec := "rawEnds", inPlace := ["internal/bytealg.IndexByte", "internal/bytealg.IndexByteString", "internal/bytealg.IndexString"], named := ["internal/bytealg.MaxLen"], apart := false }
def RawEndsSaid : Prop := rawEndsRow.holds Try.pinned (OpenSpec.ofChange rawEndsSpec)

/-- ITS FALSE NEIGHBOUR: 'it returns false'. Refute it at one input. -/
def rawEndsWrong : ChangeSpec := { name := "rawEnds", fn := fun _ => fun
  | [d1, d2] => { results := [.lit (.bool false)], args := [d1, d2] }
  | _ => none }
def RawEndsWrongFalsely : Prop := rawEndsRow.holds Try.pinned (OpenSpec.ofChange rawEndsWrong)

/-- 'decanterlaw09.RawFar': WHATEVER THE INPUT: true; the input reads as it did. -/
def rawFarSpec : ChangeSpec := { name := "rawFar", fn := fun _ => fun
  | [d1, d2, d3] => { results := [.lit (.bool true)], args := [d1, d2, d3] }
  | _ => none }
def rawFarRow : OpenClaim := { program := "ytdppomkilojmlaa", sum := "b08fbd5adcc24ed8d81347c4bcc8873bc97f65b9b8276d6d540bb19d9af46eee", func := "decanter/decanterlaw09.RawFar", spec := "rawFar", inPlace := ["internal/bytealg.IndexByte", "internal/bytealg.IndexByteString", "internal/bytealg.IndexString"], named := ["internal/bytealg.MaxLen"], apart := false }
def RawFarSaid : Prop := rawFarRow.holds Try.pinned (OpenSpec.ofChange rawFarSpec)

/-- ITS FALSE NEIGHBOUR: 'it returns false'. Refute it at one input. -/
def rawFarWrong : ChangeSpec := { name := "rawFar", fn := fun _ => fun
  | [d1, d2, d3] => { results := [.lit (.bool false)], args := [d1, d2, d3] }
  | _ => none }
def RawFarWrongFalsely : Prop := rawFarRow.holds Try.pinned (OpenSpec.ofChange rawFarWrong)

/-- 'decanterlaw09.RawNext': WHATEVER THE INPUT: true; the input reads as it did. -/
def rawNextSpec : ChangeSpec := { name := "rawNext", fn := fun _ => fun
  | [d1, d2] => { results := [.lit (.bool true)], args := [d1, d2] }
  | _ => none }
def rawNextRow : OpenClaim := { program := "ytdppomkilojmlaa", sum := "b08fbd5adcc24ed8d81347c4bcc8873bc97f65b9b8276d6d540bb19d9af46eee", func := "decanter/decanterlaw09.RawNext", spec := "rawNext", inPlace := ["internal/bytealg.IndexByte", "internal/bytealg.IndexByteString", "internal/bytealg.IndexString"], named := ["internal/bytealg.MaxLen"], apart := false }
def RawNextSaid : Prop := rawNextRow.holds Try.pinned (OpenSpec.ofChange rawNextSpec)

/-- ITS FALSE NEIGHBOUR: 'it returns false'. Refute it at one input. -/
def rawNextWrong : ChangeSpec := { name := "rawNext", fn := fun _ => fun
  | [d1, d2] => { results := [.lit (.bool false)], args := [d1, d2] }
  | _ => none }
def RawNextWrongFalsely : Prop := rawNextRow.holds Try.pinned (OpenSpec.ofChange rawNextWrong)

/-- 'decanterlaw08.MarkComments': WHATEVER THE INPUT: true; the input reads as it did. -/
def markCommentsSpec : ChangeSpec := { name := "markComments", fn := fun _ => fun
  | [d1, d2] => { results := [.lit (.bool true)], args := [d1, d2] }
  | _ => none }
def markCommentsRow : OpenClaim := { program := "ytdppomkilojmlaa", sum := "b08fbd5adcc24ed8d81347c4bcc8873bc97f65b9b8276d6d540bb19d9af46eee", func := "decanter/decanterlaw08.MarkComments", spec := "markComments", inPlace := ["internal/bytealg.IndexByteString", "internal/bytealg.IndexString"], named := ["internal/bytealg.MaxLen"], apart := false }
def MarkCommentsSaid : Prop := markCommentsRow.holds Try.pinned (OpenSpec.ofChange markCommentsSpec)

/-- ITS FALSE NEIGHBOUR: 'it returns false'. Refute it at one input. -/
def markCommentsWrong : ChangeSpec := { name := "markComments", fn := fun _ => fun
  | [d1, d2] => { results := [.lit (.bool false)], args := [d1, d2] }
  | _ => none }
def MarkCommentsWrongFalsely : Prop := markCommentsRow.holds Try.pinned (OpenSpec.ofChange markCommentsWrong)

/-- 'decanterlaw08.MarkBogus': WHATEVER THE INPUT: true; the input reads as it did. -/
def markBogusSpec : ChangeSpec := { name := "markBogus", fn := fun _ => fun
  | [d1, d2] => { results := [.lit (.bool true)], args := [d1, d2] }
  | _ => none }
def markBogusRow : OpenClaim := { program := "ytdppomkilojmlaa", sum := "b08fbd5adcc24ed8d81347c4bcc8873bc97f65b9b8276d6d540bb19d9af46eee", func := "decanter/decanterlaw08.MarkBogus", spec := "markBogus", inPlace := ["internal/bytealg.IndexByteString", "internal/bytealg.IndexString"], named := ["internal/bytealg.MaxLen"], apart := false }
def MarkBogusSaid : Prop := markBogusRow.holds Try.pinned (OpenSpec.ofChange markBogusSpec)

/-- ITS FALSE NEIGHBOUR: 'it returns false'. Refute it at one input. -/
def markBogusWrong : ChangeSpec := { name := "markBogus", fn := fun _ => fun
  | [d1, d2] => { results := [.lit (.bool false)], args := [d1, d2] }
  | _ => none }
def MarkBogusWrongFalsely : Prop := markBogusRow.holds Try.pinned (OpenSpec.ofChange markBogusWrong)

/-- 'decanterlaw08.MarkTags': WHATEVER THE INPUT: true; the input reads as it did. -/
def markTagsSpec : ChangeSpec := { name := "markTags", fn := fun _ => fun
  | [d] => { results := [.lit (.bool true)], args := [d] }
  | _ => none }
def markTagsRow : OpenClaim := { program := "ytdppomkilojmlaa", sum := "b08fbd5adcc24ed8d81347c4bcc8873bc97f65b9b8276d6d540bb19d9af46eee", func := "decanter/decanterlaw08.MarkTags", spec := "markTags", inPlace := ["internal/bytealg.IndexByteString", "internal/bytealg.IndexString"], named := ["internal/bytealg.MaxLen"], apart := false }
def MarkTagsSaid : Prop := markTagsRow.holds Try.pinned (OpenSpec.ofChange markTagsSpec)

/-- ITS FALSE NEIGHBOUR: 'it returns false'. Refute it at one input. -/
def markTagsWrong : ChangeSpec := { name := "markTags", fn := fun _ => fun
  | [d] => { results := [.lit (.bool false)], args := [d] }
  | _ => none }
def MarkTagsWrongFalsely : Prop := markTagsRow.holds Try.pinned (OpenSpec.ofChange markTagsWrong)

/- THE SECOND FORM. 'bulk': how many values and letters a reading holds, each counted each time it is reached (what is shared counts as often as it is met; a slice's spare places count too). A statement '..UptoSaid' is the law's where the arguments, and the package variables that the reading takes, are together of bulk at most 1048576: NARROWER than '..Said'. Prove '..Said' where nothing that the law and all that it calls make is longer than what came in: it says more and counts as full. Else prove '..UptoSaid'. A law counts once. -/
mutual
def uptoBulk {H : Type} : DataW H → Nat
  | .lit (.string bytes) => bytes.length + 1
  | .lit _ => 1
  | .nil => 1
  | .ptr d => uptoBulk d + 1
  | .slice elems spare => uptoBulkAll elems + uptoBulkAll spare + 1
  | .agg parts => uptoBulkAll parts + 1
  | .iface _ d => uptoBulk d + 1
  | .map entries => uptoBulkEntries entries + 1
  | .held _ => 1
def uptoBulkAll {H : Type} : List (DataW H) → Nat
  | [] => 0
  | d :: r => uptoBulk d + uptoBulkAll r
def uptoBulkEntries {H : Type} : List (Lit × DataW H) → Nat
  | [] => 0
  | x :: r => uptoBulkEntry x + uptoBulkEntries r
def uptoBulkEntry {H : Type} : Lit × DataW H → Nat
  | (.string bytes, d) => bytes.length + uptoBulk d + 1
  | (_, d) => uptoBulk d + 1
 end
def uptoSmall : (H : Type) → List (DataW H) → Bool := fun _ ds => decide (uptoBulkAll ds ≤ 1048576)
def OpenSpec.upto (s : _root_.Go.ChangeSpec) : _root_.Go.OpenSpec := { _root_.Go.OpenSpec.ofChange s with cond := some uptoSmall }

/-- 'decanterlaw09.RawEnds', WHERE WHAT IT READS IS OF BULK AT MOST 1048576: true; the input reads as it did. -/
def rawEndsUptoRow : OpenClaim := { program := "ytdppomkilojmlaa", sum := "b08fbd5adcc24ed8d81347c4bcc8873bc97f65b9b8276d6d540bb19d9af46eee", func := "decanter/decanterlaw09.RawEnds", spec := "rawEnds", inPlace := ["internal/bytealg.IndexByte", "internal/bytealg.IndexByteString", "internal/bytealg.IndexString"], named := ["internal/bytealg.MaxLen"], apart := false, narrowed := true }
def RawEndsUptoSaid : Prop := rawEndsUptoRow.holds Try.pinned (OpenSpec.upto rawEndsSpec)

/-- 'decanterlaw09.RawFar', WHERE WHAT IT READS IS OF BULK AT MOST 1048576: true; the input reads as it did. -/
def rawFarUptoRow : OpenClaim := { program := "ytdppomkilojmlaa", sum := "b08fbd5adcc24ed8d81347c4bcc8873bc97f65b9b8276d6d540bb19d9af46eee", func := "decanter/decanterlaw09.RawFar", spec := "rawFar", inPlace := ["internal/bytealg.IndexByte", "internal/bytealg.IndexByteString", "internal/bytealg.IndexString"], named := ["internal/bytealg.MaxLen"], apart := false, narrowed := true }
def RawFarUptoSaid : Prop := rawFarUptoRow.holds Try.pinned (OpenSpec.upto rawFarSpec)

/-- 'decanterlaw09.RawNext', WHERE WHAT IT READS IS OF BULK AT MOST 1048576: true; the input reads as it did. -/
def rawNextUptoRow : OpenClaim := { program := "ytdppomkilojmlaa", sum := "b08fbd5adcc24ed8d81347c4bcc8873bc97f65b9b8276d6d540bb19d9af46eee", func := "decanter/decanterlaw09.RawNext", spec := "rawNext", inPlace := ["internal/bytealg.IndexByte", "internal/bytealg.IndexByteString", "internal/bytealg.IndexString"], named := ["internal/bytealg.MaxLen"], apart := false, narrowed := true }
def RawNextUptoSaid : Prop := rawNextUptoRow.holds Try.pinned (OpenSpec.upto rawNextSpec)

/-- 'decanterlaw08.MarkComments', WHERE WHAT IT READS IS OF BULK AT MOST 1048576: true; the input reads as it did. -/
def markCommentsUptoRow : OpenClaim := { program := "ytdppomkilojmlaa", sum := "b08fbd5adcc24ed8d81347c4bcc8873bc97f65b9b8276d6d540bb19d9af46eee", func := "decanter/decanterlaw08.MarkComments", spec := "markComments", inPlace := ["internal/bytealg.IndexByteString", "internal/bytealg.IndexString"], named := ["internal/bytealg.MaxLen"], apart := false, narrowed := true }
def MarkCommentsUptoSaid : Prop := markCommentsUptoRow.holds Try.pinned (OpenSpec.upto markCommentsSpec)

/-- 'decanterlaw08.MarkBogus', WHERE WHAT IT READS IS OF BULK AT MOST 1048576: true; the input reads as it did. -/
def markBogusUptoRow : OpenClaim := { program := "ytdppomkilojmlaa", sum := "b08fbd5adcc24ed8d81347c4bcc8873bc97f65b9b8276d6d540bb19d9af46eee", func := "decanter/decanterlaw08.MarkBogus", spec := "markBogus", inPlace := ["internal/bytealg.IndexByteString", "internal/bytealg.IndexString"], named := ["internal/bytealg.MaxLen"], apart := false, narrowed := true }
def MarkBogusUptoSaid : Prop := markBogusUptoRow.holds Try.pinned (OpenSpec.upto markBogusSpec)

/-- 'decanterlaw08.MarkTags', WHERE WHAT IT READS IS OF BULK AT MOST 1048576: true; the input reads as it did. -/
def markTagsUptoRow : OpenClaim := { program := "ytdppomkilojmlaa", sum := "b08fbd5adcc24ed8d81347c4bcc8873bc97f65b9b8276d6d540bb19d9af46eee", func := "decanter/decanterlaw08.MarkTags", spec := "markTags", inPlace := ["internal/bytealg.IndexByteString", "internal/bytealg.IndexString"], named := ["internal/bytealg.MaxLen"], apart := false, narrowed := true }
def MarkTagsUptoSaid : Prop := markTagsUptoRow.holds Try.pinned (OpenSpec.upto markTagsSpec)

end Rows
end Go.Proofs.Ytdppomkilojmlaa
