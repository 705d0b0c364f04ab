/-
  NARROWER THAN 'FOR EVERY INPUT', by the rows' own cells (each row's printed sentence says how): EntityFinds: laid · EntityNames: laid · EntityPrefix: laid · EntityTexts: laid · RefPlain: laid · RefReads: laid · RefTexts: laid · RefPoints: laid · RefNumbers: laid · RefBehind: laid.
  DERIVED. THE GIVEN ROWS OF THIS SEAT. 10 by the template 'for every input the law returns true; each argument reads behind the call as it read before'; 0 by the template 'total and deterministic' (their statements: YtnmjocoopbfpnaaDoorTotals.lean).
  GIVEN WITH THE SEED: the statements are not yours to turn. If you find one false, say at which input.
  Laid BY PROGRAM, IN A SANDBOX (cutbox-rows.mjs): the forced cells as the released guide's own fill.sh prints them over the translation 5361936b5f2b352d… (all of the seat's roots in one cut). By AI agents, Wed Nov 11 2026. No macro, syntax, notation, axiom, sorry.
-/
import Derived.Test.YtnmjocoopbfpnaaDoorChecked
import GoSem.PinnedTables
import GoSem.Claim
import GoSem.ClaimJoined
import GoSem.ClaimMapViews
import Derived.JoinedTies
import Derived.KernelRfl
namespace Go.Proofs.YtnmjocoopbfpnaaDoor
/- THE CELL 'sum', in the pinned program and in every row, IS THE sha256 OF THE DUMP (.gsa) THAT YtnmjocoopbfpnaaDoorProg.lean LOADS. Nothing in Lean hashes anything: it is a label: what it is worth is what the hold of that sum in a sandbox is worth. -/
noncomputable def Tryd.pinned : Pinned := { name := "ytnmjocoopbfpnaadoor", sum := "5361936b5f2b352df47417508b8c015de9648f7f9dfaeba0e5b9bb23e4195016", checked := Tryd.checked }
namespace Rows
def none {H : Type} : Left H := { results := [], args := [] }

/- WHAT THE LISTED PACKAGE-LEVEL VARIABLES READ AS WHEN THE CALL BEGINS. Each datum BY PROGRAM (the guide's laid-datum.mjs) off the statement by which the dump's own 'gosem.cut.vars' lays the variable. In a bare row this is a premise. The card (YtnmjocoopbfpnaaDoorCards.lean) ties it to the program's text. -/
def laid_decanter_entity_table {H : Type} : DataW H := .agg [.agg [.lit (.string [65, 77, 80]), .lit (.string [38])], .agg [.lit (.string [65, 77, 80, 59]), .lit (.string [38])], .agg [.lit (.string [71, 84]), .lit (.string [62])], .agg [.lit (.string [71, 84, 59]), .lit (.string [62])], .agg [.lit (.string [76, 84]), .lit (.string [60])], .agg [.lit (.string [76, 84, 59]), .lit (.string [60])], .agg [.lit (.string [78, 101, 119, 76, 105, 110, 101, 59]), .lit (.string [10])], .agg [.lit (.string [81, 85, 79, 84]), .lit (.string [34])], .agg [.lit (.string [81, 85, 79, 84, 59]), .lit (.string [34])], .agg [.lit (.string [84, 97, 98, 59]), .lit (.string [9])], .agg [.lit (.string [97, 99, 69, 59]), .lit (.string [226, 136, 190, 204, 179])], .agg [.lit (.string [97, 108, 112, 104, 97, 59]), .lit (.string [206, 177])], .agg [.lit (.string [97, 109, 112]), .lit (.string [38])], .agg [.lit (.string [97, 109, 112, 59]), .lit (.string [38])], .agg [.lit (.string [97, 112, 111, 115, 59]), .lit (.string [39])], .agg [.lit (.string [98, 101, 116, 97, 59]), .lit (.string [206, 178])], .agg [.lit (.string [98, 117, 108, 108, 59]), .lit (.string [226, 128, 162])], .agg [.lit (.string [99, 111, 108, 111, 110, 59]), .lit (.string [58])], .agg [.lit (.string [99, 111, 112, 121]), .lit (.string [194, 169])], .agg [.lit (.string [99, 111, 112, 121, 59]), .lit (.string [194, 169])], .agg [.lit (.string [100, 101, 103]), .lit (.string [194, 176])], .agg [.lit (.string [100, 101, 103, 59]), .lit (.string [194, 176])], .agg [.lit (.string [100, 105, 118, 105, 100, 101]), .lit (.string [195, 183])], .agg [.lit (.string [100, 105, 118, 105, 100, 101, 59]), .lit (.string [195, 183])], .agg [.lit (.string [101, 117, 114, 111, 59]), .lit (.string [226, 130, 172])], .agg [.lit (.string [103, 101, 59]), .lit (.string [226, 137, 165])], .agg [.lit (.string [103, 116]), .lit (.string [62])], .agg [.lit (.string [103, 116, 59]), .lit (.string [62])], .agg [.lit (.string [104, 101, 108, 108, 105, 112, 59]), .lit (.string [226, 128, 166])], .agg [.lit (.string [105, 110, 102, 105, 110, 59]), .lit (.string [226, 136, 158])], .agg [.lit (.string [108, 100, 113, 117, 111, 59]), .lit (.string [226, 128, 156])], .agg [.lit (.string [108, 101, 59]), .lit (.string [226, 137, 164])], .agg [.lit (.string [108, 112, 97, 114, 59]), .lit (.string [40])], .agg [.lit (.string [108, 115, 113, 117, 111, 59]), .lit (.string [226, 128, 152])], .agg [.lit (.string [108, 116]), .lit (.string [60])], .agg [.lit (.string [108, 116, 59]), .lit (.string [60])], .agg [.lit (.string [109, 100, 97, 115, 104, 59]), .lit (.string [226, 128, 148])], .agg [.lit (.string [110, 98, 115, 112]), .lit (.string [194, 160])], .agg [.lit (.string [110, 98, 115, 112, 59]), .lit (.string [194, 160])], .agg [.lit (.string [110, 100, 97, 115, 104, 59]), .lit (.string [226, 128, 147])], .agg [.lit (.string [110, 111, 116]), .lit (.string [194, 172])], .agg [.lit (.string [110, 111, 116, 59]), .lit (.string [194, 172])], .agg [.lit (.string [110, 111, 116, 105, 110, 59]), .lit (.string [226, 136, 137])], .agg [.lit (.string [110, 118, 108, 116, 59]), .lit (.string [60, 226, 131, 146])], .agg [.lit (.string [112, 97, 114, 97]), .lit (.string [194, 182])], .agg [.lit (.string [112, 97, 114, 97, 59]), .lit (.string [194, 182])], .agg [.lit (.string [113, 117, 111, 116]), .lit (.string [34])], .agg [.lit (.string [113, 117, 111, 116, 59]), .lit (.string [34])], .agg [.lit (.string [114, 100, 113, 117, 111, 59]), .lit (.string [226, 128, 157])], .agg [.lit (.string [114, 101, 103]), .lit (.string [194, 174])], .agg [.lit (.string [114, 101, 103, 59]), .lit (.string [194, 174])], .agg [.lit (.string [114, 112, 97, 114, 59]), .lit (.string [41])], .agg [.lit (.string [114, 115, 113, 117, 111, 59]), .lit (.string [226, 128, 153])], .agg [.lit (.string [115, 101, 99, 116]), .lit (.string [194, 167])], .agg [.lit (.string [115, 101, 99, 116, 59]), .lit (.string [194, 167])], .agg [.lit (.string [115, 111, 108, 59]), .lit (.string [47])], .agg [.lit (.string [116, 105, 109, 101, 115]), .lit (.string [195, 151])], .agg [.lit (.string [116, 105, 109, 101, 115, 59]), .lit (.string [195, 151])], .agg [.lit (.string [116, 114, 97, 100, 101, 59]), .lit (.string [226, 132, 162])], .agg [.lit (.string [121, 101, 110]), .lit (.string [194, 165])], .agg [.lit (.string [121, 101, 110, 59]), .lit (.string [194, 165])]]
def laid_unicode_utf8_acceptRanges {H : Type} : DataW H := .agg [.agg [.lit (.int .u8 128), .lit (.int .u8 191)], .agg [.lit (.int .u8 160), .lit (.int .u8 191)], .agg [.lit (.int .u8 128), .lit (.int .u8 159)], .agg [.lit (.int .u8 144), .lit (.int .u8 191)], .agg [.lit (.int .u8 128), .lit (.int .u8 143)], .agg [.lit (.int .u8 0), .lit (.int .u8 0)], .agg [.lit (.int .u8 0), .lit (.int .u8 0)], .agg [.lit (.int .u8 0), .lit (.int .u8 0)], .agg [.lit (.int .u8 0), .lit (.int .u8 0)], .agg [.lit (.int .u8 0), .lit (.int .u8 0)], .agg [.lit (.int .u8 0), .lit (.int .u8 0)], .agg [.lit (.int .u8 0), .lit (.int .u8 0)], .agg [.lit (.int .u8 0), .lit (.int .u8 0)], .agg [.lit (.int .u8 0), .lit (.int .u8 0)], .agg [.lit (.int .u8 0), .lit (.int .u8 0)], .agg [.lit (.int .u8 0), .lit (.int .u8 0)]]
def laid_decanter_ref_high {H : Type} : DataW H := .agg [.lit (.int .i32 8364), .lit (.int .i32 0), .lit (.int .i32 8218), .lit (.int .i32 402), .lit (.int .i32 8222), .lit (.int .i32 8230), .lit (.int .i32 8224), .lit (.int .i32 8225), .lit (.int .i32 710), .lit (.int .i32 8240), .lit (.int .i32 352), .lit (.int .i32 8249), .lit (.int .i32 338), .lit (.int .i32 0), .lit (.int .i32 381), .lit (.int .i32 0), .lit (.int .i32 0), .lit (.int .i32 8216), .lit (.int .i32 8217), .lit (.int .i32 8220), .lit (.int .i32 8221), .lit (.int .i32 8226), .lit (.int .i32 8211), .lit (.int .i32 8212), .lit (.int .i32 732), .lit (.int .i32 8482), .lit (.int .i32 353), .lit (.int .i32 8250), .lit (.int .i32 339), .lit (.int .i32 0), .lit (.int .i32 382), .lit (.int .i32 376)]
/-- One of Go's own tables, pinned by name: the form's constant. -/
def laid_unicode_utf8_first : DataW Unit := Go.Pinned.utf8First

/-- 'decanterlaw04.EntityFinds': WHATEVER THE INPUT: true; the input reads as it did. -/
def entityFindsSpec : ChangeSpec := { name := "entityFinds", fn := fun _ => fun
  | [d] => { results := [.lit (.bool true)], args := [d] }
  | _ => none }
def entityFindsRow : OpenClaim := { program := "ytnmjocoopbfpnaadoor", sum := "5361936b5f2b352df47417508b8c015de9648f7f9dfaeba0e5b9bb23e4195016", func := "decanter/decanterlaw04.EntityFinds", spec := "entityFinds", unfollowed := true, recurses := true, named := ["decanter/entity.table"], apart := false, laid := [("decanter/entity.table", laid_decanter_entity_table)] }
def EntityFindsSaid : Prop := entityFindsRow.holds Tryd.pinned (OpenSpec.ofChange entityFindsSpec)

/-- ITS FALSE NEIGHBOUR: 'it returns false'. Refute it at one input. -/
def entityFindsWrong : ChangeSpec := { name := "entityFinds", fn := fun _ => fun
  | [d] => { results := [.lit (.bool false)], args := [d] }
  | _ => none }
def EntityFindsWrongFalsely : Prop := entityFindsRow.holds Tryd.pinned (OpenSpec.ofChange entityFindsWrong)

/-- 'decanterlaw04.EntityNames': WHATEVER THE INPUT: true; the input reads as it did. -/
def entityNamesSpec : ChangeSpec := { name := "entityNames", fn := fun _ => fun
  | [d] => { results := [.lit (.bool true)], args := [d] }
  | _ => none }
def entityNamesRow : OpenClaim := { program := "ytnmjocoopbfpnaadoor", sum := "5361936b5f2b352df47417508b8c015de9648f7f9dfaeba0e5b9bb23e4195016", func := "decanter/decanterlaw04.EntityNames", spec := "entityNames", unfollowed := true, recurses := true, named := ["decanter/entity.table"], apart := false, laid := [("decanter/entity.table", laid_decanter_entity_table)] }
def EntityNamesSaid : Prop := entityNamesRow.holds Tryd.pinned (OpenSpec.ofChange entityNamesSpec)

/-- ITS FALSE NEIGHBOUR: 'it returns false'. Refute it at one input. -/
def entityNamesWrong : ChangeSpec := { name := "entityNames", fn := fun _ => fun
  | [d] => { results := [.lit (.bool false)], args := [d] }
  | _ => none }
def EntityNamesWrongFalsely : Prop := entityNamesRow.holds Tryd.pinned (OpenSpec.ofChange entityNamesWrong)

/-- 'decanterlaw04.EntityPrefix': WHATEVER THE INPUT: true; the input reads as it did. -/
def entityPrefixSpec : ChangeSpec := { name := "entityPrefix", fn := fun _ => fun
  | [d1, d2] => { results := [.lit (.bool true)], args := [d1, d2] }
  | _ => none }
def entityPrefixRow : OpenClaim := { program := "ytnmjocoopbfpnaadoor", sum := "5361936b5f2b352df47417508b8c015de9648f7f9dfaeba0e5b9bb23e4195016", func := "decanter/decanterlaw04.EntityPrefix", spec := "entityPrefix", unfollowed := true, recurses := true, named := ["decanter/entity.table"], apart := false, laid := [("decanter/entity.table", laid_decanter_entity_table)] }
def EntityPrefixSaid : Prop := entityPrefixRow.holds Tryd.pinned (OpenSpec.ofChange entityPrefixSpec)

/-- ITS FALSE NEIGHBOUR: 'it returns false'. Refute it at one input. -/
def entityPrefixWrong : ChangeSpec := { name := "entityPrefix", fn := fun _ => fun
  | [d1, d2] => { results := [.lit (.bool false)], args := [d1, d2] }
  | _ => none }
def EntityPrefixWrongFalsely : Prop := entityPrefixRow.holds Tryd.pinned (OpenSpec.ofChange entityPrefixWrong)

/-- 'decanterlaw04.EntityTexts': WHATEVER THE INPUT: true; the input reads as it did. -/
def entityTextsSpec : ChangeSpec := { name := "entityTexts", fn := fun _ => fun
  | [d] => { results := [.lit (.bool true)], args := [d] }
  | _ => none }
def entityTextsRow : OpenClaim := { program := "ytnmjocoopbfpnaadoor", sum := "5361936b5f2b352df47417508b8c015de9648f7f9dfaeba0e5b9bb23e4195016", func := "decanter/decanterlaw04.EntityTexts", spec := "entityTexts", unfollowed := true, recurses := true, named := ["decanter/entity.table"], apart := false, laid := [("decanter/entity.table", laid_decanter_entity_table)] }
def EntityTextsSaid : Prop := entityTextsRow.holds Tryd.pinned (OpenSpec.ofChange entityTextsSpec)

/-- ITS FALSE NEIGHBOUR: 'it returns false'. Refute it at one input. -/
def entityTextsWrong : ChangeSpec := { name := "entityTexts", fn := fun _ => fun
  | [d] => { results := [.lit (.bool false)], args := [d] }
  | _ => none }
def EntityTextsWrongFalsely : Prop := entityTextsRow.holds Tryd.pinned (OpenSpec.ofChange entityTextsWrong)

/-- 'decanterlaw05.RefPlain': WHATEVER THE INPUT: true; the input reads as it did. -/
def refPlainSpec : ChangeSpec := { name := "refPlain", fn := fun _ => fun
  | [d1, d2] => { results := [.lit (.bool true)], args := [d1, d2] }
  | _ => none }
def refPlainRow : OpenClaim := { program := "ytnmjocoopbfpnaadoor", sum := "5361936b5f2b352df47417508b8c015de9648f7f9dfaeba0e5b9bb23e4195016", func := "decanter/decanterlaw05.RefPlain", spec := "refPlain", inPlace := ["internal/abi.NoEscape"], unfollowed := true, recurses := true, named := ["decanter/ref.high", "decanter/entity.table", "unicode/utf8.first", "unicode/utf8.acceptRanges"], apart := false, laid := [("unicode/utf8.acceptRanges", laid_unicode_utf8_acceptRanges), ("decanter/entity.table", laid_decanter_entity_table), ("decanter/ref.high", laid_decanter_ref_high), ("unicode/utf8.first", laid_unicode_utf8_first)] }
def RefPlainSaid : Prop := refPlainRow.holds Tryd.pinned (OpenSpec.ofChange refPlainSpec)

/-- ITS FALSE NEIGHBOUR: 'it returns false'. Refute it at one input. -/
def refPlainWrong : ChangeSpec := { name := "refPlain", fn := fun _ => fun
  | [d1, d2] => { results := [.lit (.bool false)], args := [d1, d2] }
  | _ => none }
def RefPlainWrongFalsely : Prop := refPlainRow.holds Tryd.pinned (OpenSpec.ofChange refPlainWrong)

/-- 'decanterlaw05.RefReads': WHATEVER THE INPUT: true; the input reads as it did. -/
def refReadsSpec : ChangeSpec := { name := "refReads", fn := fun _ => fun
  | [d1, d2] => { results := [.lit (.bool true)], args := [d1, d2] }
  | _ => none }
def refReadsRow : OpenClaim := { program := "ytnmjocoopbfpnaadoor", sum := "5361936b5f2b352df47417508b8c015de9648f7f9dfaeba0e5b9bb23e4195016", func := "decanter/decanterlaw05.RefReads", spec := "refReads", inPlace := ["internal/abi.NoEscape"], unfollowed := true, recurses := true, named := ["decanter/ref.high", "decanter/entity.table", "unicode/utf8.first", "unicode/utf8.acceptRanges"], apart := false, laid := [("unicode/utf8.acceptRanges", laid_unicode_utf8_acceptRanges), ("decanter/entity.table", laid_decanter_entity_table), ("decanter/ref.high", laid_decanter_ref_high), ("unicode/utf8.first", laid_unicode_utf8_first)] }
def RefReadsSaid : Prop := refReadsRow.holds Tryd.pinned (OpenSpec.ofChange refReadsSpec)

/-- ITS FALSE NEIGHBOUR: 'it returns false'. Refute it at one input. -/
def refReadsWrong : ChangeSpec := { name := "refReads", fn := fun _ => fun
  | [d1, d2] => { results := [.lit (.bool false)], args := [d1, d2] }
  | _ => none }
def RefReadsWrongFalsely : Prop := refReadsRow.holds Tryd.pinned (OpenSpec.ofChange refReadsWrong)

/-- 'decanterlaw05.RefTexts': WHATEVER THE INPUT: true; the input reads as it did. -/
def refTextsSpec : ChangeSpec := { name := "refTexts", fn := fun _ => fun
  | [d1, d2, d3, d4] => { results := [.lit (.bool true)], args := [d1, d2, d3, d4] }
  | _ => none }
def refTextsRow : OpenClaim := { program := "ytnmjocoopbfpnaadoor", sum := "5361936b5f2b352df47417508b8c015de9648f7f9dfaeba0e5b9bb23e4195016", func := "decanter/decanterlaw05.RefTexts", spec := "refTexts", inPlace := ["internal/abi.NoEscape"], unfollowed := true, recurses := true, named := ["decanter/ref.high", "decanter/entity.table", "unicode/utf8.first", "unicode/utf8.acceptRanges"], apart := false, laid := [("unicode/utf8.acceptRanges", laid_unicode_utf8_acceptRanges), ("decanter/entity.table", laid_decanter_entity_table), ("decanter/ref.high", laid_decanter_ref_high), ("unicode/utf8.first", laid_unicode_utf8_first)] }
def RefTextsSaid : Prop := refTextsRow.holds Tryd.pinned (OpenSpec.ofChange refTextsSpec)

/-- ITS FALSE NEIGHBOUR: 'it returns false'. Refute it at one input. -/
def refTextsWrong : ChangeSpec := { name := "refTexts", fn := fun _ => fun
  | [d1, d2, d3, d4] => { results := [.lit (.bool false)], args := [d1, d2, d3, d4] }
  | _ => none }
def RefTextsWrongFalsely : Prop := refTextsRow.holds Tryd.pinned (OpenSpec.ofChange refTextsWrong)

/-- 'decanterlaw05.RefPoints': WHATEVER THE INPUT: true; the input reads as it did. -/
def refPointsSpec : ChangeSpec := { name := "refPoints", fn := fun _ => fun
  | [d] => { results := [.lit (.bool true)], args := [d] }
  | _ => none }
def refPointsRow : OpenClaim := { program := "ytnmjocoopbfpnaadoor", sum := "5361936b5f2b352df47417508b8c015de9648f7f9dfaeba0e5b9bb23e4195016", func := "decanter/decanterlaw05.RefPoints", spec := "refPoints", inPlace := ["internal/abi.NoEscape"], unfollowed := true, recurses := true, named := ["decanter/ref.high", "decanter/entity.table", "unicode/utf8.first", "unicode/utf8.acceptRanges"], apart := false, laid := [("unicode/utf8.acceptRanges", laid_unicode_utf8_acceptRanges), ("decanter/entity.table", laid_decanter_entity_table), ("decanter/ref.high", laid_decanter_ref_high), ("unicode/utf8.first", laid_unicode_utf8_first)] }
def RefPointsSaid : Prop := refPointsRow.holds Tryd.pinned (OpenSpec.ofChange refPointsSpec)

/-- ITS FALSE NEIGHBOUR: 'it returns false'. Refute it at one input. -/
def refPointsWrong : ChangeSpec := { name := "refPoints", fn := fun _ => fun
  | [d] => { results := [.lit (.bool false)], args := [d] }
  | _ => none }
def RefPointsWrongFalsely : Prop := refPointsRow.holds Tryd.pinned (OpenSpec.ofChange refPointsWrong)

/-- 'decanterlaw05.RefNumbers': WHATEVER THE INPUT: true; the input reads as it did. -/
def refNumbersSpec : ChangeSpec := { name := "refNumbers", fn := fun _ => fun
  | [d1, d2, d3] => { results := [.lit (.bool true)], args := [d1, d2, d3] }
  | _ => none }
def refNumbersRow : OpenClaim := { program := "ytnmjocoopbfpnaadoor", sum := "5361936b5f2b352df47417508b8c015de9648f7f9dfaeba0e5b9bb23e4195016", func := "decanter/decanterlaw05.RefNumbers", spec := "refNumbers", inPlace := ["internal/abi.NoEscape"], unfollowed := true, recurses := true, named := ["decanter/ref.high", "decanter/entity.table", "unicode/utf8.first", "unicode/utf8.acceptRanges"], apart := false, laid := [("unicode/utf8.acceptRanges", laid_unicode_utf8_acceptRanges), ("decanter/entity.table", laid_decanter_entity_table), ("decanter/ref.high", laid_decanter_ref_high), ("unicode/utf8.first", laid_unicode_utf8_first)] }
def RefNumbersSaid : Prop := refNumbersRow.holds Tryd.pinned (OpenSpec.ofChange refNumbersSpec)

/-- ITS FALSE NEIGHBOUR: 'it returns false'. Refute it at one input. -/
def refNumbersWrong : ChangeSpec := { name := "refNumbers", fn := fun _ => fun
  | [d1, d2, d3] => { results := [.lit (.bool false)], args := [d1, d2, d3] }
  | _ => none }
def RefNumbersWrongFalsely : Prop := refNumbersRow.holds Tryd.pinned (OpenSpec.ofChange refNumbersWrong)

/-- 'decanterlaw05.RefBehind': WHATEVER THE INPUT: true; the input reads as it did. -/
def refBehindSpec : ChangeSpec := { name := "refBehind", fn := fun _ => fun
  | [d1, d2, d3, d4] => { results := [.lit (.bool true)], args := [d1, d2, d3, d4] }
  | _ => none }
def refBehindRow : OpenClaim := { program := "ytnmjocoopbfpnaadoor", sum := "5361936b5f2b352df47417508b8c015de9648f7f9dfaeba0e5b9bb23e4195016", func := "decanter/decanterlaw05.RefBehind", spec := "refBehind", inPlace := ["internal/abi.NoEscape"], unfollowed := true, recurses := true, named := ["decanter/ref.high", "decanter/entity.table", "unicode/utf8.first", "unicode/utf8.acceptRanges"], apart := false, laid := [("unicode/utf8.acceptRanges", laid_unicode_utf8_acceptRanges), ("decanter/entity.table", laid_decanter_entity_table), ("decanter/ref.high", laid_decanter_ref_high), ("unicode/utf8.first", laid_unicode_utf8_first)] }
def RefBehindSaid : Prop := refBehindRow.holds Tryd.pinned (OpenSpec.ofChange refBehindSpec)

/-- ITS FALSE NEIGHBOUR: 'it returns false'. Refute it at one input. -/
def refBehindWrong : ChangeSpec := { name := "refBehind", fn := fun _ => fun
  | [d1, d2, d3, d4] => { results := [.lit (.bool false)], args := [d1, d2, d3, d4] }
  | _ => none }
def RefBehindWrongFalsely : Prop := refBehindRow.holds Tryd.pinned (OpenSpec.ofChange refBehindWrong)

/- THE SECOND FORM. 'bulk': how many values and letters a reading holds, each counted each time it is reached (what is shared counts as often as it is met; a slice's spare places count too). A statement '..UptoSaid' is the law's where the arguments, and the package variables that the reading takes, are together of bulk at most 1048576: NARROWER than '..Said'. Prove '..Said' where nothing that the law and all that it calls make is longer than what came in: it says more and counts as full. Else prove '..UptoSaid'. A law counts once. -/
mutual
def uptoBulk {H : Type} : DataW H → Nat
  | .lit (.string bytes) => bytes.length + 1
  | .lit _ => 1
  | .nil => 1
  | .ptr d => uptoBulk d + 1
  | .slice elems spare => uptoBulkAll elems + uptoBulkAll spare + 1
  | .agg parts => uptoBulkAll parts + 1
  | .iface _ d => uptoBulk d + 1
  | .map entries => uptoBulkEntries entries + 1
  | .held _ => 1
def uptoBulkAll {H : Type} : List (DataW H) → Nat
  | [] => 0
  | d :: r => uptoBulk d + uptoBulkAll r
def uptoBulkEntries {H : Type} : List (Lit × DataW H) → Nat
  | [] => 0
  | x :: r => uptoBulkEntry x + uptoBulkEntries r
def uptoBulkEntry {H : Type} : Lit × DataW H → Nat
  | (.string bytes, d) => bytes.length + uptoBulk d + 1
  | (_, d) => uptoBulk d + 1
 end
def uptoSmall : (H : Type) → List (DataW H) → Bool := fun _ ds => decide (uptoBulkAll ds ≤ 1048576)
def OpenSpec.upto (s : _root_.Go.ChangeSpec) : _root_.Go.OpenSpec := { _root_.Go.OpenSpec.ofChange s with cond := some uptoSmall }

/-- 'decanterlaw04.EntityFinds', WHERE WHAT IT READS IS OF BULK AT MOST 1048576: true; the input reads as it did. -/
def entityFindsUptoRow : OpenClaim := { program := "ytnmjocoopbfpnaadoor", sum := "5361936b5f2b352df47417508b8c015de9648f7f9dfaeba0e5b9bb23e4195016", func := "decanter/decanterlaw04.EntityFinds", spec := "entityFinds", unfollowed := true, recurses := true, named := ["decanter/entity.table"], apart := false, laid := [("decanter/entity.table", laid_decanter_entity_table)], narrowed := true }
def EntityFindsUptoSaid : Prop := entityFindsUptoRow.holds Tryd.pinned (OpenSpec.upto entityFindsSpec)

/-- 'decanterlaw04.EntityNames', WHERE WHAT IT READS IS OF BULK AT MOST 1048576: true; the input reads as it did. -/
def entityNamesUptoRow : OpenClaim := { program := "ytnmjocoopbfpnaadoor", sum := "5361936b5f2b352df47417508b8c015de9648f7f9dfaeba0e5b9bb23e4195016", func := "decanter/decanterlaw04.EntityNames", spec := "entityNames", unfollowed := true, recurses := true, named := ["decanter/entity.table"], apart := false, laid := [("decanter/entity.table", laid_decanter_entity_table)], narrowed := true }
def EntityNamesUptoSaid : Prop := entityNamesUptoRow.holds Tryd.pinned (OpenSpec.upto entityNamesSpec)

/-- 'decanterlaw04.EntityPrefix', WHERE WHAT IT READS IS OF BULK AT MOST 1048576: true; the input reads as it did. -/
def entityPrefixUptoRow : OpenClaim := { program := "ytnmjocoopbfpnaadoor", sum := "5361936b5f2b352df47417508b8c015de9648f7f9dfaeba0e5b9bb23e4195016", func := "decanter/decanterlaw04.EntityPrefix", spec := "entityPrefix", unfollowed := true, recurses := true, named := ["decanter/entity.table"], apart := false, laid := [("decanter/entity.table", laid_decanter_entity_table)], narrowed := true }
def EntityPrefixUptoSaid : Prop := entityPrefixUptoRow.holds Tryd.pinned (OpenSpec.upto entityPrefixSpec)

/-- 'decanterlaw04.EntityTexts', WHERE WHAT IT READS IS OF BULK AT MOST 1048576: true; the input reads as it did. -/
def entityTextsUptoRow : OpenClaim := { program := "ytnmjocoopbfpnaadoor", sum := "5361936b5f2b352df47417508b8c015de9648f7f9dfaeba0e5b9bb23e4195016", func := "decanter/decanterlaw04.EntityTexts", spec := "entityTexts", unfollowed := true, recurses := true, named := ["decanter/entity.table"], apart := false, laid := [("decanter/entity.table", laid_decanter_entity_table)], narrowed := true }
def EntityTextsUptoSaid : Prop := entityTextsUptoRow.holds Tryd.pinned (OpenSpec.upto entityTextsSpec)

/-- 'decanterlaw05.RefPlain', WHERE WHAT IT READS IS OF BULK AT MOST 1048576: true; the input reads as it did. -/
def refPlainUptoRow : OpenClaim := { program := "ytnmjocoopbfpnaadoor", sum := "5361936b5f2b352df47417508b8c015de9648f7f9dfaeba0e5b9bb23e4195016", func := "decanter/decanterlaw05.RefPlain", spec := "refPlain", inPlace := ["internal/abi.NoEscape"], unfollowed := true, recurses := true, named := ["decanter/ref.high", "decanter/entity.table", "unicode/utf8.first", "unicode/utf8.acceptRanges"], apart := false, laid := [("unicode/utf8.acceptRanges", laid_unicode_utf8_acceptRanges), ("decanter/entity.table", laid_decanter_entity_table), ("decanter/ref.high", laid_decanter_ref_high), ("unicode/utf8.first", laid_unicode_utf8_first)], narrowed := true }
def RefPlainUptoSaid : Prop := refPlainUptoRow.holds Tryd.pinned (OpenSpec.upto refPlainSpec)

/-- 'decanterlaw05.RefReads', WHERE WHAT IT READS IS OF BULK AT MOST 1048576: true; the input reads as it did. -/
def refReadsUptoRow : OpenClaim := { program := "ytnmjocoopbfpnaadoor", sum := "5361936b5f2b352df47417508b8c015de9648f7f9dfaeba0e5b9bb23e4195016", func := "decanter/decanterlaw05.RefReads", spec := "refReads", inPlace := ["internal/abi.NoEscape"], unfollowed := true, recurses := true, named := ["decanter/ref.high", "decanter/entity.table", "unicode/utf8.first", "unicode/utf8.acceptRanges"], apart := false, laid := [("unicode/utf8.acceptRanges", laid_unicode_utf8_acceptRanges), ("decanter/entity.table", laid_decanter_entity_table), ("decanter/ref.high", laid_decanter_ref_high), ("unicode/utf8.first", laid_unicode_utf8_first)], narrowed := true }
def RefReadsUptoSaid : Prop := refReadsUptoRow.holds Tryd.pinned (OpenSpec.upto refReadsSpec)

/-- 'decanterlaw05.RefTexts', WHERE WHAT IT READS IS OF BULK AT MOST 1048576: true; the input reads as it did. -/
def refTextsUptoRow : OpenClaim := { program := "ytnmjocoopbfpnaadoor", sum := "5361936b5f2b352df47417508b8c015de9648f7f9dfaeba0e5b9bb23e4195016", func := "decanter/decanterlaw05.RefTexts", spec := "refTexts", inPlace := ["internal/abi.NoEscape"], unfollowed := true, recurses := true, named := ["decanter/ref.high", "decanter/entity.table", "unicode/utf8.first", "unicode/utf8.acceptRanges"], apart := false, laid := [("unicode/utf8.acceptRanges", laid_unicode_utf8_acceptRanges), ("decanter/entity.table", laid_decanter_entity_table), ("decanter/ref.high", laid_decanter_ref_high), ("unicode/utf8.first", laid_unicode_utf8_first)], narrowed := true }
def RefTextsUptoSaid : Prop := refTextsUptoRow.holds Tryd.pinned (OpenSpec.upto refTextsSpec)

/-- 'decanterlaw05.RefPoints', WHERE WHAT IT READS IS OF BULK AT MOST 1048576: true; the input reads as it did. -/
def refPointsUptoRow : OpenClaim := { program := "ytnmjocoopbfpnaadoor", sum := "5361936b5f2b352df47417508b8c015de9648f7f9dfaeba0e5b9bb23e4195016", func := "decanter/decanterlaw05.RefPoints", spec := "refPoints", inPlace := ["internal/abi.NoEscape"], unfollowed := true, recurses := true, named := ["decanter/ref.high", "decanter/entity.table", "unicode/utf8.first", "unicode/utf8.acceptRanges"], apart := false, laid := [("unicode/utf8.acceptRanges", laid_unicode_utf8_acceptRanges), ("decanter/entity.table", laid_decanter_entity_table), ("decanter/ref.high", laid_decanter_ref_high), ("unicode/utf8.first", laid_unicode_utf8_first)], narrowed := true }
def RefPointsUptoSaid : Prop := refPointsUptoRow.holds Tryd.pinned (OpenSpec.upto refPointsSpec)

/-- 'decanterlaw05.RefNumbers', WHERE WHAT IT READS IS OF BULK AT MOST 1048576: true; the input reads as it did. -/
def refNumbersUptoRow : OpenClaim := { program := "ytnmjocoopbfpnaadoor", sum := "5361936b5f2b352df47417508b8c015de9648f7f9dfaeba0e5b9bb23e4195016", func := "decanter/decanterlaw05.RefNumbers", spec := "refNumbers", inPlace := ["internal/abi.NoEscape"], unfollowed := true, recurses := true, named := ["decanter/ref.high", "decanter/entity.table", "unicode/utf8.first", "unicode/utf8.acceptRanges"], apart := false, laid := [("unicode/utf8.acceptRanges", laid_unicode_utf8_acceptRanges), ("decanter/entity.table", laid_decanter_entity_table), ("decanter/ref.high", laid_decanter_ref_high), ("unicode/utf8.first", laid_unicode_utf8_first)], narrowed := true }
def RefNumbersUptoSaid : Prop := refNumbersUptoRow.holds Tryd.pinned (OpenSpec.upto refNumbersSpec)

/-- 'decanterlaw05.RefBehind', WHERE WHAT IT READS IS OF BULK AT MOST 1048576: true; the input reads as it did. -/
def refBehindUptoRow : OpenClaim := { program := "ytnmjocoopbfpnaadoor", sum := "5361936b5f2b352df47417508b8c015de9648f7f9dfaeba0e5b9bb23e4195016", func := "decanter/decanterlaw05.RefBehind", spec := "refBehind", inPlace := ["internal/abi.NoEscape"], unfollowed := true, recurses := true, named := ["decanter/ref.high", "decanter/entity.table", "unicode/utf8.first", "unicode/utf8.acceptRanges"], apart := false, laid := [("unicode/utf8.acceptRanges", laid_unicode_utf8_acceptRanges), ("decanter/entity.table", laid_decanter_entity_table), ("decanter/ref.high", laid_decanter_ref_high), ("unicode/utf8.first", laid_unicode_utf8_first)], narrowed := true }
def RefBehindUptoSaid : Prop := refBehindUptoRow.holds Tryd.pinned (OpenSpec.upto refBehindSpec)

end Rows
end Go.Proofs.YtnmjocoopbfpnaaDoor
