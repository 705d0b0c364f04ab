/-
  DERIVED. GIVEN WITH THE SEED: THE CARDS: each row of YtinjbabmpnljoaaDoorRows.lean that lists a variable, with what it lists TIED to the program's text (the seventh form; the later family's looks); each row that meets fmt, with fmt's text TOLD by the authors' own Lean function (tested against real Go, not proved from fmt's source: count such statements apart). THE CARD IS WHAT COUNTS. Prove the row's statement (the work); the ties are given (YtinjbabmpnljoaaDoorTie.lean); close each card by the builder's one call (the guide's Derived/Test/ToyasCard.lean, 'card_holds'). Laid BY PROGRAM, IN A SANDBOX (cutbox-door.mjs). By AI agents, Wed Nov 11 2026. No macro, syntax, notation, axiom, sorry.
-/
import Derived.Test.YtinjbabmpnljoaaDoorRows
import GoSem.ClaimSeven
namespace Go.Proofs.YtinjbabmpnljoaaDoor
namespace Rows

/-- THE TIED CARD OF 'decanterlaw02.CharNext'. -/
def charNextCard : Claim7 := { stood := { row := charNextRow, standIns := [], harness := (true, "d8af734564b422f20511d1cdc8b30f1a50975b1e02c6d8f0f526653eb7263b82"), looks := false }, kinds := [], alts := [], laidByText := true, laidKinds := [.data, .pinned], laidTests := true, laidLooks := .later }
def CharNextCardSaid : Prop := Claim7.holds Tryd.pinned (.plain (OpenSpec.ofChange charNextSpec)) charNextCard

/-- THE TIED CARD OF 'decanterlaw02.CharSteps'. -/
def charStepsCard : Claim7 := { stood := { row := charStepsRow, standIns := [], harness := (true, "d8af734564b422f20511d1cdc8b30f1a50975b1e02c6d8f0f526653eb7263b82"), looks := false }, kinds := [], alts := [], laidByText := true, laidKinds := [.data, .pinned], laidTests := true, laidLooks := .later }
def CharStepsCardSaid : Prop := Claim7.holds Tryd.pinned (.plain (OpenSpec.ofChange charStepsSpec)) charStepsCard

/-- THE TIED CARD OF 'decanterlaw02.CharCuts'. -/
def charCutsCard : Claim7 := { stood := { row := charCutsRow, standIns := [], harness := (true, "d8af734564b422f20511d1cdc8b30f1a50975b1e02c6d8f0f526653eb7263b82"), looks := false }, kinds := [], alts := [], laidByText := true, laidKinds := [.data, .pinned], laidTests := true, laidLooks := .later }
def CharCutsCardSaid : Prop := Claim7.holds Tryd.pinned (.plain (OpenSpec.ofChange charCutsSpec)) charCutsCard

/-- THE TIED CARD OF 'decanterlaw02.CharAll'. -/
def charAllCard : Claim7 := { stood := { row := charAllRow, standIns := [], harness := (true, "d8af734564b422f20511d1cdc8b30f1a50975b1e02c6d8f0f526653eb7263b82"), looks := false }, kinds := [], alts := [], laidByText := true, laidKinds := [.data, .pinned], laidTests := true, laidLooks := .later }
def CharAllCardSaid : Prop := Claim7.holds Tryd.pinned (.plain (OpenSpec.ofChange charAllSpec)) charAllCard

/-- THE TIED CARD OF 'decanterlaw02.CharPlain'. -/
def charPlainCard : Claim7 := { stood := { row := charPlainRow, standIns := [], harness := (true, "d8af734564b422f20511d1cdc8b30f1a50975b1e02c6d8f0f526653eb7263b82"), looks := false }, kinds := [], alts := [], laidByText := true, laidKinds := [.data, .pinned], laidTests := true, laidLooks := .later }
def CharPlainCardSaid : Prop := Claim7.holds Tryd.pinned (.plain (OpenSpec.ofChange charPlainSpec)) charPlainCard

/-- THE TIED CARD OF 'decanterlaw02.CharClean'. -/
def charCleanCard : Claim7 := { stood := { row := charCleanRow, standIns := [], harness := (true, "d8af734564b422f20511d1cdc8b30f1a50975b1e02c6d8f0f526653eb7263b82"), looks := false }, kinds := [], alts := [], laidByText := true, laidKinds := [.data, .pinned], laidTests := true, laidLooks := .later }
def CharCleanCardSaid : Prop := Claim7.holds Tryd.pinned (.plain (OpenSpec.ofChange charCleanSpec)) charCleanCard

/-- THE TIED CARD OF 'decanterlaw03.ClassTexts'. -/
def classTextsCard : Claim7 := { stood := { row := classTextsRow, standIns := [], harness := (true, "d8af734564b422f20511d1cdc8b30f1a50975b1e02c6d8f0f526653eb7263b82"), looks := false }, kinds := [], alts := [], laidByText := true, laidKinds := [.data, .pinned], laidTests := true, laidLooks := .later }
def ClassTextsCardSaid : Prop := Claim7.holds Tryd.pinned (.plain (OpenSpec.ofChange classTextsSpec)) classTextsCard

/-- THE TIED CARD OF 'decanterlaw03.ClassLaws'. -/
def classLawsCard : Claim7 := { stood := { row := classLawsRow, standIns := [], harness := (true, "d8af734564b422f20511d1cdc8b30f1a50975b1e02c6d8f0f526653eb7263b82"), looks := false }, kinds := [], alts := [], laidByText := true, laidKinds := [.data, .pinned], laidTests := true, laidLooks := .later }
def ClassLawsCardSaid : Prop := Claim7.holds Tryd.pinned (.plain (OpenSpec.ofChange classLawsSpec)) classLawsCard

/-- THE TIED CARD OF 'decanterlaw03.ClassEnds'. -/
def classEndsCard : Claim7 := { stood := { row := classEndsRow, standIns := [], harness := (true, "d8af734564b422f20511d1cdc8b30f1a50975b1e02c6d8f0f526653eb7263b82"), looks := false }, kinds := [], alts := [], laidByText := true, laidKinds := [.data, .pinned], laidTests := true, laidLooks := .later }
def ClassEndsCardSaid : Prop := Claim7.holds Tryd.pinned (.plain (OpenSpec.ofChange classEndsSpec)) classEndsCard

/-- THE SECOND FORM's CARD OF 'decanterlaw02.CharNext'. -/
def charNextUptoCard : Claim7 := { stood := { row := charNextUptoRow, standIns := [], harness := (true, "d8af734564b422f20511d1cdc8b30f1a50975b1e02c6d8f0f526653eb7263b82"), looks := false }, kinds := [], alts := [], laidByText := true, laidKinds := [.data, .pinned], laidTests := true, laidLooks := .later }
def CharNextUptoCardSaid : Prop := Claim7.holds Tryd.pinned (.plain (OpenSpec.upto charNextSpec)) charNextUptoCard

/-- THE SECOND FORM's CARD OF 'decanterlaw02.CharSteps'. -/
def charStepsUptoCard : Claim7 := { stood := { row := charStepsUptoRow, standIns := [], harness := (true, "d8af734564b422f20511d1cdc8b30f1a50975b1e02c6d8f0f526653eb7263b82"), looks := false }, kinds := [], alts := [], laidByText := true, laidKinds := [.data, .pinned], laidTests := true, laidLooks := .later }
def CharStepsUptoCardSaid : Prop := Claim7.holds Tryd.pinned (.plain (OpenSpec.upto charStepsSpec)) charStepsUptoCard

/-- THE SECOND FORM's CARD OF 'decanterlaw02.CharCuts'. -/
def charCutsUptoCard : Claim7 := { stood := { row := charCutsUptoRow, standIns := [], harness := (true, "d8af734564b422f20511d1cdc8b30f1a50975b1e02c6d8f0f526653eb7263b82"), looks := false }, kinds := [], alts := [], laidByText := true, laidKinds := [.data, .pinned], laidTests := true, laidLooks := .later }
def CharCutsUptoCardSaid : Prop := Claim7.holds Tryd.pinned (.plain (OpenSpec.upto charCutsSpec)) charCutsUptoCard

/-- THE SECOND FORM's CARD OF 'decanterlaw02.CharAll'. -/
def charAllUptoCard : Claim7 := { stood := { row := charAllUptoRow, standIns := [], harness := (true, "d8af734564b422f20511d1cdc8b30f1a50975b1e02c6d8f0f526653eb7263b82"), looks := false }, kinds := [], alts := [], laidByText := true, laidKinds := [.data, .pinned], laidTests := true, laidLooks := .later }
def CharAllUptoCardSaid : Prop := Claim7.holds Tryd.pinned (.plain (OpenSpec.upto charAllSpec)) charAllUptoCard

/-- THE SECOND FORM's CARD OF 'decanterlaw02.CharPlain'. -/
def charPlainUptoCard : Claim7 := { stood := { row := charPlainUptoRow, standIns := [], harness := (true, "d8af734564b422f20511d1cdc8b30f1a50975b1e02c6d8f0f526653eb7263b82"), looks := false }, kinds := [], alts := [], laidByText := true, laidKinds := [.data, .pinned], laidTests := true, laidLooks := .later }
def CharPlainUptoCardSaid : Prop := Claim7.holds Tryd.pinned (.plain (OpenSpec.upto charPlainSpec)) charPlainUptoCard

/-- THE SECOND FORM's CARD OF 'decanterlaw02.CharClean'. -/
def charCleanUptoCard : Claim7 := { stood := { row := charCleanUptoRow, standIns := [], harness := (true, "d8af734564b422f20511d1cdc8b30f1a50975b1e02c6d8f0f526653eb7263b82"), looks := false }, kinds := [], alts := [], laidByText := true, laidKinds := [.data, .pinned], laidTests := true, laidLooks := .later }
def CharCleanUptoCardSaid : Prop := Claim7.holds Tryd.pinned (.plain (OpenSpec.upto charCleanSpec)) charCleanUptoCard

/-- THE SECOND FORM's CARD OF 'decanterlaw03.ClassTexts'. -/
def classTextsUptoCard : Claim7 := { stood := { row := classTextsUptoRow, standIns := [], harness := (true, "d8af734564b422f20511d1cdc8b30f1a50975b1e02c6d8f0f526653eb7263b82"), looks := false }, kinds := [], alts := [], laidByText := true, laidKinds := [.data, .pinned], laidTests := true, laidLooks := .later }
def ClassTextsUptoCardSaid : Prop := Claim7.holds Tryd.pinned (.plain (OpenSpec.upto classTextsSpec)) classTextsUptoCard

/-- THE SECOND FORM's CARD OF 'decanterlaw03.ClassLaws'. -/
def classLawsUptoCard : Claim7 := { stood := { row := classLawsUptoRow, standIns := [], harness := (true, "d8af734564b422f20511d1cdc8b30f1a50975b1e02c6d8f0f526653eb7263b82"), looks := false }, kinds := [], alts := [], laidByText := true, laidKinds := [.data, .pinned], laidTests := true, laidLooks := .later }
def ClassLawsUptoCardSaid : Prop := Claim7.holds Tryd.pinned (.plain (OpenSpec.upto classLawsSpec)) classLawsUptoCard

/-- THE SECOND FORM's CARD OF 'decanterlaw03.ClassEnds'. -/
def classEndsUptoCard : Claim7 := { stood := { row := classEndsUptoRow, standIns := [], harness := (true, "d8af734564b422f20511d1cdc8b30f1a50975b1e02c6d8f0f526653eb7263b82"), looks := false }, kinds := [], alts := [], laidByText := true, laidKinds := [.data, .pinned], laidTests := true, laidLooks := .later }
def ClassEndsUptoCardSaid : Prop := Claim7.holds Tryd.pinned (.plain (OpenSpec.upto classEndsSpec)) classEndsUptoCard
end Rows
end Go.Proofs.YtinjbabmpnljoaaDoor
