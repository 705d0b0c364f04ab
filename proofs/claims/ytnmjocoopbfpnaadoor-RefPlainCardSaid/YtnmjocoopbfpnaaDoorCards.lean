/-
  DERIVED. GIVEN WITH THE SEED: THE CARDS: each row of YtnmjocoopbfpnaaDoorRows.lean that lists a variable, with what it lists TIED to the program's text (the seventh form; the later family's looks); each row that meets fmt, with fmt's text TOLD by the authors' own Lean function (tested against real Go, not proved from fmt's source: count such statements apart). THE CARD IS WHAT COUNTS. Prove the row's statement (the work); the ties are given (YtnmjocoopbfpnaaDoorTie.lean); close each card by the builder's one call (the guide's Derived/Test/ToyasCard.lean, 'card_holds'). Laid BY PROGRAM, IN A SANDBOX (cutbox-door.mjs). By AI agents, Wed Nov 11 2026. No macro, syntax, notation, axiom, sorry.
-/
import Derived.Test.YtnmjocoopbfpnaaDoorRows
import GoSem.ClaimSeven
namespace Go.Proofs.YtnmjocoopbfpnaaDoor
namespace Rows

/-- THE TIED CARD OF 'decanterlaw04.EntityFinds'. -/
def entityFindsCard : Claim7 := { stood := { row := entityFindsRow, standIns := [], harness := (true, "60bd7801df4bab897d202e10df4ca211baeb946f5592acdaae454713a421c75d"), looks := false }, kinds := [], alts := [], laidByText := true, laidKinds := [.widerDeep], laidTests := true, laidLooks := .later }
def EntityFindsCardSaid : Prop := Claim7.holds Tryd.pinned (.plain (OpenSpec.ofChange entityFindsSpec)) entityFindsCard

/-- THE TIED CARD OF 'decanterlaw04.EntityNames'. -/
def entityNamesCard : Claim7 := { stood := { row := entityNamesRow, standIns := [], harness := (true, "60bd7801df4bab897d202e10df4ca211baeb946f5592acdaae454713a421c75d"), looks := false }, kinds := [], alts := [], laidByText := true, laidKinds := [.widerDeep], laidTests := true, laidLooks := .later }
def EntityNamesCardSaid : Prop := Claim7.holds Tryd.pinned (.plain (OpenSpec.ofChange entityNamesSpec)) entityNamesCard

/-- THE TIED CARD OF 'decanterlaw04.EntityPrefix'. -/
def entityPrefixCard : Claim7 := { stood := { row := entityPrefixRow, standIns := [], harness := (true, "60bd7801df4bab897d202e10df4ca211baeb946f5592acdaae454713a421c75d"), looks := false }, kinds := [], alts := [], laidByText := true, laidKinds := [.widerDeep], laidTests := true, laidLooks := .later }
def EntityPrefixCardSaid : Prop := Claim7.holds Tryd.pinned (.plain (OpenSpec.ofChange entityPrefixSpec)) entityPrefixCard

/-- THE TIED CARD OF 'decanterlaw04.EntityTexts'. -/
def entityTextsCard : Claim7 := { stood := { row := entityTextsRow, standIns := [], harness := (true, "60bd7801df4bab897d202e10df4ca211baeb946f5592acdaae454713a421c75d"), looks := false }, kinds := [], alts := [], laidByText := true, laidKinds := [.widerDeep], laidTests := true, laidLooks := .later }
def EntityTextsCardSaid : Prop := Claim7.holds Tryd.pinned (.plain (OpenSpec.ofChange entityTextsSpec)) entityTextsCard

/-- THE TIED CARD OF 'decanterlaw05.RefPlain'. -/
def refPlainCard : Claim7 := { stood := { row := refPlainRow, standIns := [], harness := (true, "60bd7801df4bab897d202e10df4ca211baeb946f5592acdaae454713a421c75d"), looks := false }, kinds := [], alts := [], laidByText := true, laidKinds := [.data, .widerDeep, .data, .pinned], laidTests := true, laidLooks := .later }
def RefPlainCardSaid : Prop := Claim7.holds Tryd.pinned (.plain (OpenSpec.ofChange refPlainSpec)) refPlainCard

/-- THE TIED CARD OF 'decanterlaw05.RefReads'. -/
def refReadsCard : Claim7 := { stood := { row := refReadsRow, standIns := [], harness := (true, "60bd7801df4bab897d202e10df4ca211baeb946f5592acdaae454713a421c75d"), looks := false }, kinds := [], alts := [], laidByText := true, laidKinds := [.data, .widerDeep, .data, .pinned], laidTests := true, laidLooks := .later }
def RefReadsCardSaid : Prop := Claim7.holds Tryd.pinned (.plain (OpenSpec.ofChange refReadsSpec)) refReadsCard

/-- THE TIED CARD OF 'decanterlaw05.RefTexts'. -/
def refTextsCard : Claim7 := { stood := { row := refTextsRow, standIns := [], harness := (true, "60bd7801df4bab897d202e10df4ca211baeb946f5592acdaae454713a421c75d"), looks := false }, kinds := [], alts := [], laidByText := true, laidKinds := [.data, .widerDeep, .data, .pinned], laidTests := true, laidLooks := .later }
def RefTextsCardSaid : Prop := Claim7.holds Tryd.pinned (.plain (OpenSpec.ofChange refTextsSpec)) refTextsCard

/-- THE TIED CARD OF 'decanterlaw05.RefPoints'. -/
def refPointsCard : Claim7 := { stood := { row := refPointsRow, standIns := [], harness := (true, "60bd7801df4bab897d202e10df4ca211baeb946f5592acdaae454713a421c75d"), looks := false }, kinds := [], alts := [], laidByText := true, laidKinds := [.data, .widerDeep, .data, .pinned], laidTests := true, laidLooks := .later }
def RefPointsCardSaid : Prop := Claim7.holds Tryd.pinned (.plain (OpenSpec.ofChange refPointsSpec)) refPointsCard

/-- THE TIED CARD OF 'decanterlaw05.RefNumbers'. -/
def refNumbersCard : Claim7 := { stood := { row := refNumbersRow, standIns := [], harness := (true, "60bd7801df4bab897d202e10df4ca211baeb946f5592acdaae454713a421c75d"), looks := false }, kinds := [], alts := [], laidByText := true, laidKinds := [.data, .widerDeep, .data, .pinned], laidTests := true, laidLooks := .later }
def RefNumbersCardSaid : Prop := Claim7.holds Tryd.pinned (.plain (OpenSpec.ofChange refNumbersSpec)) refNumbersCard

/-- THE TIED CARD OF 'decanterlaw05.RefBehind'. -/
def refBehindCard : Claim7 := { stood := { row := refBehindRow, standIns := [], harness := (true, "60bd7801df4bab897d202e10df4ca211baeb946f5592acdaae454713a421c75d"), looks := false }, kinds := [], alts := [], laidByText := true, laidKinds := [.data, .widerDeep, .data, .pinned], laidTests := true, laidLooks := .later }
def RefBehindCardSaid : Prop := Claim7.holds Tryd.pinned (.plain (OpenSpec.ofChange refBehindSpec)) refBehindCard

/-- THE SECOND FORM's CARD OF 'decanterlaw04.EntityFinds'. -/
def entityFindsUptoCard : Claim7 := { stood := { row := entityFindsUptoRow, standIns := [], harness := (true, "60bd7801df4bab897d202e10df4ca211baeb946f5592acdaae454713a421c75d"), looks := false }, kinds := [], alts := [], laidByText := true, laidKinds := [.widerDeep], laidTests := true, laidLooks := .later }
def EntityFindsUptoCardSaid : Prop := Claim7.holds Tryd.pinned (.plain (OpenSpec.upto entityFindsSpec)) entityFindsUptoCard

/-- THE SECOND FORM's CARD OF 'decanterlaw04.EntityNames'. -/
def entityNamesUptoCard : Claim7 := { stood := { row := entityNamesUptoRow, standIns := [], harness := (true, "60bd7801df4bab897d202e10df4ca211baeb946f5592acdaae454713a421c75d"), looks := false }, kinds := [], alts := [], laidByText := true, laidKinds := [.widerDeep], laidTests := true, laidLooks := .later }
def EntityNamesUptoCardSaid : Prop := Claim7.holds Tryd.pinned (.plain (OpenSpec.upto entityNamesSpec)) entityNamesUptoCard

/-- THE SECOND FORM's CARD OF 'decanterlaw04.EntityPrefix'. -/
def entityPrefixUptoCard : Claim7 := { stood := { row := entityPrefixUptoRow, standIns := [], harness := (true, "60bd7801df4bab897d202e10df4ca211baeb946f5592acdaae454713a421c75d"), looks := false }, kinds := [], alts := [], laidByText := true, laidKinds := [.widerDeep], laidTests := true, laidLooks := .later }
def EntityPrefixUptoCardSaid : Prop := Claim7.holds Tryd.pinned (.plain (OpenSpec.upto entityPrefixSpec)) entityPrefixUptoCard

/-- THE SECOND FORM's CARD OF 'decanterlaw04.EntityTexts'. -/
def entityTextsUptoCard : Claim7 := { stood := { row := entityTextsUptoRow, standIns := [], harness := (true, "60bd7801df4bab897d202e10df4ca211baeb946f5592acdaae454713a421c75d"), looks := false }, kinds := [], alts := [], laidByText := true, laidKinds := [.widerDeep], laidTests := true, laidLooks := .later }
def EntityTextsUptoCardSaid : Prop := Claim7.holds Tryd.pinned (.plain (OpenSpec.upto entityTextsSpec)) entityTextsUptoCard

/-- THE SECOND FORM's CARD OF 'decanterlaw05.RefPlain'. -/
def refPlainUptoCard : Claim7 := { stood := { row := refPlainUptoRow, standIns := [], harness := (true, "60bd7801df4bab897d202e10df4ca211baeb946f5592acdaae454713a421c75d"), looks := false }, kinds := [], alts := [], laidByText := true, laidKinds := [.data, .widerDeep, .data, .pinned], laidTests := true, laidLooks := .later }
def RefPlainUptoCardSaid : Prop := Claim7.holds Tryd.pinned (.plain (OpenSpec.upto refPlainSpec)) refPlainUptoCard

/-- THE SECOND FORM's CARD OF 'decanterlaw05.RefReads'. -/
def refReadsUptoCard : Claim7 := { stood := { row := refReadsUptoRow, standIns := [], harness := (true, "60bd7801df4bab897d202e10df4ca211baeb946f5592acdaae454713a421c75d"), looks := false }, kinds := [], alts := [], laidByText := true, laidKinds := [.data, .widerDeep, .data, .pinned], laidTests := true, laidLooks := .later }
def RefReadsUptoCardSaid : Prop := Claim7.holds Tryd.pinned (.plain (OpenSpec.upto refReadsSpec)) refReadsUptoCard

/-- THE SECOND FORM's CARD OF 'decanterlaw05.RefTexts'. -/
def refTextsUptoCard : Claim7 := { stood := { row := refTextsUptoRow, standIns := [], harness := (true, "60bd7801df4bab897d202e10df4ca211baeb946f5592acdaae454713a421c75d"), looks := false }, kinds := [], alts := [], laidByText := true, laidKinds := [.data, .widerDeep, .data, .pinned], laidTests := true, laidLooks := .later }
def RefTextsUptoCardSaid : Prop := Claim7.holds Tryd.pinned (.plain (OpenSpec.upto refTextsSpec)) refTextsUptoCard

/-- THE SECOND FORM's CARD OF 'decanterlaw05.RefPoints'. -/
def refPointsUptoCard : Claim7 := { stood := { row := refPointsUptoRow, standIns := [], harness := (true, "60bd7801df4bab897d202e10df4ca211baeb946f5592acdaae454713a421c75d"), looks := false }, kinds := [], alts := [], laidByText := true, laidKinds := [.data, .widerDeep, .data, .pinned], laidTests := true, laidLooks := .later }
def RefPointsUptoCardSaid : Prop := Claim7.holds Tryd.pinned (.plain (OpenSpec.upto refPointsSpec)) refPointsUptoCard

/-- THE SECOND FORM's CARD OF 'decanterlaw05.RefNumbers'. -/
def refNumbersUptoCard : Claim7 := { stood := { row := refNumbersUptoRow, standIns := [], harness := (true, "60bd7801df4bab897d202e10df4ca211baeb946f5592acdaae454713a421c75d"), looks := false }, kinds := [], alts := [], laidByText := true, laidKinds := [.data, .widerDeep, .data, .pinned], laidTests := true, laidLooks := .later }
def RefNumbersUptoCardSaid : Prop := Claim7.holds Tryd.pinned (.plain (OpenSpec.upto refNumbersSpec)) refNumbersUptoCard

/-- THE SECOND FORM's CARD OF 'decanterlaw05.RefBehind'. -/
def refBehindUptoCard : Claim7 := { stood := { row := refBehindUptoRow, standIns := [], harness := (true, "60bd7801df4bab897d202e10df4ca211baeb946f5592acdaae454713a421c75d"), looks := false }, kinds := [], alts := [], laidByText := true, laidKinds := [.data, .widerDeep, .data, .pinned], laidTests := true, laidLooks := .later }
def RefBehindUptoCardSaid : Prop := Claim7.holds Tryd.pinned (.plain (OpenSpec.upto refBehindSpec)) refBehindUptoCard
end Rows
end Go.Proofs.YtnmjocoopbfpnaaDoor
