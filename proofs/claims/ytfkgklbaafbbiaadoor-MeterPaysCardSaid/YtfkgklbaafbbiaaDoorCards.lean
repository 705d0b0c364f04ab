/-
  DERIVED. GIVEN WITH THE SEED: THE CARDS: each row of YtfkgklbaafbbiaaDoorRows.lean that lists a variable, with what it lists TIED to the program's text (the seventh form; the later family's looks); each row that meets fmt, with fmt's text TOLD by the authors' own Lean function (tested against real Go, not proved from fmt's source: count such statements apart). THE CARD IS WHAT COUNTS. Prove the row's statement (the work); the ties are given (YtfkgklbaafbbiaaDoorTie.lean); close each card by the builder's one call (the guide's Derived/Test/ToyasCard.lean, 'card_holds'). Laid BY PROGRAM, IN A SANDBOX (cutbox-door.mjs). By AI agents, Wed Nov 11 2026. No macro, syntax, notation, axiom, sorry.
-/
import Derived.Test.YtfkgklbaafbbiaaDoorRows
import GoSem.ClaimSeven
namespace Go.Proofs.YtfkgklbaafbbiaaDoor
namespace Rows

/-- THE TIED CARD OF 'decanterlaw23.CapsTells'. -/
def capsTellsCard : Claim7 := { stood := { row := capsTellsRow, standIns := [], harness := (true, "213055d0b20c475000336a6cc97c7e4beaf074af1fd8cef99fd8f8d1379bdb68"), looks := true }, kinds := [], alts := [], laidByText := true, laidKinds := [.funcs], laidTests := true, laidLooks := .later }
def CapsTellsCardSaid : Prop := Claim7.holds Tryd.pinned (.plain (OpenSpec.ofChange capsTellsSpec)) capsTellsCard

/-- THE TIED CARD OF 'decanterlaw23.CapsMore'. -/
def capsMoreCard : Claim7 := { stood := { row := capsMoreRow, standIns := [], harness := (true, "213055d0b20c475000336a6cc97c7e4beaf074af1fd8cef99fd8f8d1379bdb68"), looks := true }, kinds := [], alts := [], laidByText := true, laidKinds := [.funcs], laidTests := true, laidLooks := .later }
def CapsMoreCardSaid : Prop := Claim7.holds Tryd.pinned (.plain (OpenSpec.ofChange capsMoreSpec)) capsMoreCard

/-- THE TIED CARD OF 'decanterlaw01.MeterPays'. -/
def meterPaysCard : Claim7 := { stood := { row := meterPaysRow, standIns := [], harness := (true, "213055d0b20c475000336a6cc97c7e4beaf074af1fd8cef99fd8f8d1379bdb68"), looks := true }, kinds := [], alts := [], laidByText := true, laidKinds := [.data, .data, .data, .handle, .sentinel], laidTests := true, laidLooks := .later }
def MeterPaysCardSaid : Prop := Claim7.holds Tryd.pinned (.plain (OpenSpec.ofChange meterPaysSpec)) meterPaysCard

/-- THE TIED CARD OF 'decanterlaw01.MeterShorts'. -/
def meterShortsCard : Claim7 := { stood := { row := meterShortsRow, standIns := [], harness := (true, "213055d0b20c475000336a6cc97c7e4beaf074af1fd8cef99fd8f8d1379bdb68"), looks := true }, kinds := [], alts := [], laidByText := true, laidKinds := [.data, .data, .data], laidTests := true, laidLooks := .later }
def MeterShortsCardSaid : Prop := Claim7.holds Tryd.pinned (.plain (OpenSpec.ofChange meterShortsSpec)) meterShortsCard

/-- THE SECOND FORM's CARD OF 'decanterlaw23.CapsTells'. -/
def capsTellsUptoCard : Claim7 := { stood := { row := capsTellsUptoRow, standIns := [], harness := (true, "213055d0b20c475000336a6cc97c7e4beaf074af1fd8cef99fd8f8d1379bdb68"), looks := true }, kinds := [], alts := [], laidByText := true, laidKinds := [.funcs], laidTests := true, laidLooks := .later }
def CapsTellsUptoCardSaid : Prop := Claim7.holds Tryd.pinned (.plain (OpenSpec.upto capsTellsSpec)) capsTellsUptoCard

/-- THE SECOND FORM's CARD OF 'decanterlaw23.CapsMore'. -/
def capsMoreUptoCard : Claim7 := { stood := { row := capsMoreUptoRow, standIns := [], harness := (true, "213055d0b20c475000336a6cc97c7e4beaf074af1fd8cef99fd8f8d1379bdb68"), looks := true }, kinds := [], alts := [], laidByText := true, laidKinds := [.funcs], laidTests := true, laidLooks := .later }
def CapsMoreUptoCardSaid : Prop := Claim7.holds Tryd.pinned (.plain (OpenSpec.upto capsMoreSpec)) capsMoreUptoCard

/-- THE SECOND FORM's CARD OF 'decanterlaw01.MeterPays'. -/
def meterPaysUptoCard : Claim7 := { stood := { row := meterPaysUptoRow, standIns := [], harness := (true, "213055d0b20c475000336a6cc97c7e4beaf074af1fd8cef99fd8f8d1379bdb68"), looks := true }, kinds := [], alts := [], laidByText := true, laidKinds := [.data, .data, .data, .handle, .sentinel], laidTests := true, laidLooks := .later }
def MeterPaysUptoCardSaid : Prop := Claim7.holds Tryd.pinned (.plain (OpenSpec.upto meterPaysSpec)) meterPaysUptoCard

/-- THE SECOND FORM's CARD OF 'decanterlaw01.MeterShorts'. -/
def meterShortsUptoCard : Claim7 := { stood := { row := meterShortsUptoRow, standIns := [], harness := (true, "213055d0b20c475000336a6cc97c7e4beaf074af1fd8cef99fd8f8d1379bdb68"), looks := true }, kinds := [], alts := [], laidByText := true, laidKinds := [.data, .data, .data], laidTests := true, laidLooks := .later }
def MeterShortsUptoCardSaid : Prop := Claim7.holds Tryd.pinned (.plain (OpenSpec.upto meterShortsSpec)) meterShortsUptoCard
end Rows
end Go.Proofs.YtfkgklbaafbbiaaDoor
