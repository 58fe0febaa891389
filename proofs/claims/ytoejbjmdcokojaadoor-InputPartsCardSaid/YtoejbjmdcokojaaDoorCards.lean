/-
  DERIVED. GIVEN WITH THE SEED: THE CARDS: each row of YtoejbjmdcokojaaDoorRows.lean that lists a variable, with what it lists TIED to the program's text (the seventh form; the later family's looks); each row that meets fmt, with fmt's text TOLD by the authors' own Lean function (tested against real Go, not proved from fmt's source: count such statements apart). THE CARD IS WHAT COUNTS. Prove the row's statement (the work); the ties are given (YtoejbjmdcokojaaDoorTie.lean); close each card by the builder's one call (the guide's Derived/Test/ToyasCard.lean, 'card_holds'). Laid BY PROGRAM, IN A SANDBOX (cutbox-door.mjs). By AI agents, Wed Nov 11 2026. No macro, syntax, notation, axiom, sorry.
-/
import Derived.Test.YtoejbjmdcokojaaDoorRows
import GoSem.ClaimSeven
namespace Go.Proofs.YtoejbjmdcokojaaDoor
namespace Rows

/-- THE TIED CARD OF 'portierelaw01.InputEnds'. -/
def inputEndsCard : Claim7 := { stood := { row := inputEndsRow, standIns := [], harness := (true, "f781f0be16dc219eb707584f5159bf23c1e774c3fb9b3f6b5c06492ae24ba0b7"), looks := false }, kinds := [], alts := [], laidByText := true, laidKinds := [.data, .data, .pinned], laidTests := true, laidLooks := .later }
def InputEndsCardSaid : Prop := Claim7.holds Tryd.pinned (.plain (OpenSpec.ofChange inputEndsSpec)) inputEndsCard

/-- THE TIED CARD OF 'portierelaw01.InputMark'. -/
def inputMarkCard : Claim7 := { stood := { row := inputMarkRow, standIns := [], harness := (true, "f781f0be16dc219eb707584f5159bf23c1e774c3fb9b3f6b5c06492ae24ba0b7"), looks := false }, kinds := [], alts := [], laidByText := true, laidKinds := [.data, .data, .pinned], laidTests := true, laidLooks := .later }
def InputMarkCardSaid : Prop := Claim7.holds Tryd.pinned (.plain (OpenSpec.ofChange inputMarkSpec)) inputMarkCard

/-- THE TIED CARD OF 'portierelaw01.InputDecodes'. -/
def inputDecodesCard : Claim7 := { stood := { row := inputDecodesRow, standIns := [], harness := (true, "f781f0be16dc219eb707584f5159bf23c1e774c3fb9b3f6b5c06492ae24ba0b7"), looks := false }, kinds := [], alts := [], laidByText := true, laidKinds := [.data, .data, .pinned], laidTests := true, laidLooks := .later }
def InputDecodesCardSaid : Prop := Claim7.holds Tryd.pinned (.plain (OpenSpec.ofChange inputDecodesSpec)) inputDecodesCard

/-- THE TIED CARD OF 'portierelaw01.InputParts'. -/
def inputPartsCard : Claim7 := { stood := { row := inputPartsRow, standIns := [], harness := (true, "f781f0be16dc219eb707584f5159bf23c1e774c3fb9b3f6b5c06492ae24ba0b7"), looks := false }, kinds := [], alts := [], laidByText := true, laidKinds := [.data, .data, .pinned], laidTests := true, laidLooks := .later }
def InputPartsCardSaid : Prop := Claim7.holds Tryd.pinned (.plain (OpenSpec.ofChange inputPartsSpec)) inputPartsCard

/-- THE TIED CARD OF 'portierelaw01.InputPlain'. -/
def inputPlainCard : Claim7 := { stood := { row := inputPlainRow, standIns := [], harness := (true, "f781f0be16dc219eb707584f5159bf23c1e774c3fb9b3f6b5c06492ae24ba0b7"), looks := false }, kinds := [], alts := [], laidByText := true, laidKinds := [.data, .data, .pinned], laidTests := true, laidLooks := .later }
def InputPlainCardSaid : Prop := Claim7.holds Tryd.pinned (.plain (OpenSpec.ofChange inputPlainSpec)) inputPlainCard

/-- THE TIED CARD OF 'portierelaw01.InputRunes'. -/
def inputRunesCard : Claim7 := { stood := { row := inputRunesRow, standIns := [], harness := (true, "f781f0be16dc219eb707584f5159bf23c1e774c3fb9b3f6b5c06492ae24ba0b7"), looks := false }, kinds := [], alts := [], laidByText := true, laidKinds := [.data, .data, .pinned], laidTests := true, laidLooks := .later }
def InputRunesCardSaid : Prop := Claim7.holds Tryd.pinned (.plain (OpenSpec.ofChange inputRunesSpec)) inputRunesCard

/-- THE TIED CARD OF 'portierelaw01.InputMany'. -/
def inputManyCard : Claim7 := { stood := { row := inputManyRow, standIns := [], harness := (true, "f781f0be16dc219eb707584f5159bf23c1e774c3fb9b3f6b5c06492ae24ba0b7"), looks := false }, kinds := [], alts := [], laidByText := true, laidKinds := [.data, .data, .pinned], laidTests := true, laidLooks := .later }
def InputManyCardSaid : Prop := Claim7.holds Tryd.pinned (.plain (OpenSpec.ofChange inputManySpec)) inputManyCard

/-- THE SECOND FORM's CARD OF 'portierelaw01.InputEnds'. -/
def inputEndsUptoCard : Claim7 := { stood := { row := inputEndsUptoRow, standIns := [], harness := (true, "f781f0be16dc219eb707584f5159bf23c1e774c3fb9b3f6b5c06492ae24ba0b7"), looks := false }, kinds := [], alts := [], laidByText := true, laidKinds := [.data, .data, .pinned], laidTests := true, laidLooks := .later }
def InputEndsUptoCardSaid : Prop := Claim7.holds Tryd.pinned (.plain (OpenSpec.upto inputEndsSpec)) inputEndsUptoCard

/-- THE SECOND FORM's CARD OF 'portierelaw01.InputMark'. -/
def inputMarkUptoCard : Claim7 := { stood := { row := inputMarkUptoRow, standIns := [], harness := (true, "f781f0be16dc219eb707584f5159bf23c1e774c3fb9b3f6b5c06492ae24ba0b7"), looks := false }, kinds := [], alts := [], laidByText := true, laidKinds := [.data, .data, .pinned], laidTests := true, laidLooks := .later }
def InputMarkUptoCardSaid : Prop := Claim7.holds Tryd.pinned (.plain (OpenSpec.upto inputMarkSpec)) inputMarkUptoCard

/-- THE SECOND FORM's CARD OF 'portierelaw01.InputDecodes'. -/
def inputDecodesUptoCard : Claim7 := { stood := { row := inputDecodesUptoRow, standIns := [], harness := (true, "f781f0be16dc219eb707584f5159bf23c1e774c3fb9b3f6b5c06492ae24ba0b7"), looks := false }, kinds := [], alts := [], laidByText := true, laidKinds := [.data, .data, .pinned], laidTests := true, laidLooks := .later }
def InputDecodesUptoCardSaid : Prop := Claim7.holds Tryd.pinned (.plain (OpenSpec.upto inputDecodesSpec)) inputDecodesUptoCard

/-- THE SECOND FORM's CARD OF 'portierelaw01.InputParts'. -/
def inputPartsUptoCard : Claim7 := { stood := { row := inputPartsUptoRow, standIns := [], harness := (true, "f781f0be16dc219eb707584f5159bf23c1e774c3fb9b3f6b5c06492ae24ba0b7"), looks := false }, kinds := [], alts := [], laidByText := true, laidKinds := [.data, .data, .pinned], laidTests := true, laidLooks := .later }
def InputPartsUptoCardSaid : Prop := Claim7.holds Tryd.pinned (.plain (OpenSpec.upto inputPartsSpec)) inputPartsUptoCard

/-- THE SECOND FORM's CARD OF 'portierelaw01.InputPlain'. -/
def inputPlainUptoCard : Claim7 := { stood := { row := inputPlainUptoRow, standIns := [], harness := (true, "f781f0be16dc219eb707584f5159bf23c1e774c3fb9b3f6b5c06492ae24ba0b7"), looks := false }, kinds := [], alts := [], laidByText := true, laidKinds := [.data, .data, .pinned], laidTests := true, laidLooks := .later }
def InputPlainUptoCardSaid : Prop := Claim7.holds Tryd.pinned (.plain (OpenSpec.upto inputPlainSpec)) inputPlainUptoCard

/-- THE SECOND FORM's CARD OF 'portierelaw01.InputRunes'. -/
def inputRunesUptoCard : Claim7 := { stood := { row := inputRunesUptoRow, standIns := [], harness := (true, "f781f0be16dc219eb707584f5159bf23c1e774c3fb9b3f6b5c06492ae24ba0b7"), looks := false }, kinds := [], alts := [], laidByText := true, laidKinds := [.data, .data, .pinned], laidTests := true, laidLooks := .later }
def InputRunesUptoCardSaid : Prop := Claim7.holds Tryd.pinned (.plain (OpenSpec.upto inputRunesSpec)) inputRunesUptoCard

/-- THE SECOND FORM's CARD OF 'portierelaw01.InputMany'. -/
def inputManyUptoCard : Claim7 := { stood := { row := inputManyUptoRow, standIns := [], harness := (true, "f781f0be16dc219eb707584f5159bf23c1e774c3fb9b3f6b5c06492ae24ba0b7"), looks := false }, kinds := [], alts := [], laidByText := true, laidKinds := [.data, .data, .pinned], laidTests := true, laidLooks := .later }
def InputManyUptoCardSaid : Prop := Claim7.holds Tryd.pinned (.plain (OpenSpec.upto inputManySpec)) inputManyUptoCard
end Rows
end Go.Proofs.YtoejbjmdcokojaaDoor
