/-
  DERIVED. GIVEN WITH THE SEED: THE CARDS: each row of YtamgjehhjkgelaaGreatDoorRows.lean that lists a variable, with what it lists TIED to the program's text (the seventh form; the later family's looks); each row that meets fmt, with fmt's text TOLD by the authors' own Lean function (tested against real Go, not proved from fmt's source: count such statements apart). THE CARD IS WHAT COUNTS. Prove the row's statement (the work); the ties are given (YtamgjehhjkgelaaGreatDoorTie.lean); close each card by the builder's one call (the guide's Derived/Test/ToyasCard.lean, 'card_holds'). Laid BY PROGRAM, IN A SANDBOX (cutbox-door.mjs). By AI agents, Wed Nov 11 2026. No macro, syntax, notation, axiom, sorry.
-/
import Derived.Test.YtamgjehhjkgelaaGreatDoorRows
import GoSem.ClaimSeven
namespace Go.Proofs.YtamgjehhjkgelaaGreatDoor
namespace Rows

/-- THE TIED CARD OF 'whittlelaw17.CompRelates'. -/
def compRelatesCard : Claim7 := { stood := { row := compRelatesRow, standIns := [], harness := (true, "8aa7f87c4a8f6921a948c8705d130882d00aa84dfbe883db672ec9938765815d"), looks := false }, kinds := [], alts := [], laidByText := true, laidKinds := [.data], laidTests := true, laidLooks := .later }
def CompRelatesCardSaid : Prop := Claim7.holds Tryz.pinned (.plain (OpenSpec.ofChange compRelatesSpec)) compRelatesCard

/-- THE TIED CARD OF 'whittlelaw17.CompTogether'. -/
def compTogetherCard : Claim7 := { stood := { row := compTogetherRow, standIns := [], harness := (true, "8aa7f87c4a8f6921a948c8705d130882d00aa84dfbe883db672ec9938765815d"), looks := false }, kinds := [], alts := [], laidByText := true, laidKinds := [.data], laidTests := true, laidLooks := .later }
def CompTogetherCardSaid : Prop := Claim7.holds Tryz.pinned (.plain (OpenSpec.ofChange compTogetherSpec)) compTogetherCard

/-- THE TIED CARD OF 'whittlelaw17.CompWays'. -/
def compWaysCard : Claim7 := { stood := { row := compWaysRow, standIns := [], harness := (true, "8aa7f87c4a8f6921a948c8705d130882d00aa84dfbe883db672ec9938765815d"), looks := false }, kinds := [], alts := [], laidByText := true, laidKinds := [.data], laidTests := true, laidLooks := .later }
def CompWaysCardSaid : Prop := Claim7.holds Tryz.pinned (.plain (OpenSpec.ofChange compWaysSpec)) compWaysCard

/-- THE TIED CARD OF 'whittlelaw17.CompParts'. -/
def compPartsCard : Claim7 := { stood := { row := compPartsRow, standIns := [], harness := (true, "8aa7f87c4a8f6921a948c8705d130882d00aa84dfbe883db672ec9938765815d"), looks := false }, kinds := [], alts := [], laidByText := true, laidKinds := [.data], laidTests := true, laidLooks := .later }
def CompPartsCardSaid : Prop := Claim7.holds Tryz.pinned (.plain (OpenSpec.ofChange compPartsSpec)) compPartsCard

/-- THE TIED CARD OF 'whittlelaw17.CompSame'. -/
def compSameCard : Claim7 := { stood := { row := compSameRow, standIns := [], harness := (true, "8aa7f87c4a8f6921a948c8705d130882d00aa84dfbe883db672ec9938765815d"), looks := false }, kinds := [], alts := [], laidByText := true, laidKinds := [.data], laidTests := true, laidLooks := .later }
def CompSameCardSaid : Prop := Claim7.holds Tryz.pinned (.plain (OpenSpec.ofChange compSameSpec)) compSameCard

/-- THE SECOND FORM's CARD OF 'whittlelaw17.CompRelates'. -/
def compRelatesUptoCard : Claim7 := { stood := { row := compRelatesUptoRow, standIns := [], harness := (true, "8aa7f87c4a8f6921a948c8705d130882d00aa84dfbe883db672ec9938765815d"), looks := false }, kinds := [], alts := [], laidByText := true, laidKinds := [.data], laidTests := true, laidLooks := .later }
def CompRelatesUptoCardSaid : Prop := Claim7.holds Tryz.pinned (.plain (OpenSpec.upto compRelatesSpec)) compRelatesUptoCard

/-- THE SECOND FORM's CARD OF 'whittlelaw17.CompTogether'. -/
def compTogetherUptoCard : Claim7 := { stood := { row := compTogetherUptoRow, standIns := [], harness := (true, "8aa7f87c4a8f6921a948c8705d130882d00aa84dfbe883db672ec9938765815d"), looks := false }, kinds := [], alts := [], laidByText := true, laidKinds := [.data], laidTests := true, laidLooks := .later }
def CompTogetherUptoCardSaid : Prop := Claim7.holds Tryz.pinned (.plain (OpenSpec.upto compTogetherSpec)) compTogetherUptoCard

/-- THE SECOND FORM's CARD OF 'whittlelaw17.CompWays'. -/
def compWaysUptoCard : Claim7 := { stood := { row := compWaysUptoRow, standIns := [], harness := (true, "8aa7f87c4a8f6921a948c8705d130882d00aa84dfbe883db672ec9938765815d"), looks := false }, kinds := [], alts := [], laidByText := true, laidKinds := [.data], laidTests := true, laidLooks := .later }
def CompWaysUptoCardSaid : Prop := Claim7.holds Tryz.pinned (.plain (OpenSpec.upto compWaysSpec)) compWaysUptoCard

/-- THE SECOND FORM's CARD OF 'whittlelaw17.CompParts'. -/
def compPartsUptoCard : Claim7 := { stood := { row := compPartsUptoRow, standIns := [], harness := (true, "8aa7f87c4a8f6921a948c8705d130882d00aa84dfbe883db672ec9938765815d"), looks := false }, kinds := [], alts := [], laidByText := true, laidKinds := [.data], laidTests := true, laidLooks := .later }
def CompPartsUptoCardSaid : Prop := Claim7.holds Tryz.pinned (.plain (OpenSpec.upto compPartsSpec)) compPartsUptoCard

/-- THE SECOND FORM's CARD OF 'whittlelaw17.CompSame'. -/
def compSameUptoCard : Claim7 := { stood := { row := compSameUptoRow, standIns := [], harness := (true, "8aa7f87c4a8f6921a948c8705d130882d00aa84dfbe883db672ec9938765815d"), looks := false }, kinds := [], alts := [], laidByText := true, laidKinds := [.data], laidTests := true, laidLooks := .later }
def CompSameUptoCardSaid : Prop := Claim7.holds Tryz.pinned (.plain (OpenSpec.upto compSameSpec)) compSameUptoCard
end Rows
end Go.Proofs.YtamgjehhjkgelaaGreatDoor
