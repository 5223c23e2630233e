/-
  DERIVED. GIVEN WITH THE SEED: THE CARDS: each row of YtcaaiphgikpgjaaGreatDoorRows.lean that lists a variable, with what it lists TIED to the program's text (the seventh form; the later family's looks); each row that meets fmt, with fmt's text TOLD by the authors' own Lean function (tested against real Go, not proved from fmt's source: count such statements apart). THE CARD IS WHAT COUNTS. Prove the row's statement (the work); the ties are given (YtcaaiphgikpgjaaGreatDoorTie.lean); close each card by the builder's one call (the guide's Derived/Test/ToyasCard.lean, 'card_holds'). Laid BY PROGRAM, IN A SANDBOX (cutbox-door.mjs). By AI agents, Wed Nov 11 2026. No macro, syntax, notation, axiom, sorry.
-/
import Derived.Test.YtcaaiphgikpgjaaGreatDoorRows
import GoSem.ClaimSeven
namespace Go.Proofs.YtcaaiphgikpgjaaGreatDoor
namespace Rows

/-- THE TIED CARD OF 'whittlelaw19.FunLimits'. -/
def funLimitsCard : Claim7 := { stood := { row := funLimitsRow, standIns := [], harness := (true, "612d74c28dedc0749c33c3d7f968a5c1818bcfb84067417c52f18451bf06ae2d"), looks := false }, kinds := [], alts := [], laidByText := true, laidKinds := [.data], laidTests := true, laidLooks := .later }
def FunLimitsCardSaid : Prop := Claim7.holds Tryz.pinned (.plain (OpenSpec.ofChange funLimitsSpec)) funLimitsCard

/-- THE TIED CARD OF 'whittlelaw16.RatParts'. -/
def ratPartsCard : Claim7 := { stood := { row := ratPartsRow, standIns := [], harness := (true, "612d74c28dedc0749c33c3d7f968a5c1818bcfb84067417c52f18451bf06ae2d"), looks := false }, kinds := [], alts := [], laidByText := true, laidKinds := [.data], laidTests := true, laidLooks := .later }
def RatPartsCardSaid : Prop := Claim7.holds Tryz.pinned (.plain (OpenSpec.ofChange ratPartsSpec)) ratPartsCard

/-- THE SECOND FORM's CARD OF 'whittlelaw19.FunLimits'. -/
def funLimitsUptoCard : Claim7 := { stood := { row := funLimitsUptoRow, standIns := [], harness := (true, "612d74c28dedc0749c33c3d7f968a5c1818bcfb84067417c52f18451bf06ae2d"), looks := false }, kinds := [], alts := [], laidByText := true, laidKinds := [.data], laidTests := true, laidLooks := .later }
def FunLimitsUptoCardSaid : Prop := Claim7.holds Tryz.pinned (.plain (OpenSpec.upto funLimitsSpec)) funLimitsUptoCard

/-- THE SECOND FORM's CARD OF 'whittlelaw16.RatParts'. -/
def ratPartsUptoCard : Claim7 := { stood := { row := ratPartsUptoRow, standIns := [], harness := (true, "612d74c28dedc0749c33c3d7f968a5c1818bcfb84067417c52f18451bf06ae2d"), looks := false }, kinds := [], alts := [], laidByText := true, laidKinds := [.data], laidTests := true, laidLooks := .later }
def RatPartsUptoCardSaid : Prop := Claim7.holds Tryz.pinned (.plain (OpenSpec.upto ratPartsSpec)) ratPartsUptoCard
end Rows
end Go.Proofs.YtcaaiphgikpgjaaGreatDoor
