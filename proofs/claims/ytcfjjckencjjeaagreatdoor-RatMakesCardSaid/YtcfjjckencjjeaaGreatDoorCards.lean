/-
  DERIVED. GIVEN WITH THE SEED: THE CARDS: each row of YtcfjjckencjjeaaGreatDoorRows.lean that lists a variable, with what it lists TIED to the program's text (the seventh form; the later family's looks); each row that meets fmt, with fmt's text TOLD by the authors' own Lean function (tested against real Go, not proved from fmt's source: count such statements apart). THE CARD IS WHAT COUNTS. Prove the row's statement (the work); the ties are given (YtcfjjckencjjeaaGreatDoorTie.lean); close each card by the builder's one call (the guide's Derived/Test/ToyasCard.lean, 'card_holds'). Laid BY PROGRAM, IN A SANDBOX (cutbox-door.mjs). By AI agents, Wed Nov 11 2026. No macro, syntax, notation, axiom, sorry.
-/
import Derived.Test.YtcfjjckencjjeaaGreatDoorRows
import GoSem.ClaimSeven
namespace Go.Proofs.YtcfjjckencjjeaaGreatDoor
namespace Rows

/-- THE TIED CARD OF 'whittlelaw16.RatMakes'. -/
def ratMakesCard : Claim7 := { stood := { row := ratMakesRow, standIns := [], harness := (true, "8cc1245ad3dd0fa4d9c10e7264fbbd798d4766bf15d3576b7d397a0d13418cb7"), looks := false }, kinds := [], alts := [], laidByText := true, laidKinds := [.data], laidTests := true, laidLooks := .later }
def RatMakesCardSaid : Prop := Claim7.holds Tryz.pinned (.plain (OpenSpec.ofChange ratMakesSpec)) ratMakesCard

/-- THE TIED CARD OF 'whittlelaw16.RatStar'. -/
def ratStarCard : Claim7 := { stood := { row := ratStarRow, standIns := [], harness := (true, "8cc1245ad3dd0fa4d9c10e7264fbbd798d4766bf15d3576b7d397a0d13418cb7"), looks := false }, kinds := [], alts := [], laidByText := true, laidKinds := [.data], laidTests := true, laidLooks := .later }
def RatStarCardSaid : Prop := Claim7.holds Tryz.pinned (.plain (OpenSpec.ofChange ratStarSpec)) ratStarCard

/-- THE TIED CARD OF 'whittlelaw16.RatTogether'. -/
def ratTogetherCard : Claim7 := { stood := { row := ratTogetherRow, standIns := [], harness := (true, "8cc1245ad3dd0fa4d9c10e7264fbbd798d4766bf15d3576b7d397a0d13418cb7"), looks := false }, kinds := [], alts := [], laidByText := true, laidKinds := [.data], laidTests := true, laidLooks := .later }
def RatTogetherCardSaid : Prop := Claim7.holds Tryz.pinned (.plain (OpenSpec.ofChange ratTogetherSpec)) ratTogetherCard

/-- THE SECOND FORM's CARD OF 'whittlelaw16.RatMakes'. -/
def ratMakesUptoCard : Claim7 := { stood := { row := ratMakesUptoRow, standIns := [], harness := (true, "8cc1245ad3dd0fa4d9c10e7264fbbd798d4766bf15d3576b7d397a0d13418cb7"), looks := false }, kinds := [], alts := [], laidByText := true, laidKinds := [.data], laidTests := true, laidLooks := .later }
def RatMakesUptoCardSaid : Prop := Claim7.holds Tryz.pinned (.plain (OpenSpec.upto ratMakesSpec)) ratMakesUptoCard

/-- THE SECOND FORM's CARD OF 'whittlelaw16.RatStar'. -/
def ratStarUptoCard : Claim7 := { stood := { row := ratStarUptoRow, standIns := [], harness := (true, "8cc1245ad3dd0fa4d9c10e7264fbbd798d4766bf15d3576b7d397a0d13418cb7"), looks := false }, kinds := [], alts := [], laidByText := true, laidKinds := [.data], laidTests := true, laidLooks := .later }
def RatStarUptoCardSaid : Prop := Claim7.holds Tryz.pinned (.plain (OpenSpec.upto ratStarSpec)) ratStarUptoCard

/-- THE SECOND FORM's CARD OF 'whittlelaw16.RatTogether'. -/
def ratTogetherUptoCard : Claim7 := { stood := { row := ratTogetherUptoRow, standIns := [], harness := (true, "8cc1245ad3dd0fa4d9c10e7264fbbd798d4766bf15d3576b7d397a0d13418cb7"), looks := false }, kinds := [], alts := [], laidByText := true, laidKinds := [.data], laidTests := true, laidLooks := .later }
def RatTogetherUptoCardSaid : Prop := Claim7.holds Tryz.pinned (.plain (OpenSpec.upto ratTogetherSpec)) ratTogetherUptoCard
end Rows
end Go.Proofs.YtcfjjckencjjeaaGreatDoor
