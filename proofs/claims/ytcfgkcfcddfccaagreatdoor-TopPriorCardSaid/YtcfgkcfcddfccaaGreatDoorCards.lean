/-
  DERIVED. GIVEN WITH THE SEED: THE CARDS: each row of YtcfgkcfcddfccaaGreatDoorRows.lean that lists a variable, with what it lists TIED to the program's text (the seventh form; the later family's looks); each row that meets fmt, with fmt's text TOLD by the authors' own Lean function (tested against real Go, not proved from fmt's source: count such statements apart). THE CARD IS WHAT COUNTS. Prove the row's statement (the work); the ties are given (YtcfgkcfcddfccaaGreatDoorTie.lean); close each card by the builder's one call (the guide's Derived/Test/ToyasCard.lean, 'card_holds'). Laid BY PROGRAM, IN A SANDBOX (cutbox-door.mjs). By AI agents, Wed Nov 11 2026. No macro, syntax, notation, axiom, sorry.
-/
import Derived.Test.YtcfgkcfcddfccaaGreatDoorRows
import GoSem.ClaimSeven
namespace Go.Proofs.YtcfgkcfcddfccaaGreatDoor
namespace Rows

/-- THE TIED CARD OF 'whittletop.TopPrior'. -/
def topPriorCard : Claim7 := { stood := { row := topPriorRow, standIns := [], harness := (true, "203e91206f730703b7304db2935846b5758c551f02691fd2864666a1946375d0"), looks := true }, kinds := [], alts := [], laidByText := true, laidKinds := [.data, .data, .data], laidTests := true, laidLooks := .later }
def TopPriorCardSaid : Prop := Claim7.holds Tryz.pinned (.plain (OpenSpec.ofChange topPriorSpec)) topPriorCard

/-- THE TIED CARD OF 'whittlelaw18.PruneMakes'. -/
def pruneMakesCard : Claim7 := { stood := { row := pruneMakesRow, standIns := [], harness := (true, "203e91206f730703b7304db2935846b5758c551f02691fd2864666a1946375d0"), looks := true }, kinds := [], alts := [], laidByText := true, laidKinds := [.data], laidTests := true, laidLooks := .later }
def PruneMakesCardSaid : Prop := Claim7.holds Tryz.pinned (.plain (OpenSpec.ofChange pruneMakesSpec)) pruneMakesCard

/-- THE SECOND FORM's CARD OF 'whittletop.TopPrior'. -/
def topPriorUptoCard : Claim7 := { stood := { row := topPriorUptoRow, standIns := [], harness := (true, "203e91206f730703b7304db2935846b5758c551f02691fd2864666a1946375d0"), looks := true }, kinds := [], alts := [], laidByText := true, laidKinds := [.data, .data, .data], laidTests := true, laidLooks := .later }
def TopPriorUptoCardSaid : Prop := Claim7.holds Tryz.pinned (.plain (OpenSpec.upto topPriorSpec)) topPriorUptoCard

/-- THE SECOND FORM's CARD OF 'whittlelaw18.PruneMakes'. -/
def pruneMakesUptoCard : Claim7 := { stood := { row := pruneMakesUptoRow, standIns := [], harness := (true, "203e91206f730703b7304db2935846b5758c551f02691fd2864666a1946375d0"), looks := true }, kinds := [], alts := [], laidByText := true, laidKinds := [.data], laidTests := true, laidLooks := .later }
def PruneMakesUptoCardSaid : Prop := Claim7.holds Tryz.pinned (.plain (OpenSpec.upto pruneMakesSpec)) pruneMakesUptoCard
end Rows
end Go.Proofs.YtcfgkcfcddfccaaGreatDoor
