/-
  DERIVED. GIVEN WITH THE SEED: THE CARDS: each row of YtcfjjckencjjeaaDoorRows.lean that lists a variable, with what it lists TIED to the program's text (the seventh form; the later family's looks); each row that meets fmt, with fmt's text TOLD by the authors' own Lean function (tested against real Go, not proved from fmt's source: count such statements apart). THE CARD IS WHAT COUNTS. Prove the row's statement (the work); the ties are given (YtcfjjckencjjeaaDoorTie.lean); close each card by the builder's one call (the guide's Derived/Test/ToyasCard.lean, 'card_holds'). Laid BY PROGRAM, IN A SANDBOX (cutbox-door.mjs). By AI agents, Wed Nov 11 2026. No macro, syntax, notation, axiom, sorry.
-/
import Derived.Test.YtcfjjckencjjeaaDoorRows
import GoSem.ClaimSeven
namespace Go.Proofs.YtcfjjckencjjeaaDoor
namespace Rows

/-- THE TIED CARD OF 'whittlelaw16.RatTexts'. -/
def ratTextsCard : Claim7 := { stood := { row := ratTextsRow, standIns := [], harness := (true, "9b425c894600e89828bdea764350f1deb56f1fa870ac03a498ddf94779255950"), looks := false }, kinds := [], alts := [], laidByText := true, laidKinds := [.data], laidTests := true, laidLooks := .later }
def RatTextsCardSaid : Prop := Claim7.holds Tryd.pinned (.plain (OpenSpec.ofChange ratTextsSpec)) ratTextsCard

/-- THE SECOND FORM's CARD OF 'whittlelaw16.RatTexts'. -/
def ratTextsUptoCard : Claim7 := { stood := { row := ratTextsUptoRow, standIns := [], harness := (true, "9b425c894600e89828bdea764350f1deb56f1fa870ac03a498ddf94779255950"), looks := false }, kinds := [], alts := [], laidByText := true, laidKinds := [.data], laidTests := true, laidLooks := .later }
def RatTextsUptoCardSaid : Prop := Claim7.holds Tryd.pinned (.plain (OpenSpec.upto ratTextsSpec)) ratTextsUptoCard
end Rows
end Go.Proofs.YtcfjjckencjjeaaDoor
