/-
  DERIVED. GIVEN WITH THE SEED: THE CARDS: each row of YtmfclggfajopkaaGreatDoorRows.lean that lists a variable, with what it lists TIED to the program's text (the seventh form; the later family's looks); each row that meets fmt, with fmt's text TOLD by the authors' own Lean function (tested against real Go, not proved from fmt's source: count such statements apart). THE CARD IS WHAT COUNTS. Prove the row's statement (the work); the ties are given (YtmfclggfajopkaaGreatDoorTie.lean); close each card by the builder's one call (the guide's Derived/Test/ToyasCard.lean, 'card_holds'). Laid BY PROGRAM, IN A SANDBOX (cutbox-door.mjs). By AI agents, Wed Nov 11 2026. No macro, syntax, notation, axiom, sorry.
-/
import Derived.Test.YtmfclggfajopkaaGreatDoorRows
import GoSem.ClaimSeven
namespace Go.Proofs.YtmfclggfajopkaaGreatDoor
namespace Rows

/-- THE TIED CARD OF 'whittlelaw24.RewriteTurns'. -/
def rewriteTurnsCard : Claim7 := { stood := { row := rewriteTurnsRow, standIns := [], harness := (true, "fd63aea4bd121bd04704346033ba34a2980846a36f139de965c6e3a42711e4d1"), looks := false }, kinds := [], alts := [], laidByText := true, laidKinds := [.data], laidTests := true, laidLooks := .later }
def RewriteTurnsCardSaid : Prop := Claim7.holds Tryz.pinned (.plain (OpenSpec.ofChange rewriteTurnsSpec)) rewriteTurnsCard

/-- THE TIED CARD OF 'whittlelaw25.CascadeParts'. -/
def cascadePartsCard : Claim7 := { stood := { row := cascadePartsRow, standIns := [], harness := (true, "fd63aea4bd121bd04704346033ba34a2980846a36f139de965c6e3a42711e4d1"), looks := false }, kinds := [], alts := [], laidByText := true, laidKinds := [.data], laidTests := true, laidLooks := .later }
def CascadePartsCardSaid : Prop := Claim7.holds Tryz.pinned (.plain (OpenSpec.ofChange cascadePartsSpec)) cascadePartsCard

/-- THE TIED CARD OF 'whittlelaw25.CascadeRuns'. -/
def cascadeRunsCard : Claim7 := { stood := { row := cascadeRunsRow, standIns := [], harness := (true, "fd63aea4bd121bd04704346033ba34a2980846a36f139de965c6e3a42711e4d1"), looks := false }, kinds := [], alts := [], laidByText := true, laidKinds := [.data], laidTests := true, laidLooks := .later }
def CascadeRunsCardSaid : Prop := Claim7.holds Tryz.pinned (.plain (OpenSpec.ofChange cascadeRunsSpec)) cascadeRunsCard

/-- THE TIED CARD OF 'whittlelaw25.CascadeRises'. -/
def cascadeRisesCard : Claim7 := { stood := { row := cascadeRisesRow, standIns := [], harness := (true, "fd63aea4bd121bd04704346033ba34a2980846a36f139de965c6e3a42711e4d1"), looks := false }, kinds := [], alts := [], laidByText := true, laidKinds := [.data], laidTests := true, laidLooks := .later }
def CascadeRisesCardSaid : Prop := Claim7.holds Tryz.pinned (.plain (OpenSpec.ofChange cascadeRisesSpec)) cascadeRisesCard

/-- THE SECOND FORM's CARD OF 'whittlelaw24.RewriteTurns'. -/
def rewriteTurnsUptoCard : Claim7 := { stood := { row := rewriteTurnsUptoRow, standIns := [], harness := (true, "fd63aea4bd121bd04704346033ba34a2980846a36f139de965c6e3a42711e4d1"), looks := false }, kinds := [], alts := [], laidByText := true, laidKinds := [.data], laidTests := true, laidLooks := .later }
def RewriteTurnsUptoCardSaid : Prop := Claim7.holds Tryz.pinned (.plain (OpenSpec.upto rewriteTurnsSpec)) rewriteTurnsUptoCard

/-- THE SECOND FORM's CARD OF 'whittlelaw25.CascadeParts'. -/
def cascadePartsUptoCard : Claim7 := { stood := { row := cascadePartsUptoRow, standIns := [], harness := (true, "fd63aea4bd121bd04704346033ba34a2980846a36f139de965c6e3a42711e4d1"), looks := false }, kinds := [], alts := [], laidByText := true, laidKinds := [.data], laidTests := true, laidLooks := .later }
def CascadePartsUptoCardSaid : Prop := Claim7.holds Tryz.pinned (.plain (OpenSpec.upto cascadePartsSpec)) cascadePartsUptoCard

/-- THE SECOND FORM's CARD OF 'whittlelaw25.CascadeRuns'. -/
def cascadeRunsUptoCard : Claim7 := { stood := { row := cascadeRunsUptoRow, standIns := [], harness := (true, "fd63aea4bd121bd04704346033ba34a2980846a36f139de965c6e3a42711e4d1"), looks := false }, kinds := [], alts := [], laidByText := true, laidKinds := [.data], laidTests := true, laidLooks := .later }
def CascadeRunsUptoCardSaid : Prop := Claim7.holds Tryz.pinned (.plain (OpenSpec.upto cascadeRunsSpec)) cascadeRunsUptoCard

/-- THE SECOND FORM's CARD OF 'whittlelaw25.CascadeRises'. -/
def cascadeRisesUptoCard : Claim7 := { stood := { row := cascadeRisesUptoRow, standIns := [], harness := (true, "fd63aea4bd121bd04704346033ba34a2980846a36f139de965c6e3a42711e4d1"), looks := false }, kinds := [], alts := [], laidByText := true, laidKinds := [.data], laidTests := true, laidLooks := .later }
def CascadeRisesUptoCardSaid : Prop := Claim7.holds Tryz.pinned (.plain (OpenSpec.upto cascadeRisesSpec)) cascadeRisesUptoCard
end Rows
end Go.Proofs.YtmfclggfajopkaaGreatDoor
