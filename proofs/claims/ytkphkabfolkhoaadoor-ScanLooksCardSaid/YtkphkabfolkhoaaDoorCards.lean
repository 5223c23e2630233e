/-
  DERIVED. GIVEN WITH THE SEED: THE CARDS: each row of YtkphkabfolkhoaaDoorRows.lean that lists a variable, with what it lists TIED to the program's text (the seventh form; the later family's looks); each row that meets fmt, with fmt's text TOLD by the authors' own Lean function (tested against real Go, not proved from fmt's source: count such statements apart). THE CARD IS WHAT COUNTS. Prove the row's statement (the work); the ties are given (YtkphkabfolkhoaaDoorTie.lean); close each card by the builder's one call (the guide's Derived/Test/ToyasCard.lean, 'card_holds'). Laid BY PROGRAM, IN A SANDBOX (cutbox-door.mjs). By AI agents, Wed Nov 11 2026. No macro, syntax, notation, axiom, sorry.
-/
import Derived.Test.YtkphkabfolkhoaaDoorRows
import GoSem.ClaimSeven
namespace Go.Proofs.YtkphkabfolkhoaaDoor
namespace Rows

/-- THE TIED CARD OF 'whittlelaw23.ScanFactors'. -/
def scanFactorsCard : Claim7 := { stood := { row := scanFactorsRow, standIns := [], harness := (true, "5269396995078307f789be18774ebe11bd83c783244cb40be92134028e698b67"), looks := false }, kinds := [], alts := [], laidByText := true, laidKinds := [.data], laidTests := true, laidLooks := .later }
def ScanFactorsCardSaid : Prop := Claim7.holds Tryd.pinned (.plain (OpenSpec.ofChange scanFactorsSpec)) scanFactorsCard

/-- THE TIED CARD OF 'whittlelaw23.ScanLooks'. -/
def scanLooksCard : Claim7 := { stood := { row := scanLooksRow, standIns := [], harness := (true, "5269396995078307f789be18774ebe11bd83c783244cb40be92134028e698b67"), looks := false }, kinds := [], alts := [], laidByText := true, laidKinds := [.data], laidTests := true, laidLooks := .later }
def ScanLooksCardSaid : Prop := Claim7.holds Tryd.pinned (.plain (OpenSpec.ofChange scanLooksSpec)) scanLooksCard

/-- THE TIED CARD OF 'whittlelaw23.ScanLongest'. -/
def scanLongestCard : Claim7 := { stood := { row := scanLongestRow, standIns := [], harness := (true, "5269396995078307f789be18774ebe11bd83c783244cb40be92134028e698b67"), looks := false }, kinds := [], alts := [], laidByText := true, laidKinds := [.data], laidTests := true, laidLooks := .later }
def ScanLongestCardSaid : Prop := Claim7.holds Tryd.pinned (.plain (OpenSpec.ofChange scanLongestSpec)) scanLongestCard

/-- THE TIED CARD OF 'whittlelaw23.ScanRises'. -/
def scanRisesCard : Claim7 := { stood := { row := scanRisesRow, standIns := [], harness := (true, "5269396995078307f789be18774ebe11bd83c783244cb40be92134028e698b67"), looks := false }, kinds := [], alts := [], laidByText := true, laidKinds := [.data], laidTests := true, laidLooks := .later }
def ScanRisesCardSaid : Prop := Claim7.holds Tryd.pinned (.plain (OpenSpec.ofChange scanRisesSpec)) scanRisesCard

/-- THE SECOND FORM's CARD OF 'whittlelaw23.ScanFactors'. -/
def scanFactorsUptoCard : Claim7 := { stood := { row := scanFactorsUptoRow, standIns := [], harness := (true, "5269396995078307f789be18774ebe11bd83c783244cb40be92134028e698b67"), looks := false }, kinds := [], alts := [], laidByText := true, laidKinds := [.data], laidTests := true, laidLooks := .later }
def ScanFactorsUptoCardSaid : Prop := Claim7.holds Tryd.pinned (.plain (OpenSpec.upto scanFactorsSpec)) scanFactorsUptoCard

/-- THE SECOND FORM's CARD OF 'whittlelaw23.ScanLooks'. -/
def scanLooksUptoCard : Claim7 := { stood := { row := scanLooksUptoRow, standIns := [], harness := (true, "5269396995078307f789be18774ebe11bd83c783244cb40be92134028e698b67"), looks := false }, kinds := [], alts := [], laidByText := true, laidKinds := [.data], laidTests := true, laidLooks := .later }
def ScanLooksUptoCardSaid : Prop := Claim7.holds Tryd.pinned (.plain (OpenSpec.upto scanLooksSpec)) scanLooksUptoCard

/-- THE SECOND FORM's CARD OF 'whittlelaw23.ScanLongest'. -/
def scanLongestUptoCard : Claim7 := { stood := { row := scanLongestUptoRow, standIns := [], harness := (true, "5269396995078307f789be18774ebe11bd83c783244cb40be92134028e698b67"), looks := false }, kinds := [], alts := [], laidByText := true, laidKinds := [.data], laidTests := true, laidLooks := .later }
def ScanLongestUptoCardSaid : Prop := Claim7.holds Tryd.pinned (.plain (OpenSpec.upto scanLongestSpec)) scanLongestUptoCard

/-- THE SECOND FORM's CARD OF 'whittlelaw23.ScanRises'. -/
def scanRisesUptoCard : Claim7 := { stood := { row := scanRisesUptoRow, standIns := [], harness := (true, "5269396995078307f789be18774ebe11bd83c783244cb40be92134028e698b67"), looks := false }, kinds := [], alts := [], laidByText := true, laidKinds := [.data], laidTests := true, laidLooks := .later }
def ScanRisesUptoCardSaid : Prop := Claim7.holds Tryd.pinned (.plain (OpenSpec.upto scanRisesSpec)) scanRisesUptoCard
end Rows
end Go.Proofs.YtkphkabfolkhoaaDoor
