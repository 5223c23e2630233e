/-
  DERIVED. GIVEN WITH THE SEED: THE CARDS: each row of YtmfclggfajopkaaDoorRows.lean that lists a variable, with what it lists TIED to the program's text (the seventh form; the later family's looks); each row that meets fmt, with fmt's text TOLD by the authors' own Lean function (tested against real Go, not proved from fmt's source: count such statements apart). THE CARD IS WHAT COUNTS. Prove the row's statement (the work); the ties are given (YtmfclggfajopkaaDoorTie.lean); close each card by the builder's one call (the guide's Derived/Test/ToyasCard.lean, 'card_holds'). Laid BY PROGRAM, IN A SANDBOX (cutbox-door.mjs). By AI agents, Wed Nov 11 2026. No macro, syntax, notation, axiom, sorry.
-/
import Derived.Test.YtmfclggfajopkaaDoorRows
import GoSem.ClaimSeven
namespace Go.Proofs.YtmfclggfajopkaaDoor
namespace Rows

/-- THE TIED CARD OF 'whittlelaw24.RewriteParts'. -/
def rewritePartsCard : Claim7 := { stood := { row := rewritePartsRow, standIns := [], harness := (true, "ec20436bdc8442d1869619187bd13c7734b953773005f7b8c89fecba2425106a"), looks := false }, kinds := [], alts := [], laidByText := true, laidKinds := [.data], laidTests := true, laidLooks := .later }
def RewritePartsCardSaid : Prop := Claim7.holds Tryd.pinned (.plain (OpenSpec.ofChange rewritePartsSpec)) rewritePartsCard

/-- THE TIED CARD OF 'whittlelaw24.RewriteSame'. -/
def rewriteSameCard : Claim7 := { stood := { row := rewriteSameRow, standIns := [], harness := (true, "ec20436bdc8442d1869619187bd13c7734b953773005f7b8c89fecba2425106a"), looks := false }, kinds := [], alts := [], laidByText := true, laidKinds := [.data], laidTests := true, laidLooks := .later }
def RewriteSameCardSaid : Prop := Claim7.holds Tryd.pinned (.plain (OpenSpec.ofChange rewriteSameSpec)) rewriteSameCard

/-- THE TIED CARD OF 'whittlelaw24.RewriteStays'. -/
def rewriteStaysCard : Claim7 := { stood := { row := rewriteStaysRow, standIns := [], harness := (true, "ec20436bdc8442d1869619187bd13c7734b953773005f7b8c89fecba2425106a"), looks := false }, kinds := [], alts := [], laidByText := true, laidKinds := [.data], laidTests := true, laidLooks := .later }
def RewriteStaysCardSaid : Prop := Claim7.holds Tryd.pinned (.plain (OpenSpec.ofChange rewriteStaysSpec)) rewriteStaysCard

/-- THE SECOND FORM's CARD OF 'whittlelaw24.RewriteParts'. -/
def rewritePartsUptoCard : Claim7 := { stood := { row := rewritePartsUptoRow, standIns := [], harness := (true, "ec20436bdc8442d1869619187bd13c7734b953773005f7b8c89fecba2425106a"), looks := false }, kinds := [], alts := [], laidByText := true, laidKinds := [.data], laidTests := true, laidLooks := .later }
def RewritePartsUptoCardSaid : Prop := Claim7.holds Tryd.pinned (.plain (OpenSpec.upto rewritePartsSpec)) rewritePartsUptoCard

/-- THE SECOND FORM's CARD OF 'whittlelaw24.RewriteSame'. -/
def rewriteSameUptoCard : Claim7 := { stood := { row := rewriteSameUptoRow, standIns := [], harness := (true, "ec20436bdc8442d1869619187bd13c7734b953773005f7b8c89fecba2425106a"), looks := false }, kinds := [], alts := [], laidByText := true, laidKinds := [.data], laidTests := true, laidLooks := .later }
def RewriteSameUptoCardSaid : Prop := Claim7.holds Tryd.pinned (.plain (OpenSpec.upto rewriteSameSpec)) rewriteSameUptoCard

/-- THE SECOND FORM's CARD OF 'whittlelaw24.RewriteStays'. -/
def rewriteStaysUptoCard : Claim7 := { stood := { row := rewriteStaysUptoRow, standIns := [], harness := (true, "ec20436bdc8442d1869619187bd13c7734b953773005f7b8c89fecba2425106a"), looks := false }, kinds := [], alts := [], laidByText := true, laidKinds := [.data], laidTests := true, laidLooks := .later }
def RewriteStaysUptoCardSaid : Prop := Claim7.holds Tryd.pinned (.plain (OpenSpec.upto rewriteStaysSpec)) rewriteStaysUptoCard
end Rows
end Go.Proofs.YtmfclggfajopkaaDoor
