/-
  DERIVED. GIVEN WITH THE SEED: THE CARDS: each row of YtnpbfjdpglfdkaaGreatDoorRows.lean that lists a variable, with what it lists TIED to the program's text (the seventh form; the later family's looks); each row that meets fmt, with fmt's text TOLD by the authors' own Lean function (tested against real Go, not proved from fmt's source: count such statements apart). THE CARD IS WHAT COUNTS. Prove the row's statement (the work); the ties are given (YtnpbfjdpglfdkaaGreatDoorTie.lean); close each card by the builder's one call (the guide's Derived/Test/ToyasCard.lean, 'card_holds'). Laid BY PROGRAM, IN A SANDBOX (cutbox-door.mjs). By AI agents, Wed Nov 11 2026. No macro, syntax, notation, axiom, sorry.
-/
import Derived.Test.YtnpbfjdpglfdkaaGreatDoorRows
import GoSem.ClaimSeven
namespace Go.Proofs.YtnpbfjdpglfdkaaGreatDoor
namespace Rows

/-- THE TIED CARD OF 'whittlelaw18.PruneDomain'. -/
def pruneDomainCard : Claim7 := { stood := { row := pruneDomainRow, standIns := [], harness := (true, "5bff0d10015e8d0f9719458ee5262314827b9f177fc02a5f39dacb07f361863a"), looks := false }, kinds := [], alts := [], laidByText := true, laidKinds := [.data], laidTests := true, laidLooks := .later }
def PruneDomainCardSaid : Prop := Claim7.holds Tryz.pinned (.plain (OpenSpec.ofChange pruneDomainSpec)) pruneDomainCard

/-- THE TIED CARD OF 'whittlelaw18.PrunePrior'. -/
def prunePriorCard : Claim7 := { stood := { row := prunePriorRow, standIns := [], harness := (true, "5bff0d10015e8d0f9719458ee5262314827b9f177fc02a5f39dacb07f361863a"), looks := false }, kinds := [], alts := [], laidByText := true, laidKinds := [.data], laidTests := true, laidLooks := .later }
def PrunePriorCardSaid : Prop := Claim7.holds Tryz.pinned (.plain (OpenSpec.ofChange prunePriorSpec)) prunePriorCard

/-- THE SECOND FORM's CARD OF 'whittlelaw18.PruneDomain'. -/
def pruneDomainUptoCard : Claim7 := { stood := { row := pruneDomainUptoRow, standIns := [], harness := (true, "5bff0d10015e8d0f9719458ee5262314827b9f177fc02a5f39dacb07f361863a"), looks := false }, kinds := [], alts := [], laidByText := true, laidKinds := [.data], laidTests := true, laidLooks := .later }
def PruneDomainUptoCardSaid : Prop := Claim7.holds Tryz.pinned (.plain (OpenSpec.upto pruneDomainSpec)) pruneDomainUptoCard

/-- THE SECOND FORM's CARD OF 'whittlelaw18.PrunePrior'. -/
def prunePriorUptoCard : Claim7 := { stood := { row := prunePriorUptoRow, standIns := [], harness := (true, "5bff0d10015e8d0f9719458ee5262314827b9f177fc02a5f39dacb07f361863a"), looks := false }, kinds := [], alts := [], laidByText := true, laidKinds := [.data], laidTests := true, laidLooks := .later }
def PrunePriorUptoCardSaid : Prop := Claim7.holds Tryz.pinned (.plain (OpenSpec.upto prunePriorSpec)) prunePriorUptoCard
end Rows
end Go.Proofs.YtnpbfjdpglfdkaaGreatDoor
