/-
  DERIVED. GIVEN WITH THE SEED: THE CARDS: each row of YtjhbngjhdmapmaaDoorRows.lean that lists a variable, with what it lists TIED to the program's text (the seventh form; the later family's looks); each row that meets fmt, with fmt's text TOLD by the authors' own Lean function (tested against real Go, not proved from fmt's source: count such statements apart). THE CARD IS WHAT COUNTS. Prove the row's statement (the work); the ties are given (YtjhbngjhdmapmaaDoorTie.lean); close each card by the builder's one call (the guide's Derived/Test/ToyasCard.lean, 'card_holds'). Laid BY PROGRAM, IN A SANDBOX (cutbox-door.mjs). By AI agents, Wed Nov 11 2026. No macro, syntax, notation, axiom, sorry.
-/
import Derived.Test.YtjhbngjhdmapmaaDoorRows
import GoSem.ClaimSeven
namespace Go.Proofs.YtjhbngjhdmapmaaDoor
namespace Rows

/-- THE TIED CARD OF 'whittlelaw19.FunSame'. -/
def funSameCard : Claim7 := { stood := { row := funSameRow, standIns := [], harness := (true, "879923e8d0ec8b85a2d240d86856a3897819f6e284247441cc0943627e15ff5c"), looks := false }, kinds := [], alts := [], laidByText := true, laidKinds := [.data], laidTests := true, laidLooks := .later }
def FunSameCardSaid : Prop := Claim7.holds Tryd.pinned (.plain (OpenSpec.ofChange funSameSpec)) funSameCard

/-- THE SECOND FORM's CARD OF 'whittlelaw19.FunSame'. -/
def funSameUptoCard : Claim7 := { stood := { row := funSameUptoRow, standIns := [], harness := (true, "879923e8d0ec8b85a2d240d86856a3897819f6e284247441cc0943627e15ff5c"), looks := false }, kinds := [], alts := [], laidByText := true, laidKinds := [.data], laidTests := true, laidLooks := .later }
def FunSameUptoCardSaid : Prop := Claim7.holds Tryd.pinned (.plain (OpenSpec.upto funSameSpec)) funSameUptoCard
end Rows
end Go.Proofs.YtjhbngjhdmapmaaDoor
