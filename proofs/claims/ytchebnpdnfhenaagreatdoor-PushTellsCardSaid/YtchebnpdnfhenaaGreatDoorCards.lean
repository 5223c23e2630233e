/-
  DERIVED. GIVEN WITH THE SEED: THE CARDS: each row of YtchebnpdnfhenaaGreatDoorRows.lean that lists a variable, with what it lists TIED to the program's text (the seventh form; the later family's looks); each row that meets fmt, with fmt's text TOLD by the authors' own Lean function (tested against real Go, not proved from fmt's source: count such statements apart). THE CARD IS WHAT COUNTS. Prove the row's statement (the work); the ties are given (YtchebnpdnfhenaaGreatDoorTie.lean); close each card by the builder's one call (the guide's Derived/Test/ToyasCard.lean, 'card_holds'). Laid BY PROGRAM, IN A SANDBOX (cutbox-door.mjs). By AI agents, Wed Nov 11 2026. No macro, syntax, notation, axiom, sorry.
-/
import Derived.Test.YtchebnpdnfhenaaGreatDoorRows
import GoSem.ClaimSeven
namespace Go.Proofs.YtchebnpdnfhenaaGreatDoor
namespace Rows

/-- THE TIED CARD OF 'whittlelaw21.SeqMakes'. -/
def seqMakesCard : Claim7 := { stood := { row := seqMakesRow, standIns := [], harness := (true, "f568851396d7a30d6bc57c5301dc3eaf4fd31757d6a99dca80f817a9aab275e4"), looks := true }, kinds := [], alts := [], laidByText := true, laidKinds := [.data, .data, .data], laidTests := true, laidLooks := .later }
def SeqMakesCardSaid : Prop := Claim7.holds Tryz.pinned (.plain (OpenSpec.ofChange seqMakesSpec)) seqMakesCard

/-- THE TIED CARD OF 'whittlelaw21.SeqRuns'. -/
def seqRunsCard : Claim7 := { stood := { row := seqRunsRow, standIns := [], harness := (true, "f568851396d7a30d6bc57c5301dc3eaf4fd31757d6a99dca80f817a9aab275e4"), looks := true }, kinds := [], alts := [], laidByText := true, laidKinds := [.data, .data, .data], laidTests := true, laidLooks := .later }
def SeqRunsCardSaid : Prop := Claim7.holds Tryz.pinned (.plain (OpenSpec.ofChange seqRunsSpec)) seqRunsCard

/-- THE TIED CARD OF 'whittlelaw21.SeqRelates'. -/
def seqRelatesCard : Claim7 := { stood := { row := seqRelatesRow, standIns := [], harness := (true, "f568851396d7a30d6bc57c5301dc3eaf4fd31757d6a99dca80f817a9aab275e4"), looks := true }, kinds := [], alts := [], laidByText := true, laidKinds := [.data, .data, .data], laidTests := true, laidLooks := .later }
def SeqRelatesCardSaid : Prop := Claim7.holds Tryz.pinned (.plain (OpenSpec.ofChange seqRelatesSpec)) seqRelatesCard

/-- THE TIED CARD OF 'whittlelaw21.SeqBack'. -/
def seqBackCard : Claim7 := { stood := { row := seqBackRow, standIns := [], harness := (true, "f568851396d7a30d6bc57c5301dc3eaf4fd31757d6a99dca80f817a9aab275e4"), looks := true }, kinds := [], alts := [], laidByText := true, laidKinds := [.data, .data, .data], laidTests := true, laidLooks := .later }
def SeqBackCardSaid : Prop := Claim7.holds Tryz.pinned (.plain (OpenSpec.ofChange seqBackSpec)) seqBackCard

/-- THE TIED CARD OF 'whittlelaw21.SeqMany'. -/
def seqManyCard : Claim7 := { stood := { row := seqManyRow, standIns := [], harness := (true, "f568851396d7a30d6bc57c5301dc3eaf4fd31757d6a99dca80f817a9aab275e4"), looks := true }, kinds := [], alts := [], laidByText := true, laidKinds := [.data, .data, .data], laidTests := true, laidLooks := .later }
def SeqManyCardSaid : Prop := Claim7.holds Tryz.pinned (.plain (OpenSpec.ofChange seqManySpec)) seqManyCard

/-- THE TIED CARD OF 'whittlelaw22.PushApart'. -/
def pushApartCard : Claim7 := { stood := { row := pushApartRow, standIns := [], harness := (true, "f568851396d7a30d6bc57c5301dc3eaf4fd31757d6a99dca80f817a9aab275e4"), looks := true }, kinds := [], alts := [], laidByText := true, laidKinds := [.data, .data, .data], laidTests := true, laidLooks := .later }
def PushApartCardSaid : Prop := Claim7.holds Tryz.pinned (.plain (OpenSpec.ofChange pushApartSpec)) pushApartCard

/-- THE TIED CARD OF 'whittlelaw22.PushMakes'. -/
def pushMakesCard : Claim7 := { stood := { row := pushMakesRow, standIns := [], harness := (true, "f568851396d7a30d6bc57c5301dc3eaf4fd31757d6a99dca80f817a9aab275e4"), looks := true }, kinds := [], alts := [], laidByText := true, laidKinds := [.data, .data, .data], laidTests := true, laidLooks := .later }
def PushMakesCardSaid : Prop := Claim7.holds Tryz.pinned (.plain (OpenSpec.ofChange pushMakesSpec)) pushMakesCard

/-- THE TIED CARD OF 'whittlelaw22.PushTells'. -/
def pushTellsCard : Claim7 := { stood := { row := pushTellsRow, standIns := [], harness := (true, "f568851396d7a30d6bc57c5301dc3eaf4fd31757d6a99dca80f817a9aab275e4"), looks := true }, kinds := [], alts := [], laidByText := true, laidKinds := [.data, .data, .data], laidTests := true, laidLooks := .later }
def PushTellsCardSaid : Prop := Claim7.holds Tryz.pinned (.plain (OpenSpec.ofChange pushTellsSpec)) pushTellsCard

/-- THE TIED CARD OF 'whittlelaw22.PushRelates'. -/
def pushRelatesCard : Claim7 := { stood := { row := pushRelatesRow, standIns := [], harness := (true, "f568851396d7a30d6bc57c5301dc3eaf4fd31757d6a99dca80f817a9aab275e4"), looks := true }, kinds := [], alts := [], laidByText := true, laidKinds := [.data, .data, .data], laidTests := true, laidLooks := .later }
def PushRelatesCardSaid : Prop := Claim7.holds Tryz.pinned (.plain (OpenSpec.ofChange pushRelatesSpec)) pushRelatesCard

/-- THE TIED CARD OF 'whittlelaw22.PushMade'. -/
def pushMadeCard : Claim7 := { stood := { row := pushMadeRow, standIns := [], harness := (true, "f568851396d7a30d6bc57c5301dc3eaf4fd31757d6a99dca80f817a9aab275e4"), looks := true }, kinds := [], alts := [], laidByText := true, laidKinds := [.data, .data, .data], laidTests := true, laidLooks := .later }
def PushMadeCardSaid : Prop := Claim7.holds Tryz.pinned (.plain (OpenSpec.ofChange pushMadeSpec)) pushMadeCard

/-- THE SECOND FORM's CARD OF 'whittlelaw21.SeqMakes'. -/
def seqMakesUptoCard : Claim7 := { stood := { row := seqMakesUptoRow, standIns := [], harness := (true, "f568851396d7a30d6bc57c5301dc3eaf4fd31757d6a99dca80f817a9aab275e4"), looks := true }, kinds := [], alts := [], laidByText := true, laidKinds := [.data, .data, .data], laidTests := true, laidLooks := .later }
def SeqMakesUptoCardSaid : Prop := Claim7.holds Tryz.pinned (.plain (OpenSpec.upto seqMakesSpec)) seqMakesUptoCard

/-- THE SECOND FORM's CARD OF 'whittlelaw21.SeqRuns'. -/
def seqRunsUptoCard : Claim7 := { stood := { row := seqRunsUptoRow, standIns := [], harness := (true, "f568851396d7a30d6bc57c5301dc3eaf4fd31757d6a99dca80f817a9aab275e4"), looks := true }, kinds := [], alts := [], laidByText := true, laidKinds := [.data, .data, .data], laidTests := true, laidLooks := .later }
def SeqRunsUptoCardSaid : Prop := Claim7.holds Tryz.pinned (.plain (OpenSpec.upto seqRunsSpec)) seqRunsUptoCard

/-- THE SECOND FORM's CARD OF 'whittlelaw21.SeqRelates'. -/
def seqRelatesUptoCard : Claim7 := { stood := { row := seqRelatesUptoRow, standIns := [], harness := (true, "f568851396d7a30d6bc57c5301dc3eaf4fd31757d6a99dca80f817a9aab275e4"), looks := true }, kinds := [], alts := [], laidByText := true, laidKinds := [.data, .data, .data], laidTests := true, laidLooks := .later }
def SeqRelatesUptoCardSaid : Prop := Claim7.holds Tryz.pinned (.plain (OpenSpec.upto seqRelatesSpec)) seqRelatesUptoCard

/-- THE SECOND FORM's CARD OF 'whittlelaw21.SeqBack'. -/
def seqBackUptoCard : Claim7 := { stood := { row := seqBackUptoRow, standIns := [], harness := (true, "f568851396d7a30d6bc57c5301dc3eaf4fd31757d6a99dca80f817a9aab275e4"), looks := true }, kinds := [], alts := [], laidByText := true, laidKinds := [.data, .data, .data], laidTests := true, laidLooks := .later }
def SeqBackUptoCardSaid : Prop := Claim7.holds Tryz.pinned (.plain (OpenSpec.upto seqBackSpec)) seqBackUptoCard

/-- THE SECOND FORM's CARD OF 'whittlelaw21.SeqMany'. -/
def seqManyUptoCard : Claim7 := { stood := { row := seqManyUptoRow, standIns := [], harness := (true, "f568851396d7a30d6bc57c5301dc3eaf4fd31757d6a99dca80f817a9aab275e4"), looks := true }, kinds := [], alts := [], laidByText := true, laidKinds := [.data, .data, .data], laidTests := true, laidLooks := .later }
def SeqManyUptoCardSaid : Prop := Claim7.holds Tryz.pinned (.plain (OpenSpec.upto seqManySpec)) seqManyUptoCard

/-- THE SECOND FORM's CARD OF 'whittlelaw22.PushApart'. -/
def pushApartUptoCard : Claim7 := { stood := { row := pushApartUptoRow, standIns := [], harness := (true, "f568851396d7a30d6bc57c5301dc3eaf4fd31757d6a99dca80f817a9aab275e4"), looks := true }, kinds := [], alts := [], laidByText := true, laidKinds := [.data, .data, .data], laidTests := true, laidLooks := .later }
def PushApartUptoCardSaid : Prop := Claim7.holds Tryz.pinned (.plain (OpenSpec.upto pushApartSpec)) pushApartUptoCard

/-- THE SECOND FORM's CARD OF 'whittlelaw22.PushMakes'. -/
def pushMakesUptoCard : Claim7 := { stood := { row := pushMakesUptoRow, standIns := [], harness := (true, "f568851396d7a30d6bc57c5301dc3eaf4fd31757d6a99dca80f817a9aab275e4"), looks := true }, kinds := [], alts := [], laidByText := true, laidKinds := [.data, .data, .data], laidTests := true, laidLooks := .later }
def PushMakesUptoCardSaid : Prop := Claim7.holds Tryz.pinned (.plain (OpenSpec.upto pushMakesSpec)) pushMakesUptoCard

/-- THE SECOND FORM's CARD OF 'whittlelaw22.PushTells'. -/
def pushTellsUptoCard : Claim7 := { stood := { row := pushTellsUptoRow, standIns := [], harness := (true, "f568851396d7a30d6bc57c5301dc3eaf4fd31757d6a99dca80f817a9aab275e4"), looks := true }, kinds := [], alts := [], laidByText := true, laidKinds := [.data, .data, .data], laidTests := true, laidLooks := .later }
def PushTellsUptoCardSaid : Prop := Claim7.holds Tryz.pinned (.plain (OpenSpec.upto pushTellsSpec)) pushTellsUptoCard

/-- THE SECOND FORM's CARD OF 'whittlelaw22.PushRelates'. -/
def pushRelatesUptoCard : Claim7 := { stood := { row := pushRelatesUptoRow, standIns := [], harness := (true, "f568851396d7a30d6bc57c5301dc3eaf4fd31757d6a99dca80f817a9aab275e4"), looks := true }, kinds := [], alts := [], laidByText := true, laidKinds := [.data, .data, .data], laidTests := true, laidLooks := .later }
def PushRelatesUptoCardSaid : Prop := Claim7.holds Tryz.pinned (.plain (OpenSpec.upto pushRelatesSpec)) pushRelatesUptoCard

/-- THE SECOND FORM's CARD OF 'whittlelaw22.PushMade'. -/
def pushMadeUptoCard : Claim7 := { stood := { row := pushMadeUptoRow, standIns := [], harness := (true, "f568851396d7a30d6bc57c5301dc3eaf4fd31757d6a99dca80f817a9aab275e4"), looks := true }, kinds := [], alts := [], laidByText := true, laidKinds := [.data, .data, .data], laidTests := true, laidLooks := .later }
def PushMadeUptoCardSaid : Prop := Claim7.holds Tryz.pinned (.plain (OpenSpec.upto pushMadeSpec)) pushMadeUptoCard
end Rows
end Go.Proofs.YtchebnpdnfhenaaGreatDoor
