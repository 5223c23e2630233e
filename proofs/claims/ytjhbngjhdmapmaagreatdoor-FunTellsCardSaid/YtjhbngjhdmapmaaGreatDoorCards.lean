/-
  DERIVED. GIVEN WITH THE SEED: THE CARDS: each row of YtjhbngjhdmapmaaGreatDoorRows.lean that lists a variable, with what it lists TIED to the program's text (the seventh form; the later family's looks); each row that meets fmt, with fmt's text TOLD by the authors' own Lean function (tested against real Go, not proved from fmt's source: count such statements apart). THE CARD IS WHAT COUNTS. Prove the row's statement (the work); the ties are given (YtjhbngjhdmapmaaGreatDoorTie.lean); close each card by the builder's one call (the guide's Derived/Test/ToyasCard.lean, 'card_holds'). Laid BY PROGRAM, IN A SANDBOX (cutbox-door.mjs). By AI agents, Wed Nov 11 2026. No macro, syntax, notation, axiom, sorry.
-/
import Derived.Test.YtjhbngjhdmapmaaGreatDoorRows
import GoSem.ClaimSeven
namespace Go.Proofs.YtjhbngjhdmapmaaGreatDoor
namespace Rows

/-- THE TIED CARD OF 'whittlelaw19.FunTells'. -/
def funTellsCard : Claim7 := { stood := { row := funTellsRow, standIns := [], harness := (true, "3863a52ae991c47098664fe776b15fb52af9da46507b6a64cc47e5933dd4a29c"), looks := false }, kinds := [], alts := [], laidByText := true, laidKinds := [.data], laidTests := true, laidLooks := .later }
def FunTellsCardSaid : Prop := Claim7.holds Tryz.pinned (.plain (OpenSpec.ofChange funTellsSpec)) funTellsCard

/-- THE TIED CARD OF 'whittlelaw19.FunShows'. -/
def funShowsCard : Claim7 := { stood := { row := funShowsRow, standIns := [], harness := (true, "3863a52ae991c47098664fe776b15fb52af9da46507b6a64cc47e5933dd4a29c"), looks := false }, kinds := [], alts := [], laidByText := true, laidKinds := [.data], laidTests := true, laidLooks := .later }
def FunShowsCardSaid : Prop := Claim7.holds Tryz.pinned (.plain (OpenSpec.ofChange funShowsSpec)) funShowsCard

/-- THE TIED CARD OF 'whittlelaw16.RatStar'. -/
def ratStarCard : Claim7 := { stood := { row := ratStarRow, standIns := [], harness := (true, "3863a52ae991c47098664fe776b15fb52af9da46507b6a64cc47e5933dd4a29c"), looks := false }, kinds := [], alts := [], laidByText := true, laidKinds := [.data], laidTests := true, laidLooks := .later }
def RatStarCardSaid : Prop := Claim7.holds Tryz.pinned (.plain (OpenSpec.ofChange ratStarSpec)) ratStarCard

/-- THE TIED CARD OF 'whittlelaw19.FunLimits'. -/
def funLimitsCard : Claim7 := { stood := { row := funLimitsRow, standIns := [], harness := (true, "3863a52ae991c47098664fe776b15fb52af9da46507b6a64cc47e5933dd4a29c"), looks := false }, kinds := [], alts := [], laidByText := true, laidKinds := [.data], laidTests := true, laidLooks := .later }
def FunLimitsCardSaid : Prop := Claim7.holds Tryz.pinned (.plain (OpenSpec.ofChange funLimitsSpec)) funLimitsCard

/-- THE TIED CARD OF 'whittlelaw16.RatTogether'. -/
def ratTogetherCard : Claim7 := { stood := { row := ratTogetherRow, standIns := [], harness := (true, "3863a52ae991c47098664fe776b15fb52af9da46507b6a64cc47e5933dd4a29c"), looks := false }, kinds := [], alts := [], laidByText := true, laidKinds := [.data], laidTests := true, laidLooks := .later }
def RatTogetherCardSaid : Prop := Claim7.holds Tryz.pinned (.plain (OpenSpec.ofChange ratTogetherSpec)) ratTogetherCard

/-- THE TIED CARD OF 'whittlelaw18.PruneTrims'. -/
def pruneTrimsCard : Claim7 := { stood := { row := pruneTrimsRow, standIns := [], harness := (true, "3863a52ae991c47098664fe776b15fb52af9da46507b6a64cc47e5933dd4a29c"), looks := false }, kinds := [], alts := [], laidByText := true, laidKinds := [.data], laidTests := true, laidLooks := .later }
def PruneTrimsCardSaid : Prop := Claim7.holds Tryz.pinned (.plain (OpenSpec.ofChange pruneTrimsSpec)) pruneTrimsCard

/-- THE TIED CARD OF 'whittlelaw16.RatParts'. -/
def ratPartsCard : Claim7 := { stood := { row := ratPartsRow, standIns := [], harness := (true, "3863a52ae991c47098664fe776b15fb52af9da46507b6a64cc47e5933dd4a29c"), looks := false }, kinds := [], alts := [], laidByText := true, laidKinds := [.data], laidTests := true, laidLooks := .later }
def RatPartsCardSaid : Prop := Claim7.holds Tryz.pinned (.plain (OpenSpec.ofChange ratPartsSpec)) ratPartsCard

/-- THE SECOND FORM's CARD OF 'whittlelaw19.FunTells'. -/
def funTellsUptoCard : Claim7 := { stood := { row := funTellsUptoRow, standIns := [], harness := (true, "3863a52ae991c47098664fe776b15fb52af9da46507b6a64cc47e5933dd4a29c"), looks := false }, kinds := [], alts := [], laidByText := true, laidKinds := [.data], laidTests := true, laidLooks := .later }
def FunTellsUptoCardSaid : Prop := Claim7.holds Tryz.pinned (.plain (OpenSpec.upto funTellsSpec)) funTellsUptoCard

/-- THE SECOND FORM's CARD OF 'whittlelaw19.FunShows'. -/
def funShowsUptoCard : Claim7 := { stood := { row := funShowsUptoRow, standIns := [], harness := (true, "3863a52ae991c47098664fe776b15fb52af9da46507b6a64cc47e5933dd4a29c"), looks := false }, kinds := [], alts := [], laidByText := true, laidKinds := [.data], laidTests := true, laidLooks := .later }
def FunShowsUptoCardSaid : Prop := Claim7.holds Tryz.pinned (.plain (OpenSpec.upto funShowsSpec)) funShowsUptoCard

/-- THE SECOND FORM's CARD OF 'whittlelaw16.RatStar'. -/
def ratStarUptoCard : Claim7 := { stood := { row := ratStarUptoRow, standIns := [], harness := (true, "3863a52ae991c47098664fe776b15fb52af9da46507b6a64cc47e5933dd4a29c"), looks := false }, kinds := [], alts := [], laidByText := true, laidKinds := [.data], laidTests := true, laidLooks := .later }
def RatStarUptoCardSaid : Prop := Claim7.holds Tryz.pinned (.plain (OpenSpec.upto ratStarSpec)) ratStarUptoCard

/-- THE SECOND FORM's CARD OF 'whittlelaw19.FunLimits'. -/
def funLimitsUptoCard : Claim7 := { stood := { row := funLimitsUptoRow, standIns := [], harness := (true, "3863a52ae991c47098664fe776b15fb52af9da46507b6a64cc47e5933dd4a29c"), looks := false }, kinds := [], alts := [], laidByText := true, laidKinds := [.data], laidTests := true, laidLooks := .later }
def FunLimitsUptoCardSaid : Prop := Claim7.holds Tryz.pinned (.plain (OpenSpec.upto funLimitsSpec)) funLimitsUptoCard

/-- THE SECOND FORM's CARD OF 'whittlelaw16.RatTogether'. -/
def ratTogetherUptoCard : Claim7 := { stood := { row := ratTogetherUptoRow, standIns := [], harness := (true, "3863a52ae991c47098664fe776b15fb52af9da46507b6a64cc47e5933dd4a29c"), looks := false }, kinds := [], alts := [], laidByText := true, laidKinds := [.data], laidTests := true, laidLooks := .later }
def RatTogetherUptoCardSaid : Prop := Claim7.holds Tryz.pinned (.plain (OpenSpec.upto ratTogetherSpec)) ratTogetherUptoCard

/-- THE SECOND FORM's CARD OF 'whittlelaw18.PruneTrims'. -/
def pruneTrimsUptoCard : Claim7 := { stood := { row := pruneTrimsUptoRow, standIns := [], harness := (true, "3863a52ae991c47098664fe776b15fb52af9da46507b6a64cc47e5933dd4a29c"), looks := false }, kinds := [], alts := [], laidByText := true, laidKinds := [.data], laidTests := true, laidLooks := .later }
def PruneTrimsUptoCardSaid : Prop := Claim7.holds Tryz.pinned (.plain (OpenSpec.upto pruneTrimsSpec)) pruneTrimsUptoCard

/-- THE SECOND FORM's CARD OF 'whittlelaw16.RatParts'. -/
def ratPartsUptoCard : Claim7 := { stood := { row := ratPartsUptoRow, standIns := [], harness := (true, "3863a52ae991c47098664fe776b15fb52af9da46507b6a64cc47e5933dd4a29c"), looks := false }, kinds := [], alts := [], laidByText := true, laidKinds := [.data], laidTests := true, laidLooks := .later }
def RatPartsUptoCardSaid : Prop := Claim7.holds Tryz.pinned (.plain (OpenSpec.upto ratPartsSpec)) ratPartsUptoCard
end Rows
end Go.Proofs.YtjhbngjhdmapmaaGreatDoor
