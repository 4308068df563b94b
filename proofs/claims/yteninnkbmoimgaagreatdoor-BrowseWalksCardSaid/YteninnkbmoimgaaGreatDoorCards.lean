/-
  DERIVED. GIVEN WITH THE SEED: THE CARDS: each row of YteninnkbmoimgaaGreatDoorRows.lean that lists a variable, with what it lists TIED to the program's text (the seventh form; the later family's looks); each row that meets fmt, with fmt's text TOLD by the authors' own Lean function (tested against real Go, not proved from fmt's source: count such statements apart). THE CARD IS WHAT COUNTS. Prove the row's statement (the work); the ties are given (YteninnkbmoimgaaGreatDoorTie.lean); close each card by the builder's one call (the guide's Derived/Test/ToyasCard.lean, 'card_holds'). Laid BY PROGRAM, IN A SANDBOX (cutbox-door.mjs). By AI agents, Wed Nov 11 2026. No macro, syntax, notation, axiom, sorry.
-/
import Derived.Test.YteninnkbmoimgaaGreatDoorRows
import GoSem.ClaimSeven
namespace Go.Proofs.YteninnkbmoimgaaGreatDoor
namespace Rows

/-- THE TIED CARD OF 'dasdlaw24.BrowseSteps'. -/
def browseStepsCard : Claim7 := { stood := { row := browseStepsRow, standIns := [], harness := (true, "b295671feb5e1aa514d4cbe62040a6a69658204466c213a2fef236259663f3f0"), looks := false }, kinds := [], alts := [], laidByText := true, laidKinds := [.data, .pinned], laidTests := true, laidLooks := .later }
def BrowseStepsCardSaid : Prop := Claim7.holds Tryz.pinned (.plain (OpenSpec.ofChange browseStepsSpec)) browseStepsCard

/-- THE TIED CARD OF 'dasdlaw24.BrowseWalks'. -/
def browseWalksCard : Claim7 := { stood := { row := browseWalksRow, standIns := [], harness := (true, "b295671feb5e1aa514d4cbe62040a6a69658204466c213a2fef236259663f3f0"), looks := false }, kinds := [], alts := [], laidByText := true, laidKinds := [.data, .pinned], laidTests := true, laidLooks := .later }
def BrowseWalksCardSaid : Prop := Claim7.holds Tryz.pinned (.plain (OpenSpec.ofChange browseWalksSpec)) browseWalksCard

/-- THE TIED CARD OF 'dasdlaw24.BrowseChanges'. -/
def browseChangesCard : Claim7 := { stood := { row := browseChangesRow, standIns := [], harness := (true, "b295671feb5e1aa514d4cbe62040a6a69658204466c213a2fef236259663f3f0"), looks := false }, kinds := [], alts := [], laidByText := true, laidKinds := [.data, .pinned], laidTests := true, laidLooks := .later }
def BrowseChangesCardSaid : Prop := Claim7.holds Tryz.pinned (.plain (OpenSpec.ofChange browseChangesSpec)) browseChangesCard

/-- THE TIED CARD OF 'dasdlaw24.BrowseDamage'. -/
def browseDamageCard : Claim7 := { stood := { row := browseDamageRow, standIns := [], harness := (true, "b295671feb5e1aa514d4cbe62040a6a69658204466c213a2fef236259663f3f0"), looks := false }, kinds := [], alts := [], laidByText := true, laidKinds := [.data, .pinned], laidTests := true, laidLooks := .later }
def BrowseDamageCardSaid : Prop := Claim7.holds Tryz.pinned (.plain (OpenSpec.ofChange browseDamageSpec)) browseDamageCard

/-- THE TIED CARD OF 'dasdlaw24.BrowseSpans'. -/
def browseSpansCard : Claim7 := { stood := { row := browseSpansRow, standIns := [], harness := (true, "b295671feb5e1aa514d4cbe62040a6a69658204466c213a2fef236259663f3f0"), looks := false }, kinds := [], alts := [], laidByText := true, laidKinds := [.data, .pinned], laidTests := true, laidLooks := .later }
def BrowseSpansCardSaid : Prop := Claim7.holds Tryz.pinned (.plain (OpenSpec.ofChange browseSpansSpec)) browseSpansCard

/-- THE TIED CARD OF 'dasdlaw24.BrowsePlaces'. -/
def browsePlacesCard : Claim7 := { stood := { row := browsePlacesRow, standIns := [], harness := (true, "b295671feb5e1aa514d4cbe62040a6a69658204466c213a2fef236259663f3f0"), looks := false }, kinds := [], alts := [], laidByText := true, laidKinds := [.data, .pinned], laidTests := true, laidLooks := .later }
def BrowsePlacesCardSaid : Prop := Claim7.holds Tryz.pinned (.plain (OpenSpec.ofChange browsePlacesSpec)) browsePlacesCard

/-- THE SECOND FORM's CARD OF 'dasdlaw24.BrowseSteps'. -/
def browseStepsUptoCard : Claim7 := { stood := { row := browseStepsUptoRow, standIns := [], harness := (true, "b295671feb5e1aa514d4cbe62040a6a69658204466c213a2fef236259663f3f0"), looks := false }, kinds := [], alts := [], laidByText := true, laidKinds := [.data, .pinned], laidTests := true, laidLooks := .later }
def BrowseStepsUptoCardSaid : Prop := Claim7.holds Tryz.pinned (.plain (OpenSpec.upto browseStepsSpec)) browseStepsUptoCard

/-- THE SECOND FORM's CARD OF 'dasdlaw24.BrowseWalks'. -/
def browseWalksUptoCard : Claim7 := { stood := { row := browseWalksUptoRow, standIns := [], harness := (true, "b295671feb5e1aa514d4cbe62040a6a69658204466c213a2fef236259663f3f0"), looks := false }, kinds := [], alts := [], laidByText := true, laidKinds := [.data, .pinned], laidTests := true, laidLooks := .later }
def BrowseWalksUptoCardSaid : Prop := Claim7.holds Tryz.pinned (.plain (OpenSpec.upto browseWalksSpec)) browseWalksUptoCard

/-- THE SECOND FORM's CARD OF 'dasdlaw24.BrowseChanges'. -/
def browseChangesUptoCard : Claim7 := { stood := { row := browseChangesUptoRow, standIns := [], harness := (true, "b295671feb5e1aa514d4cbe62040a6a69658204466c213a2fef236259663f3f0"), looks := false }, kinds := [], alts := [], laidByText := true, laidKinds := [.data, .pinned], laidTests := true, laidLooks := .later }
def BrowseChangesUptoCardSaid : Prop := Claim7.holds Tryz.pinned (.plain (OpenSpec.upto browseChangesSpec)) browseChangesUptoCard

/-- THE SECOND FORM's CARD OF 'dasdlaw24.BrowseDamage'. -/
def browseDamageUptoCard : Claim7 := { stood := { row := browseDamageUptoRow, standIns := [], harness := (true, "b295671feb5e1aa514d4cbe62040a6a69658204466c213a2fef236259663f3f0"), looks := false }, kinds := [], alts := [], laidByText := true, laidKinds := [.data, .pinned], laidTests := true, laidLooks := .later }
def BrowseDamageUptoCardSaid : Prop := Claim7.holds Tryz.pinned (.plain (OpenSpec.upto browseDamageSpec)) browseDamageUptoCard

/-- THE SECOND FORM's CARD OF 'dasdlaw24.BrowseSpans'. -/
def browseSpansUptoCard : Claim7 := { stood := { row := browseSpansUptoRow, standIns := [], harness := (true, "b295671feb5e1aa514d4cbe62040a6a69658204466c213a2fef236259663f3f0"), looks := false }, kinds := [], alts := [], laidByText := true, laidKinds := [.data, .pinned], laidTests := true, laidLooks := .later }
def BrowseSpansUptoCardSaid : Prop := Claim7.holds Tryz.pinned (.plain (OpenSpec.upto browseSpansSpec)) browseSpansUptoCard

/-- THE SECOND FORM's CARD OF 'dasdlaw24.BrowsePlaces'. -/
def browsePlacesUptoCard : Claim7 := { stood := { row := browsePlacesUptoRow, standIns := [], harness := (true, "b295671feb5e1aa514d4cbe62040a6a69658204466c213a2fef236259663f3f0"), looks := false }, kinds := [], alts := [], laidByText := true, laidKinds := [.data, .pinned], laidTests := true, laidLooks := .later }
def BrowsePlacesUptoCardSaid : Prop := Claim7.holds Tryz.pinned (.plain (OpenSpec.upto browsePlacesSpec)) browsePlacesUptoCard
end Rows
end Go.Proofs.YteninnkbmoimgaaGreatDoor
