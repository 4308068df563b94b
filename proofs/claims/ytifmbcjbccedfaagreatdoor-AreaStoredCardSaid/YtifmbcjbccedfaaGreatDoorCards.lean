/-
  DERIVED. GIVEN WITH THE SEED: THE CARDS: each row of YtifmbcjbccedfaaGreatDoorRows.lean that lists a variable, with what it lists TIED to the program's text (the seventh form; the later family's looks); each row that meets fmt, with fmt's text TOLD by the authors' own Lean function (tested against real Go, not proved from fmt's source: count such statements apart). THE CARD IS WHAT COUNTS. Prove the row's statement (the work); the ties are given (YtifmbcjbccedfaaGreatDoorTie.lean); close each card by the builder's one call (the guide's Derived/Test/ToyasCard.lean, 'card_holds'). Laid BY PROGRAM, IN A SANDBOX (cutbox-door.mjs). By AI agents, Wed Nov 11 2026. No macro, syntax, notation, axiom, sorry.
-/
import Derived.Test.YtifmbcjbccedfaaGreatDoorRows
import GoSem.ClaimSeven
namespace Go.Proofs.YtifmbcjbccedfaaGreatDoor
namespace Rows

/-- THE TIED CARD OF 'dasdlaw21.AreaReads'. -/
def areaReadsCard : Claim7 := { stood := { row := areaReadsRow, standIns := [], harness := (true, "f4dc380af0ac7707583b11361ced4385d9b5fdcb6cf242b08177ffb720158cd1"), looks := false }, kinds := [], alts := [], laidByText := true, laidKinds := [.data, .pinned], laidTests := true, laidLooks := .later }
def AreaReadsCardSaid : Prop := Claim7.holds Tryz.pinned (.plain (OpenSpec.ofChange areaReadsSpec)) areaReadsCard

/-- THE TIED CARD OF 'dasdlaw21.AreaStored'. -/
def areaStoredCard : Claim7 := { stood := { row := areaStoredRow, standIns := [], harness := (true, "f4dc380af0ac7707583b11361ced4385d9b5fdcb6cf242b08177ffb720158cd1"), looks := false }, kinds := [], alts := [], laidByText := true, laidKinds := [.data, .pinned], laidTests := true, laidLooks := .later }
def AreaStoredCardSaid : Prop := Claim7.holds Tryz.pinned (.plain (OpenSpec.ofChange areaStoredSpec)) areaStoredCard

/-- THE SECOND FORM's CARD OF 'dasdlaw21.AreaReads'. -/
def areaReadsUptoCard : Claim7 := { stood := { row := areaReadsUptoRow, standIns := [], harness := (true, "f4dc380af0ac7707583b11361ced4385d9b5fdcb6cf242b08177ffb720158cd1"), looks := false }, kinds := [], alts := [], laidByText := true, laidKinds := [.data, .pinned], laidTests := true, laidLooks := .later }
def AreaReadsUptoCardSaid : Prop := Claim7.holds Tryz.pinned (.plain (OpenSpec.upto areaReadsSpec)) areaReadsUptoCard

/-- THE SECOND FORM's CARD OF 'dasdlaw21.AreaStored'. -/
def areaStoredUptoCard : Claim7 := { stood := { row := areaStoredUptoRow, standIns := [], harness := (true, "f4dc380af0ac7707583b11361ced4385d9b5fdcb6cf242b08177ffb720158cd1"), looks := false }, kinds := [], alts := [], laidByText := true, laidKinds := [.data, .pinned], laidTests := true, laidLooks := .later }
def AreaStoredUptoCardSaid : Prop := Claim7.holds Tryz.pinned (.plain (OpenSpec.upto areaStoredSpec)) areaStoredUptoCard
end Rows
end Go.Proofs.YtifmbcjbccedfaaGreatDoor
