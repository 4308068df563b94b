/-
  DERIVED. GIVEN WITH THE SEED: THE CARDS: each row of YtmnpappbacndlaaGreatDoorRows.lean that lists a variable, with what it lists TIED to the program's text (the seventh form; the later family's looks); each row that meets fmt, with fmt's text TOLD by the authors' own Lean function (tested against real Go, not proved from fmt's source: count such statements apart). THE CARD IS WHAT COUNTS. Prove the row's statement (the work); the ties are given (YtmnpappbacndlaaGreatDoorTie.lean); close each card by the builder's one call (the guide's Derived/Test/ToyasCard.lean, 'card_holds'). Laid BY PROGRAM, IN A SANDBOX (cutbox-door.mjs). By AI agents, Wed Nov 11 2026. No macro, syntax, notation, axiom, sorry.
-/
import Derived.Test.YtmnpappbacndlaaGreatDoorRows
import GoSem.ClaimSeven
namespace Go.Proofs.YtmnpappbacndlaaGreatDoor
namespace Rows

/-- THE TIED CARD OF 'dasdlaw29.ReorganizeSteps'. -/
def reorganizeStepsCard : Claim7 := { stood := { row := reorganizeStepsRow, standIns := [], harness := (true, "1f37b788660d7fbf37ff98784d982f9f649677512ceed966d1ca919c380bf84f"), looks := false }, kinds := [], alts := [], laidByText := true, laidKinds := [.data, .widerDeep, .pinned], laidTests := true, laidLooks := .later }
def ReorganizeStepsCardSaid : Prop := Claim7.holds Tryz.pinned (.plain (OpenSpec.ofChange reorganizeStepsSpec)) reorganizeStepsCard

/-- THE SECOND FORM's CARD OF 'dasdlaw29.ReorganizeSteps'. -/
def reorganizeStepsUptoCard : Claim7 := { stood := { row := reorganizeStepsUptoRow, standIns := [], harness := (true, "1f37b788660d7fbf37ff98784d982f9f649677512ceed966d1ca919c380bf84f"), looks := false }, kinds := [], alts := [], laidByText := true, laidKinds := [.data, .widerDeep, .pinned], laidTests := true, laidLooks := .later }
def ReorganizeStepsUptoCardSaid : Prop := Claim7.holds Tryz.pinned (.plain (OpenSpec.upto reorganizeStepsSpec)) reorganizeStepsUptoCard
end Rows
end Go.Proofs.YtmnpappbacndlaaGreatDoor
