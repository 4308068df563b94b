/-
  DERIVED. GIVEN WITH THE SEED: THE CARDS: each row of YtjgdhlpnpihkdaaDoorRows.lean that lists a variable, with what it lists TIED to the program's text (the seventh form; the later family's looks); each row that meets fmt, with fmt's text TOLD by the authors' own Lean function (tested against real Go, not proved from fmt's source: count such statements apart). THE CARD IS WHAT COUNTS. Prove the row's statement (the work); the ties are given (YtjgdhlpnpihkdaaDoorTie.lean); close each card by the builder's one call (the guide's Derived/Test/ToyasCard.lean, 'card_holds'). Laid BY PROGRAM, IN A SANDBOX (cutbox-door.mjs). By AI agents, Wed Nov 11 2026. No macro, syntax, notation, axiom, sorry.
-/
import Derived.Test.YtjgdhlpnpihkdaaDoorRows
import GoSem.ClaimSeven
namespace Go.Proofs.YtjgdhlpnpihkdaaDoor
namespace Rows

/-- THE TIED CARD OF 'dasdlaw18.EntryseqWrites'. -/
def entryseqWritesCard : Claim7 := { stood := { row := entryseqWritesRow, standIns := [], harness := (true, "76892f4fd8b8711d681d2f1f131eeccaf550586b6640e58e9276c6c88b43d3b5"), looks := false }, kinds := [], alts := [], laidByText := true, laidKinds := [.data, .pinned], laidTests := true, laidLooks := .later }
def EntryseqWritesCardSaid : Prop := Claim7.holds Tryd.pinned (.plain (OpenSpec.ofChange entryseqWritesSpec)) entryseqWritesCard

/-- THE TIED CARD OF 'dasdlaw18.EntryseqReplaces'. -/
def entryseqReplacesCard : Claim7 := { stood := { row := entryseqReplacesRow, standIns := [], harness := (true, "76892f4fd8b8711d681d2f1f131eeccaf550586b6640e58e9276c6c88b43d3b5"), looks := false }, kinds := [], alts := [], laidByText := true, laidKinds := [.data, .pinned], laidTests := true, laidLooks := .later }
def EntryseqReplacesCardSaid : Prop := Claim7.holds Tryd.pinned (.plain (OpenSpec.ofChange entryseqReplacesSpec)) entryseqReplacesCard

/-- THE TIED CARD OF 'dasdlaw18.EntryseqReads'. -/
def entryseqReadsCard : Claim7 := { stood := { row := entryseqReadsRow, standIns := [], harness := (true, "76892f4fd8b8711d681d2f1f131eeccaf550586b6640e58e9276c6c88b43d3b5"), looks := false }, kinds := [], alts := [], laidByText := true, laidKinds := [.data, .pinned], laidTests := true, laidLooks := .later }
def EntryseqReadsCardSaid : Prop := Claim7.holds Tryd.pinned (.plain (OpenSpec.ofChange entryseqReadsSpec)) entryseqReadsCard

/-- THE TIED CARD OF 'dasdlaw19.RelativeReach'. -/
def relativeReachCard : Claim7 := { stood := { row := relativeReachRow, standIns := [], harness := (true, "76892f4fd8b8711d681d2f1f131eeccaf550586b6640e58e9276c6c88b43d3b5"), looks := false }, kinds := [], alts := [], laidByText := true, laidKinds := [.data, .pinned], laidTests := true, laidLooks := .later }
def RelativeReachCardSaid : Prop := Claim7.holds Tryd.pinned (.plain (OpenSpec.ofChange relativeReachSpec)) relativeReachCard

/-- THE TIED CARD OF 'dasdlaw19.RelativeSteps'. -/
def relativeStepsCard : Claim7 := { stood := { row := relativeStepsRow, standIns := [], harness := (true, "76892f4fd8b8711d681d2f1f131eeccaf550586b6640e58e9276c6c88b43d3b5"), looks := false }, kinds := [], alts := [], laidByText := true, laidKinds := [.data, .pinned], laidTests := true, laidLooks := .later }
def RelativeStepsCardSaid : Prop := Claim7.holds Tryd.pinned (.plain (OpenSpec.ofChange relativeStepsSpec)) relativeStepsCard

/-- THE TIED CARD OF 'dasdlaw19.RelativeWrites'. -/
def relativeWritesCard : Claim7 := { stood := { row := relativeWritesRow, standIns := [], harness := (true, "76892f4fd8b8711d681d2f1f131eeccaf550586b6640e58e9276c6c88b43d3b5"), looks := false }, kinds := [], alts := [], laidByText := true, laidKinds := [.data, .pinned], laidTests := true, laidLooks := .later }
def RelativeWritesCardSaid : Prop := Claim7.holds Tryd.pinned (.plain (OpenSpec.ofChange relativeWritesSpec)) relativeWritesCard

/-- THE TIED CARD OF 'dasdlaw19.RelativeOthers'. -/
def relativeOthersCard : Claim7 := { stood := { row := relativeOthersRow, standIns := [], harness := (true, "76892f4fd8b8711d681d2f1f131eeccaf550586b6640e58e9276c6c88b43d3b5"), looks := false }, kinds := [], alts := [], laidByText := true, laidKinds := [.data, .pinned], laidTests := true, laidLooks := .later }
def RelativeOthersCardSaid : Prop := Claim7.holds Tryd.pinned (.plain (OpenSpec.ofChange relativeOthersSpec)) relativeOthersCard

/-- THE TIED CARD OF 'dasdlaw19.RelativeOrder'. -/
def relativeOrderCard : Claim7 := { stood := { row := relativeOrderRow, standIns := [], harness := (true, "76892f4fd8b8711d681d2f1f131eeccaf550586b6640e58e9276c6c88b43d3b5"), looks := false }, kinds := [], alts := [], laidByText := true, laidKinds := [.data, .pinned], laidTests := true, laidLooks := .later }
def RelativeOrderCardSaid : Prop := Claim7.holds Tryd.pinned (.plain (OpenSpec.ofChange relativeOrderSpec)) relativeOrderCard

/-- THE TIED CARD OF 'dasdlaw19.RelativeKeeps'. -/
def relativeKeepsCard : Claim7 := { stood := { row := relativeKeepsRow, standIns := [], harness := (true, "76892f4fd8b8711d681d2f1f131eeccaf550586b6640e58e9276c6c88b43d3b5"), looks := false }, kinds := [], alts := [], laidByText := true, laidKinds := [.data, .pinned], laidTests := true, laidLooks := .later }
def RelativeKeepsCardSaid : Prop := Claim7.holds Tryd.pinned (.plain (OpenSpec.ofChange relativeKeepsSpec)) relativeKeepsCard

/-- THE SECOND FORM's CARD OF 'dasdlaw18.EntryseqWrites'. -/
def entryseqWritesUptoCard : Claim7 := { stood := { row := entryseqWritesUptoRow, standIns := [], harness := (true, "76892f4fd8b8711d681d2f1f131eeccaf550586b6640e58e9276c6c88b43d3b5"), looks := false }, kinds := [], alts := [], laidByText := true, laidKinds := [.data, .pinned], laidTests := true, laidLooks := .later }
def EntryseqWritesUptoCardSaid : Prop := Claim7.holds Tryd.pinned (.plain (OpenSpec.upto entryseqWritesSpec)) entryseqWritesUptoCard

/-- THE SECOND FORM's CARD OF 'dasdlaw18.EntryseqReplaces'. -/
def entryseqReplacesUptoCard : Claim7 := { stood := { row := entryseqReplacesUptoRow, standIns := [], harness := (true, "76892f4fd8b8711d681d2f1f131eeccaf550586b6640e58e9276c6c88b43d3b5"), looks := false }, kinds := [], alts := [], laidByText := true, laidKinds := [.data, .pinned], laidTests := true, laidLooks := .later }
def EntryseqReplacesUptoCardSaid : Prop := Claim7.holds Tryd.pinned (.plain (OpenSpec.upto entryseqReplacesSpec)) entryseqReplacesUptoCard

/-- THE SECOND FORM's CARD OF 'dasdlaw18.EntryseqReads'. -/
def entryseqReadsUptoCard : Claim7 := { stood := { row := entryseqReadsUptoRow, standIns := [], harness := (true, "76892f4fd8b8711d681d2f1f131eeccaf550586b6640e58e9276c6c88b43d3b5"), looks := false }, kinds := [], alts := [], laidByText := true, laidKinds := [.data, .pinned], laidTests := true, laidLooks := .later }
def EntryseqReadsUptoCardSaid : Prop := Claim7.holds Tryd.pinned (.plain (OpenSpec.upto entryseqReadsSpec)) entryseqReadsUptoCard

/-- THE SECOND FORM's CARD OF 'dasdlaw19.RelativeReach'. -/
def relativeReachUptoCard : Claim7 := { stood := { row := relativeReachUptoRow, standIns := [], harness := (true, "76892f4fd8b8711d681d2f1f131eeccaf550586b6640e58e9276c6c88b43d3b5"), looks := false }, kinds := [], alts := [], laidByText := true, laidKinds := [.data, .pinned], laidTests := true, laidLooks := .later }
def RelativeReachUptoCardSaid : Prop := Claim7.holds Tryd.pinned (.plain (OpenSpec.upto relativeReachSpec)) relativeReachUptoCard

/-- THE SECOND FORM's CARD OF 'dasdlaw19.RelativeSteps'. -/
def relativeStepsUptoCard : Claim7 := { stood := { row := relativeStepsUptoRow, standIns := [], harness := (true, "76892f4fd8b8711d681d2f1f131eeccaf550586b6640e58e9276c6c88b43d3b5"), looks := false }, kinds := [], alts := [], laidByText := true, laidKinds := [.data, .pinned], laidTests := true, laidLooks := .later }
def RelativeStepsUptoCardSaid : Prop := Claim7.holds Tryd.pinned (.plain (OpenSpec.upto relativeStepsSpec)) relativeStepsUptoCard

/-- THE SECOND FORM's CARD OF 'dasdlaw19.RelativeWrites'. -/
def relativeWritesUptoCard : Claim7 := { stood := { row := relativeWritesUptoRow, standIns := [], harness := (true, "76892f4fd8b8711d681d2f1f131eeccaf550586b6640e58e9276c6c88b43d3b5"), looks := false }, kinds := [], alts := [], laidByText := true, laidKinds := [.data, .pinned], laidTests := true, laidLooks := .later }
def RelativeWritesUptoCardSaid : Prop := Claim7.holds Tryd.pinned (.plain (OpenSpec.upto relativeWritesSpec)) relativeWritesUptoCard

/-- THE SECOND FORM's CARD OF 'dasdlaw19.RelativeOthers'. -/
def relativeOthersUptoCard : Claim7 := { stood := { row := relativeOthersUptoRow, standIns := [], harness := (true, "76892f4fd8b8711d681d2f1f131eeccaf550586b6640e58e9276c6c88b43d3b5"), looks := false }, kinds := [], alts := [], laidByText := true, laidKinds := [.data, .pinned], laidTests := true, laidLooks := .later }
def RelativeOthersUptoCardSaid : Prop := Claim7.holds Tryd.pinned (.plain (OpenSpec.upto relativeOthersSpec)) relativeOthersUptoCard

/-- THE SECOND FORM's CARD OF 'dasdlaw19.RelativeOrder'. -/
def relativeOrderUptoCard : Claim7 := { stood := { row := relativeOrderUptoRow, standIns := [], harness := (true, "76892f4fd8b8711d681d2f1f131eeccaf550586b6640e58e9276c6c88b43d3b5"), looks := false }, kinds := [], alts := [], laidByText := true, laidKinds := [.data, .pinned], laidTests := true, laidLooks := .later }
def RelativeOrderUptoCardSaid : Prop := Claim7.holds Tryd.pinned (.plain (OpenSpec.upto relativeOrderSpec)) relativeOrderUptoCard

/-- THE SECOND FORM's CARD OF 'dasdlaw19.RelativeKeeps'. -/
def relativeKeepsUptoCard : Claim7 := { stood := { row := relativeKeepsUptoRow, standIns := [], harness := (true, "76892f4fd8b8711d681d2f1f131eeccaf550586b6640e58e9276c6c88b43d3b5"), looks := false }, kinds := [], alts := [], laidByText := true, laidKinds := [.data, .pinned], laidTests := true, laidLooks := .later }
def RelativeKeepsUptoCardSaid : Prop := Claim7.holds Tryd.pinned (.plain (OpenSpec.upto relativeKeepsSpec)) relativeKeepsUptoCard
end Rows
end Go.Proofs.YtjgdhlpnpihkdaaDoor
