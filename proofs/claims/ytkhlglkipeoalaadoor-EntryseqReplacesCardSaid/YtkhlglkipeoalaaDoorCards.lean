/-
  DERIVED. GIVEN WITH THE SEED: THE CARDS: each row of YtkhlglkipeoalaaDoorRows.lean that lists a variable, with what it lists TIED to the program's text (the seventh form; the later family's looks); each row that meets fmt, with fmt's text TOLD by the authors' own Lean function (tested against real Go, not proved from fmt's source: count such statements apart). THE CARD IS WHAT COUNTS. Prove the row's statement (the work); the ties are given (YtkhlglkipeoalaaDoorTie.lean); close each card by the builder's one call (the guide's Derived/Test/ToyasCard.lean, 'card_holds'). Laid BY PROGRAM, IN A SANDBOX (cutbox-door.mjs). By AI agents, Wed Nov 11 2026. No macro, syntax, notation, axiom, sorry.
-/
import Derived.Test.YtkhlglkipeoalaaDoorRows
import GoSem.ClaimSeven
namespace Go.Proofs.YtkhlglkipeoalaaDoor
namespace Rows

/-- THE TIED CARD OF 'dasdlaw18.EntryseqAppends'. -/
def entryseqAppendsCard : Claim7 := { stood := { row := entryseqAppendsRow, standIns := [], harness := (true, "9cda54935a3d2e0e89bf8e4f9a4409c55aaa22c5c23df04a163ab382f208d615"), looks := false }, kinds := [], alts := [], laidByText := true, laidKinds := [.data, .pinned], laidTests := true, laidLooks := .later }
def EntryseqAppendsCardSaid : Prop := Claim7.holds Tryd.pinned (.plain (OpenSpec.ofChange entryseqAppendsSpec)) entryseqAppendsCard

/-- THE TIED CARD OF 'dasdlaw18.EntryseqPlaces'. -/
def entryseqPlacesCard : Claim7 := { stood := { row := entryseqPlacesRow, standIns := [], harness := (true, "9cda54935a3d2e0e89bf8e4f9a4409c55aaa22c5c23df04a163ab382f208d615"), looks := false }, kinds := [], alts := [], laidByText := true, laidKinds := [.data, .pinned], laidTests := true, laidLooks := .later }
def EntryseqPlacesCardSaid : Prop := Claim7.holds Tryd.pinned (.plain (OpenSpec.ofChange entryseqPlacesSpec)) entryseqPlacesCard

/-- THE TIED CARD OF 'dasdlaw18.EntryseqWrites'. -/
def entryseqWritesCard : Claim7 := { stood := { row := entryseqWritesRow, standIns := [], harness := (true, "9cda54935a3d2e0e89bf8e4f9a4409c55aaa22c5c23df04a163ab382f208d615"), looks := false }, kinds := [], alts := [], laidByText := true, laidKinds := [.data, .pinned], laidTests := true, laidLooks := .later }
def EntryseqWritesCardSaid : Prop := Claim7.holds Tryd.pinned (.plain (OpenSpec.ofChange entryseqWritesSpec)) entryseqWritesCard

/-- THE TIED CARD OF 'dasdlaw18.EntryseqKeeps'. -/
def entryseqKeepsCard : Claim7 := { stood := { row := entryseqKeepsRow, standIns := [], harness := (true, "9cda54935a3d2e0e89bf8e4f9a4409c55aaa22c5c23df04a163ab382f208d615"), looks := false }, kinds := [], alts := [], laidByText := true, laidKinds := [.data, .pinned], laidTests := true, laidLooks := .later }
def EntryseqKeepsCardSaid : Prop := Claim7.holds Tryd.pinned (.plain (OpenSpec.ofChange entryseqKeepsSpec)) entryseqKeepsCard

/-- THE TIED CARD OF 'dasdlaw18.EntryseqReplaces'. -/
def entryseqReplacesCard : Claim7 := { stood := { row := entryseqReplacesRow, standIns := [], harness := (true, "9cda54935a3d2e0e89bf8e4f9a4409c55aaa22c5c23df04a163ab382f208d615"), looks := false }, kinds := [], alts := [], laidByText := true, laidKinds := [.data, .pinned], laidTests := true, laidLooks := .later }
def EntryseqReplacesCardSaid : Prop := Claim7.holds Tryd.pinned (.plain (OpenSpec.ofChange entryseqReplacesSpec)) entryseqReplacesCard

/-- THE TIED CARD OF 'dasdlaw18.EntryseqReads'. -/
def entryseqReadsCard : Claim7 := { stood := { row := entryseqReadsRow, standIns := [], harness := (true, "9cda54935a3d2e0e89bf8e4f9a4409c55aaa22c5c23df04a163ab382f208d615"), looks := false }, kinds := [], alts := [], laidByText := true, laidKinds := [.data, .pinned], laidTests := true, laidLooks := .later }
def EntryseqReadsCardSaid : Prop := Claim7.holds Tryd.pinned (.plain (OpenSpec.ofChange entryseqReadsSpec)) entryseqReadsCard

/-- THE TIED CARD OF 'dasdlaw18.EntryseqOrder'. -/
def entryseqOrderCard : Claim7 := { stood := { row := entryseqOrderRow, standIns := [], harness := (true, "9cda54935a3d2e0e89bf8e4f9a4409c55aaa22c5c23df04a163ab382f208d615"), looks := false }, kinds := [], alts := [], laidByText := true, laidKinds := [.data, .pinned], laidTests := true, laidLooks := .later }
def EntryseqOrderCardSaid : Prop := Claim7.holds Tryd.pinned (.plain (OpenSpec.ofChange entryseqOrderSpec)) entryseqOrderCard

/-- THE SECOND FORM's CARD OF 'dasdlaw18.EntryseqAppends'. -/
def entryseqAppendsUptoCard : Claim7 := { stood := { row := entryseqAppendsUptoRow, standIns := [], harness := (true, "9cda54935a3d2e0e89bf8e4f9a4409c55aaa22c5c23df04a163ab382f208d615"), looks := false }, kinds := [], alts := [], laidByText := true, laidKinds := [.data, .pinned], laidTests := true, laidLooks := .later }
def EntryseqAppendsUptoCardSaid : Prop := Claim7.holds Tryd.pinned (.plain (OpenSpec.upto entryseqAppendsSpec)) entryseqAppendsUptoCard

/-- THE SECOND FORM's CARD OF 'dasdlaw18.EntryseqPlaces'. -/
def entryseqPlacesUptoCard : Claim7 := { stood := { row := entryseqPlacesUptoRow, standIns := [], harness := (true, "9cda54935a3d2e0e89bf8e4f9a4409c55aaa22c5c23df04a163ab382f208d615"), looks := false }, kinds := [], alts := [], laidByText := true, laidKinds := [.data, .pinned], laidTests := true, laidLooks := .later }
def EntryseqPlacesUptoCardSaid : Prop := Claim7.holds Tryd.pinned (.plain (OpenSpec.upto entryseqPlacesSpec)) entryseqPlacesUptoCard

/-- THE SECOND FORM's CARD OF 'dasdlaw18.EntryseqWrites'. -/
def entryseqWritesUptoCard : Claim7 := { stood := { row := entryseqWritesUptoRow, standIns := [], harness := (true, "9cda54935a3d2e0e89bf8e4f9a4409c55aaa22c5c23df04a163ab382f208d615"), looks := false }, kinds := [], alts := [], laidByText := true, laidKinds := [.data, .pinned], laidTests := true, laidLooks := .later }
def EntryseqWritesUptoCardSaid : Prop := Claim7.holds Tryd.pinned (.plain (OpenSpec.upto entryseqWritesSpec)) entryseqWritesUptoCard

/-- THE SECOND FORM's CARD OF 'dasdlaw18.EntryseqKeeps'. -/
def entryseqKeepsUptoCard : Claim7 := { stood := { row := entryseqKeepsUptoRow, standIns := [], harness := (true, "9cda54935a3d2e0e89bf8e4f9a4409c55aaa22c5c23df04a163ab382f208d615"), looks := false }, kinds := [], alts := [], laidByText := true, laidKinds := [.data, .pinned], laidTests := true, laidLooks := .later }
def EntryseqKeepsUptoCardSaid : Prop := Claim7.holds Tryd.pinned (.plain (OpenSpec.upto entryseqKeepsSpec)) entryseqKeepsUptoCard

/-- THE SECOND FORM's CARD OF 'dasdlaw18.EntryseqReplaces'. -/
def entryseqReplacesUptoCard : Claim7 := { stood := { row := entryseqReplacesUptoRow, standIns := [], harness := (true, "9cda54935a3d2e0e89bf8e4f9a4409c55aaa22c5c23df04a163ab382f208d615"), looks := false }, kinds := [], alts := [], laidByText := true, laidKinds := [.data, .pinned], laidTests := true, laidLooks := .later }
def EntryseqReplacesUptoCardSaid : Prop := Claim7.holds Tryd.pinned (.plain (OpenSpec.upto entryseqReplacesSpec)) entryseqReplacesUptoCard

/-- THE SECOND FORM's CARD OF 'dasdlaw18.EntryseqReads'. -/
def entryseqReadsUptoCard : Claim7 := { stood := { row := entryseqReadsUptoRow, standIns := [], harness := (true, "9cda54935a3d2e0e89bf8e4f9a4409c55aaa22c5c23df04a163ab382f208d615"), looks := false }, kinds := [], alts := [], laidByText := true, laidKinds := [.data, .pinned], laidTests := true, laidLooks := .later }
def EntryseqReadsUptoCardSaid : Prop := Claim7.holds Tryd.pinned (.plain (OpenSpec.upto entryseqReadsSpec)) entryseqReadsUptoCard

/-- THE SECOND FORM's CARD OF 'dasdlaw18.EntryseqOrder'. -/
def entryseqOrderUptoCard : Claim7 := { stood := { row := entryseqOrderUptoRow, standIns := [], harness := (true, "9cda54935a3d2e0e89bf8e4f9a4409c55aaa22c5c23df04a163ab382f208d615"), looks := false }, kinds := [], alts := [], laidByText := true, laidKinds := [.data, .pinned], laidTests := true, laidLooks := .later }
def EntryseqOrderUptoCardSaid : Prop := Claim7.holds Tryd.pinned (.plain (OpenSpec.upto entryseqOrderSpec)) entryseqOrderUptoCard
end Rows
end Go.Proofs.YtkhlglkipeoalaaDoor
