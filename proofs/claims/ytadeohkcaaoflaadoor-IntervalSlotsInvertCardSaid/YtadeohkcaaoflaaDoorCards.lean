/-
  DERIVED. GIVEN WITH THE SEED: THE CARDS: each row of YtadeohkcaaoflaaDoorRows.lean that lists a variable, with what it lists TIED to the program's text (the seventh form; the later family's looks); each row that meets fmt, with fmt's text TOLD by the authors' own Lean function (tested against real Go, not proved from fmt's source: count such statements apart). THE CARD IS WHAT COUNTS. Prove the row's statement (the work); the ties are given (YtadeohkcaaoflaaDoorTie.lean); close each card by the builder's one call (the guide's Derived/Test/ToyasCard.lean, 'card_holds'). Laid BY PROGRAM, IN A SANDBOX (cutbox-door.mjs). By AI agents, Wed Nov 11 2026. No macro, syntax, notation, axiom, sorry.
-/
import Derived.Test.YtadeohkcaaoflaaDoorRows
import GoSem.ClaimSeven
namespace Go.Proofs.YtadeohkcaaoflaaDoor
namespace Rows

/-- THE TIED CARD OF 'dasdlaw17.IntervalDecodes'. -/
def intervalDecodesCard : Claim7 := { stood := { row := intervalDecodesRow, standIns := [], harness := (true, "db09f5c10a0bbf8917f3ef35a4c5875e116d3f614e643247c981f4d08a106e78"), looks := false }, kinds := [], alts := [], laidByText := true, laidKinds := [.data, .pinned], laidTests := true, laidLooks := .later }
def IntervalDecodesCardSaid : Prop := Claim7.holds Tryd.pinned (.plain (OpenSpec.ofChange intervalDecodesSpec)) intervalDecodesCard

/-- THE TIED CARD OF 'dasdlaw17.IntervalStrict'. -/
def intervalStrictCard : Claim7 := { stood := { row := intervalStrictRow, standIns := [], harness := (true, "db09f5c10a0bbf8917f3ef35a4c5875e116d3f614e643247c981f4d08a106e78"), looks := false }, kinds := [], alts := [], laidByText := true, laidKinds := [.data, .pinned], laidTests := true, laidLooks := .later }
def IntervalStrictCardSaid : Prop := Claim7.holds Tryd.pinned (.plain (OpenSpec.ofChange intervalStrictSpec)) intervalStrictCard

/-- THE TIED CARD OF 'dasdlaw17.IntervalEncodes'. -/
def intervalEncodesCard : Claim7 := { stood := { row := intervalEncodesRow, standIns := [], harness := (true, "db09f5c10a0bbf8917f3ef35a4c5875e116d3f614e643247c981f4d08a106e78"), looks := false }, kinds := [], alts := [], laidByText := true, laidKinds := [.data, .pinned], laidTests := true, laidLooks := .later }
def IntervalEncodesCardSaid : Prop := Claim7.holds Tryd.pinned (.plain (OpenSpec.ofChange intervalEncodesSpec)) intervalEncodesCard

/-- THE TIED CARD OF 'dasdlaw17.IntervalInverts'. -/
def intervalInvertsCard : Claim7 := { stood := { row := intervalInvertsRow, standIns := [], harness := (true, "db09f5c10a0bbf8917f3ef35a4c5875e116d3f614e643247c981f4d08a106e78"), looks := false }, kinds := [], alts := [], laidByText := true, laidKinds := [.data, .pinned], laidTests := true, laidLooks := .later }
def IntervalInvertsCardSaid : Prop := Claim7.holds Tryd.pinned (.plain (OpenSpec.ofChange intervalInvertsSpec)) intervalInvertsCard

/-- THE TIED CARD OF 'dasdlaw17.IntervalShrinks'. -/
def intervalShrinksCard : Claim7 := { stood := { row := intervalShrinksRow, standIns := [], harness := (true, "db09f5c10a0bbf8917f3ef35a4c5875e116d3f614e643247c981f4d08a106e78"), looks := false }, kinds := [], alts := [], laidByText := true, laidKinds := [.data, .pinned], laidTests := true, laidLooks := .later }
def IntervalShrinksCardSaid : Prop := Claim7.holds Tryd.pinned (.plain (OpenSpec.ofChange intervalShrinksSpec)) intervalShrinksCard

/-- THE TIED CARD OF 'dasdlaw17.IntervalSlots'. -/
def intervalSlotsCard : Claim7 := { stood := { row := intervalSlotsRow, standIns := [], harness := (true, "db09f5c10a0bbf8917f3ef35a4c5875e116d3f614e643247c981f4d08a106e78"), looks := false }, kinds := [], alts := [], laidByText := true, laidKinds := [.data, .pinned], laidTests := true, laidLooks := .later }
def IntervalSlotsCardSaid : Prop := Claim7.holds Tryd.pinned (.plain (OpenSpec.ofChange intervalSlotsSpec)) intervalSlotsCard

/-- THE TIED CARD OF 'dasdlaw17.IntervalSlotsInvert'. -/
def intervalSlotsInvertCard : Claim7 := { stood := { row := intervalSlotsInvertRow, standIns := [], harness := (true, "db09f5c10a0bbf8917f3ef35a4c5875e116d3f614e643247c981f4d08a106e78"), looks := false }, kinds := [], alts := [], laidByText := true, laidKinds := [.data, .pinned], laidTests := true, laidLooks := .later }
def IntervalSlotsInvertCardSaid : Prop := Claim7.holds Tryd.pinned (.plain (OpenSpec.ofChange intervalSlotsInvertSpec)) intervalSlotsInvertCard

/-- THE SECOND FORM's CARD OF 'dasdlaw17.IntervalDecodes'. -/
def intervalDecodesUptoCard : Claim7 := { stood := { row := intervalDecodesUptoRow, standIns := [], harness := (true, "db09f5c10a0bbf8917f3ef35a4c5875e116d3f614e643247c981f4d08a106e78"), looks := false }, kinds := [], alts := [], laidByText := true, laidKinds := [.data, .pinned], laidTests := true, laidLooks := .later }
def IntervalDecodesUptoCardSaid : Prop := Claim7.holds Tryd.pinned (.plain (OpenSpec.upto intervalDecodesSpec)) intervalDecodesUptoCard

/-- THE SECOND FORM's CARD OF 'dasdlaw17.IntervalStrict'. -/
def intervalStrictUptoCard : Claim7 := { stood := { row := intervalStrictUptoRow, standIns := [], harness := (true, "db09f5c10a0bbf8917f3ef35a4c5875e116d3f614e643247c981f4d08a106e78"), looks := false }, kinds := [], alts := [], laidByText := true, laidKinds := [.data, .pinned], laidTests := true, laidLooks := .later }
def IntervalStrictUptoCardSaid : Prop := Claim7.holds Tryd.pinned (.plain (OpenSpec.upto intervalStrictSpec)) intervalStrictUptoCard

/-- THE SECOND FORM's CARD OF 'dasdlaw17.IntervalEncodes'. -/
def intervalEncodesUptoCard : Claim7 := { stood := { row := intervalEncodesUptoRow, standIns := [], harness := (true, "db09f5c10a0bbf8917f3ef35a4c5875e116d3f614e643247c981f4d08a106e78"), looks := false }, kinds := [], alts := [], laidByText := true, laidKinds := [.data, .pinned], laidTests := true, laidLooks := .later }
def IntervalEncodesUptoCardSaid : Prop := Claim7.holds Tryd.pinned (.plain (OpenSpec.upto intervalEncodesSpec)) intervalEncodesUptoCard

/-- THE SECOND FORM's CARD OF 'dasdlaw17.IntervalInverts'. -/
def intervalInvertsUptoCard : Claim7 := { stood := { row := intervalInvertsUptoRow, standIns := [], harness := (true, "db09f5c10a0bbf8917f3ef35a4c5875e116d3f614e643247c981f4d08a106e78"), looks := false }, kinds := [], alts := [], laidByText := true, laidKinds := [.data, .pinned], laidTests := true, laidLooks := .later }
def IntervalInvertsUptoCardSaid : Prop := Claim7.holds Tryd.pinned (.plain (OpenSpec.upto intervalInvertsSpec)) intervalInvertsUptoCard

/-- THE SECOND FORM's CARD OF 'dasdlaw17.IntervalShrinks'. -/
def intervalShrinksUptoCard : Claim7 := { stood := { row := intervalShrinksUptoRow, standIns := [], harness := (true, "db09f5c10a0bbf8917f3ef35a4c5875e116d3f614e643247c981f4d08a106e78"), looks := false }, kinds := [], alts := [], laidByText := true, laidKinds := [.data, .pinned], laidTests := true, laidLooks := .later }
def IntervalShrinksUptoCardSaid : Prop := Claim7.holds Tryd.pinned (.plain (OpenSpec.upto intervalShrinksSpec)) intervalShrinksUptoCard

/-- THE SECOND FORM's CARD OF 'dasdlaw17.IntervalSlots'. -/
def intervalSlotsUptoCard : Claim7 := { stood := { row := intervalSlotsUptoRow, standIns := [], harness := (true, "db09f5c10a0bbf8917f3ef35a4c5875e116d3f614e643247c981f4d08a106e78"), looks := false }, kinds := [], alts := [], laidByText := true, laidKinds := [.data, .pinned], laidTests := true, laidLooks := .later }
def IntervalSlotsUptoCardSaid : Prop := Claim7.holds Tryd.pinned (.plain (OpenSpec.upto intervalSlotsSpec)) intervalSlotsUptoCard

/-- THE SECOND FORM's CARD OF 'dasdlaw17.IntervalSlotsInvert'. -/
def intervalSlotsInvertUptoCard : Claim7 := { stood := { row := intervalSlotsInvertUptoRow, standIns := [], harness := (true, "db09f5c10a0bbf8917f3ef35a4c5875e116d3f614e643247c981f4d08a106e78"), looks := false }, kinds := [], alts := [], laidByText := true, laidKinds := [.data, .pinned], laidTests := true, laidLooks := .later }
def IntervalSlotsInvertUptoCardSaid : Prop := Claim7.holds Tryd.pinned (.plain (OpenSpec.upto intervalSlotsInvertSpec)) intervalSlotsInvertUptoCard
end Rows
end Go.Proofs.YtadeohkcaaoflaaDoor
