/-
  NARROWER THAN 'FOR EVERY INPUT', by the rows' own cells (each row's printed sentence says how): IntervalDecodes: laid · IntervalStrict: laid · IntervalEncodes: laid · IntervalInverts: laid · IntervalShrinks: laid · IntervalSlots: laid · IntervalSlotsInvert: laid.
  DERIVED. THE GIVEN ROWS OF THIS SEAT. 7 by the template 'for every input the law returns true; each argument reads behind the call as it read before'; 0 by the template 'total and deterministic' (their statements: YtadeohkcaaoflaaDoorTotals.lean).
  GIVEN WITH THE SEED: the statements are not yours to turn. If you find one false, say at which input.
  Laid BY PROGRAM, IN A SANDBOX (cutbox-rows.mjs): the forced cells as the released guide's own fill.sh prints them over the translation 69d771de2a25ec6b… (all of the seat's roots in one cut). By AI agents, Wed Nov 11 2026. No macro, syntax, notation, axiom, sorry.
-/
import Derived.Test.YtadeohkcaaoflaaDoorChecked
import GoSem.PinnedTables
import GoSem.Claim
import GoSem.ClaimJoined
import GoSem.ClaimMapViews
import Derived.JoinedTies
import Derived.KernelRfl
namespace Go.Proofs.YtadeohkcaaoflaaDoor
/- THE CELL 'sum', in the pinned program and in every row, IS THE sha256 OF THE DUMP (.gsa) THAT YtadeohkcaaoflaaDoorProg.lean LOADS. Nothing in Lean hashes anything: it is a label: what it is worth is what the hold of that sum in a sandbox is worth. -/
noncomputable def Tryd.pinned : Pinned := { name := "ytadeohkcaaoflaadoor", sum := "69d771de2a25ec6b3ce8f840c9b4bff94c2c28a3d0c4ed076860e345ed2e0c13", checked := Tryd.checked }
namespace Rows
def none {H : Type} : Left H := { results := [], args := [] }

/- WHAT THE LISTED PACKAGE-LEVEL VARIABLES READ AS WHEN THE CALL BEGINS. Each datum BY PROGRAM (the guide's laid-datum.mjs) off the statement by which the dump's own 'gosem.cut.vars' lays the variable. In a bare row this is a premise. The card (YtadeohkcaaoflaaDoorCards.lean) ties it to the program's text. -/
def laid_unicode_utf8_acceptRanges {H : Type} : DataW H := .agg [.agg [.lit (.int .u8 128), .lit (.int .u8 191)], .agg [.lit (.int .u8 160), .lit (.int .u8 191)], .agg [.lit (.int .u8 128), .lit (.int .u8 159)], .agg [.lit (.int .u8 144), .lit (.int .u8 191)], .agg [.lit (.int .u8 128), .lit (.int .u8 143)], .agg [.lit (.int .u8 0), .lit (.int .u8 0)], .agg [.lit (.int .u8 0), .lit (.int .u8 0)], .agg [.lit (.int .u8 0), .lit (.int .u8 0)], .agg [.lit (.int .u8 0), .lit (.int .u8 0)], .agg [.lit (.int .u8 0), .lit (.int .u8 0)], .agg [.lit (.int .u8 0), .lit (.int .u8 0)], .agg [.lit (.int .u8 0), .lit (.int .u8 0)], .agg [.lit (.int .u8 0), .lit (.int .u8 0)], .agg [.lit (.int .u8 0), .lit (.int .u8 0)], .agg [.lit (.int .u8 0), .lit (.int .u8 0)], .agg [.lit (.int .u8 0), .lit (.int .u8 0)]]
/-- One of Go's own tables, pinned by name: the form's constant. -/
def laid_unicode_utf8_first : DataW Unit := Go.Pinned.utf8First

/-- 'dasdlaw17.IntervalDecodes': WHATEVER THE INPUT: true; the input reads as it did. -/
def intervalDecodesSpec : ChangeSpec := { name := "intervalDecodes", fn := fun _ => fun
  | [d1, d2] => { results := [.lit (.bool true)], args := [d1, d2] }
  | _ => none }
def intervalDecodesRow : OpenClaim := { program := "ytadeohkcaaoflaadoor", sum := "69d771de2a25ec6b3ce8f840c9b4bff94c2c28a3d0c4ed076860e345ed2e0c13", func := "dasd/dasdlaw17.IntervalDecodes", spec := "intervalDecodes", inPlace := ["internal/bytealg.IndexByteString", "internal/bytealg.IndexString"], unfollowed := true, recurses := true, named := ["unicode/utf8.first", "unicode/utf8.acceptRanges", "internal/bytealg.MaxLen"], apart := false, laid := [("unicode/utf8.acceptRanges", laid_unicode_utf8_acceptRanges), ("unicode/utf8.first", laid_unicode_utf8_first)] }
def IntervalDecodesSaid : Prop := intervalDecodesRow.holds Tryd.pinned (OpenSpec.ofChange intervalDecodesSpec)

/-- ITS FALSE NEIGHBOUR: 'it returns false'. Refute it at one input. -/
def intervalDecodesWrong : ChangeSpec := { name := "intervalDecodes", fn := fun _ => fun
  | [d1, d2] => { results := [.lit (.bool false)], args := [d1, d2] }
  | _ => none }
def IntervalDecodesWrongFalsely : Prop := intervalDecodesRow.holds Tryd.pinned (OpenSpec.ofChange intervalDecodesWrong)

/-- 'dasdlaw17.IntervalStrict': WHATEVER THE INPUT: true; the input reads as it did. -/
def intervalStrictSpec : ChangeSpec := { name := "intervalStrict", fn := fun _ => fun
  | [d1, d2, d3, d4] => { results := [.lit (.bool true)], args := [d1, d2, d3, d4] }
  | _ => none }
def intervalStrictRow : OpenClaim := { program := "ytadeohkcaaoflaadoor", sum := "69d771de2a25ec6b3ce8f840c9b4bff94c2c28a3d0c4ed076860e345ed2e0c13", func := "dasd/dasdlaw17.IntervalStrict", spec := "intervalStrict", inPlace := ["internal/bytealg.IndexByteString", "internal/bytealg.IndexString"], unfollowed := true, recurses := true, named := ["unicode/utf8.first", "unicode/utf8.acceptRanges", "internal/bytealg.MaxLen"], apart := false, laid := [("unicode/utf8.acceptRanges", laid_unicode_utf8_acceptRanges), ("unicode/utf8.first", laid_unicode_utf8_first)] }
def IntervalStrictSaid : Prop := intervalStrictRow.holds Tryd.pinned (OpenSpec.ofChange intervalStrictSpec)

/-- ITS FALSE NEIGHBOUR: 'it returns false'. Refute it at one input. -/
def intervalStrictWrong : ChangeSpec := { name := "intervalStrict", fn := fun _ => fun
  | [d1, d2, d3, d4] => { results := [.lit (.bool false)], args := [d1, d2, d3, d4] }
  | _ => none }
def IntervalStrictWrongFalsely : Prop := intervalStrictRow.holds Tryd.pinned (OpenSpec.ofChange intervalStrictWrong)

/-- 'dasdlaw17.IntervalEncodes': WHATEVER THE INPUT: true; the input reads as it did. -/
def intervalEncodesSpec : ChangeSpec := { name := "intervalEncodes", fn := fun _ => fun
  | [d1, d2] => { results := [.lit (.bool true)], args := [d1, d2] }
  | _ => none }
def intervalEncodesRow : OpenClaim := { program := "ytadeohkcaaoflaadoor", sum := "69d771de2a25ec6b3ce8f840c9b4bff94c2c28a3d0c4ed076860e345ed2e0c13", func := "dasd/dasdlaw17.IntervalEncodes", spec := "intervalEncodes", inPlace := ["internal/bytealg.IndexByteString", "internal/bytealg.IndexString"], unfollowed := true, recurses := true, named := ["unicode/utf8.first", "unicode/utf8.acceptRanges", "internal/bytealg.MaxLen"], apart := false, laid := [("unicode/utf8.acceptRanges", laid_unicode_utf8_acceptRanges), ("unicode/utf8.first", laid_unicode_utf8_first)] }
def IntervalEncodesSaid : Prop := intervalEncodesRow.holds Tryd.pinned (OpenSpec.ofChange intervalEncodesSpec)

/-- ITS FALSE NEIGHBOUR: 'it returns false'. Refute it at one input. -/
def intervalEncodesWrong : ChangeSpec := { name := "intervalEncodes", fn := fun _ => fun
  | [d1, d2] => { results := [.lit (.bool false)], args := [d1, d2] }
  | _ => none }
def IntervalEncodesWrongFalsely : Prop := intervalEncodesRow.holds Tryd.pinned (OpenSpec.ofChange intervalEncodesWrong)

/-- 'dasdlaw17.IntervalInverts': WHATEVER THE INPUT: true; the input reads as it did. -/
def intervalInvertsSpec : ChangeSpec := { name := "intervalInverts", fn := fun _ => fun
  | [d1, d2] => { results := [.lit (.bool true)], args := [d1, d2] }
  | _ => none }
def intervalInvertsRow : OpenClaim := { program := "ytadeohkcaaoflaadoor", sum := "69d771de2a25ec6b3ce8f840c9b4bff94c2c28a3d0c4ed076860e345ed2e0c13", func := "dasd/dasdlaw17.IntervalInverts", spec := "intervalInverts", inPlace := ["internal/bytealg.IndexByteString", "internal/bytealg.IndexString"], unfollowed := true, recurses := true, named := ["unicode/utf8.first", "unicode/utf8.acceptRanges", "internal/bytealg.MaxLen"], apart := false, laid := [("unicode/utf8.acceptRanges", laid_unicode_utf8_acceptRanges), ("unicode/utf8.first", laid_unicode_utf8_first)] }
def IntervalInvertsSaid : Prop := intervalInvertsRow.holds Tryd.pinned (OpenSpec.ofChange intervalInvertsSpec)

/-- ITS FALSE NEIGHBOUR: 'it returns false'. Refute it at one input. -/
def intervalInvertsWrong : ChangeSpec := { name := "intervalInverts", fn := fun _ => fun
  | [d1, d2] => { results := [.lit (.bool false)], args := [d1, d2] }
  | _ => none }
def IntervalInvertsWrongFalsely : Prop := intervalInvertsRow.holds Tryd.pinned (OpenSpec.ofChange intervalInvertsWrong)

/-- 'dasdlaw17.IntervalShrinks': WHATEVER THE INPUT: true; the input reads as it did. -/
def intervalShrinksSpec : ChangeSpec := { name := "intervalShrinks", fn := fun _ => fun
  | [d1, d2] => { results := [.lit (.bool true)], args := [d1, d2] }
  | _ => none }
def intervalShrinksRow : OpenClaim := { program := "ytadeohkcaaoflaadoor", sum := "69d771de2a25ec6b3ce8f840c9b4bff94c2c28a3d0c4ed076860e345ed2e0c13", func := "dasd/dasdlaw17.IntervalShrinks", spec := "intervalShrinks", inPlace := ["internal/bytealg.IndexByteString", "internal/bytealg.IndexString"], unfollowed := true, recurses := true, named := ["unicode/utf8.first", "unicode/utf8.acceptRanges", "internal/bytealg.MaxLen"], apart := false, laid := [("unicode/utf8.acceptRanges", laid_unicode_utf8_acceptRanges), ("unicode/utf8.first", laid_unicode_utf8_first)] }
def IntervalShrinksSaid : Prop := intervalShrinksRow.holds Tryd.pinned (OpenSpec.ofChange intervalShrinksSpec)

/-- ITS FALSE NEIGHBOUR: 'it returns false'. Refute it at one input. -/
def intervalShrinksWrong : ChangeSpec := { name := "intervalShrinks", fn := fun _ => fun
  | [d1, d2] => { results := [.lit (.bool false)], args := [d1, d2] }
  | _ => none }
def IntervalShrinksWrongFalsely : Prop := intervalShrinksRow.holds Tryd.pinned (OpenSpec.ofChange intervalShrinksWrong)

/-- 'dasdlaw17.IntervalSlots': WHATEVER THE INPUT: true; the input reads as it did. -/
def intervalSlotsSpec : ChangeSpec := { name := "intervalSlots", fn := fun _ => fun
  | [d1, d2, d3, d4] => { results := [.lit (.bool true)], args := [d1, d2, d3, d4] }
  | _ => none }
def intervalSlotsRow : OpenClaim := { program := "ytadeohkcaaoflaadoor", sum := "69d771de2a25ec6b3ce8f840c9b4bff94c2c28a3d0c4ed076860e345ed2e0c13", func := "dasd/dasdlaw17.IntervalSlots", spec := "intervalSlots", inPlace := ["internal/bytealg.IndexByteString", "internal/bytealg.IndexString", "internal/abi.NoEscape", "internal/bytealg.MakeNoZero"], unfollowed := true, recurses := true, named := ["unicode/utf8.first", "unicode/utf8.acceptRanges", "internal/bytealg.MaxLen"], apart := false, laid := [("unicode/utf8.acceptRanges", laid_unicode_utf8_acceptRanges), ("unicode/utf8.first", laid_unicode_utf8_first)] }
def IntervalSlotsSaid : Prop := intervalSlotsRow.holds Tryd.pinned (OpenSpec.ofChange intervalSlotsSpec)

/-- ITS FALSE NEIGHBOUR: 'it returns false'. Refute it at one input. -/
def intervalSlotsWrong : ChangeSpec := { name := "intervalSlots", fn := fun _ => fun
  | [d1, d2, d3, d4] => { results := [.lit (.bool false)], args := [d1, d2, d3, d4] }
  | _ => none }
def IntervalSlotsWrongFalsely : Prop := intervalSlotsRow.holds Tryd.pinned (OpenSpec.ofChange intervalSlotsWrong)

/-- 'dasdlaw17.IntervalSlotsInvert': WHATEVER THE INPUT: true; the input reads as it did. -/
def intervalSlotsInvertSpec : ChangeSpec := { name := "intervalSlotsInvert", fn := fun _ => fun
  | [d1, d2, d3, d4] => { results := [.lit (.bool true)], args := [d1, d2, d3, d4] }
  | _ => none }
def intervalSlotsInvertRow : OpenClaim := { program := "ytadeohkcaaoflaadoor", sum := "69d771de2a25ec6b3ce8f840c9b4bff94c2c28a3d0c4ed076860e345ed2e0c13", func := "dasd/dasdlaw17.IntervalSlotsInvert", spec := "intervalSlotsInvert", inPlace := ["internal/bytealg.IndexByteString", "internal/bytealg.IndexString", "internal/abi.NoEscape", "internal/bytealg.MakeNoZero"], unfollowed := true, recurses := true, named := ["unicode/utf8.first", "unicode/utf8.acceptRanges", "internal/bytealg.MaxLen"], apart := false, laid := [("unicode/utf8.acceptRanges", laid_unicode_utf8_acceptRanges), ("unicode/utf8.first", laid_unicode_utf8_first)] }
def IntervalSlotsInvertSaid : Prop := intervalSlotsInvertRow.holds Tryd.pinned (OpenSpec.ofChange intervalSlotsInvertSpec)

/-- ITS FALSE NEIGHBOUR: 'it returns false'. Refute it at one input. -/
def intervalSlotsInvertWrong : ChangeSpec := { name := "intervalSlotsInvert", fn := fun _ => fun
  | [d1, d2, d3, d4] => { results := [.lit (.bool false)], args := [d1, d2, d3, d4] }
  | _ => none }
def IntervalSlotsInvertWrongFalsely : Prop := intervalSlotsInvertRow.holds Tryd.pinned (OpenSpec.ofChange intervalSlotsInvertWrong)

/- THE SECOND FORM. 'bulk': how many values and letters a reading holds, each counted each time it is reached (what is shared counts as often as it is met; a slice's spare places count too). A statement '..UptoSaid' is the law's where the arguments, and the package variables that the reading takes, are together of bulk at most 1048576: NARROWER than '..Said'. Prove '..Said' where nothing that the law and all that it calls make is longer than what came in: it says more and counts as full. Else prove '..UptoSaid'. A law counts once. -/
mutual
def uptoBulk {H : Type} : DataW H → Nat
  | .lit (.string bytes) => bytes.length + 1
  | .lit _ => 1
  | .nil => 1
  | .ptr d => uptoBulk d + 1
  | .slice elems spare => uptoBulkAll elems + uptoBulkAll spare + 1
  | .agg parts => uptoBulkAll parts + 1
  | .iface _ d => uptoBulk d + 1
  | .map entries => uptoBulkEntries entries + 1
  | .held _ => 1
def uptoBulkAll {H : Type} : List (DataW H) → Nat
  | [] => 0
  | d :: r => uptoBulk d + uptoBulkAll r
def uptoBulkEntries {H : Type} : List (Lit × DataW H) → Nat
  | [] => 0
  | x :: r => uptoBulkEntry x + uptoBulkEntries r
def uptoBulkEntry {H : Type} : Lit × DataW H → Nat
  | (.string bytes, d) => bytes.length + uptoBulk d + 1
  | (_, d) => uptoBulk d + 1
 end
def uptoSmall : (H : Type) → List (DataW H) → Bool := fun _ ds => decide (uptoBulkAll ds ≤ 1048576)
def OpenSpec.upto (s : _root_.Go.ChangeSpec) : _root_.Go.OpenSpec := { _root_.Go.OpenSpec.ofChange s with cond := some uptoSmall }

/-- 'dasdlaw17.IntervalDecodes', WHERE WHAT IT READS IS OF BULK AT MOST 1048576: true; the input reads as it did. -/
def intervalDecodesUptoRow : OpenClaim := { program := "ytadeohkcaaoflaadoor", sum := "69d771de2a25ec6b3ce8f840c9b4bff94c2c28a3d0c4ed076860e345ed2e0c13", func := "dasd/dasdlaw17.IntervalDecodes", spec := "intervalDecodes", inPlace := ["internal/bytealg.IndexByteString", "internal/bytealg.IndexString"], unfollowed := true, recurses := true, named := ["unicode/utf8.first", "unicode/utf8.acceptRanges", "internal/bytealg.MaxLen"], apart := false, laid := [("unicode/utf8.acceptRanges", laid_unicode_utf8_acceptRanges), ("unicode/utf8.first", laid_unicode_utf8_first)], narrowed := true }
def IntervalDecodesUptoSaid : Prop := intervalDecodesUptoRow.holds Tryd.pinned (OpenSpec.upto intervalDecodesSpec)

/-- 'dasdlaw17.IntervalStrict', WHERE WHAT IT READS IS OF BULK AT MOST 1048576: true; the input reads as it did. -/
def intervalStrictUptoRow : OpenClaim := { program := "ytadeohkcaaoflaadoor", sum := "69d771de2a25ec6b3ce8f840c9b4bff94c2c28a3d0c4ed076860e345ed2e0c13", func := "dasd/dasdlaw17.IntervalStrict", spec := "intervalStrict", inPlace := ["internal/bytealg.IndexByteString", "internal/bytealg.IndexString"], unfollowed := true, recurses := true, named := ["unicode/utf8.first", "unicode/utf8.acceptRanges", "internal/bytealg.MaxLen"], apart := false, laid := [("unicode/utf8.acceptRanges", laid_unicode_utf8_acceptRanges), ("unicode/utf8.first", laid_unicode_utf8_first)], narrowed := true }
def IntervalStrictUptoSaid : Prop := intervalStrictUptoRow.holds Tryd.pinned (OpenSpec.upto intervalStrictSpec)

/-- 'dasdlaw17.IntervalEncodes', WHERE WHAT IT READS IS OF BULK AT MOST 1048576: true; the input reads as it did. -/
def intervalEncodesUptoRow : OpenClaim := { program := "ytadeohkcaaoflaadoor", sum := "69d771de2a25ec6b3ce8f840c9b4bff94c2c28a3d0c4ed076860e345ed2e0c13", func := "dasd/dasdlaw17.IntervalEncodes", spec := "intervalEncodes", inPlace := ["internal/bytealg.IndexByteString", "internal/bytealg.IndexString"], unfollowed := true, recurses := true, named := ["unicode/utf8.first", "unicode/utf8.acceptRanges", "internal/bytealg.MaxLen"], apart := false, laid := [("unicode/utf8.acceptRanges", laid_unicode_utf8_acceptRanges), ("unicode/utf8.first", laid_unicode_utf8_first)], narrowed := true }
def IntervalEncodesUptoSaid : Prop := intervalEncodesUptoRow.holds Tryd.pinned (OpenSpec.upto intervalEncodesSpec)

/-- 'dasdlaw17.IntervalInverts', WHERE WHAT IT READS IS OF BULK AT MOST 1048576: true; the input reads as it did. -/
def intervalInvertsUptoRow : OpenClaim := { program := "ytadeohkcaaoflaadoor", sum := "69d771de2a25ec6b3ce8f840c9b4bff94c2c28a3d0c4ed076860e345ed2e0c13", func := "dasd/dasdlaw17.IntervalInverts", spec := "intervalInverts", inPlace := ["internal/bytealg.IndexByteString", "internal/bytealg.IndexString"], unfollowed := true, recurses := true, named := ["unicode/utf8.first", "unicode/utf8.acceptRanges", "internal/bytealg.MaxLen"], apart := false, laid := [("unicode/utf8.acceptRanges", laid_unicode_utf8_acceptRanges), ("unicode/utf8.first", laid_unicode_utf8_first)], narrowed := true }
def IntervalInvertsUptoSaid : Prop := intervalInvertsUptoRow.holds Tryd.pinned (OpenSpec.upto intervalInvertsSpec)

/-- 'dasdlaw17.IntervalShrinks', WHERE WHAT IT READS IS OF BULK AT MOST 1048576: true; the input reads as it did. -/
def intervalShrinksUptoRow : OpenClaim := { program := "ytadeohkcaaoflaadoor", sum := "69d771de2a25ec6b3ce8f840c9b4bff94c2c28a3d0c4ed076860e345ed2e0c13", func := "dasd/dasdlaw17.IntervalShrinks", spec := "intervalShrinks", inPlace := ["internal/bytealg.IndexByteString", "internal/bytealg.IndexString"], unfollowed := true, recurses := true, named := ["unicode/utf8.first", "unicode/utf8.acceptRanges", "internal/bytealg.MaxLen"], apart := false, laid := [("unicode/utf8.acceptRanges", laid_unicode_utf8_acceptRanges), ("unicode/utf8.first", laid_unicode_utf8_first)], narrowed := true }
def IntervalShrinksUptoSaid : Prop := intervalShrinksUptoRow.holds Tryd.pinned (OpenSpec.upto intervalShrinksSpec)

/-- 'dasdlaw17.IntervalSlots', WHERE WHAT IT READS IS OF BULK AT MOST 1048576: true; the input reads as it did. -/
def intervalSlotsUptoRow : OpenClaim := { program := "ytadeohkcaaoflaadoor", sum := "69d771de2a25ec6b3ce8f840c9b4bff94c2c28a3d0c4ed076860e345ed2e0c13", func := "dasd/dasdlaw17.IntervalSlots", spec := "intervalSlots", inPlace := ["internal/bytealg.IndexByteString", "internal/bytealg.IndexString", "internal/abi.NoEscape", "internal/bytealg.MakeNoZero"], unfollowed := true, recurses := true, named := ["unicode/utf8.first", "unicode/utf8.acceptRanges", "internal/bytealg.MaxLen"], apart := false, laid := [("unicode/utf8.acceptRanges", laid_unicode_utf8_acceptRanges), ("unicode/utf8.first", laid_unicode_utf8_first)], narrowed := true }
def IntervalSlotsUptoSaid : Prop := intervalSlotsUptoRow.holds Tryd.pinned (OpenSpec.upto intervalSlotsSpec)

/-- 'dasdlaw17.IntervalSlotsInvert', WHERE WHAT IT READS IS OF BULK AT MOST 1048576: true; the input reads as it did. -/
def intervalSlotsInvertUptoRow : OpenClaim := { program := "ytadeohkcaaoflaadoor", sum := "69d771de2a25ec6b3ce8f840c9b4bff94c2c28a3d0c4ed076860e345ed2e0c13", func := "dasd/dasdlaw17.IntervalSlotsInvert", spec := "intervalSlotsInvert", inPlace := ["internal/bytealg.IndexByteString", "internal/bytealg.IndexString", "internal/abi.NoEscape", "internal/bytealg.MakeNoZero"], unfollowed := true, recurses := true, named := ["unicode/utf8.first", "unicode/utf8.acceptRanges", "internal/bytealg.MaxLen"], apart := false, laid := [("unicode/utf8.acceptRanges", laid_unicode_utf8_acceptRanges), ("unicode/utf8.first", laid_unicode_utf8_first)], narrowed := true }
def IntervalSlotsInvertUptoSaid : Prop := intervalSlotsInvertUptoRow.holds Tryd.pinned (OpenSpec.upto intervalSlotsInvertSpec)

end Rows
end Go.Proofs.YtadeohkcaaoflaaDoor
