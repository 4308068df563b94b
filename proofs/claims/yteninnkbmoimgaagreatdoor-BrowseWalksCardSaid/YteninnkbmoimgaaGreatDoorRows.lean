/-
  NARROWER THAN 'FOR EVERY INPUT', by the rows' own cells (each row's printed sentence says how): BrowseSteps: laid · BrowseWalks: laid · BrowseChanges: laid · BrowseDamage: laid · BrowseSpans: laid · BrowsePlaces: laid.
  DERIVED. THE GIVEN ROWS OF THIS SEAT. 6 by the template 'for every input the law returns true; each argument reads behind the call as it read before'; 0 by the template 'total and deterministic' (their statements: YteninnkbmoimgaaGreatDoorTotals.lean).
  GIVEN WITH THE SEED: the statements are not yours to turn. If you find one false, say at which input.
  Laid BY PROGRAM, IN A SANDBOX (cutbox-rows.mjs): the forced cells as the released guide's own fill.sh prints them over the translation 9da333e1468f4f65… (all of the seat's roots in one cut). By AI agents, Wed Nov 11 2026. No macro, syntax, notation, axiom, sorry.
-/
import Derived.Test.YteninnkbmoimgaaGreatDoorChecked
import GoSem.PinnedTables
import GoSem.Claim
import GoSem.ClaimJoined
import GoSem.ClaimMapViews
import Derived.JoinedTies
import Derived.KernelRfl
namespace Go.Proofs.YteninnkbmoimgaaGreatDoor
/- THE CELL 'sum', in the pinned program and in every row, IS THE sha256 OF THE DUMP (.gsa) THAT YteninnkbmoimgaaGreatDoorProg.lean LOADS. Nothing in Lean hashes anything: it is a label: what it is worth is what the hold of that sum in a sandbox is worth. -/
noncomputable def Tryz.pinned : Pinned := { name := "yteninnkbmoimgaagreatdoor", sum := "9da333e1468f4f65215dd09bde235cc5247fd9691fe20ee638fe2a5b637d5b02", checked := Tryz.checked }
namespace Rows
def none {H : Type} : Left H := { results := [], args := [] }

/- WHAT THE LISTED PACKAGE-LEVEL VARIABLES READ AS WHEN THE CALL BEGINS. Each datum BY PROGRAM (the guide's laid-datum.mjs) off the statement by which the dump's own 'gosem.cut.vars' lays the variable. In a bare row this is a premise. The card (YteninnkbmoimgaaGreatDoorCards.lean) ties it to the program's text. -/
def laid_unicode_utf8_acceptRanges {H : Type} : DataW H := .agg [.agg [.lit (.int .u8 128), .lit (.int .u8 191)], .agg [.lit (.int .u8 160), .lit (.int .u8 191)], .agg [.lit (.int .u8 128), .lit (.int .u8 159)], .agg [.lit (.int .u8 144), .lit (.int .u8 191)], .agg [.lit (.int .u8 128), .lit (.int .u8 143)], .agg [.lit (.int .u8 0), .lit (.int .u8 0)], .agg [.lit (.int .u8 0), .lit (.int .u8 0)], .agg [.lit (.int .u8 0), .lit (.int .u8 0)], .agg [.lit (.int .u8 0), .lit (.int .u8 0)], .agg [.lit (.int .u8 0), .lit (.int .u8 0)], .agg [.lit (.int .u8 0), .lit (.int .u8 0)], .agg [.lit (.int .u8 0), .lit (.int .u8 0)], .agg [.lit (.int .u8 0), .lit (.int .u8 0)], .agg [.lit (.int .u8 0), .lit (.int .u8 0)], .agg [.lit (.int .u8 0), .lit (.int .u8 0)], .agg [.lit (.int .u8 0), .lit (.int .u8 0)]]
/-- One of Go's own tables, pinned by name: the form's constant. -/
def laid_unicode_utf8_first : DataW Unit := Go.Pinned.utf8First

/-- 'dasdlaw24.BrowseSteps': WHATEVER THE INPUT: true; the input reads as it did. -/
def browseStepsSpec : ChangeSpec := { name := "browseSteps", fn := fun _ => fun
  | [d1, d2, d3] => { results := [.lit (.bool true)], args := [d1, d2, d3] }
  | _ => none }
def browseStepsRow : OpenClaim := { program := "yteninnkbmoimgaagreatdoor", sum := "9da333e1468f4f65215dd09bde235cc5247fd9691fe20ee638fe2a5b637d5b02", func := "dasd/dasdlaw24.BrowseSteps", spec := "browseSteps", inPlace := ["internal/abi.NoEscape", "internal/bytealg.MakeNoZero", "internal/bytealg.IndexByteString", "internal/bytealg.IndexString"], unfollowed := true, recurses := true, named := ["unicode/utf8.first", "unicode/utf8.acceptRanges", "internal/bytealg.MaxLen"], apart := false, laid := [("unicode/utf8.acceptRanges", laid_unicode_utf8_acceptRanges), ("unicode/utf8.first", laid_unicode_utf8_first)] }
def BrowseStepsSaid : Prop := browseStepsRow.holds Tryz.pinned (OpenSpec.ofChange browseStepsSpec)

/-- ITS FALSE NEIGHBOUR: 'it returns false'. Refute it at one input. -/
def browseStepsWrong : ChangeSpec := { name := "browseSteps", fn := fun _ => fun
  | [d1, d2, d3] => { results := [.lit (.bool false)], args := [d1, d2, d3] }
  | _ => none }
def BrowseStepsWrongFalsely : Prop := browseStepsRow.holds Tryz.pinned (OpenSpec.ofChange browseStepsWrong)

/-- 'dasdlaw24.BrowseWalks': WHATEVER THE INPUT: true; the input reads as it did. -/
def browseWalksSpec : ChangeSpec := { name := "browseWalks", fn := fun _ => fun
  | [d1, d2] => { results := [.lit (.bool true)], args := [d1, d2] }
  | _ => none }
def browseWalksRow : OpenClaim := { program := "yteninnkbmoimgaagreatdoor", sum := "9da333e1468f4f65215dd09bde235cc5247fd9691fe20ee638fe2a5b637d5b02", func := "dasd/dasdlaw24.BrowseWalks", spec := "browseWalks", inPlace := ["internal/abi.NoEscape", "internal/bytealg.MakeNoZero", "internal/bytealg.IndexByteString", "internal/bytealg.IndexString"], unfollowed := true, recurses := true, named := ["unicode/utf8.first", "unicode/utf8.acceptRanges", "internal/bytealg.MaxLen"], apart := false, laid := [("unicode/utf8.acceptRanges", laid_unicode_utf8_acceptRanges), ("unicode/utf8.first", laid_unicode_utf8_first)] }
def BrowseWalksSaid : Prop := browseWalksRow.holds Tryz.pinned (OpenSpec.ofChange browseWalksSpec)

/-- ITS FALSE NEIGHBOUR: 'it returns false'. Refute it at one input. -/
def browseWalksWrong : ChangeSpec := { name := "browseWalks", fn := fun _ => fun
  | [d1, d2] => { results := [.lit (.bool false)], args := [d1, d2] }
  | _ => none }
def BrowseWalksWrongFalsely : Prop := browseWalksRow.holds Tryz.pinned (OpenSpec.ofChange browseWalksWrong)

/-- 'dasdlaw24.BrowseChanges': WHATEVER THE INPUT: true; the input reads as it did. -/
def browseChangesSpec : ChangeSpec := { name := "browseChanges", fn := fun _ => fun
  | [d1, d2, d3, d4, d5, d6] => { results := [.lit (.bool true)], args := [d1, d2, d3, d4, d5, d6] }
  | _ => none }
def browseChangesRow : OpenClaim := { program := "yteninnkbmoimgaagreatdoor", sum := "9da333e1468f4f65215dd09bde235cc5247fd9691fe20ee638fe2a5b637d5b02", func := "dasd/dasdlaw24.BrowseChanges", spec := "browseChanges", inPlace := ["internal/abi.NoEscape", "internal/bytealg.MakeNoZero", "internal/bytealg.IndexByteString", "internal/bytealg.IndexString"], unfollowed := true, recurses := true, named := ["unicode/utf8.first", "unicode/utf8.acceptRanges", "internal/bytealg.MaxLen"], apart := false, laid := [("unicode/utf8.acceptRanges", laid_unicode_utf8_acceptRanges), ("unicode/utf8.first", laid_unicode_utf8_first)] }
def BrowseChangesSaid : Prop := browseChangesRow.holds Tryz.pinned (OpenSpec.ofChange browseChangesSpec)

/-- ITS FALSE NEIGHBOUR: 'it returns false'. Refute it at one input. -/
def browseChangesWrong : ChangeSpec := { name := "browseChanges", fn := fun _ => fun
  | [d1, d2, d3, d4, d5, d6] => { results := [.lit (.bool false)], args := [d1, d2, d3, d4, d5, d6] }
  | _ => none }
def BrowseChangesWrongFalsely : Prop := browseChangesRow.holds Tryz.pinned (OpenSpec.ofChange browseChangesWrong)

/-- 'dasdlaw24.BrowseDamage': WHATEVER THE INPUT: true; the input reads as it did. -/
def browseDamageSpec : ChangeSpec := { name := "browseDamage", fn := fun _ => fun
  | [d1, d2, d3, d4, d5] => { results := [.lit (.bool true)], args := [d1, d2, d3, d4, d5] }
  | _ => none }
def browseDamageRow : OpenClaim := { program := "yteninnkbmoimgaagreatdoor", sum := "9da333e1468f4f65215dd09bde235cc5247fd9691fe20ee638fe2a5b637d5b02", func := "dasd/dasdlaw24.BrowseDamage", spec := "browseDamage", inPlace := ["internal/abi.NoEscape", "internal/bytealg.MakeNoZero", "internal/bytealg.IndexByteString", "internal/bytealg.IndexString"], unfollowed := true, recurses := true, named := ["unicode/utf8.first", "unicode/utf8.acceptRanges", "internal/bytealg.MaxLen"], apart := false, laid := [("unicode/utf8.acceptRanges", laid_unicode_utf8_acceptRanges), ("unicode/utf8.first", laid_unicode_utf8_first)] }
def BrowseDamageSaid : Prop := browseDamageRow.holds Tryz.pinned (OpenSpec.ofChange browseDamageSpec)

/-- ITS FALSE NEIGHBOUR: 'it returns false'. Refute it at one input. -/
def browseDamageWrong : ChangeSpec := { name := "browseDamage", fn := fun _ => fun
  | [d1, d2, d3, d4, d5] => { results := [.lit (.bool false)], args := [d1, d2, d3, d4, d5] }
  | _ => none }
def BrowseDamageWrongFalsely : Prop := browseDamageRow.holds Tryz.pinned (OpenSpec.ofChange browseDamageWrong)

/-- 'dasdlaw24.BrowseSpans': WHATEVER THE INPUT: true; the input reads as it did. -/
def browseSpansSpec : ChangeSpec := { name := "browseSpans", fn := fun _ => fun
  | [d1, d2, d3, d4, d5, d6] => { results := [.lit (.bool true)], args := [d1, d2, d3, d4, d5, d6] }
  | _ => none }
def browseSpansRow : OpenClaim := { program := "yteninnkbmoimgaagreatdoor", sum := "9da333e1468f4f65215dd09bde235cc5247fd9691fe20ee638fe2a5b637d5b02", func := "dasd/dasdlaw24.BrowseSpans", spec := "browseSpans", inPlace := ["internal/abi.NoEscape", "internal/bytealg.MakeNoZero", "internal/bytealg.IndexByteString", "internal/bytealg.IndexString"], unfollowed := true, recurses := true, named := ["unicode/utf8.first", "unicode/utf8.acceptRanges", "internal/bytealg.MaxLen"], apart := false, laid := [("unicode/utf8.acceptRanges", laid_unicode_utf8_acceptRanges), ("unicode/utf8.first", laid_unicode_utf8_first)] }
def BrowseSpansSaid : Prop := browseSpansRow.holds Tryz.pinned (OpenSpec.ofChange browseSpansSpec)

/-- ITS FALSE NEIGHBOUR: 'it returns false'. Refute it at one input. -/
def browseSpansWrong : ChangeSpec := { name := "browseSpans", fn := fun _ => fun
  | [d1, d2, d3, d4, d5, d6] => { results := [.lit (.bool false)], args := [d1, d2, d3, d4, d5, d6] }
  | _ => none }
def BrowseSpansWrongFalsely : Prop := browseSpansRow.holds Tryz.pinned (OpenSpec.ofChange browseSpansWrong)

/-- 'dasdlaw24.BrowsePlaces': WHATEVER THE INPUT: true; the input reads as it did. -/
def browsePlacesSpec : ChangeSpec := { name := "browsePlaces", fn := fun _ => fun
  | [d1, d2, d3] => { results := [.lit (.bool true)], args := [d1, d2, d3] }
  | _ => none }
def browsePlacesRow : OpenClaim := { program := "yteninnkbmoimgaagreatdoor", sum := "9da333e1468f4f65215dd09bde235cc5247fd9691fe20ee638fe2a5b637d5b02", func := "dasd/dasdlaw24.BrowsePlaces", spec := "browsePlaces", inPlace := ["internal/abi.NoEscape", "internal/bytealg.MakeNoZero", "internal/bytealg.IndexByteString", "internal/bytealg.IndexString"], unfollowed := true, recurses := true, named := ["unicode/utf8.first", "unicode/utf8.acceptRanges", "internal/bytealg.MaxLen"], apart := false, laid := [("unicode/utf8.acceptRanges", laid_unicode_utf8_acceptRanges), ("unicode/utf8.first", laid_unicode_utf8_first)] }
def BrowsePlacesSaid : Prop := browsePlacesRow.holds Tryz.pinned (OpenSpec.ofChange browsePlacesSpec)

/-- ITS FALSE NEIGHBOUR: 'it returns false'. Refute it at one input. -/
def browsePlacesWrong : ChangeSpec := { name := "browsePlaces", fn := fun _ => fun
  | [d1, d2, d3] => { results := [.lit (.bool false)], args := [d1, d2, d3] }
  | _ => none }
def BrowsePlacesWrongFalsely : Prop := browsePlacesRow.holds Tryz.pinned (OpenSpec.ofChange browsePlacesWrong)

/- THE SECOND FORM. 'bulk': how many values and letters a reading holds, each counted each time it is reached (what is shared counts as often as it is met; a slice's spare places count too). A statement '..UptoSaid' is the law's where the arguments, and the package variables that the reading takes, are together of bulk at most 1048576: NARROWER than '..Said'. Prove '..Said' where nothing that the law and all that it calls make is longer than what came in: it says more and counts as full. Else prove '..UptoSaid'. A law counts once. -/
mutual
def uptoBulk {H : Type} : DataW H → Nat
  | .lit (.string bytes) => bytes.length + 1
  | .lit _ => 1
  | .nil => 1
  | .ptr d => uptoBulk d + 1
  | .slice elems spare => uptoBulkAll elems + uptoBulkAll spare + 1
  | .agg parts => uptoBulkAll parts + 1
  | .iface _ d => uptoBulk d + 1
  | .map entries => uptoBulkEntries entries + 1
  | .held _ => 1
def uptoBulkAll {H : Type} : List (DataW H) → Nat
  | [] => 0
  | d :: r => uptoBulk d + uptoBulkAll r
def uptoBulkEntries {H : Type} : List (Lit × DataW H) → Nat
  | [] => 0
  | x :: r => uptoBulkEntry x + uptoBulkEntries r
def uptoBulkEntry {H : Type} : Lit × DataW H → Nat
  | (.string bytes, d) => bytes.length + uptoBulk d + 1
  | (_, d) => uptoBulk d + 1
 end
def uptoSmall : (H : Type) → List (DataW H) → Bool := fun _ ds => decide (uptoBulkAll ds ≤ 1048576)
def OpenSpec.upto (s : _root_.Go.ChangeSpec) : _root_.Go.OpenSpec := { _root_.Go.OpenSpec.ofChange s with cond := some uptoSmall }

/-- 'dasdlaw24.BrowseSteps', WHERE WHAT IT READS IS OF BULK AT MOST 1048576: true; the input reads as it did. -/
def browseStepsUptoRow : OpenClaim := { program := "yteninnkbmoimgaagreatdoor", sum := "9da333e1468f4f65215dd09bde235cc5247fd9691fe20ee638fe2a5b637d5b02", func := "dasd/dasdlaw24.BrowseSteps", spec := "browseSteps", inPlace := ["internal/abi.NoEscape", "internal/bytealg.MakeNoZero", "internal/bytealg.IndexByteString", "internal/bytealg.IndexString"], unfollowed := true, recurses := true, named := ["unicode/utf8.first", "unicode/utf8.acceptRanges", "internal/bytealg.MaxLen"], apart := false, laid := [("unicode/utf8.acceptRanges", laid_unicode_utf8_acceptRanges), ("unicode/utf8.first", laid_unicode_utf8_first)], narrowed := true }
def BrowseStepsUptoSaid : Prop := browseStepsUptoRow.holds Tryz.pinned (OpenSpec.upto browseStepsSpec)

/-- 'dasdlaw24.BrowseWalks', WHERE WHAT IT READS IS OF BULK AT MOST 1048576: true; the input reads as it did. -/
def browseWalksUptoRow : OpenClaim := { program := "yteninnkbmoimgaagreatdoor", sum := "9da333e1468f4f65215dd09bde235cc5247fd9691fe20ee638fe2a5b637d5b02", func := "dasd/dasdlaw24.BrowseWalks", spec := "browseWalks", inPlace := ["internal/abi.NoEscape", "internal/bytealg.MakeNoZero", "internal/bytealg.IndexByteString", "internal/bytealg.IndexString"], unfollowed := true, recurses := true, named := ["unicode/utf8.first", "unicode/utf8.acceptRanges", "internal/bytealg.MaxLen"], apart := false, laid := [("unicode/utf8.acceptRanges", laid_unicode_utf8_acceptRanges), ("unicode/utf8.first", laid_unicode_utf8_first)], narrowed := true }
def BrowseWalksUptoSaid : Prop := browseWalksUptoRow.holds Tryz.pinned (OpenSpec.upto browseWalksSpec)

/-- 'dasdlaw24.BrowseChanges', WHERE WHAT IT READS IS OF BULK AT MOST 1048576: true; the input reads as it did. -/
def browseChangesUptoRow : OpenClaim := { program := "yteninnkbmoimgaagreatdoor", sum := "9da333e1468f4f65215dd09bde235cc5247fd9691fe20ee638fe2a5b637d5b02", func := "dasd/dasdlaw24.BrowseChanges", spec := "browseChanges", inPlace := ["internal/abi.NoEscape", "internal/bytealg.MakeNoZero", "internal/bytealg.IndexByteString", "internal/bytealg.IndexString"], unfollowed := true, recurses := true, named := ["unicode/utf8.first", "unicode/utf8.acceptRanges", "internal/bytealg.MaxLen"], apart := false, laid := [("unicode/utf8.acceptRanges", laid_unicode_utf8_acceptRanges), ("unicode/utf8.first", laid_unicode_utf8_first)], narrowed := true }
def BrowseChangesUptoSaid : Prop := browseChangesUptoRow.holds Tryz.pinned (OpenSpec.upto browseChangesSpec)

/-- 'dasdlaw24.BrowseDamage', WHERE WHAT IT READS IS OF BULK AT MOST 1048576: true; the input reads as it did. -/
def browseDamageUptoRow : OpenClaim := { program := "yteninnkbmoimgaagreatdoor", sum := "9da333e1468f4f65215dd09bde235cc5247fd9691fe20ee638fe2a5b637d5b02", func := "dasd/dasdlaw24.BrowseDamage", spec := "browseDamage", inPlace := ["internal/abi.NoEscape", "internal/bytealg.MakeNoZero", "internal/bytealg.IndexByteString", "internal/bytealg.IndexString"], unfollowed := true, recurses := true, named := ["unicode/utf8.first", "unicode/utf8.acceptRanges", "internal/bytealg.MaxLen"], apart := false, laid := [("unicode/utf8.acceptRanges", laid_unicode_utf8_acceptRanges), ("unicode/utf8.first", laid_unicode_utf8_first)], narrowed := true }
def BrowseDamageUptoSaid : Prop := browseDamageUptoRow.holds Tryz.pinned (OpenSpec.upto browseDamageSpec)

/-- 'dasdlaw24.BrowseSpans', WHERE WHAT IT READS IS OF BULK AT MOST 1048576: true; the input reads as it did. -/
def browseSpansUptoRow : OpenClaim := { program := "yteninnkbmoimgaagreatdoor", sum := "9da333e1468f4f65215dd09bde235cc5247fd9691fe20ee638fe2a5b637d5b02", func := "dasd/dasdlaw24.BrowseSpans", spec := "browseSpans", inPlace := ["internal/abi.NoEscape", "internal/bytealg.MakeNoZero", "internal/bytealg.IndexByteString", "internal/bytealg.IndexString"], unfollowed := true, recurses := true, named := ["unicode/utf8.first", "unicode/utf8.acceptRanges", "internal/bytealg.MaxLen"], apart := false, laid := [("unicode/utf8.acceptRanges", laid_unicode_utf8_acceptRanges), ("unicode/utf8.first", laid_unicode_utf8_first)], narrowed := true }
def BrowseSpansUptoSaid : Prop := browseSpansUptoRow.holds Tryz.pinned (OpenSpec.upto browseSpansSpec)

/-- 'dasdlaw24.BrowsePlaces', WHERE WHAT IT READS IS OF BULK AT MOST 1048576: true; the input reads as it did. -/
def browsePlacesUptoRow : OpenClaim := { program := "yteninnkbmoimgaagreatdoor", sum := "9da333e1468f4f65215dd09bde235cc5247fd9691fe20ee638fe2a5b637d5b02", func := "dasd/dasdlaw24.BrowsePlaces", spec := "browsePlaces", inPlace := ["internal/abi.NoEscape", "internal/bytealg.MakeNoZero", "internal/bytealg.IndexByteString", "internal/bytealg.IndexString"], unfollowed := true, recurses := true, named := ["unicode/utf8.first", "unicode/utf8.acceptRanges", "internal/bytealg.MaxLen"], apart := false, laid := [("unicode/utf8.acceptRanges", laid_unicode_utf8_acceptRanges), ("unicode/utf8.first", laid_unicode_utf8_first)], narrowed := true }
def BrowsePlacesUptoSaid : Prop := browsePlacesUptoRow.holds Tryz.pinned (OpenSpec.upto browsePlacesSpec)

end Rows
end Go.Proofs.YteninnkbmoimgaaGreatDoor
