/-
  NARROWER THAN 'FOR EVERY INPUT', by the rows' own cells (each row's printed sentence says how): EntryseqWrites: laid · EntryseqReplaces: laid · EntryseqReads: laid · RelativeReach: laid · RelativeSteps: laid · RelativeWrites: laid · RelativeOthers: laid · RelativeOrder: laid · RelativeKeeps: laid.
  DERIVED. THE GIVEN ROWS OF THIS SEAT. 9 by the template 'for every input the law returns true; each argument reads behind the call as it read before'; 0 by the template 'total and deterministic' (their statements: YtjgdhlpnpihkdaaDoorTotals.lean).
  GIVEN WITH THE SEED: the statements are not yours to turn. If you find one false, say at which input.
  Laid BY PROGRAM, IN A SANDBOX (cutbox-rows.mjs): the forced cells as the released guide's own fill.sh prints them over the translation 214ccde8606ff1bc… (all of the seat's roots in one cut). By AI agents, Wed Nov 11 2026. No macro, syntax, notation, axiom, sorry.
-/
import Derived.Test.YtjgdhlpnpihkdaaDoorChecked
import GoSem.PinnedTables
import GoSem.Claim
import GoSem.ClaimJoined
import GoSem.ClaimMapViews
import Derived.JoinedTies
import Derived.KernelRfl
namespace Go.Proofs.YtjgdhlpnpihkdaaDoor
/- THE CELL 'sum', in the pinned program and in every row, IS THE sha256 OF THE DUMP (.gsa) THAT YtjgdhlpnpihkdaaDoorProg.lean LOADS. Nothing in Lean hashes anything: it is a label: what it is worth is what the hold of that sum in a sandbox is worth. -/
noncomputable def Tryd.pinned : Pinned := { name := "ytjgdhlpnpihkdaadoor", sum := "214ccde8606ff1bce9719771b399502e97483030ef0f80f2188a362bb2d8c60d", checked := Tryd.checked }
namespace Rows
def none {H : Type} : Left H := { results := [], args := [] }

/- WHAT THE LISTED PACKAGE-LEVEL VARIABLES READ AS WHEN THE CALL BEGINS. Each datum BY PROGRAM (the guide's laid-datum.mjs) off the statement by which the dump's own 'gosem.cut.vars' lays the variable. In a bare row this is a premise. The card (YtjgdhlpnpihkdaaDoorCards.lean) ties it to the program's text. -/
def laid_unicode_utf8_acceptRanges {H : Type} : DataW H := .agg [.agg [.lit (.int .u8 128), .lit (.int .u8 191)], .agg [.lit (.int .u8 160), .lit (.int .u8 191)], .agg [.lit (.int .u8 128), .lit (.int .u8 159)], .agg [.lit (.int .u8 144), .lit (.int .u8 191)], .agg [.lit (.int .u8 128), .lit (.int .u8 143)], .agg [.lit (.int .u8 0), .lit (.int .u8 0)], .agg [.lit (.int .u8 0), .lit (.int .u8 0)], .agg [.lit (.int .u8 0), .lit (.int .u8 0)], .agg [.lit (.int .u8 0), .lit (.int .u8 0)], .agg [.lit (.int .u8 0), .lit (.int .u8 0)], .agg [.lit (.int .u8 0), .lit (.int .u8 0)], .agg [.lit (.int .u8 0), .lit (.int .u8 0)], .agg [.lit (.int .u8 0), .lit (.int .u8 0)], .agg [.lit (.int .u8 0), .lit (.int .u8 0)], .agg [.lit (.int .u8 0), .lit (.int .u8 0)], .agg [.lit (.int .u8 0), .lit (.int .u8 0)]]
/-- One of Go's own tables, pinned by name: the form's constant. -/
def laid_unicode_utf8_first : DataW Unit := Go.Pinned.utf8First

/-- 'dasdlaw18.EntryseqWrites': WHATEVER THE INPUT: true; the input reads as it did. -/
def entryseqWritesSpec : ChangeSpec := { name := "entryseqWrites", fn := fun _ => fun
  | [d1, d2, d3, d4, d5, d6] => { results := [.lit (.bool true)], args := [d1, d2, d3, d4, d5, d6] }
  | _ => none }
def entryseqWritesRow : OpenClaim := { program := "ytjgdhlpnpihkdaadoor", sum := "214ccde8606ff1bce9719771b399502e97483030ef0f80f2188a362bb2d8c60d", func := "dasd/dasdlaw18.EntryseqWrites", spec := "entryseqWrites", inPlace := ["internal/bytealg.IndexByteString", "internal/bytealg.IndexString"], unfollowed := true, recurses := true, named := ["unicode/utf8.first", "unicode/utf8.acceptRanges", "internal/bytealg.MaxLen"], apart := false, laid := [("unicode/utf8.acceptRanges", laid_unicode_utf8_acceptRanges), ("unicode/utf8.first", laid_unicode_utf8_first)] }
def EntryseqWritesSaid : Prop := entryseqWritesRow.holds Tryd.pinned (OpenSpec.ofChange entryseqWritesSpec)

/-- ITS FALSE NEIGHBOUR: 'it returns false'. Refute it at one input. -/
def entryseqWritesWrong : ChangeSpec := { name := "entryseqWrites", fn := fun _ => fun
  | [d1, d2, d3, d4, d5, d6] => { results := [.lit (.bool false)], args := [d1, d2, d3, d4, d5, d6] }
  | _ => none }
def EntryseqWritesWrongFalsely : Prop := entryseqWritesRow.holds Tryd.pinned (OpenSpec.ofChange entryseqWritesWrong)

/-- 'dasdlaw18.EntryseqReplaces': WHATEVER THE INPUT: true; the input reads as it did. -/
def entryseqReplacesSpec : ChangeSpec := { name := "entryseqReplaces", fn := fun _ => fun
  | [d1, d2, d3, d4] => { results := [.lit (.bool true)], args := [d1, d2, d3, d4] }
  | _ => none }
def entryseqReplacesRow : OpenClaim := { program := "ytjgdhlpnpihkdaadoor", sum := "214ccde8606ff1bce9719771b399502e97483030ef0f80f2188a362bb2d8c60d", func := "dasd/dasdlaw18.EntryseqReplaces", spec := "entryseqReplaces", inPlace := ["internal/bytealg.IndexByteString", "internal/bytealg.IndexString"], unfollowed := true, recurses := true, named := ["unicode/utf8.first", "unicode/utf8.acceptRanges", "internal/bytealg.MaxLen"], apart := false, laid := [("unicode/utf8.acceptRanges", laid_unicode_utf8_acceptRanges), ("unicode/utf8.first", laid_unicode_utf8_first)] }
def EntryseqReplacesSaid : Prop := entryseqReplacesRow.holds Tryd.pinned (OpenSpec.ofChange entryseqReplacesSpec)

/-- ITS FALSE NEIGHBOUR: 'it returns false'. Refute it at one input. -/
def entryseqReplacesWrong : ChangeSpec := { name := "entryseqReplaces", fn := fun _ => fun
  | [d1, d2, d3, d4] => { results := [.lit (.bool false)], args := [d1, d2, d3, d4] }
  | _ => none }
def EntryseqReplacesWrongFalsely : Prop := entryseqReplacesRow.holds Tryd.pinned (OpenSpec.ofChange entryseqReplacesWrong)

/-- 'dasdlaw18.EntryseqReads': WHATEVER THE INPUT: true; the input reads as it did. -/
def entryseqReadsSpec : ChangeSpec := { name := "entryseqReads", fn := fun _ => fun
  | [d1, d2, d3, d4] => { results := [.lit (.bool true)], args := [d1, d2, d3, d4] }
  | _ => none }
def entryseqReadsRow : OpenClaim := { program := "ytjgdhlpnpihkdaadoor", sum := "214ccde8606ff1bce9719771b399502e97483030ef0f80f2188a362bb2d8c60d", func := "dasd/dasdlaw18.EntryseqReads", spec := "entryseqReads", inPlace := ["internal/bytealg.IndexByteString", "internal/bytealg.IndexString"], unfollowed := true, recurses := true, named := ["unicode/utf8.first", "unicode/utf8.acceptRanges", "internal/bytealg.MaxLen"], apart := false, laid := [("unicode/utf8.acceptRanges", laid_unicode_utf8_acceptRanges), ("unicode/utf8.first", laid_unicode_utf8_first)] }
def EntryseqReadsSaid : Prop := entryseqReadsRow.holds Tryd.pinned (OpenSpec.ofChange entryseqReadsSpec)

/-- ITS FALSE NEIGHBOUR: 'it returns false'. Refute it at one input. -/
def entryseqReadsWrong : ChangeSpec := { name := "entryseqReads", fn := fun _ => fun
  | [d1, d2, d3, d4] => { results := [.lit (.bool false)], args := [d1, d2, d3, d4] }
  | _ => none }
def EntryseqReadsWrongFalsely : Prop := entryseqReadsRow.holds Tryd.pinned (OpenSpec.ofChange entryseqReadsWrong)

/-- 'dasdlaw19.RelativeReach': WHATEVER THE INPUT: true; the input reads as it did. -/
def relativeReachSpec : ChangeSpec := { name := "relativeReach", fn := fun _ => fun
  | [d1, d2] => { results := [.lit (.bool true)], args := [d1, d2] }
  | _ => none }
def relativeReachRow : OpenClaim := { program := "ytjgdhlpnpihkdaadoor", sum := "214ccde8606ff1bce9719771b399502e97483030ef0f80f2188a362bb2d8c60d", func := "dasd/dasdlaw19.RelativeReach", spec := "relativeReach", inPlace := ["internal/bytealg.IndexByteString", "internal/bytealg.IndexString", "internal/abi.NoEscape", "internal/bytealg.MakeNoZero"], unfollowed := true, recurses := true, named := ["unicode/utf8.first", "unicode/utf8.acceptRanges", "internal/bytealg.MaxLen"], apart := false, laid := [("unicode/utf8.acceptRanges", laid_unicode_utf8_acceptRanges), ("unicode/utf8.first", laid_unicode_utf8_first)] }
def RelativeReachSaid : Prop := relativeReachRow.holds Tryd.pinned (OpenSpec.ofChange relativeReachSpec)

/-- ITS FALSE NEIGHBOUR: 'it returns false'. Refute it at one input. -/
def relativeReachWrong : ChangeSpec := { name := "relativeReach", fn := fun _ => fun
  | [d1, d2] => { results := [.lit (.bool false)], args := [d1, d2] }
  | _ => none }
def RelativeReachWrongFalsely : Prop := relativeReachRow.holds Tryd.pinned (OpenSpec.ofChange relativeReachWrong)

/-- 'dasdlaw19.RelativeSteps': WHATEVER THE INPUT: true; the input reads as it did. -/
def relativeStepsSpec : ChangeSpec := { name := "relativeSteps", fn := fun _ => fun
  | [d1, d2] => { results := [.lit (.bool true)], args := [d1, d2] }
  | _ => none }
def relativeStepsRow : OpenClaim := { program := "ytjgdhlpnpihkdaadoor", sum := "214ccde8606ff1bce9719771b399502e97483030ef0f80f2188a362bb2d8c60d", func := "dasd/dasdlaw19.RelativeSteps", spec := "relativeSteps", inPlace := ["internal/bytealg.IndexByteString", "internal/bytealg.IndexString", "internal/abi.NoEscape", "internal/bytealg.MakeNoZero"], unfollowed := true, recurses := true, named := ["unicode/utf8.first", "unicode/utf8.acceptRanges", "internal/bytealg.MaxLen"], apart := false, laid := [("unicode/utf8.acceptRanges", laid_unicode_utf8_acceptRanges), ("unicode/utf8.first", laid_unicode_utf8_first)] }
def RelativeStepsSaid : Prop := relativeStepsRow.holds Tryd.pinned (OpenSpec.ofChange relativeStepsSpec)

/-- ITS FALSE NEIGHBOUR: 'it returns false'. Refute it at one input. -/
def relativeStepsWrong : ChangeSpec := { name := "relativeSteps", fn := fun _ => fun
  | [d1, d2] => { results := [.lit (.bool false)], args := [d1, d2] }
  | _ => none }
def RelativeStepsWrongFalsely : Prop := relativeStepsRow.holds Tryd.pinned (OpenSpec.ofChange relativeStepsWrong)

/-- 'dasdlaw19.RelativeWrites': WHATEVER THE INPUT: true; the input reads as it did. -/
def relativeWritesSpec : ChangeSpec := { name := "relativeWrites", fn := fun _ => fun
  | [d1, d2, d3, d4, d5] => { results := [.lit (.bool true)], args := [d1, d2, d3, d4, d5] }
  | _ => none }
def relativeWritesRow : OpenClaim := { program := "ytjgdhlpnpihkdaadoor", sum := "214ccde8606ff1bce9719771b399502e97483030ef0f80f2188a362bb2d8c60d", func := "dasd/dasdlaw19.RelativeWrites", spec := "relativeWrites", inPlace := ["internal/bytealg.IndexByteString", "internal/bytealg.IndexString", "internal/abi.NoEscape", "internal/bytealg.MakeNoZero"], unfollowed := true, recurses := true, named := ["unicode/utf8.first", "unicode/utf8.acceptRanges", "internal/bytealg.MaxLen"], apart := false, laid := [("unicode/utf8.acceptRanges", laid_unicode_utf8_acceptRanges), ("unicode/utf8.first", laid_unicode_utf8_first)] }
def RelativeWritesSaid : Prop := relativeWritesRow.holds Tryd.pinned (OpenSpec.ofChange relativeWritesSpec)

/-- ITS FALSE NEIGHBOUR: 'it returns false'. Refute it at one input. -/
def relativeWritesWrong : ChangeSpec := { name := "relativeWrites", fn := fun _ => fun
  | [d1, d2, d3, d4, d5] => { results := [.lit (.bool false)], args := [d1, d2, d3, d4, d5] }
  | _ => none }
def RelativeWritesWrongFalsely : Prop := relativeWritesRow.holds Tryd.pinned (OpenSpec.ofChange relativeWritesWrong)

/-- 'dasdlaw19.RelativeOthers': WHATEVER THE INPUT: true; the input reads as it did. -/
def relativeOthersSpec : ChangeSpec := { name := "relativeOthers", fn := fun _ => fun
  | [d1, d2, d3] => { results := [.lit (.bool true)], args := [d1, d2, d3] }
  | _ => none }
def relativeOthersRow : OpenClaim := { program := "ytjgdhlpnpihkdaadoor", sum := "214ccde8606ff1bce9719771b399502e97483030ef0f80f2188a362bb2d8c60d", func := "dasd/dasdlaw19.RelativeOthers", spec := "relativeOthers", inPlace := ["internal/bytealg.IndexByteString", "internal/bytealg.IndexString", "internal/abi.NoEscape", "internal/bytealg.MakeNoZero"], unfollowed := true, recurses := true, named := ["unicode/utf8.first", "unicode/utf8.acceptRanges", "internal/bytealg.MaxLen"], apart := false, laid := [("unicode/utf8.acceptRanges", laid_unicode_utf8_acceptRanges), ("unicode/utf8.first", laid_unicode_utf8_first)] }
def RelativeOthersSaid : Prop := relativeOthersRow.holds Tryd.pinned (OpenSpec.ofChange relativeOthersSpec)

/-- ITS FALSE NEIGHBOUR: 'it returns false'. Refute it at one input. -/
def relativeOthersWrong : ChangeSpec := { name := "relativeOthers", fn := fun _ => fun
  | [d1, d2, d3] => { results := [.lit (.bool false)], args := [d1, d2, d3] }
  | _ => none }
def RelativeOthersWrongFalsely : Prop := relativeOthersRow.holds Tryd.pinned (OpenSpec.ofChange relativeOthersWrong)

/-- 'dasdlaw19.RelativeOrder': WHATEVER THE INPUT: true; the input reads as it did. -/
def relativeOrderSpec : ChangeSpec := { name := "relativeOrder", fn := fun _ => fun
  | [d1, d2, d3] => { results := [.lit (.bool true)], args := [d1, d2, d3] }
  | _ => none }
def relativeOrderRow : OpenClaim := { program := "ytjgdhlpnpihkdaadoor", sum := "214ccde8606ff1bce9719771b399502e97483030ef0f80f2188a362bb2d8c60d", func := "dasd/dasdlaw19.RelativeOrder", spec := "relativeOrder", inPlace := ["internal/bytealg.IndexByteString", "internal/bytealg.IndexString", "internal/abi.NoEscape", "internal/bytealg.MakeNoZero"], unfollowed := true, recurses := true, named := ["unicode/utf8.first", "unicode/utf8.acceptRanges", "internal/bytealg.MaxLen"], apart := false, laid := [("unicode/utf8.acceptRanges", laid_unicode_utf8_acceptRanges), ("unicode/utf8.first", laid_unicode_utf8_first)] }
def RelativeOrderSaid : Prop := relativeOrderRow.holds Tryd.pinned (OpenSpec.ofChange relativeOrderSpec)

/-- ITS FALSE NEIGHBOUR: 'it returns false'. Refute it at one input. -/
def relativeOrderWrong : ChangeSpec := { name := "relativeOrder", fn := fun _ => fun
  | [d1, d2, d3] => { results := [.lit (.bool false)], args := [d1, d2, d3] }
  | _ => none }
def RelativeOrderWrongFalsely : Prop := relativeOrderRow.holds Tryd.pinned (OpenSpec.ofChange relativeOrderWrong)

/-- 'dasdlaw19.RelativeKeeps': WHATEVER THE INPUT: true; the input reads as it did. -/
def relativeKeepsSpec : ChangeSpec := { name := "relativeKeeps", fn := fun _ => fun
  | [d1, d2] => { results := [.lit (.bool true)], args := [d1, d2] }
  | _ => none }
def relativeKeepsRow : OpenClaim := { program := "ytjgdhlpnpihkdaadoor", sum := "214ccde8606ff1bce9719771b399502e97483030ef0f80f2188a362bb2d8c60d", func := "dasd/dasdlaw19.RelativeKeeps", spec := "relativeKeeps", inPlace := ["internal/bytealg.IndexByteString", "internal/bytealg.IndexString", "internal/abi.NoEscape", "internal/bytealg.MakeNoZero"], unfollowed := true, recurses := true, named := ["unicode/utf8.first", "unicode/utf8.acceptRanges", "internal/bytealg.MaxLen"], apart := false, laid := [("unicode/utf8.acceptRanges", laid_unicode_utf8_acceptRanges), ("unicode/utf8.first", laid_unicode_utf8_first)] }
def RelativeKeepsSaid : Prop := relativeKeepsRow.holds Tryd.pinned (OpenSpec.ofChange relativeKeepsSpec)

/-- ITS FALSE NEIGHBOUR: 'it returns false'. Refute it at one input. -/
def relativeKeepsWrong : ChangeSpec := { name := "relativeKeeps", fn := fun _ => fun
  | [d1, d2] => { results := [.lit (.bool false)], args := [d1, d2] }
  | _ => none }
def RelativeKeepsWrongFalsely : Prop := relativeKeepsRow.holds Tryd.pinned (OpenSpec.ofChange relativeKeepsWrong)

/- THE SECOND FORM. 'bulk': how many values and letters a reading holds, each counted each time it is reached (what is shared counts as often as it is met; a slice's spare places count too). A statement '..UptoSaid' is the law's where the arguments, and the package variables that the reading takes, are together of bulk at most 1048576: NARROWER than '..Said'. Prove '..Said' where nothing that the law and all that it calls make is longer than what came in: it says more and counts as full. Else prove '..UptoSaid'. A law counts once. -/
mutual
def uptoBulk {H : Type} : DataW H → Nat
  | .lit (.string bytes) => bytes.length + 1
  | .lit _ => 1
  | .nil => 1
  | .ptr d => uptoBulk d + 1
  | .slice elems spare => uptoBulkAll elems + uptoBulkAll spare + 1
  | .agg parts => uptoBulkAll parts + 1
  | .iface _ d => uptoBulk d + 1
  | .map entries => uptoBulkEntries entries + 1
  | .held _ => 1
def uptoBulkAll {H : Type} : List (DataW H) → Nat
  | [] => 0
  | d :: r => uptoBulk d + uptoBulkAll r
def uptoBulkEntries {H : Type} : List (Lit × DataW H) → Nat
  | [] => 0
  | x :: r => uptoBulkEntry x + uptoBulkEntries r
def uptoBulkEntry {H : Type} : Lit × DataW H → Nat
  | (.string bytes, d) => bytes.length + uptoBulk d + 1
  | (_, d) => uptoBulk d + 1
 end
def uptoSmall : (H : Type) → List (DataW H) → Bool := fun _ ds => decide (uptoBulkAll ds ≤ 1048576)
def OpenSpec.upto (s : _root_.Go.ChangeSpec) : _root_.Go.OpenSpec := { _root_.Go.OpenSpec.ofChange s with cond := some uptoSmall }

/-- 'dasdlaw18.EntryseqWrites', WHERE WHAT IT READS IS OF BULK AT MOST 1048576: true; the input reads as it did. -/
def entryseqWritesUptoRow : OpenClaim := { program := "ytjgdhlpnpihkdaadoor", sum := "214ccde8606ff1bce9719771b399502e97483030ef0f80f2188a362bb2d8c60d", func := "dasd/dasdlaw18.EntryseqWrites", spec := "entryseqWrites", inPlace := ["internal/bytealg.IndexByteString", "internal/bytealg.IndexString"], unfollowed := true, recurses := true, named := ["unicode/utf8.first", "unicode/utf8.acceptRanges", "internal/bytealg.MaxLen"], apart := false, laid := [("unicode/utf8.acceptRanges", laid_unicode_utf8_acceptRanges), ("unicode/utf8.first", laid_unicode_utf8_first)], narrowed := true }
def EntryseqWritesUptoSaid : Prop := entryseqWritesUptoRow.holds Tryd.pinned (OpenSpec.upto entryseqWritesSpec)

/-- 'dasdlaw18.EntryseqReplaces', WHERE WHAT IT READS IS OF BULK AT MOST 1048576: true; the input reads as it did. -/
def entryseqReplacesUptoRow : OpenClaim := { program := "ytjgdhlpnpihkdaadoor", sum := "214ccde8606ff1bce9719771b399502e97483030ef0f80f2188a362bb2d8c60d", func := "dasd/dasdlaw18.EntryseqReplaces", spec := "entryseqReplaces", inPlace := ["internal/bytealg.IndexByteString", "internal/bytealg.IndexString"], unfollowed := true, recurses := true, named := ["unicode/utf8.first", "unicode/utf8.acceptRanges", "internal/bytealg.MaxLen"], apart := false, laid := [("unicode/utf8.acceptRanges", laid_unicode_utf8_acceptRanges), ("unicode/utf8.first", laid_unicode_utf8_first)], narrowed := true }
def EntryseqReplacesUptoSaid : Prop := entryseqReplacesUptoRow.holds Tryd.pinned (OpenSpec.upto entryseqReplacesSpec)

/-- 'dasdlaw18.EntryseqReads', WHERE WHAT IT READS IS OF BULK AT MOST 1048576: true; the input reads as it did. -/
def entryseqReadsUptoRow : OpenClaim := { program := "ytjgdhlpnpihkdaadoor", sum := "214ccde8606ff1bce9719771b399502e97483030ef0f80f2188a362bb2d8c60d", func := "dasd/dasdlaw18.EntryseqReads", spec := "entryseqReads", inPlace := ["internal/bytealg.IndexByteString", "internal/bytealg.IndexString"], unfollowed := true, recurses := true, named := ["unicode/utf8.first", "unicode/utf8.acceptRanges", "internal/bytealg.MaxLen"], apart := false, laid := [("unicode/utf8.acceptRanges", laid_unicode_utf8_acceptRanges), ("unicode/utf8.first", laid_unicode_utf8_first)], narrowed := true }
def EntryseqReadsUptoSaid : Prop := entryseqReadsUptoRow.holds Tryd.pinned (OpenSpec.upto entryseqReadsSpec)

/-- 'dasdlaw19.RelativeReach', WHERE WHAT IT READS IS OF BULK AT MOST 1048576: true; the input reads as it did. -/
def relativeReachUptoRow : OpenClaim := { program := "ytjgdhlpnpihkdaadoor", sum := "214ccde8606ff1bce9719771b399502e97483030ef0f80f2188a362bb2d8c60d", func := "dasd/dasdlaw19.RelativeReach", spec := "relativeReach", inPlace := ["internal/bytealg.IndexByteString", "internal/bytealg.IndexString", "internal/abi.NoEscape", "internal/bytealg.MakeNoZero"], unfollowed := true, recurses := true, named := ["unicode/utf8.first", "unicode/utf8.acceptRanges", "internal/bytealg.MaxLen"], apart := false, laid := [("unicode/utf8.acceptRanges", laid_unicode_utf8_acceptRanges), ("unicode/utf8.first", laid_unicode_utf8_first)], narrowed := true }
def RelativeReachUptoSaid : Prop := relativeReachUptoRow.holds Tryd.pinned (OpenSpec.upto relativeReachSpec)

/-- 'dasdlaw19.RelativeSteps', WHERE WHAT IT READS IS OF BULK AT MOST 1048576: true; the input reads as it did. -/
def relativeStepsUptoRow : OpenClaim := { program := "ytjgdhlpnpihkdaadoor", sum := "214ccde8606ff1bce9719771b399502e97483030ef0f80f2188a362bb2d8c60d", func := "dasd/dasdlaw19.RelativeSteps", spec := "relativeSteps", inPlace := ["internal/bytealg.IndexByteString", "internal/bytealg.IndexString", "internal/abi.NoEscape", "internal/bytealg.MakeNoZero"], unfollowed := true, recurses := true, named := ["unicode/utf8.first", "unicode/utf8.acceptRanges", "internal/bytealg.MaxLen"], apart := false, laid := [("unicode/utf8.acceptRanges", laid_unicode_utf8_acceptRanges), ("unicode/utf8.first", laid_unicode_utf8_first)], narrowed := true }
def RelativeStepsUptoSaid : Prop := relativeStepsUptoRow.holds Tryd.pinned (OpenSpec.upto relativeStepsSpec)

/-- 'dasdlaw19.RelativeWrites', WHERE WHAT IT READS IS OF BULK AT MOST 1048576: true; the input reads as it did. -/
def relativeWritesUptoRow : OpenClaim := { program := "ytjgdhlpnpihkdaadoor", sum := "214ccde8606ff1bce9719771b399502e97483030ef0f80f2188a362bb2d8c60d", func := "dasd/dasdlaw19.RelativeWrites", spec := "relativeWrites", inPlace := ["internal/bytealg.IndexByteString", "internal/bytealg.IndexString", "internal/abi.NoEscape", "internal/bytealg.MakeNoZero"], unfollowed := true, recurses := true, named := ["unicode/utf8.first", "unicode/utf8.acceptRanges", "internal/bytealg.MaxLen"], apart := false, laid := [("unicode/utf8.acceptRanges", laid_unicode_utf8_acceptRanges), ("unicode/utf8.first", laid_unicode_utf8_first)], narrowed := true }
def RelativeWritesUptoSaid : Prop := relativeWritesUptoRow.holds Tryd.pinned (OpenSpec.upto relativeWritesSpec)

/-- 'dasdlaw19.RelativeOthers', WHERE WHAT IT READS IS OF BULK AT MOST 1048576: true; the input reads as it did. -/
def relativeOthersUptoRow : OpenClaim := { program := "ytjgdhlpnpihkdaadoor", sum := "214ccde8606ff1bce9719771b399502e97483030ef0f80f2188a362bb2d8c60d", func := "dasd/dasdlaw19.RelativeOthers", spec := "relativeOthers", inPlace := ["internal/bytealg.IndexByteString", "internal/bytealg.IndexString", "internal/abi.NoEscape", "internal/bytealg.MakeNoZero"], unfollowed := true, recurses := true, named := ["unicode/utf8.first", "unicode/utf8.acceptRanges", "internal/bytealg.MaxLen"], apart := false, laid := [("unicode/utf8.acceptRanges", laid_unicode_utf8_acceptRanges), ("unicode/utf8.first", laid_unicode_utf8_first)], narrowed := true }
def RelativeOthersUptoSaid : Prop := relativeOthersUptoRow.holds Tryd.pinned (OpenSpec.upto relativeOthersSpec)

/-- 'dasdlaw19.RelativeOrder', WHERE WHAT IT READS IS OF BULK AT MOST 1048576: true; the input reads as it did. -/
def relativeOrderUptoRow : OpenClaim := { program := "ytjgdhlpnpihkdaadoor", sum := "214ccde8606ff1bce9719771b399502e97483030ef0f80f2188a362bb2d8c60d", func := "dasd/dasdlaw19.RelativeOrder", spec := "relativeOrder", inPlace := ["internal/bytealg.IndexByteString", "internal/bytealg.IndexString", "internal/abi.NoEscape", "internal/bytealg.MakeNoZero"], unfollowed := true, recurses := true, named := ["unicode/utf8.first", "unicode/utf8.acceptRanges", "internal/bytealg.MaxLen"], apart := false, laid := [("unicode/utf8.acceptRanges", laid_unicode_utf8_acceptRanges), ("unicode/utf8.first", laid_unicode_utf8_first)], narrowed := true }
def RelativeOrderUptoSaid : Prop := relativeOrderUptoRow.holds Tryd.pinned (OpenSpec.upto relativeOrderSpec)

/-- 'dasdlaw19.RelativeKeeps', WHERE WHAT IT READS IS OF BULK AT MOST 1048576: true; the input reads as it did. -/
def relativeKeepsUptoRow : OpenClaim := { program := "ytjgdhlpnpihkdaadoor", sum := "214ccde8606ff1bce9719771b399502e97483030ef0f80f2188a362bb2d8c60d", func := "dasd/dasdlaw19.RelativeKeeps", spec := "relativeKeeps", inPlace := ["internal/bytealg.IndexByteString", "internal/bytealg.IndexString", "internal/abi.NoEscape", "internal/bytealg.MakeNoZero"], unfollowed := true, recurses := true, named := ["unicode/utf8.first", "unicode/utf8.acceptRanges", "internal/bytealg.MaxLen"], apart := false, laid := [("unicode/utf8.acceptRanges", laid_unicode_utf8_acceptRanges), ("unicode/utf8.first", laid_unicode_utf8_first)], narrowed := true }
def RelativeKeepsUptoSaid : Prop := relativeKeepsUptoRow.holds Tryd.pinned (OpenSpec.upto relativeKeepsSpec)

end Rows
end Go.Proofs.YtjgdhlpnpihkdaaDoor
