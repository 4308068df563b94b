/-
  No cell of these rows narrows 'for every input' (looked for: loops, veiled, ifaces, maps, wideKeys, modest, calm, conditions, laid).
  DERIVED. THE GIVEN ROWS OF THIS SEAT. 4 by the template 'for every input the law returns true; each argument reads behind the call as it read before'; 0 by the template 'total and deterministic' (their statements: YtolmoknjmdmpgaaGreatTotals.lean).
  GIVEN WITH THE SEED: the statements are not yours to turn. If you find one false, say at which input.
  Laid BY PROGRAM, IN A SANDBOX (cutbox-rows.mjs): the forced cells as the released guide's own fill.sh prints them over the translation 552c98a8f12bc020… (all of the seat's roots in one cut). By AI agents, Wed Nov 11 2026. No macro, syntax, notation, axiom, sorry.
-/
import Derived.Test.YtolmoknjmdmpgaaGreatChecked
import GoSem.Claim
import GoSem.ClaimJoined
import GoSem.ClaimMapViews
import Derived.JoinedTies
import Derived.KernelRfl
namespace Go.Proofs.YtolmoknjmdmpgaaGreat
/- THE CELL 'sum', in the pinned program and in every row, IS THE sha256 OF THE DUMP (.gsa) THAT YtolmoknjmdmpgaaGreatProg.lean LOADS. Nothing in Lean hashes anything: it is a label: what it is worth is what the hold of that sum in a sandbox is worth. -/
noncomputable def Tryz.pinned : Pinned := { name := "ytolmoknjmdmpgaagreat", sum := "552c98a8f12bc020ea89b58bab9c0d2e5ba0927c7df76595806faa570a1709b1", checked := Tryz.checked }
namespace Rows
def none {H : Type} : Left H := { results := [], args := [] }

/-- 'dasdlaw22.IndexLocates': WHATEVER THE INPUT: true; the input reads as it did. -/
def indexLocatesSpec : ChangeSpec := { name := "indexLocates", fn := fun _ => fun
  | [d1, d2, d3, d4] => { results := [.lit (.bool true)], args := [d1, d2, d3, d4] }
  | _ => none }
def indexLocatesRow : OpenClaim := { program := "ytolmoknjmdmpgaagreat", sum := "552c98a8f12bc020ea89b58bab9c0d2e5ba0927c7df76595806faa570a1709b1", func := "dasd/dasdlaw22.IndexLocates", spec := "indexLocates", inPlace := ["internal/abi.NoEscape", "internal/bytealg.MakeNoZero", "slices.overlaps[dasd/api.NodeEntry]"], unfollowed := true, recurses := true, apart := false }
def IndexLocatesSaid : Prop := indexLocatesRow.holds Tryz.pinned (OpenSpec.ofChange indexLocatesSpec)

/-- ITS FALSE NEIGHBOUR: 'it returns false'. Refute it at one input. -/
def indexLocatesWrong : ChangeSpec := { name := "indexLocates", fn := fun _ => fun
  | [d1, d2, d3, d4] => { results := [.lit (.bool false)], args := [d1, d2, d3, d4] }
  | _ => none }
def IndexLocatesWrongFalsely : Prop := indexLocatesRow.holds Tryz.pinned (OpenSpec.ofChange indexLocatesWrong)

/-- 'dasdlaw22.IndexBases': WHATEVER THE INPUT: true; the input reads as it did. -/
def indexBasesSpec : ChangeSpec := { name := "indexBases", fn := fun _ => fun
  | [d1, d2, d3] => { results := [.lit (.bool true)], args := [d1, d2, d3] }
  | _ => none }
def indexBasesRow : OpenClaim := { program := "ytolmoknjmdmpgaagreat", sum := "552c98a8f12bc020ea89b58bab9c0d2e5ba0927c7df76595806faa570a1709b1", func := "dasd/dasdlaw22.IndexBases", spec := "indexBases", inPlace := ["internal/abi.NoEscape", "internal/bytealg.MakeNoZero", "slices.overlaps[dasd/api.NodeEntry]"], unfollowed := true, recurses := true, apart := false }
def IndexBasesSaid : Prop := indexBasesRow.holds Tryz.pinned (OpenSpec.ofChange indexBasesSpec)

/-- ITS FALSE NEIGHBOUR: 'it returns false'. Refute it at one input. -/
def indexBasesWrong : ChangeSpec := { name := "indexBases", fn := fun _ => fun
  | [d1, d2, d3] => { results := [.lit (.bool false)], args := [d1, d2, d3] }
  | _ => none }
def IndexBasesWrongFalsely : Prop := indexBasesRow.holds Tryz.pinned (OpenSpec.ofChange indexBasesWrong)

/-- 'dasdlaw22.IndexOrder': WHATEVER THE INPUT: true; the input reads as it did. -/
def indexOrderSpec : ChangeSpec := { name := "indexOrder", fn := fun _ => fun
  | [d1, d2] => { results := [.lit (.bool true)], args := [d1, d2] }
  | _ => none }
def indexOrderRow : OpenClaim := { program := "ytolmoknjmdmpgaagreat", sum := "552c98a8f12bc020ea89b58bab9c0d2e5ba0927c7df76595806faa570a1709b1", func := "dasd/dasdlaw22.IndexOrder", spec := "indexOrder", inPlace := ["internal/abi.NoEscape", "internal/bytealg.MakeNoZero", "slices.overlaps[dasd/api.NodeEntry]"], unfollowed := true, recurses := true, apart := false }
def IndexOrderSaid : Prop := indexOrderRow.holds Tryz.pinned (OpenSpec.ofChange indexOrderSpec)

/-- ITS FALSE NEIGHBOUR: 'it returns false'. Refute it at one input. -/
def indexOrderWrong : ChangeSpec := { name := "indexOrder", fn := fun _ => fun
  | [d1, d2] => { results := [.lit (.bool false)], args := [d1, d2] }
  | _ => none }
def IndexOrderWrongFalsely : Prop := indexOrderRow.holds Tryz.pinned (OpenSpec.ofChange indexOrderWrong)

/-- 'dasdlaw22.IndexBuilt': WHATEVER THE INPUT: true; the input reads as it did. -/
def indexBuiltSpec : ChangeSpec := { name := "indexBuilt", fn := fun _ => fun
  | [d1, d2, d3] => { results := [.lit (.bool true)], args := [d1, d2, d3] }
  | _ => none }
def indexBuiltRow : OpenClaim := { program := "ytolmoknjmdmpgaagreat", sum := "552c98a8f12bc020ea89b58bab9c0d2e5ba0927c7df76595806faa570a1709b1", func := "dasd/dasdlaw22.IndexBuilt", spec := "indexBuilt", inPlace := ["internal/abi.NoEscape", "internal/bytealg.MakeNoZero", "slices.overlaps[dasd/api.NodeEntry]"], unfollowed := true, recurses := true, apart := false }
def IndexBuiltSaid : Prop := indexBuiltRow.holds Tryz.pinned (OpenSpec.ofChange indexBuiltSpec)

/-- ITS FALSE NEIGHBOUR: 'it returns false'. Refute it at one input. -/
def indexBuiltWrong : ChangeSpec := { name := "indexBuilt", fn := fun _ => fun
  | [d1, d2, d3] => { results := [.lit (.bool false)], args := [d1, d2, d3] }
  | _ => none }
def IndexBuiltWrongFalsely : Prop := indexBuiltRow.holds Tryz.pinned (OpenSpec.ofChange indexBuiltWrong)

/- THE SECOND FORM. 'bulk': how many values and letters a reading holds, each counted each time it is reached (what is shared counts as often as it is met; a slice's spare places count too). A statement '..UptoSaid' is the law's where the arguments, and the package variables that the reading takes, are together of bulk at most 1048576: NARROWER than '..Said'. Prove '..Said' where nothing that the law and all that it calls make is longer than what came in: it says more and counts as full. Else prove '..UptoSaid'. A law counts once. -/
mutual
def uptoBulk {H : Type} : DataW H → Nat
  | .lit (.string bytes) => bytes.length + 1
  | .lit _ => 1
  | .nil => 1
  | .ptr d => uptoBulk d + 1
  | .slice elems spare => uptoBulkAll elems + uptoBulkAll spare + 1
  | .agg parts => uptoBulkAll parts + 1
  | .iface _ d => uptoBulk d + 1
  | .map entries => uptoBulkEntries entries + 1
  | .held _ => 1
def uptoBulkAll {H : Type} : List (DataW H) → Nat
  | [] => 0
  | d :: r => uptoBulk d + uptoBulkAll r
def uptoBulkEntries {H : Type} : List (Lit × DataW H) → Nat
  | [] => 0
  | x :: r => uptoBulkEntry x + uptoBulkEntries r
def uptoBulkEntry {H : Type} : Lit × DataW H → Nat
  | (.string bytes, d) => bytes.length + uptoBulk d + 1
  | (_, d) => uptoBulk d + 1
 end
def uptoSmall : (H : Type) → List (DataW H) → Bool := fun _ ds => decide (uptoBulkAll ds ≤ 1048576)
def OpenSpec.upto (s : _root_.Go.ChangeSpec) : _root_.Go.OpenSpec := { _root_.Go.OpenSpec.ofChange s with cond := some uptoSmall }

/-- 'dasdlaw22.IndexLocates', WHERE WHAT IT READS IS OF BULK AT MOST 1048576: true; the input reads as it did. -/
def indexLocatesUptoRow : OpenClaim := { program := "ytolmoknjmdmpgaagreat", sum := "552c98a8f12bc020ea89b58bab9c0d2e5ba0927c7df76595806faa570a1709b1", func := "dasd/dasdlaw22.IndexLocates", spec := "indexLocates", inPlace := ["internal/abi.NoEscape", "internal/bytealg.MakeNoZero", "slices.overlaps[dasd/api.NodeEntry]"], unfollowed := true, recurses := true, apart := false, narrowed := true }
def IndexLocatesUptoSaid : Prop := indexLocatesUptoRow.holds Tryz.pinned (OpenSpec.upto indexLocatesSpec)

/-- 'dasdlaw22.IndexBases', WHERE WHAT IT READS IS OF BULK AT MOST 1048576: true; the input reads as it did. -/
def indexBasesUptoRow : OpenClaim := { program := "ytolmoknjmdmpgaagreat", sum := "552c98a8f12bc020ea89b58bab9c0d2e5ba0927c7df76595806faa570a1709b1", func := "dasd/dasdlaw22.IndexBases", spec := "indexBases", inPlace := ["internal/abi.NoEscape", "internal/bytealg.MakeNoZero", "slices.overlaps[dasd/api.NodeEntry]"], unfollowed := true, recurses := true, apart := false, narrowed := true }
def IndexBasesUptoSaid : Prop := indexBasesUptoRow.holds Tryz.pinned (OpenSpec.upto indexBasesSpec)

/-- 'dasdlaw22.IndexOrder', WHERE WHAT IT READS IS OF BULK AT MOST 1048576: true; the input reads as it did. -/
def indexOrderUptoRow : OpenClaim := { program := "ytolmoknjmdmpgaagreat", sum := "552c98a8f12bc020ea89b58bab9c0d2e5ba0927c7df76595806faa570a1709b1", func := "dasd/dasdlaw22.IndexOrder", spec := "indexOrder", inPlace := ["internal/abi.NoEscape", "internal/bytealg.MakeNoZero", "slices.overlaps[dasd/api.NodeEntry]"], unfollowed := true, recurses := true, apart := false, narrowed := true }
def IndexOrderUptoSaid : Prop := indexOrderUptoRow.holds Tryz.pinned (OpenSpec.upto indexOrderSpec)

/-- 'dasdlaw22.IndexBuilt', WHERE WHAT IT READS IS OF BULK AT MOST 1048576: true; the input reads as it did. -/
def indexBuiltUptoRow : OpenClaim := { program := "ytolmoknjmdmpgaagreat", sum := "552c98a8f12bc020ea89b58bab9c0d2e5ba0927c7df76595806faa570a1709b1", func := "dasd/dasdlaw22.IndexBuilt", spec := "indexBuilt", inPlace := ["internal/abi.NoEscape", "internal/bytealg.MakeNoZero", "slices.overlaps[dasd/api.NodeEntry]"], unfollowed := true, recurses := true, apart := false, narrowed := true }
def IndexBuiltUptoSaid : Prop := indexBuiltUptoRow.holds Tryz.pinned (OpenSpec.upto indexBuiltSpec)

end Rows
end Go.Proofs.YtolmoknjmdmpgaaGreat
