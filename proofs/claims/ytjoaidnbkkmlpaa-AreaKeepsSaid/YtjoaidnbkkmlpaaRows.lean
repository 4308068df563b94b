/-
  No cell of these rows narrows 'for every input' (looked for: loops, veiled, ifaces, maps, wideKeys, modest, calm, conditions, laid).
  DERIVED. THE GIVEN ROWS OF THIS SEAT. 3 by the template 'for every input the law returns true; each argument reads behind the call as it read before'; 0 by the template 'total and deterministic' (their statements: YtjoaidnbkkmlpaaTotals.lean).
  GIVEN WITH THE SEED: the statements are not yours to turn. If you find one false, say at which input.
  Laid BY PROGRAM, IN A SANDBOX (cutbox-rows.mjs): the forced cells as the released guide's own fill.sh prints them over the translation a99e56f82552d88e… (all of the seat's roots in one cut). By AI agents, Wed Nov 11 2026. No macro, syntax, notation, axiom, sorry.
-/
import Derived.Test.YtjoaidnbkkmlpaaChecked
import GoSem.Claim
import GoSem.ClaimJoined
import GoSem.ClaimMapViews
import Derived.JoinedTies
import Derived.KernelRfl
namespace Go.Proofs.Ytjoaidnbkkmlpaa
/- THE CELL 'sum', in the pinned program and in every row, IS THE sha256 OF THE DUMP (.gsa) THAT YtjoaidnbkkmlpaaProg.lean LOADS. Nothing in Lean hashes anything: it is a label: what it is worth is what the hold of that sum in a sandbox is worth. -/
noncomputable def Try.pinned : Pinned := { name := "ytjoaidnbkkmlpaa", sum := "a99e56f82552d88e6d6aca63c9dcfebc1ca914325e72c9d2caea99b2a146db2b", checked := Try.checked }
namespace Rows
def none {H : Type} : Left H := { results := [], args := [] }

/-- 'dasdlaw21.AreaKeeps': WHATEVER THE INPUT: true; the input reads as it did. -/
def areaKeepsSpec : ChangeSpec := { name := "areaKeeps", fn := fun _ => fun
  | [d1, d2] => { results := [.lit (.bool true)], args := [d1, d2] }
  | _ => none }
def areaKeepsRow : OpenClaim := { program := "ytjoaidnbkkmlpaa", sum := "a99e56f82552d88e6d6aca63c9dcfebc1ca914325e72c9d2caea99b2a146db2b", func := "dasd/dasdlaw21.AreaKeeps", spec := "areaKeeps", inPlace := ["internal/bytealg.abigen_runtime_cmpstring", "slices.overlaps[string]", "slices.overlaps[dasd/api.NodeEntry]", "slices.overlaps[[]string]"], unfollowed := true, recurses := true, apart := false }
def AreaKeepsSaid : Prop := areaKeepsRow.holds Try.pinned (OpenSpec.ofChange areaKeepsSpec)

/-- ITS FALSE NEIGHBOUR: 'it returns false'. Refute it at one input. -/
def areaKeepsWrong : ChangeSpec := { name := "areaKeeps", fn := fun _ => fun
  | [d1, d2] => { results := [.lit (.bool false)], args := [d1, d2] }
  | _ => none }
def AreaKeepsWrongFalsely : Prop := areaKeepsRow.holds Try.pinned (OpenSpec.ofChange areaKeepsWrong)

/-- 'dasdlaw21.AreaHalves': WHATEVER THE INPUT: true; the input reads as it did. -/
def areaHalvesSpec : ChangeSpec := { name := "areaHalves", fn := fun _ => fun
  | [d1, d2, d3] => { results := [.lit (.bool true)], args := [d1, d2, d3] }
  | _ => none }
def areaHalvesRow : OpenClaim := { program := "ytjoaidnbkkmlpaa", sum := "a99e56f82552d88e6d6aca63c9dcfebc1ca914325e72c9d2caea99b2a146db2b", func := "dasd/dasdlaw21.AreaHalves", spec := "areaHalves", inPlace := ["internal/bytealg.abigen_runtime_cmpstring", "slices.overlaps[string]", "slices.overlaps[dasd/api.NodeEntry]", "slices.overlaps[[]string]"], unfollowed := true, recurses := true, apart := false }
def AreaHalvesSaid : Prop := areaHalvesRow.holds Try.pinned (OpenSpec.ofChange areaHalvesSpec)

/-- ITS FALSE NEIGHBOUR: 'it returns false'. Refute it at one input. -/
def areaHalvesWrong : ChangeSpec := { name := "areaHalves", fn := fun _ => fun
  | [d1, d2, d3] => { results := [.lit (.bool false)], args := [d1, d2, d3] }
  | _ => none }
def AreaHalvesWrongFalsely : Prop := areaHalvesRow.holds Try.pinned (OpenSpec.ofChange areaHalvesWrong)

/-- 'dasdlaw21.AreaRoom': WHATEVER THE INPUT: true; the input reads as it did. -/
def areaRoomSpec : ChangeSpec := { name := "areaRoom", fn := fun _ => fun
  | [d1, d2, d3] => { results := [.lit (.bool true)], args := [d1, d2, d3] }
  | _ => none }
def areaRoomRow : OpenClaim := { program := "ytjoaidnbkkmlpaa", sum := "a99e56f82552d88e6d6aca63c9dcfebc1ca914325e72c9d2caea99b2a146db2b", func := "dasd/dasdlaw21.AreaRoom", spec := "areaRoom", inPlace := ["internal/bytealg.abigen_runtime_cmpstring", "slices.overlaps[string]", "slices.overlaps[dasd/api.NodeEntry]", "slices.overlaps[[]string]"], unfollowed := true, recurses := true, apart := false }
def AreaRoomSaid : Prop := areaRoomRow.holds Try.pinned (OpenSpec.ofChange areaRoomSpec)

/-- ITS FALSE NEIGHBOUR: 'it returns false'. Refute it at one input. -/
def areaRoomWrong : ChangeSpec := { name := "areaRoom", fn := fun _ => fun
  | [d1, d2, d3] => { results := [.lit (.bool false)], args := [d1, d2, d3] }
  | _ => none }
def AreaRoomWrongFalsely : Prop := areaRoomRow.holds Try.pinned (OpenSpec.ofChange areaRoomWrong)

/- THE SECOND FORM. 'bulk': how many values and letters a reading holds, each counted each time it is reached (what is shared counts as often as it is met; a slice's spare places count too). A statement '..UptoSaid' is the law's where the arguments, and the package variables that the reading takes, are together of bulk at most 1048576: NARROWER than '..Said'. Prove '..Said' where nothing that the law and all that it calls make is longer than what came in: it says more and counts as full. Else prove '..UptoSaid'. A law counts once. -/
mutual
def uptoBulk {H : Type} : DataW H → Nat
  | .lit (.string bytes) => bytes.length + 1
  | .lit _ => 1
  | .nil => 1
  | .ptr d => uptoBulk d + 1
  | .slice elems spare => uptoBulkAll elems + uptoBulkAll spare + 1
  | .agg parts => uptoBulkAll parts + 1
  | .iface _ d => uptoBulk d + 1
  | .map entries => uptoBulkEntries entries + 1
  | .held _ => 1
def uptoBulkAll {H : Type} : List (DataW H) → Nat
  | [] => 0
  | d :: r => uptoBulk d + uptoBulkAll r
def uptoBulkEntries {H : Type} : List (Lit × DataW H) → Nat
  | [] => 0
  | x :: r => uptoBulkEntry x + uptoBulkEntries r
def uptoBulkEntry {H : Type} : Lit × DataW H → Nat
  | (.string bytes, d) => bytes.length + uptoBulk d + 1
  | (_, d) => uptoBulk d + 1
 end
def uptoSmall : (H : Type) → List (DataW H) → Bool := fun _ ds => decide (uptoBulkAll ds ≤ 1048576)
def OpenSpec.upto (s : _root_.Go.ChangeSpec) : _root_.Go.OpenSpec := { _root_.Go.OpenSpec.ofChange s with cond := some uptoSmall }

/-- 'dasdlaw21.AreaKeeps', WHERE WHAT IT READS IS OF BULK AT MOST 1048576: true; the input reads as it did. -/
def areaKeepsUptoRow : OpenClaim := { program := "ytjoaidnbkkmlpaa", sum := "a99e56f82552d88e6d6aca63c9dcfebc1ca914325e72c9d2caea99b2a146db2b", func := "dasd/dasdlaw21.AreaKeeps", spec := "areaKeeps", inPlace := ["internal/bytealg.abigen_runtime_cmpstring", "slices.overlaps[string]", "slices.overlaps[dasd/api.NodeEntry]", "slices.overlaps[[]string]"], unfollowed := true, recurses := true, apart := false, narrowed := true }
def AreaKeepsUptoSaid : Prop := areaKeepsUptoRow.holds Try.pinned (OpenSpec.upto areaKeepsSpec)

/-- 'dasdlaw21.AreaHalves', WHERE WHAT IT READS IS OF BULK AT MOST 1048576: true; the input reads as it did. -/
def areaHalvesUptoRow : OpenClaim := { program := "ytjoaidnbkkmlpaa", sum := "a99e56f82552d88e6d6aca63c9dcfebc1ca914325e72c9d2caea99b2a146db2b", func := "dasd/dasdlaw21.AreaHalves", spec := "areaHalves", inPlace := ["internal/bytealg.abigen_runtime_cmpstring", "slices.overlaps[string]", "slices.overlaps[dasd/api.NodeEntry]", "slices.overlaps[[]string]"], unfollowed := true, recurses := true, apart := false, narrowed := true }
def AreaHalvesUptoSaid : Prop := areaHalvesUptoRow.holds Try.pinned (OpenSpec.upto areaHalvesSpec)

/-- 'dasdlaw21.AreaRoom', WHERE WHAT IT READS IS OF BULK AT MOST 1048576: true; the input reads as it did. -/
def areaRoomUptoRow : OpenClaim := { program := "ytjoaidnbkkmlpaa", sum := "a99e56f82552d88e6d6aca63c9dcfebc1ca914325e72c9d2caea99b2a146db2b", func := "dasd/dasdlaw21.AreaRoom", spec := "areaRoom", inPlace := ["internal/bytealg.abigen_runtime_cmpstring", "slices.overlaps[string]", "slices.overlaps[dasd/api.NodeEntry]", "slices.overlaps[[]string]"], unfollowed := true, recurses := true, apart := false, narrowed := true }
def AreaRoomUptoSaid : Prop := areaRoomUptoRow.holds Try.pinned (OpenSpec.upto areaRoomSpec)

end Rows
end Go.Proofs.Ytjoaidnbkkmlpaa
