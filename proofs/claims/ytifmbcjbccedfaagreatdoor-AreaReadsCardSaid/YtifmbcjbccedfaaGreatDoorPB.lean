/- A part of the proof. -/
import Derived.Test.YtifmbcjbccedfaaGreatDoorPA

set_option linter.unusedSimpArgs false
set_option linter.unusedVariables false
namespace Dsd
structure DS where
 id : Int
 org : Int
 format : Int
 length : Int
 block : Int
 keyAt : Int
 keyLength : Int
 interval : Int
 area : Int
 freeInterval : Int
 freeArea : Int
 base : Int
 altAt : Int
 altLength : Int
 unique : Bool
 cls : Int
 volume : List UInt8
 owner : List UInt8
 created : Int
 expires : Int
 archived : Bool
structure Hd where
 applied : Int
 count : Int
 fin : Int
 root : Int
 height : Int
 splits : Int
 areas : Int
deriving DecidableEq
def Hd.zero : Hd := ⟨0, 0, 0, 0, 0, 0, 0⟩
def validK (d : DS) : Bool :=
 if d.org = 3 then
   decide (d.length ≤ d.interval / 2 - 8) && decide (0 ≤ d.keyAt) && decide (1 ≤ d.keyLength) && decide (d.keyLength ≤ d.interval / 16) && decide (d.keyAt + d.keyLength ≤ d.length) &&
     decide (2 ≤ d.area) && decide (d.area ≤ 8) && decide (0 ≤ d.freeInterval) && decide (d.freeInterval ≤ 90) && decide (0 ≤ d.freeArea) && decide (d.freeArea ≤ d.area - 1)
 else decide (d.keyAt = 0) && decide (d.keyLength = 0) && decide (d.area = 0) && decide (d.freeInterval = 0) && decide (d.freeArea = 0)
def validB (d : DS) : Bool :=
 decide (1 ≤ d.org) && decide (d.org ≤ 3) && isSizeB d.interval && decide (1 ≤ d.length) && decide (d.length ≤ 200) && decide (d.length ≤ d.interval - 7) && decide (d.format = 0) && decide (d.block = 0) && validK d
theorem valid_spec {d : DS} (h : validB d = true) : 1 ≤ d.org ∧ d.org ≤ 3 ∧ isSizeB d.interval = true ∧ 1 ≤ d.length ∧ d.length ≤ 200 ∧ d.length ≤ d.interval - 7 := by
 simp [validB] at h
 obtain ⟨⟨⟨⟨⟨⟨⟨⟨h1, h2⟩, h3⟩, h4⟩, h5⟩, h6⟩, _⟩, _⟩, _⟩ := h
 exact ⟨h1, h2, h3, h4, h5, h6⟩
def pageOf (m : List (List UInt8)) (n : Int) : List UInt8 × Int := if 0 ≤ n ∧ n < m.length then (m.getD n.toNat [], 0) else ([], 2)
open Classical in
noncomputable def decOf (size : Int) (s : List UInt8) : Option (List (List UInt8)) := if h : ∃ L, Enc size L s then some h.choose else none
theorem decOf_some {size : Int} {L : List (List UInt8)} {s : List UInt8} (h : Enc size L s) : decOf size s = some L := by
 have hx : ∃ L, Enc size L s := ⟨L, h⟩
 unfold decOf
 rw [dif_pos hx]
 obtain ⟨n, rfl, hn⟩ := isSize_nat (encErr_zero h.1).1
 rw [enc_inj (by omega) h hx.choose_spec]
theorem decOf_none {size : Int} {s : List UInt8} (h : ∀ L, ¬ Enc size L s) : decOf size s = none := by
 unfold decOf
 rw [dif_neg (fun ⟨L, k⟩ => h L k)]
end Dsd
namespace Dsd
abbrev Recs := List (List UInt8)
end Dsd
namespace Dsd
end Dsd
namespace Dsd
end Dsd
namespace Dsd
end Dsd
