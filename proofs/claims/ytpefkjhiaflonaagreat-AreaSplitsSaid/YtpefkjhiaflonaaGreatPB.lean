/- Plain words of chapters 16 and 18: descriptions, headers, pages, and what the functions of an entry-sequenced cluster answer. No program in sight. -/
import Derived.Test.YtpefkjhiaflonaaGreatPA
set_option linter.unusedSimpArgs false
set_option linter.unusedVariables false
namespace Dsd

/-- A description of a data set. -/
structure DS where
  id : Int
  org : Int
  format : Int
  length : Int
  block : Int
  keyAt : Int
  keyLength : Int
  interval : Int
  area : Int
  freeInterval : Int
  freeArea : Int
  base : Int
  altAt : Int
  altLength : Int
  unique : Bool
  cls : Int
  volume : List UInt8
  owner : List UInt8
  created : Int
  expires : Int
  archived : Bool

/-- The part of a description's validity that a keyed cluster adds, or another one. -/
def validK (d : DS) : Bool :=
  if d.org = 3 then
    decide (d.length ≤ d.interval / 2 - 8) && decide (0 ≤ d.keyAt) && decide (1 ≤ d.keyLength) && decide (d.keyLength ≤ d.interval / 16) && decide (d.keyAt + d.keyLength ≤ d.length) &&
      decide (2 ≤ d.area) && decide (d.area ≤ 8) && decide (0 ≤ d.freeInterval) && decide (d.freeInterval ≤ 90) && decide (0 ≤ d.freeArea) && decide (d.freeArea ≤ d.area - 1)
  else decide (d.keyAt = 0) && decide (d.keyLength = 0) && decide (d.area = 0) && decide (d.freeInterval = 0) && decide (d.freeArea = 0)
/-- Is the description that of a cluster? -/
def validB (d : DS) : Bool :=
  decide (1 ≤ d.org) && decide (d.org ≤ 3) && isSizeB d.interval && decide (1 ≤ d.length) && decide (d.length ≤ 200) && decide (d.length ≤ d.interval - 7) && decide (d.format = 0) && decide (d.block = 0) && validK d

theorem valid_spec {d : DS} (h : validB d = true) : 1 ≤ d.org ∧ d.org ≤ 3 ∧ isSizeB d.interval = true ∧ 1 ≤ d.length ∧ d.length ≤ 200 ∧ d.length ≤ d.interval - 7 := by
  simp [validB] at h
  obtain ⟨⟨⟨⟨⟨⟨⟨⟨h1, h2⟩, h3⟩, h4⟩, h5⟩, h6⟩, _⟩, _⟩, _⟩ := h
  exact ⟨h1, h2, h3, h4, h5, h6⟩

open Classical in

/-! ### The end of a cluster -/

end Dsd
/- Plain laws of chapter 18: a cluster that was built by appends, as chunks of records. -/
namespace Dsd

abbrev Recs := List (List UInt8)
end Dsd
/- Plain words of chapter 18: the record at an address. -/
namespace Dsd

end Dsd
/- Plain words of chapter 18: pages after some writes. -/
namespace Dsd

end Dsd
/- Plain words of chapter 18: the addresses that records of some lengths get. -/
namespace Dsd

end Dsd
