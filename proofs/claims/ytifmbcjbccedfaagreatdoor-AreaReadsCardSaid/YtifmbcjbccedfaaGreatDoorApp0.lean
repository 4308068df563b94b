/- A part of the proof. -/
import Derived.Test.YtifmbcjbccedfaaGreatDoorPiv

set_option linter.unusedSimpArgs false
set_option linter.unusedVariables false
namespace Dsd
open Go Go.RowKit
section
variable {P : Program}
end
def RowsF (E : TypeId) (B size n : Nat) (xs : List Value) : Fact := fun x w => ∃ q c, x = .slice q n c ∧ w.ownsRow B E size (.slice q n c) n xs
def NoneF (E : TypeId) (B : Nat) : Fact := fun x w => ∃ b, x = .slice (some ⟨b, 0, none⟩) 0 0 ∧ Blk w b (.cells #[] E) ∧ B ≤ b
theorem NoneF.stable (E : TypeId) (B : Nat) : (NoneF E B).stable := fun _ _ _ he ⟨b, h1, h2, h3⟩ => ⟨b, h1, he.blk _ _ h2, h3⟩
end Dsd
namespace Go.Proofs.YtifmbcjbccedfaaGreatDoor
open Go.RowKit Dsd
theorem RowsF.stable (E : TypeId) (B size n : Nat) (xs : List Value) : (RowsF E B size n xs).stable := fun _ _ _ he ⟨q, c, h1, h2⟩ => ⟨q, c, h1, own_ext h2 he⟩
end Go.Proofs.YtifmbcjbccedfaaGreatDoor
