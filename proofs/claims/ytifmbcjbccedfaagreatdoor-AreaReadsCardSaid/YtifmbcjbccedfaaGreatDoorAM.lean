/- A part of the proof. -/
import Derived.Test.YtifmbcjbccedfaaGreatDoorAL

set_option linter.unusedSimpArgs false
set_option linter.unusedVariables false
namespace Dsd
end Dsd
namespace Go.Proofs.YtifmbcjbccedfaaGreatDoor
open Go.RowKit Dsd
theorem cells_chgO {w w' : World} {g b o : Nat} {xs : List Value} (h : Cells w (some ⟨g, o, none⟩) xs) (hne : g ≠ b) (c : Chg b w w') : Cells w' (some ⟨g, o, none⟩) xs := by
 rcases h with h | ⟨b', o', hq, hl, hc⟩
 · exact .inl h
 · simp only [Option.some.injEq, Addr.mk.injEq, and_true] at hq
   obtain ⟨rfl, rfl⟩ := hq
   refine .inr ⟨g, o, rfl, by rw [c.size]; exact hl, fun i hi => ?_⟩
   rw [← hc i hi]
   simp only [World.cell?, c.block g hne]
end Go.Proofs.YtifmbcjbccedfaaGreatDoor
