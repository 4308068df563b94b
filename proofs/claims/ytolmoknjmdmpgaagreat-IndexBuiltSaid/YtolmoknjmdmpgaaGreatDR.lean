/- The walks of the reference's Locate and Bounds, of trees. -/
import Derived.Test.YtolmoknjmdmpgaaGreatFE
import Derived.Test.YtolmoknjmdmpgaaGreatFD
import Derived.Test.YtolmoknjmdmpgaaGreatFC
import Derived.Test.YtolmoknjmdmpgaaGreatFF
set_option linter.unusedSimpArgs false
set_option linter.unusedVariables false
namespace Go.Proofs.YtolmoknjmdmpgaaGreat
open Go.RowKit Dsd
theorem intC_one (L : List Int) : ∀ u ∈ intC L, u.oneCell' = true := by
  intro u hu
  simp [intC] at hu
  obtain ⟨x, _, rfl⟩ := hu
  rfl
theorem path_ints {w : World} {B n c : Nat} {q : Option Addr} {L : List Int} (h : w.ownsRow B 3 1 (.slice q n c) n (intC L)) : Ints w q L := by
  obtain ⟨hl, ⟨hv, h0⟩ | ⟨g', cap, cur, hv, h1, h2, h3, h4, h5, h6⟩⟩ := h
  · cases hv
    refine .inl ?_
    have hl2 : L.length = 0 := by simpa [intC, h0] using hl
    rw [List.eq_nil_of_length_eq_zero hl2]; rfl
  · simp only [Value.slice.injEq] at hv
    obtain ⟨rfl, _, rfl⟩ := hv
    exact cells_take h2 h6
end Go.Proofs.YtolmoknjmdmpgaaGreat
