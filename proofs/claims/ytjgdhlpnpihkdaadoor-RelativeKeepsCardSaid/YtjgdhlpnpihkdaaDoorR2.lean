/- Rows of slots of one's own. -/
import Derived.Test.YtjgdhlpnpihkdaaDoorP19
import Derived.Test.YtjgdhlpnpihkdaaDoorW25
import Derived.Test.YtjgdhlpnpihkdaaDoorXH
set_option linter.unusedSimpArgs false
set_option linter.unusedVariables false
namespace Go.Proofs.YtjgdhlpnpihkdaaDoor
open Go.RowKit Dsd
/-- A slot of a row of one's own is read, and stored. -/
theorem own_setS {w : World} {base : Nat} {e : TypeId} {q : Option Addr} {n c : Nat} {L : List Slt} (h : w.ownsRow base e 2 (.slice q n c) n (slotCells L)) (i : Nat) (hi : i < n) :
    ∃ g, q = some ⟨g, 0, none⟩ ∧ base ≤ g ∧ g < w.heap.size ∧ w.frozen? ⟨g, i * 2, none⟩ = false ∧ w.frozen? ⟨g, i * 2 + 1, none⟩ = false ∧ w.cell? ⟨g, i * 2, none⟩ = some (.bool (slotAt L i).1) ∧ w.cell? ⟨g, i * 2 + 1, none⟩ = some (.string ⟨(slotAt L i).2.toArray⟩) ∧
      ∀ (u : Bool) (s : List UInt8), ((w.setCell ⟨g, i * 2, none⟩ (.bool u)).setCell ⟨g, i * 2 + 1, none⟩ (.string ⟨s.toArray⟩)).ownsRow base e 2 (.slice q n c) n (slotCells (L.set i (u, s))) ∧ Chg g w ((w.setCell ⟨g, i * 2, none⟩ (.bool u)).setCell ⟨g, i * 2 + 1, none⟩ (.string ⟨s.toArray⟩)) ∧ (∃ cs, Blk w g (.cells cs e)) := by
  have hl := length_slotCells L
  obtain ⟨hln, ⟨h1, h2⟩ | ⟨g, cap, cur, h1, h2, h3, h4, h5, h6, h7⟩⟩ := h
  · omega
  · simp at h1
    obtain ⟨rfl, rfl⟩ := h1
    have hb : Blk w g (.cells cur e) := h3
    have hL : i < L.length := by omega
    obtain ⟨a, b⟩ := slotCells_at L i hL
    refine ⟨g, rfl, h2, Blk.lt hb, Blk.free hb _, Blk.free hb _, ?_, ?_, fun u s => ⟨⟨by simp [length_slotCells]; omega, .inr ⟨g, c, (cur.setIfInBounds (i * 2) (.bool u)).setIfInBounds (i * 2 + 1) (.string ⟨s.toArray⟩), rfl, h2, Blk.setCell (Blk.setCell hb), h4, h5, by simp [h6], ?_⟩⟩, Chg.setCell.trans Chg.setCell, _, hb⟩⟩
    · refine Blk.val hb _ _ ?_
      rw [← h7, List.getElem?_take, if_pos (by omega)] at a
      simpa [slotAt] using a
    · refine Blk.val hb _ _ ?_
      rw [← h7, List.getElem?_take, if_pos (by omega)] at b
      simpa [slotAt] using b
    · rw [← slotCells_set L i hL, ← h7]
      simp [List.take_set]
end Go.Proofs.YtjgdhlpnpihkdaaDoor
