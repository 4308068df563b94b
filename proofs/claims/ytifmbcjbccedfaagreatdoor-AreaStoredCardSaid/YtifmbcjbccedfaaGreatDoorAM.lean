/- A part of the proof. -/
import Derived.Test.YtifmbcjbccedfaaGreatDoorAL

set_option linter.unusedSimpArgs false
set_option linter.unusedVariables false
namespace Dsd
theorem entCells_cons (x : Ent) (L : List Ent) : entCells (x :: L) = .string ⟨x.1.toArray⟩ :: .int .i64 x.2 :: entCells L := rfl
theorem entCells_take : ∀ (L : List Ent) (k : Nat), entCells (L.take k) = (entCells L).take (k * 2)
 | [], k => by simp [entCells]
 | x :: L, 0 => by simp [entCells]
 | x :: L, k + 1 => by rw [List.take_succ_cons, entCells_cons, entCells_cons, entCells_take L k, show (k + 1) * 2 = k * 2 + 1 + 1 by omega, List.take_succ_cons, List.take_succ_cons]
theorem entCells_drop : ∀ (L : List Ent) (k : Nat), entCells (L.drop k) = (entCells L).drop (k * 2)
 | [], k => by simp [entCells]
 | x :: L, 0 => by simp [entCells]
 | x :: L, k + 1 => by rw [List.drop_succ_cons, entCells_cons, entCells_drop L k, show (k + 1) * 2 = k * 2 + 1 + 1 by omega, List.drop_succ_cons, List.drop_succ_cons]
theorem entCells_bel : ∀ (L : List Ent) (i : Nat) (s : List UInt8), i < L.length → entCells (L.set i (s, (entAt L i).2)) = (entCells L).set (i * 2) (.string ⟨s.toArray⟩)
 | x :: L, 0, s, _ => by simp [entCells, entAt]
 | x :: L, i + 1, s, h => by
   have ih := entCells_bel L i s (by simpa using h)
   rw [List.set_cons_succ, entCells_cons, entCells_cons, show (i + 1) * 2 = i * 2 + 1 + 1 by omega, List.set_cons_succ, List.set_cons_succ]
   have e : entAt (x :: L) (i + 1) = entAt L i := by simp [entAt]
   rw [e, ih]
end Dsd
namespace Go.Proofs.YtifmbcjbccedfaaGreatDoor
open Go.RowKit Dsd
theorem cells_chgO {w w' : World} {g b o : Nat} {xs : List Value} (h : Cells w (some ⟨g, o, none⟩) xs) (hne : g ≠ b) (c : Chg b w w') : Cells w' (some ⟨g, o, none⟩) xs := by
 rcases h with h | ⟨b', o', hq, hl, hc⟩
 · exact .inl h
 · simp only [Option.some.injEq, Addr.mk.injEq, and_true] at hq
   obtain ⟨rfl, rfl⟩ := hq
   refine .inr ⟨g, o, rfl, by rw [c.size]; exact hl, fun i hi => ?_⟩
   rw [← hc i hi]
   simp only [World.cell?, c.block g hne]
end Go.Proofs.YtifmbcjbccedfaaGreatDoor
