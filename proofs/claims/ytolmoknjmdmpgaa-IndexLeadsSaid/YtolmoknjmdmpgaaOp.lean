/- A slice of strings that comes in, as our walks take it. -/
import Derived.Test.YtolmoknjmdmpgaaBase
import Derived.SliceStrings
import Derived.OpenShut
import Derived.ChangeMaps5
set_option linter.unusedSimpArgs false
set_option linter.unusedVariables false
namespace Go.Proofs.Ytolmoknjmdmpgaa
open Go.ChangeShapes Go.WideShapes Go.RowKit Dsd

theorem open_strs {H : Type} {enc : TypeId × Value → H} {P : Program} {w : World} {base : Nat} {spare : Nat → Bool} {held : Bool} {t e : TypeId} {a : Option Addr} {len cap : Nat} {d : DataW H} {ps : List MemPlace}
    (ht : P.underlying t = some (.slice e)) (he : P.underlying e = some .string) (hc : P.cellsOf e = 1) (h : DataW.Trod enc P w base spare held t (.slice a len cap) d ps) :
    ∃ L : List (List UInt8), Strs w a L ∧ L.length = len ∧ len ≤ cap ∧ cap ≤ maxLen ∧ ∀ s ∈ L, s.length ≤ maxLen := by
  obtain ⟨fuel, hf⟩ := h
  rcases open_strings ht he hc hf with ⟨hcs, _⟩ | ⟨x, l, c, ss, hcs, _, hl, hm, hsl, _, hcell, hw⟩
  · simp [Value.cells] at hcs
    obtain ⟨rfl, rfl, rfl⟩ := hcs
    exact ⟨[], .inl rfl, rfl, Nat.le_refl _, by simp, by simp⟩
  · simp [Value.cells] at hcs
    obtain ⟨rfl, rfl, rfl⟩ := hcs
    have hls : len ≤ ss.length := by rw [hsl]; split <;> omega
    have hll : ((ss.take len).map fun s => s.data.toList).length = len := by simp; omega
    refine ⟨(ss.take len).map fun s => s.data.toList, ?_, hll, hl, hm, ?_⟩
    · by_cases h0 : len = 0
      · subst h0; exact .inl (by simp)
      · have c0 := hcell 0 (by omega)
        have hsp : x.spot = none := by
          simp only [Addr.add, if_true] at c0
          unfold World.cell? at c0
          split at c0
          · split at c0
            · cases c0
            · rename_i h; simpa using h
          · cases c0
        obtain ⟨b, off, sp⟩ := x
        simp only at hsp
        subst hsp
        have hb : b < w.heap.size := by
          simp only [Addr.add, if_true] at c0
          unfold World.cell? at c0
          split at c0
          · rename_i h; exact (Array.getElem?_eq_some_iff.1 h).1
          · cases c0
        refine .inr ⟨b, off, rfl, hb, fun i hi => ?_⟩
        simp only [List.length_map, List.length_take] at hi
        have := hcell i (by omega)
        rw [addr_add] at this
        rw [this]
        have hi2 : i < ss.length := by omega
        have hi3 : i < len := by omega
        simp [List.getD, hi2, hi3]
    · intro s hs
      simp only [List.mem_map] at hs
      obtain ⟨s', hs', rfl⟩ := hs
      have := hw s' (List.mem_of_mem_take hs')
      have e : s'.data.toList.length = s'.size := rfl
      rw [e]; exact this
end Go.Proofs.Ytolmoknjmdmpgaa
