/- A slice of an area's operations that comes in, as our walks take it. -/
import Derived.Test.YtjoaidnbkkmlpaaOpG
import Derived.Test.YtjoaidnbkkmlpaaAW0
set_option linter.unusedSimpArgs false
set_option linter.unusedVariables false
namespace Go.Proofs.Ytjoaidnbkkmlpaa
open Go.ChangeShapes Go.WideShapes Go.Deep Go.RowKit Dsd
theorem aopTypes : (Try.prog.fieldsOf 53).toList.map (fun f => f.type) = [9, 4] := by kernel_rfl
theorem aopDesc : Try.prog.underlying 53 = some (.struct (Try.prog.fieldsOf 53)) := by kernel_rfl
theorem open_aops {H : Type} {enc : TypeId × Value → H} {w : World} {base : Nat} {spare : Nat → Bool} {held : Bool} {t : TypeId} {a : Option Addr} {len cap : Nat} {d : DataW H} {ps : List MemPlace}
    (ht : Try.prog.underlying t = some (.slice 53)) (h : DataW.Trod enc Try.prog w base spare held t (.slice a len cap) d ps) :
    ∃ L : List AOp, AOps w a L ∧ L.length = len ∧ len ≤ cap ∧ cap ≤ maxLen := by
  obtain ⟨fuel, hf⟩ := h
  have hfs := aopTypes
  have hsz : (Try.prog.fieldsOf 53).size = 2 := by kernel_rfl
  rcases open_slice_fields ht aopDesc (by kernel_rfl) (by kernel_rfl) hf with ⟨hcs, _⟩ | ⟨x, l, c, m, D, Pl, hcs, _, hl, hm, hmm, _, hi⟩
  · simp [Value.cells] at hcs
    obtain ⟨rfl, rfl, rfl⟩ := hcs
    exact ⟨[], .inl rfl, rfl, Nat.le_refl _, by simp⟩
  · simp [Value.cells] at hcs
    obtain ⟨rfl, rfl, rfl⟩ := hcs
    have hlm : len ≤ m := by rw [hmm]; split <;> omega
    have hcell : ∀ i, i < len → (∃ s : ByteArray, w.cell? (x.add (i * 2)) = some (.string s)) ∧ ∃ u : Bool, w.cell? (x.add (i * 2 + 1)) = some (.bool u) := by
      intro i hil
      obtain ⟨ys, n, _, _, _, hj⟩ := hi i (by omega)
      rw [hsz] at hj
      generalize Try.prog.fieldsOf 53 = fs at *
      have g0 := congrArg (fun l => l[0]?) hfs
      have g1 := congrArg (fun l => l[1]?) hfs
      simp at g0 g1
      obtain ⟨f0, e0, t0⟩ := g0
      obtain ⟨f1, e1, t1⟩ := g1
      obtain ⟨v0, y0, c0, _, h0⟩ := hj 0 f0 e0
      obtain ⟨v1, y1, c1, _, h1⟩ := hj 1 f1 e1
      rw [t0] at h0
      rw [t1] at h1
      obtain ⟨s, hs, _, _⟩ := DataW.trod_string Try.underlying9 h0
      obtain ⟨b, hb, _⟩ := DataW.trod_bool Try.underlying4 h1
      simp at hb hs
      subst hb hs
      exact ⟨⟨s, c0⟩, b, c1⟩
    refine ⟨(List.range len).map fun i => (cellStr w (x.add (i * 2)), cellBool w (x.add (i * 2 + 1))), ?_, by simp, hl, hm⟩
    by_cases h0 : len = 0
    · subst h0; exact .inl (by simp)
    · obtain ⟨⟨s, c0⟩, _⟩ := hcell 0 (by omega)
      have hx := cell_spot c0
      simp only [Nat.zero_mul, Addr.add, if_true] at hx
      obtain ⟨b, off, sp⟩ := x
      simp only at hx
      obtain ⟨rfl, hb⟩ := hx
      refine .inr ⟨b, off, rfl, hb, fun i hil => ?_⟩
      simp only [List.length_map, List.length_range] at hil
      obtain ⟨⟨s, c0⟩, u, c1⟩ := hcell i hil
      have k0 := (cellStr_of c0).1
      have k1 := cellBool_of c1
      rw [addr_add] at k0 k1
      simp only [List.getD, List.getElem?_map, List.getElem?_range hil, Option.map_some, Option.getD_some, addr_add]
      exact ⟨k0, by rw [Nat.add_assoc]; exact k1⟩
end Go.Proofs.Ytjoaidnbkkmlpaa
