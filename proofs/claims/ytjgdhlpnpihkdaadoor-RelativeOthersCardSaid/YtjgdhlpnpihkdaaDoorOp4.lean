/- A slice of operations that comes in, as our walks take it. -/
import Derived.Test.YtjgdhlpnpihkdaaDoorOp2
import Derived.Test.YtjgdhlpnpihkdaaDoorR18
set_option linter.unusedSimpArgs false
set_option linter.unusedVariables false
namespace Go.Proofs.YtjgdhlpnpihkdaaDoor
open Go.ChangeShapes Go.WideShapes Go.Deep Go.RowKit Dsd

def cellInt (w : World) (a : Addr) : Int := match w.cell? a with
  | some (.int _ n) => n
  | _ => 0
theorem cellInt_of {w : World} {a : Addr} {n : Int} (h : w.cell? a = some (.int .i64 n)) : w.cell? a = some (.int .i64 (cellInt w a)) ∧ cellInt w a = n := by unfold cellInt; rw [h]; exact ⟨rfl, rfl⟩
theorem opTypes : (Tryd.prog.fieldsOf 78).toList.map (fun f => f.type) = [3, 9] := by kernel_rfl
theorem open_ops {H : Type} {enc : TypeId × Value → H} {w : World} {base : Nat} {spare : Nat → Bool} {held : Bool} {t : TypeId} {a : Option Addr} {len cap : Nat} {d : DataW H} {ps : List MemPlace}
    (ht : Tryd.prog.underlying t = some (.slice 78)) (h : DataW.Trod enc Tryd.prog w base spare held t (.slice a len cap) d ps) :
    ∃ L : List (Int × List UInt8), Opsl w a L ∧ L.length = len ∧ len ≤ cap ∧ cap ≤ maxLen ∧ ∀ i, (L.getD i (0, [])).2.length ≤ maxLen ∧ (Lit.int .i64 (L.getD i (0, [])).1).wf = true := by
  obtain ⟨fuel, hf⟩ := h
  have hfs := opTypes
  have hsz : (Tryd.prog.fieldsOf 78).size = 2 := by kernel_rfl
  rcases open_slice_fields ht opDesc (by kernel_rfl) (by kernel_rfl) hf with ⟨hcs, _⟩ | ⟨x, l, c, m, D, Pl, hcs, _, hl, hm, hmm, _, hi⟩
  · simp [Value.cells] at hcs
    obtain ⟨rfl, rfl, rfl⟩ := hcs
    exact ⟨[], .inl rfl, rfl, Nat.le_refl _, by simp, by simp; decide⟩
  · simp [Value.cells] at hcs
    obtain ⟨rfl, rfl, rfl⟩ := hcs
    have hlm : len ≤ m := by rw [hmm]; split <;> omega
    have hcell : ∀ i, i < len → (∃ u, w.cell? (x.add (i * 2)) = some (.int .i64 u) ∧ (Lit.int .i64 u).wf = true) ∧ ∃ s : ByteArray, w.cell? (x.add (i * 2 + 1)) = some (.string s) ∧ s.size ≤ maxLen := by
      intro i hil
      obtain ⟨ys, n, _, _, _, hj⟩ := hi i (by omega)
      rw [hsz] at hj
      generalize Tryd.prog.fieldsOf 78 = fs at *
      have g0 := congrArg (fun l => l[0]?) hfs
      have g1 := congrArg (fun l => l[1]?) hfs
      simp at g0 g1
      obtain ⟨f0, e0, t0⟩ := g0
      obtain ⟨f1, e1, t1⟩ := g1
      obtain ⟨v0, y0, c0, _, h0⟩ := hj 0 f0 e0
      obtain ⟨v1, y1, c1, _, h1⟩ := hj 1 f1 e1
      rw [t0] at h0
      rw [t1] at h1
      obtain ⟨b, hb, _, hwb⟩ := DataW.trod_int Tryd.underlying3 h0
      obtain ⟨s, hs, _, hw⟩ := DataW.trod_string Tryd.underlying9 h1
      simp at hb hs
      subst hb hs
      exact ⟨⟨b, c0, hwb⟩, s, c1, hw⟩
    refine ⟨(List.range len).map fun i => (cellInt w (x.add (i * 2)), cellStr w (x.add (i * 2 + 1))), ?_, by simp, hl, hm, ?_⟩
    · by_cases h0 : len = 0
      · subst h0; exact .inl (by simp)
      · obtain ⟨⟨u, c0, _⟩, _⟩ := hcell 0 (by omega)
        have hx := cell_spot c0
        simp only [Nat.zero_mul, Addr.add, if_true] at hx
        obtain ⟨b, off, sp⟩ := x
        simp only at hx
        obtain ⟨rfl, hb⟩ := hx
        refine .inr ⟨b, off, rfl, hb, fun i hil => ?_⟩
        simp only [List.length_map, List.length_range] at hil
        obtain ⟨⟨u, c0, _⟩, s, c1, _⟩ := hcell i hil
        have k0 := (cellInt_of c0).1
        have k1 := (cellStr_of c1).1
        rw [addr_add] at k0 k1
        simp only [List.getD, List.getElem?_map, List.getElem?_range hil, Option.map_some, Option.getD_some, addr_add]
        exact ⟨k0, by rw [Nat.add_assoc]; exact k1⟩
    · intro i
      by_cases hil : i < len
      · obtain ⟨⟨u, c0, hwu⟩, s, c1, hw⟩ := hcell i hil
        simp only [List.getD, List.getElem?_map, List.getElem?_range hil, Option.map_some, Option.getD_some]
        exact ⟨by rw [(cellStr_of c1).2]; exact hw, by rw [(cellInt_of c0).2]; exact hwu⟩
      · have : ((List.range len).map fun i => (cellInt w (x.add (i * 2)), cellStr w (x.add (i * 2 + 1)))).getD i (0, []) = (0, []) := by
          simp [List.getD, Nat.not_lt.1 hil]
        rw [this]
        exact ⟨by simp, by decide⟩
end Go.Proofs.YtjgdhlpnpihkdaaDoor
