/- A slice of sector writes that comes in, as our walks take it. -/
import Derived.Test.YtmnpappbacndlaaGreatDoorOpG
import Derived.Test.YtmnpappbacndlaaGreatDoorSA
set_option linter.unusedSimpArgs false
set_option linter.unusedVariables false
namespace Go.Proofs.YtmnpappbacndlaaGreatDoor
open Go.ChangeShapes Go.WideShapes Go.Deep Go.RowKit Dsd
def cellIntS (w : World) (a : Addr) : Int := match w.cell? a with
  | some (.int _ n) => n
  | _ => 0
theorem cellIntS_of {w : World} {a : Addr} {n : Int} (h : w.cell? a = some (.int .i64 n)) : w.cell? a = some (.int .i64 (cellIntS w a)) := by unfold cellIntS; rw [h]
theorem swTypesO : (Tryz.prog.fieldsOf 25).toList.map (fun f => f.type) = [3, 9] := by kernel_rfl
theorem swFieldsO : Tryz.prog.underlying 25 = some (.struct (Tryz.prog.fieldsOf 25)) := by kernel_rfl
theorem open_sws {H : Type} {enc : TypeId × Value → H} {w : World} {base : Nat} {spare : Nat → Bool} {held : Bool} {t : TypeId} {a : Option Addr} {len cap : Nat} {d : DataW H} {ps : List MemPlace}
    (ht : Tryz.prog.underlying t = some (.slice 25)) (h : DataW.Trod enc Tryz.prog w base spare held t (.slice a len cap) d ps) :
    ∃ L : List SW, Cells w a (swC L) ∧ L.length = len ∧ len ≤ cap ∧ cap ≤ maxLen := by
  obtain ⟨fuel, hf⟩ := h
  have hfs := swTypesO
  have hsz : (Tryz.prog.fieldsOf 25).size = 2 := by kernel_rfl
  rcases open_slice_fields ht swFieldsO (by kernel_rfl) (by kernel_rfl) hf with ⟨hcs, _⟩ | ⟨x, l, c, m, D, Pl, hcs, _, hl, hm, hmm, _, hi⟩
  · simp [Value.cells] at hcs
    obtain ⟨rfl, rfl, rfl⟩ := hcs
    exact ⟨[], .inl rfl, rfl, Nat.le_refl _, by simp⟩
  · simp [Value.cells] at hcs
    obtain ⟨rfl, rfl, rfl⟩ := hcs
    have hlm : len ≤ m := by rw [hmm]; split <;> omega
    have hcell : ∀ i, i < len → (∃ u, w.cell? (x.add (i * 2)) = some (.int .i64 u)) ∧ ∃ s : ByteArray, w.cell? (x.add (i * 2 + 1)) = some (.string s) := by
      intro i hil
      obtain ⟨ys, n, _, _, _, hj⟩ := hi i (by omega)
      rw [hsz] at hj
      generalize Tryz.prog.fieldsOf 25 = fs at *
      have g0 := congrArg (fun l => l[0]?) hfs
      have g1 := congrArg (fun l => l[1]?) hfs
      simp at g0 g1
      obtain ⟨f0, e0, t0⟩ := g0
      obtain ⟨f1, e1, t1⟩ := g1
      obtain ⟨v0, y0, c0, _, h0⟩ := hj 0 f0 e0
      obtain ⟨v1, y1, c1, _, h1⟩ := hj 1 f1 e1
      rw [t0] at h0
      rw [t1] at h1
      obtain ⟨b, hb, _, _⟩ := DataW.trod_int Tryz.underlying3 h0
      obtain ⟨s, hs, _, _⟩ := DataW.trod_string Tryz.underlying9 h1
      simp at hb hs
      subst hb hs
      exact ⟨⟨b, c0⟩, s, c1⟩
    refine ⟨(List.range len).map fun i => (cellIntS w (x.add (i * 2)), cellStr w (x.add (i * 2 + 1))), ?_, by simp, hl, hm⟩
    by_cases h0 : len = 0
    · subst h0; exact .inl (by simp [swC])
    · obtain ⟨⟨u, c0⟩, _⟩ := hcell 0 (by omega)
      have hx := cell_spot c0
      simp only [Nat.zero_mul, Addr.add, if_true] at hx
      obtain ⟨b, off, sp⟩ := x
      simp only at hx
      obtain ⟨rfl, hb⟩ := hx
      refine .inr ⟨b, off, rfl, hb, fun t ht => ?_⟩
      rw [swC_len] at ht
      simp only [List.length_map, List.length_range] at ht
      obtain ⟨i, hi2⟩ : ∃ i, t = i * 2 ∨ t = i * 2 + 1 := ⟨t / 2, by omega⟩
      have hil : i < len := by omega
      have hat := swC_at ((List.range len).map fun i => (cellIntS w (Addr.add ⟨b, off, none⟩ (i * 2)), cellStr w (Addr.add ⟨b, off, none⟩ (i * 2 + 1)))) i (by simpa using hil)
      obtain ⟨⟨u, c0⟩, s, c1⟩ := hcell i hil
      have k0 := cellIntS_of c0
      have k1 := (cellStr_of c1).1
      have e : swAt ((List.range len).map fun i => (cellIntS w (Addr.add ⟨b, off, none⟩ (i * 2)), cellStr w (Addr.add ⟨b, off, none⟩ (i * 2 + 1)))) i = (cellIntS w (Addr.add ⟨b, off, none⟩ (i * 2)), cellStr w (Addr.add ⟨b, off, none⟩ (i * 2 + 1))) := by
        simp only [swAt, List.getD, List.getElem?_map, List.getElem?_range hil, Option.map_some, Option.getD_some]
      rw [e] at hat
      have hg : ∀ (l : List Value) t v, l[t]? = some v → l.getD t undef = v := fun l t v h => by simp [List.getD, h]
      rcases hi2 with rfl | rfl
      · rw [hg _ _ _ hat.1, ← addr_add]; exact k0
      · rw [hg _ _ _ hat.2, ← addr_add]; exact k1
end Go.Proofs.YtmnpappbacndlaaGreatDoor
