/- append to an empty slice literal of one's own: the old blocks stand as they were; facts for rows of one's own in a region's walk. Over any program. -/
import Derived.Test.YtmnpappbacndlaaGreatDoorPiv
import Derived.Test.YtmnpappbacndlaaGreatDoorB2
import Derived.Test.YtmnpappbacndlaaGreatDoorGA
set_option linter.unusedSimpArgs false
set_option linter.unusedVariables false
namespace Dsd
open Go Go.RowKit
section
variable {P : Program}
theorem run_append00 (w : World) (t ty e : TypeId) (i : TypeInfo) (ht : P.underlying t = some (.slice e)) (hi : P.info? e = some i) (g : Nat) (q : Option Addr) (c : Nat) :
    (Builtin.append_ #[t, t] ty #[.slice (some ⟨g, 0, none⟩) 0 0, .slice q 0 c]).run P w = .ok (.slice (some ⟨g, 0, none⟩) 0 0) w := by
  cases q <;> simp [Builtin.append_, run_underlying ht, Go.sizeOf, typeInfo, hi, Builtin.lenOf, Builtin.firstCells, loadCells, loadCellsFrom, Go.storeCells]
/-- append of m elements to a row of no capacity. -/
theorem wp_append0 {w : World} {o : Oper} {a : Act} {K : Act → World → Prop} {Q : Exit → Act → World → Prop} (d s : Operand) (T E : TypeId)
    (ho : o.op = .call { callee := .builtin .append, args := #[d, s], argTypes := #[T, T] })
    (base : Nat) (z : Value) (size bytes : Nat) (ht : P.underlying T = some (.slice E)) (hinfo : (P.info? E).map (fun i => (i.zero, i.size, i.bytes)) = some (some z, size, bytes)) (hzs : z.cells.size = size)
    (b : Nat) (hv : a.eval d = .slice (some ⟨b, 0, none⟩) 0 0) (hb : Blk w b (.cells #[] E)) (hbb : base ≤ b) (q : Option Addr) (m c : Nat) (news : List Value) (hs : a.eval s = .slice q m c) (hl : news.length = m * size)
    (hc : 0 < m → ∃ ad, q = some ad ∧ ∀ j u, news[j]? = some u → w.cell? (ad.add j) = some u)
    (hn : m ≤ 100000000) (hby : bytes ≤ 1000) (hbase : base ≤ w.heap.size)
    (h : ∀ v' w', w'.ownsRow base E size v' m news → Ext w w' → K (a.put o.dst v') w') : o.wp P a w K Q := by
  obtain ⟨i, hi, hz0, hz1, hz2⟩ := info_parts hinfo
  by_cases hm : m = 0
  · subst hm
    have hn0 : news = [] := List.eq_nil_of_length_eq_zero (by simpa using hl)
    subst hn0
    have hr := run_append00 (P := P) w T o.type E i ht hi b q c
    unfold Oper.wp execOp
    simp only [ho, resolve, invoke, builtin, Sem.run_bind, Sem.run_pure, Result.andThen_ok, List.map_toArray, List.map_cons, List.map_nil, hv, hs, hr]
    exact h _ _ ⟨by simp, .inr ⟨b, 0, #[], rfl, hbb, hb, Nat.le_refl _, by simp, by simp, by simp⟩⟩ (Ext.refl w)
  · obtain ⟨ad, rfl, hcell⟩ := hc (by omega)
    have hbm : m * bytes ≤ 100000000 * 1000 := Nat.mul_le_mul hn hby
    have hr := run_append_grow (P := P) w T o.type E i z ht hi hz0 ⟨b, 0, none⟩ 0 0 [] (by simp) (by simp) ad m c news (by rw [hz1]; exact hl) hcell (by omega) (by omega) (growslice_fits (by omega) (by rw [hz2, Nat.zero_add]; omega))
    unfold Oper.wp execOp
    simp only [ho, resolve, invoke, builtin, Sem.run_bind, Sem.run_pure, Result.andThen_ok, List.map_toArray, List.map_cons, List.map_nil, hv, hs, hr]
    have hge := grownCap_ge w (0 + m) 0 E
    have hcm : grownCap w (0 + m) 0 E ≤ maxLen := grownCap_le_maxLen w (0 + m) 0 E (by unfold maxLen; omega)
    simp only [Nat.zero_add] at hge hcm ⊢
    refine h _ _ ⟨hl, .inr ⟨w.heap.size, _, _, rfl, hbase, heap_alloc_new w.drew _, hge, hcm, ?_, ?_⟩⟩ ((Ext.drew w).trans (Ext.alloc _ _))
    · simp only [Array.size_append, List.size_toArray, size_zeroCells, hzs, hl, List.length_nil, Nat.zero_add, ← Nat.add_mul]
      congr 1
      omega
    · simp [List.take_append, ← hl]
end
/-- A row of one's own, behind a slice (elements of some cells each). -/
def RowsF (E : TypeId) (B size n : Nat) (xs : List Value) : Fact := fun x w => ∃ q c, x = .slice q n c ∧ w.ownsRow B E size (.slice q n c) n xs
/-- An empty literal. -/
def NoneF (E : TypeId) (B : Nat) : Fact := fun x w => ∃ b, x = .slice (some ⟨b, 0, none⟩) 0 0 ∧ Blk w b (.cells #[] E) ∧ B ≤ b
theorem NoneF.stable (E : TypeId) (B : Nat) : (NoneF E B).stable := fun _ _ _ he ⟨b, h1, h2, h3⟩ => ⟨b, h1, he.blk _ _ h2, h3⟩
end Dsd
namespace Go.Proofs.YtmnpappbacndlaaGreatDoor
open Go.RowKit Dsd
theorem strs_src {w : World} {q : Option Addr} {L : List (List UInt8)} (h : Strs w q L) : 0 < L.length → ∃ ad, q = some ad ∧ ∀ j u, (L.map fun s : List UInt8 => Value.string ⟨s.toArray⟩)[j]? = some u → w.cell? (ad.add j) = some u := by
  intro hl
  obtain ⟨b, o, rfl, hb, hc⟩ := h.at 0 hl
  refine ⟨_, rfl, fun j u hj => ?_⟩
  have hjl : j < L.length := by have := (List.getElem?_eq_some_iff.1 hj).1; simpa using this
  rw [addr_add, hc j hjl]
  simp [hjl] at hj
  simp [List.getD, hjl, hj]
theorem own_extA {w w' : World} {base : Nat} {e : TypeId} {size : Nat} {v : Value} {n : Nat} {xs : List Value} (h : w.ownsRow base e size v n xs) (he : Ext w w') : w'.ownsRow base e size v n xs := own_ext h he
theorem RowsF.stable (E : TypeId) (B size n : Nat) (xs : List Value) : (RowsF E B size n xs).stable := fun _ _ _ he ⟨q, c, h1, h2⟩ => ⟨q, c, h1, own_ext h2 he⟩
end Go.Proofs.YtmnpappbacndlaaGreatDoor
