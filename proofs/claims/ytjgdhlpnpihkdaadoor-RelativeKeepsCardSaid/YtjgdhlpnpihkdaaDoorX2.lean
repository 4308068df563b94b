/- The walk of chapter 16's Valid (program). -/
import Derived.Test.YtjgdhlpnpihkdaaDoorX1
set_option linter.unusedSimpArgs false
set_option linter.unusedVariables false
namespace Go.Proofs.YtjgdhlpnpihkdaaDoor
open Go.RowKit Dsd

/-- A slice of numbers that is read. -/
def Ints (w : World) (p : Option Addr) (L : List Int) : Prop := Cells w p (L.map (Value.int .i64))
theorem Ints.ext {w w' : World} {p : Option Addr} {L : List Int} (h : Ints w p L) (e : Ext w w') : Ints w' p L := Cells.ext h e
theorem Ints.at {w : World} {p : Option Addr} {L : List Int} (h : Ints w p L) (k : Nat) (hk : k < L.length) :
    ∃ b off, p = some ⟨b, off, none⟩ ∧ b < w.heap.size ∧ ∀ i, i < L.length → w.cell? ⟨b, off + i, none⟩ = some (.int .i64 (L.getD i 0)) := by
  obtain ⟨b, off, h1, h2, h3⟩ := Cells.at h k (by simpa using hk)
  exact ⟨b, off, h1, h2, fun i hi => by rw [h3 i (by simpa using hi), getD_ints L i hi]⟩
theorem ints_new (w : World) (L : List Int) (t : TypeId) (cs : Array Value) (h : cs = (L.map (Value.int .i64)).toArray) : Ints (w.alloc (.cells cs t)) (some ⟨w.heap.size, 0, none⟩) L := by
  subst h
  refine .inr ⟨w.heap.size, 0, rfl, by simp, fun i hi => ?_⟩
  have hb : Blk _ _ _ := Blk.new w (.cells (L.map (Value.int .i64)).toArray t)
  simp only [List.length_map] at hi
  unfold Blk at hb
  unfold World.cell?
  simp only [hb]
  simp [hi, List.getD]

theorem ints_at (w : World) (b : Nat) (L : List Int) (t : TypeId) (cs : Array Value) (h : cs = (L.map (Value.int .i64)).toArray) (hb : b = w.heap.size) : Ints (w.alloc (.cells cs t)) (some ⟨b, 0, none⟩) L := by
  subst hb; exact ints_new w L t cs h

set_option maxRecDepth 100000 in
theorem zeros_key (p : Option Addr) (cap n : Nat) (L : List Int) (w : World) (hs : Ints w p L) (hn : L.length = n) (hm : n ≤ 1000000) :
    Calls Tryd.prog 109 #[.slice p n cap] w fun e w' => e = .returned (.bool (L.all (· == 0))) ∧ w = w' := by
  subst hn
  go_enter Tryd.func109, Tryd.ntmps109
  go_wp2
  go_loop [7] (fun i => ∃ k : Nat, k ≤ L.length ∧ i = .int .i64 k ∧ (L.take k).all (· == 0) = true) (fun i => L.length - (intOf i).toNat)
  case atStart => exact ⟨0, Nat.zero_le _, rfl, by simp⟩
  case round =>
    obtain ⟨k, hk, rfl, hq⟩ := hrel
    have Hq := Lib.hid hq
    clear hq
    by_cases hlt : k < L.length
    · have hltI : (k : Int) < L.length := by omega
      obtain ⟨b, off, rfl, hb, hc⟩ := hs.at k hlt
      have hck := hc k hlt
      have e1 : L.getD k 0 = L[k] := by simp [List.getD, hlt]
      have HL : Hid (∀ x, L.getD k 0 = x → L.all (· == 0) = true → x = 0) := Lib.hid (fun x hx h => by
        rw [List.all_eq_true] at h
        have := h L[k] (List.getElem_mem hlt)
        rw [← e1, hx] at this; simpa using this)
      have HT : Hid (∀ x, L.getD k 0 = x → x = 0 → (L.take (k + 1)).all (· == 0) = true) := Lib.hid (fun x hx h => by
        rw [List.take_succ_eq_append_getElem hlt, List.all_append, Hq.out, ← e1, hx, h]; rfl)
      clear hc e1
      generalize hx : L.getD k 0 = x at *
      have Hx := Lib.hid hx
      clear hx
      by_cases h0 : x = 0
      · subst h0
        go_wp2
        go_round
        case rel => exact ⟨k + 1, by omega, by go_num, HT.out _ rfl rfl⟩
        case measure => simp [intOf]; omega
      · have h0I : (x != 0) = true := by simpa using h0
        go_wp2
        go_ret
        refine ⟨ret_bool ?_, rfl⟩
        cases hz : L.all (· == 0)
        · rfl
        · exact absurd (HL.out _ rfl hz) h0
    · have hltI : decide ((k : Int) < L.length) = false := by simp; omega
      go_wp2
      go_ret
      have := Hq.out
      rw [List.take_of_length_le (by omega)] at this
      exact ⟨ret_bool this.symm, rfl⟩
end Go.Proofs.YtjgdhlpnpihkdaaDoor
