/- A part of the proof. -/
import Derived.Test.YtifmbcjbccedfaaGreatDoorCA

set_option linter.unusedSimpArgs false
set_option linter.unusedVariables false
namespace Go.Proofs.YtifmbcjbccedfaaGreatDoor
open Go.RowKit Dsd
def RowW (w : World) (g z : Nat) (L : List Wr) : Prop := ∃ cur : Array Value, Blk w g (.cells cur 91) ∧ cur.size = z ∧ cur.toList.take (L.length * 2) = wrC L
theorem RowW.ext {w w' : World} {g z : Nat} {L : List Wr} (h : RowW w g z L) (e : Ext w w') : RowW w' g z L := by obtain ⟨c, h1, h2⟩ := h; exact ⟨c, e.blk _ _ h1, h2⟩
theorem RowW.at {w : World} {g z : Nat} {L : List Wr} (h : RowW w g z L) (i : Nat) (hi : i < L.length) :
   w.cell? ⟨g, i * 2, none⟩ = some (.int .i64 (wrAt L i).1) ∧ w.cell? ⟨g, i * 2 + 1, none⟩ = some (.string ⟨(wrAt L i).2.toArray⟩) ∧ g < w.heap.size := by
 obtain ⟨cur, hb, _, hc⟩ := h
 obtain ⟨h1, h2⟩ := wrC_at L i hi
 rw [← hc, List.getElem?_take, if_pos (by omega)] at h1 h2
 exact ⟨Blk.val hb _ _ (by simpa using h1), Blk.val hb _ _ (by simpa using h2), Blk.lt hb⟩
theorem RowW.free {w : World} {g z : Nat} {L : List Wr} (h : RowW w g z L) (i : Nat) : w.frozen? ⟨g, i, none⟩ = false := by obtain ⟨cur, hb, _⟩ := h; exact Blk.free hb i
theorem RowW.set {w : World} {g z : Nat} {L : List Wr} (h : RowW w g z L) (i : Nat) (hi : i < L.length) (y : Wr) :
   RowW ((w.setCell ⟨g, i * 2, none⟩ (.int .i64 y.1)).setCell ⟨g, i * 2 + 1, none⟩ (.string ⟨y.2.toArray⟩)) g z (L.set i y) := by
 obtain ⟨cur, hb, hz, hc⟩ := h
 refine ⟨_, Blk.setCell (Blk.setCell hb), by simpa using hz, ?_⟩
 rw [Array.toList_setIfInBounds, Array.toList_setIfInBounds, List.length_set, List.take_set, List.take_set, hc, wrC_set _ _ _ hi]
theorem grownTrans {a b c : World} {g : Nat} (h : a.grownBy b (some g)) (k : b.grownBy c (some g)) (hg : g < a.heap.size) : a.grownBy c (some g) :=
 ⟨k.os.trans h.os, k.tape.trans h.tape, k.output.trans h.output, Nat.le_trans h.size k.size, fun i hi hne => (k.block i (Nat.lt_of_lt_of_le hi h.size) hne).trans (h.block i hi hne)⟩
theorem grown_of_ext {a b : World} (g : Nat) (h : Ext a b) : a.grownBy b (some g) := ⟨h.os, h.tape, h.output, h.size, fun i hi _ => h.block i hi⟩
theorem grown_of_chg {a b : World} {g : Nat} (h : Chg g a b) : a.grownBy b (some g) := ⟨h.os, h.tape, h.output, by rw [h.size]; exact Nat.le_refl _, fun i _ hne => h.block i (fun e => hne (by rw [e]))⟩
set_option maxRecDepth 100000 in
theorem Len64_any (n : Nat) (h : n ≤ 12) (w : World) : Calls Tryz.prog 147 #[.int .u64 n] w fun e w' => (∃ k : Int, e = .returned (.int .i64 k)) ∧ w' = w := by
 rcases (show n = 0 ∨ n = 1 ∨ n = 2 ∨ n = 3 ∨ n = 4 ∨ n = 5 ∨ n = 6 ∨ n = 7 ∨ n = 8 ∨ n = 9 ∨ n = 10 ∨ n = 11 ∨ n = 12 by omega) with rfl | rfl | rfl | rfl | rfl | rfl | rfl | rfl | rfl | rfl | rfl | rfl | rfl
 all_goals
   go_enter Tryz.func147, Tryz.ntmps147
   go_wp2
   go_ret
   exact ⟨⟨_, rfl⟩, rfl⟩
set_option maxRecDepth 100000 in
theorem Len_any (n : Nat) (h : n ≤ 12) (w : World) : Calls Tryz.prog 102 #[.int .u64 n] w fun e w' => ∃ k : Int, e = .returned (.int .i64 k) ∧ w' = w := by
 have H := Lib.hid (fun W => Len64_any n h W)
 go_enter Tryz.func102, Tryz.ntmps102
 go_wp2_with (go_at_call 147; refine (H.out _).mono ?_; rintro e w1 ⟨⟨k, rfl⟩, rfl⟩)
 go_ret
 exact ⟨_, rfl, rfl⟩
end Go.Proofs.YtifmbcjbccedfaaGreatDoor
