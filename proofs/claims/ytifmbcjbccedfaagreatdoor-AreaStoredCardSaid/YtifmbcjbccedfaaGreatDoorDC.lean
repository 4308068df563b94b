/- A part of the proof. -/
import Derived.Test.YtifmbcjbccedfaaGreatDoorFA
import Derived.Test.YtifmbcjbccedfaaGreatDoorCC0
import Derived.Laws.IdiomStrings
import Derived.Lib.EndianBits
set_option linter.unusedSimpArgs false
set_option linter.unusedVariables false
namespace Dsd
theorem numL_succ : ∀ {l : List UInt8} {j : Nat}, j < l.length → numL (l.take (j + 1)) = numL (l.take j) + (l.getD j 0).toNat * 256 ^ j
 | [], _, h => by simp at h
 | x :: l, 0, _ => by simp [numL]
 | x :: l, j + 1, h => by
   have := numL_succ (l := l) (j := j) (by simp at h; omega)
   simp only [List.take_succ_cons, numL, List.getD_cons_succ, this, Nat.pow_succ]
   rw [Nat.mul_add, Nat.mul_comm 256 ((l.getD j 0).toNat * 256 ^ j), Nat.mul_assoc]
   omega
end Dsd
namespace Go.Proofs.YtifmbcjbccedfaaGreatDoor
open Go.RowKit Dsd
set_option maxRecDepth 100000 in
theorem take_r (rb : Nat) (rest : List UInt8) (k : Nat) (hk : k ≤ 1000000) (hr : rest.length ≤ 1000000) (w : World) (hb : Blk w rb (.cells #[.string ⟨rest.toArray⟩] 112)) :
   Calls Tryz.prog 69 #[.pointer (some ⟨rb, 0, none⟩), .int .i64 k] w fun e w' => e = .returned (.string ⟨(rest.take k).toArray⟩) ∧ Blk w' rb (.cells #[.string ⟨(rest.drop k).toArray⟩] 112) ∧ Chg rb w w' := by
 have H1 : Hid (∀ x, x = rest.drop k → Blk (w.setCell ⟨rb, 0, none⟩ (.string ⟨x.toArray⟩)) rb (.cells #[.string ⟨(rest.drop k).toArray⟩] 112) ∧ Chg rb w (w.setCell ⟨rb, 0, none⟩ (.string ⟨x.toArray⟩))) := Lib.hid (fun x e => by subst e; exact ⟨Blk.setCell hb, Chg.setCell⟩)
 have c0 : w.cell? ⟨rb, 0, none⟩ = some (.string ⟨rest.toArray⟩) := Blk.val hb 0 _ rfl
 have lb := Blk.lt hb
 have f0 := Blk.free hb 0
 clear hb
 by_cases hm : rest.length ≤ k
 · have hmin : min (k : Int) rest.length = rest.length := by omega
   have H2 := Lib.hid hm
   clear hm
   go_enter Tryz.func69, Tryz.ntmps69
   go_wp2
   go_ret
   exact ⟨by rw [List.take_of_length_le H2.out]; rfl, H1.out [] (by rw [List.drop_eq_nil_of_le H2.out])⟩
 · have hmin : min (k : Int) rest.length = k := by omega
   go_enter Tryz.func69, Tryz.ntmps69
   go_wp2
   go_ret
   exact ⟨rfl, H1.out _ (List.take_of_length_le (by rw [List.length_drop]; omega))⟩
theorem i64_or (i : Nat) {a m : Nat} (h1 : a < 2 ^ i) (h2 : m % 2 ^ i = 0) (h3 : m < 2 ^ 62) (h9 : i ≤ 62) : bits .or .i64 (a : Int) (m : Int) = ((a + m : Nat) : Int) := by
 have hw : ∀ n : Int, 0 ≤ n → n < 2 ^ 63 → IntKind.i64.wrap n = n := fun n h4 h5 => IntWalk.i64_in n (by omega)
 have h8 : (2 : Nat) ^ i ≤ 2 ^ 62 := Nat.pow_le_pow_right (by omega) h9
 have h7 : (2 : Nat) ^ 62 < 2 ^ 63 := by decide
 have := bits_join_low .i64 63 (by decide) hw i (a : Int) (m : Int) (by omega) (by exact_mod_cast h1) (by exact_mod_cast (show a < 2 ^ 63 by omega)) (by omega) (by exact_mod_cast h2) (by exact_mod_cast (show m < 2 ^ 63 by omega))
 rw [this]; simp
theorem bytes_str (w : World) (l : List UInt8) : ∃ w' cap, (convert 9 109 (.string ⟨l.toArray⟩)).run Tryz.prog w = .ok (.slice (some ⟨w.heap.size, 0, none⟩) l.length cap) w' ∧ Ext w w' ∧ w.heap.size < w'.heap.size ∧
   ∀ i, i < l.length → w'.cell? ⟨w.heap.size, i, none⟩ = some (.int .u8 ((l.getD i 0).toNat : Nat)) := by
 refine ⟨_, _, run_bytes_of_string w 9 109 5 ⟨l.toArray⟩ Tryz.underlying9 Tryz.underlying109 Tryz.underlying5, (Ext.drew _).trans (Ext.alloc _ _), by simp [World.alloc, World.drew, -World.alloc_eq, -World.drew_eq], fun i hi => ?_⟩
 have hg : ∀ (C : Array Value) m, (w.drew.alloc (.cells C 5 m)).heap[w.heap.size]? = some (.cells C 5 m) := fun C m => by
   show (w.heap.push (.cells C 5 m))[w.heap.size]? = _
   simp
 unfold World.cell?
 rw [hg]
 simp [bytesRow, Array.getElem?_append, hi, List.getD]
set_option maxRecDepth 100000 in
theorem number_r (rb : Nat) (rest : List UInt8) (k : Nat) (hk : k = 1 ∨ k = 4) (hr : rest.length ≤ 1000000) (w : World) (hb : Blk w rb (.cells #[.string ⟨rest.toArray⟩] 112)) :
   Calls Tryz.prog 68 #[.pointer (some ⟨rb, 0, none⟩), .int .i64 k] w fun e w' => e = .returned (.int .i64 (numL (rest.take k) : Nat)) ∧ Blk w' rb (.cells #[.string ⟨(rest.drop k).toArray⟩] 112) ∧ w.grownBy w' (some rb) := by
 have HT := Lib.hid (take_r rb rest k (by omega) hr w hb)
 have hl4 : (rest.take k).length ≤ 4 := by rw [List.length_take]; omega
 have hlt0 := Blk.lt hb
 clear hb
 generalize rest.take k = l at *
 go_enter Tryz.func68, Tryz.ntmps68
 go_upto_region 3 with (first
   | (go_at_call 69; refine HT.out.mono ?_; rintro e w1 ⟨rfl, hb1, hc1⟩; obtain ⟨w2, cap, hcv, hx2, hlt, hcell⟩ := bytes_str w1 l)
   | simp only [hcv])
 have HB := Lib.hid (And.intro (hx2.blk _ _ hb1) (And.intro hc1 hx2))
 have HC := Lib.hid hcell
 clear hb1 hc1 hx2 hcell hcv HT
 generalize w1.heap.size = sb at *
 go_loopw [5, 13] (fun out i wr => wr = w2 ∧ ∃ j : Nat, j ≤ l.length ∧ i = .int .i64 j ∧ out = .int .i64 (numL (l.take j) : Nat)) (fun _ i _ => l.length - (intOf i).toNat)
 case atStart => exact ⟨rfl, 0, Nat.zero_le _, rfl, rfl⟩
 case round =>
   obtain ⟨rfl, j, hj, rfl, rfl⟩ := hrel
   by_cases hlt2 : j < l.length
   · have hltI : (j : Int) < l.length := by omega
     have c1 := HC.out j hlt2
     have HS := Lib.hid (numL_succ hlt2)
     have hx := UInt8.toNat_lt (l.getD j 0)
     have hn := numL_lt (l.take j)
     rw [List.length_take, Nat.min_eq_left hj] at hn
     generalize l.getD j 0 = x at *
     generalize numL (l.take j) = nj at *
     obtain ⟨y, hy⟩ : ∃ y : Nat, x.toNat = y := ⟨_, rfl⟩
     rw [hy] at c1 hx HS
     have HO : Hid (∀ m : Nat, m = y * 256 ^ j → bits .or .i64 (nj : Int) (m : Int) = ((numL (l.take (j + 1)) : Nat) : Int)) := Lib.hid (fun m hm => by
       rw [HS.out, ← hm]
       have h3 : j ≤ 3 := by omega
       rcases (show j = 0 ∨ j = 1 ∨ j = 2 ∨ j = 3 by omega) with rfl | rfl | rfl | rfl
       · rw [i64_or 0 (by simpa using hn) (by omega) (by omega) (by decide)]
       · rw [i64_or 8 (by simpa using hn) (by omega) (by omega) (by decide)]
       · rw [i64_or 16 (by simpa using hn) (by omega) (by omega) (by decide)]
       · rw [i64_or 24 (by simpa using hn) (by omega) (by omega) (by decide)])
     rcases (show j = 0 ∨ j = 1 ∨ j = 2 ∨ j = 3 by omega) with rfl | rfl | rfl | rfl
     · go_wp2
       exact ⟨⟨trivial, 1, by omega, rfl, by rw [← HO.out y (by simp)]⟩, by simp [intOf]; omega⟩
     · go_wp2
       exact ⟨⟨trivial, 2, by omega, rfl, by rw [← HO.out (y * 256) (by simp)]; rfl⟩, by simp [intOf]; omega⟩
     · go_wp2
       exact ⟨⟨trivial, 3, by omega, rfl, by rw [← HO.out (y * 65536) (by simp)]; rfl⟩, by simp [intOf]; omega⟩
     · go_wp2
       exact ⟨⟨trivial, 4, by omega, rfl, by rw [← HO.out (y * 16777216) (by simp)]; rfl⟩, by simp [intOf]; omega⟩
   · have hltI : decide ((j : Int) < l.length) = false := by simp; omega
     rw [List.take_of_length_le (by omega)]
     go_wp2
     go_ret
     obtain ⟨h1, h2, h3⟩ := HB.out
     exact ⟨rfl, h1, grownTrans (grown_of_chg h2) (grown_of_ext rb h3) hlt0⟩
theorem number1 (rb : Nat) (rest : List UInt8) (hr : rest.length ≤ 1000000) (w : World) (hb : Blk w rb (.cells #[.string ⟨rest.toArray⟩] 112)) :
   Calls Tryz.prog 68 #[.pointer (some ⟨rb, 0, none⟩), .int .i64 1] w fun e w' => e = .returned (.int .i64 (numL (rest.take 1) : Nat)) ∧ Blk w' rb (.cells #[.string ⟨(rest.drop 1).toArray⟩] 112) ∧ w.grownBy w' (some rb) := number_r rb rest 1 (.inl rfl) hr w hb
theorem number4 (rb : Nat) (rest : List UInt8) (hr : rest.length ≤ 1000000) (w : World) (hb : Blk w rb (.cells #[.string ⟨rest.toArray⟩] 112)) :
   Calls Tryz.prog 68 #[.pointer (some ⟨rb, 0, none⟩), .int .i64 4] w fun e w' => e = .returned (.int .i64 (numL (rest.take 4) : Nat)) ∧ Blk w' rb (.cells #[.string ⟨(rest.drop 4).toArray⟩] 112) ∧ w.grownBy w' (some rb) := number_r rb rest 4 (.inr rfl) hr w hb
end Go.Proofs.YtifmbcjbccedfaaGreatDoor
