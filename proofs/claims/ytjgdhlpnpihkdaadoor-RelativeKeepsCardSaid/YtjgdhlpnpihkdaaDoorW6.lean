/- The walks of the program's Size and Fits. -/
import Derived.Test.YtjgdhlpnpihkdaaDoorW5
set_option linter.unusedSimpArgs false
set_option linter.unusedVariables false
namespace Go.Proofs.YtjgdhlpnpihkdaaDoor
open Go.RowKit Dsd

theorem setCell_int {W : World} {x : Addr} {a b : Int} (h : a = b) : W.setCell x (.int .i64 a) = W.setCell x (.int .i64 b) := by rw [h]

set_option maxRecDepth 100000 in
theorem Size1_any (n len s : Nat) (b : Nat) (W : World) (hs : s + cost (n, len) ≤ 10000000000000) (hn : n ≤ 1000000) (hc : W.cell? ⟨b, 0, none⟩ = some (.int .i64 s)) (hf : W.frozen? ⟨b, 0, none⟩ = false) :
    Calls Tryd.prog 111 #[.int .i64 n, .int .i64 len, .pointer (some ⟨b, 0, none⟩)] W fun e W' => e = .returned (.tuple #[]) ∧ W' = W.setCell ⟨b, 0, none⟩ (.int .i64 (s + cost (n, len) : Nat)) := by
  unfold cost at hs ⊢
  simp only at hs ⊢
  obtain ⟨q, hq⟩ : ∃ q, q = n * len := ⟨_, rfl⟩
  rw [← hq] at hs ⊢
  have hw : IntKind.i64.wrap ((n : Int) * len) = (q : Int) := by
    have : ((n : Int) * len) = ((n * len : Nat) : Int) := by simp
    rw [this, ← hq]; exact IntWalk.i64_in _ (by omega)
  clear hq
  by_cases h2 : (n : Int) < 2
  · have hm : Hid (3 * min n 2 = 3 * n) := Lib.hid (by omega)
    go_enter Tryd.func111, Tryd.ntmps111
    go_wp2
    go_end0
    exact ⟨rfl, setCell_int (by have := hm.out; omega)⟩
  · have hm : Hid (3 * min n 2 = 6) := Lib.hid (by omega)
    go_enter Tryd.func111, Tryd.ntmps111
    go_wp2
    all_goals
      go_end0
      exact ⟨rfl, setCell_int (by have := hm.out; omega)⟩

/-- The states of Size's closure. -/
def SizeI (w : World) (done : List (Nat × Nat)) (W : World) : Prop :=
  Ext w W ∧ w.heap.size < W.heap.size ∧ W.cell? ⟨w.heap.size, 0, none⟩ = some (.int .i64 (4 + costs done : Nat)) ∧ W.frozen? ⟨w.heap.size, 0, none⟩ = false

theorem size_doer (p : Option Addr) (L : List (List UInt8)) (w : World) (hs : Strs w p L) (hm : Small L) : Doer 111 #[.pointer (some ⟨w.heap.size, 0, none⟩)] p L (SizeI w) where
  call := fun args W => by simp [callFunc, Tryd.func111]; kernel_rfl
  drawn := fun done W n ⟨h1, h2, h3, h4⟩ => ⟨h1.trans (Ext.drewN W n), h2, h3, h4⟩
  reads := fun done W h => hs.ext h.1
  step := fun done n len rest W hr ⟨h1, h2, h3, h4⟩ => by
    have hle := costs_le L done ((n, len) :: rest) hr
    have hsz : sizeL L ≤ 4 + 6 * L.length + 1000000 * L.length := by have := length_fieldsL L; have := sumLen_le L hm; unfold sizeL; omega
    have hL := hm.1
    have hc : costs ((n, len) :: rest) = cost (n, len) + costs rest := by simp [costs]
    have hrun := runs_count (runsL L) (runs_pos L)
    rw [flatRuns_runs, List.length_map] at hrun
    have hn := hrun.2 (n, len) (by rw [hr]; simp)
    refine (Size1_any n len (4 + costs done) w.heap.size W (by omega) (by simpa using Nat.le_trans hn hL) h3 h4).mono ?_
    rintro e W' ⟨rfl, rfl⟩
    refine ⟨rfl, ?_, by simpa using h2, ?_, by simpa using h4⟩
    · exact Below.setCell h1 (Nat.le_refl _) _
    · rw [World.cell?_setCell_same _ _ _ h3, costs_append]
      simp [costs, Nat.add_assoc]

theorem cell_new0 (w : World) (v : Value) (t : TypeId) : (w.alloc (.cells #[v] t)).cell? ⟨w.heap.size, 0, none⟩ = some v := by
  have h := heap_alloc_new w (.cells #[v] t)
  unfold World.cell?; rw [h]; rfl
theorem frozen_new0 (w : World) (v : Value) (t : TypeId) (i : Nat) : (w.alloc (.cells #[v] t)).frozen? ⟨w.heap.size, i, none⟩ = false := by
  have h := heap_alloc_new w (.cells #[v] t)
  unfold World.frozen?; rw [h]; simp
theorem sizeI_start (w : World) (t : TypeId) : SizeI w [] (w.alloc (.cells #[.int .i64 4] t)) := ⟨Ext.alloc _ _, by simp, cell_new0 _ _ _, frozen_new0 _ _ _ _⟩
set_option maxRecDepth 100000 in
theorem Size_any (p : Option Addr) (cap n : Nat) (L : List (List UInt8)) (w : World) (hs : Strs w p L) (hn : L.length = n) (hcap : n ≤ cap) (hcm : cap ≤ maxLen) (hm : Small L) :
    Calls Tryd.prog 84 #[.slice p n cap] w fun e w' => e = .returned (.int .i64 (sizeL L : Nat)) ∧ Ext w w' := by
  have hD := size_doer p L w hs hm
  have hrun := runs_any _ _ p n cap L _ hD hn hcap hcm hm
  have Hrun := Lib.hid hrun
  have HS := Lib.hid (costs_size L)
  clear hrun hD
  go_enter Tryd.func84, Tryd.ntmps84
  go_wp2_with (go_at_call 86; refine (Hrun.out _ (sizeI_start w _)).mono ?_; rintro e w1 ⟨rfl, h1, h2, h3, h4⟩)
  go_ret
  exact ⟨ret_int (by have := HS.out; omega), h1⟩

theorem Fits_any (p : Option Addr) (cap n : Nat) (L : List (List UInt8)) (size : Int) (w : World) (hs : Strs w p L) (hn : L.length = n) (hcap : n ≤ cap) (hcm : cap ≤ maxLen) (hm : Small L) :
    Calls Tryd.prog 80 #[.int .i64 size, .slice p n cap] w fun e w' => e = .returned (.bool (isSizeB size && allowedB L && decide ((sizeL L : Int) ≤ size))) ∧ Ext w w' := by
  by_cases h1 : isSizeB size = true
  · by_cases h2 : allowedB L = true
    · go_enter Tryd.func80, Tryd.ntmps80
      go_wp2_with (first | (go_at_call 82; refine (isSize_any _ _).mono ?_; rintro e w' ⟨rfl, rfl⟩) | (go_at_call 83; refine (allowed_any _ _ _ L _ hs hn hm).mono ?_; rintro e w' ⟨rfl, rfl⟩) | (go_at_call 84; refine (Size_any _ _ _ L _ hs hn hcap hcm hm).mono ?_; rintro e w' ⟨rfl, he⟩))
      go_ret
      exact ⟨ret_bool (by rw [h1, h2]; simp), he⟩
    · have h2' : allowedB L = false := by simpa using h2
      clear h2
      go_enter Tryd.func80, Tryd.ntmps80
      go_wp2_with (first | (go_at_call 82; refine (isSize_any _ _).mono ?_; rintro e w' ⟨rfl, rfl⟩) | (go_at_call 83; refine (allowed_any _ _ _ L _ hs hn hm).mono ?_; rintro e w' ⟨rfl, rfl⟩))
      go_ret
      exact ⟨ret_bool (by rw [h1, h2']; simp), Ext.refl _⟩
  · have h1' : isSizeB size = false := by simpa using h1
    clear h1
    go_enter Tryd.func80, Tryd.ntmps80
    go_wp2_with (go_at_call 82; refine (isSize_any _ _).mono ?_; rintro e w' ⟨rfl, rfl⟩)
    go_ret
    exact ⟨ret_bool (by rw [h1']; simp), Ext.refl _⟩
end Go.Proofs.YtjgdhlpnpihkdaaDoor
