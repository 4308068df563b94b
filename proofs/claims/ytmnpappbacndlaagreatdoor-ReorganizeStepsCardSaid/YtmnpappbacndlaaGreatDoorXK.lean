/- Numbers as keys: the walks of Slot (program and reference) and of Number. -/
import Derived.Test.YtmnpappbacndlaaGreatDoorXH
import Derived.Test.YtmnpappbacndlaaGreatDoorW2
set_option linter.unusedSimpArgs false
set_option linter.unusedVariables false
namespace Dsd
/-- The k least bytes of a number, the greatest first. -/
def beL : Nat → Nat → List UInt8
  | 0, _ => []
  | k + 1, n => UInt8.ofNat (n / 256 ^ k) :: beL k n
theorem beL_len : ∀ (k n : Nat), (beL k n).length = k
  | 0, _ => rfl
  | k + 1, n => by rw [beL, List.length_cons, beL_len k n]
/-- A number as a key. -/
def slotL (n : Int) : List UInt8 := if n < 0 ∨ 1099511627776 < n then [] else beL 8 n.toNat
end Dsd
namespace Go.Proofs.YtmnpappbacndlaaGreatDoor
open Go.RowKit Dsd

theorem own_lit1 {w : World} {b base : Nat} {e : TypeId} {v : Value} (h : Blk w b (.cells #[v] e)) (hb : base ≤ b) : w.ownsRow base e 1 (.slice (some ⟨b, 0, none⟩) 1 1) 1 [v] :=
  ⟨by simp, .inr ⟨b, 1, #[v], rfl, hb, h, Nat.le_refl _, by unfold maxLen; omega, rfl, rfl⟩⟩
def u8s (l : List UInt8) : List Value := l.map fun x => Value.int .u8 ((x.toNat : Nat) : Int)
theorem u8s_one (l : List UInt8) : ∀ u ∈ u8s l, u.oneCell' = true := by
  intro u hu
  simp only [u8s, List.mem_map] at hu
  obtain ⟨s, _, rfl⟩ := hu
  rfl
theorem own_bytes {w : World} {base : Nat} {e : TypeId} {v : Value} {n : Nat} {l : List UInt8} (h : w.ownsRow base e 1 v n (u8s l)) (hn : 0 < n) : ∃ g c, v = .slice (some ⟨g, 0, none⟩) n c ∧ l.length = n ∧ ∀ i, i < l.length → w.cell? ⟨g, 0 + i, none⟩ = some (.int .u8 (byt l i : Nat)) := by
  obtain ⟨hl, ⟨h1, h2⟩ | ⟨g, cap, cur, rfl, _, hg, h3, _, h5, h6⟩⟩ := h
  · omega
  · have hll : l.length = n := by simpa [u8s] using hl
    refine ⟨g, cap, rfl, hll, fun i hi => ?_⟩
    have hb : Blk w g (.cells cur e) := hg
    refine Blk.val hb _ _ ?_
    have hx : (u8s l)[i]? = cur[i]? := by rw [← h6, List.getElem?_take, if_pos (by omega)]; simp
    rw [Nat.zero_add, ← hx]
    simp [u8s, hi, byt, List.getD]

end Go.Proofs.YtmnpappbacndlaaGreatDoor

/- The walk of the program's Slot: a number as a key. -/
namespace Go.Proofs.YtmnpappbacndlaaGreatDoor
open Go.RowKit Dsd

/-- The array behind k rounds. -/
def arrB (k N : Nat) : List UInt8 := List.replicate (8 - k) 0 ++ beL k N
theorem arrB_len (k N : Nat) (hk : k ≤ 8) : (arrB k N).length = 8 := by simp [arrB, beL_len]; omega
theorem arrB_next (k N : Nat) (hk : k < 8) : (arrB k N).set (7 - k) (UInt8.ofNat (N / 256 ^ k)) = arrB (k + 1) N := by
  unfold arrB
  have e : 8 - k = (7 - k) + 1 := by omega
  have e2 : 8 - (k + 1) = 7 - k := by omega
  rw [e, e2, List.replicate_succ', List.append_assoc, List.set_append_right _ _ (by simp)]
  simp [beL]

set_option maxRecDepth 100000 in
set_option maxHeartbeats 1000000 in
theorem Slot_any (n : Int) (w : World) : Calls Tryz.prog 19 #[.int .i64 n] w fun e w' => e = .returned (.string ⟨(slotL n).toArray⟩) ∧ Ext w w' := by
  by_cases hin : 0 ≤ n ∧ n ≤ 1099511627776
  · have hwi : (decide (0 ≤ n) && decide (n ≤ 1099511627776)) = true := by simp; omega
    have HWI := Lib.hid hwi
    have HR : Hid (slotL n = beL 8 n.toNat) := Lib.hid (by unfold slotL; rw [if_neg (by omega)])
    obtain ⟨N, rfl⟩ := Int.eq_ofNat_of_zero_le hin.1
    rw [Int.toNat_natCast] at HR
    have hN : N ≤ 1099511627776 := by omega
    clear hwi hin
    go_enter Tryz.func19, Tryz.ntmps19
    go_upto_region 4 with (first | (go_at_call 29; refine (within_any _ _ _ _).mono ?_; rw [HWI.out]; rintro e w' ⟨rfl, rfl⟩))
    refine wp_name (fun w1 => Ext w w1 ∧ Blk w1 w.heap.size (.cells (byteCells (arrB 0 N)) 81)) ⟨Ext.alloc _ _, Blk.new w _⟩ ?_
    rintro w1 ⟨he1, hb1⟩
    have He1 := Lib.hid he1
    have Hb1 := Lib.hid hb1
    clear he1 hb1
    go_wp2_with fail
    go_loopw [8] (fun i wr => ∃ k : Nat, k ≤ 8 ∧ i = .int .i64 k ∧ Ext w wr ∧ Blk wr w.heap.size (.cells (byteCells (arrB k N)) 81)) (fun i _ => 8 - (intOf i).toNat)
    case atStart => exact ⟨0, by omega, rfl, He1.out, Hb1.out⟩
    case round =>
      obtain ⟨k, hk, rfl, hext, hb⟩ := hrel
      have hbl := Blk.lt hb
      by_cases hk8 : k < 8
      · have hkI : (k : Int) < 8 := by omega
        obtain ⟨m, hm⟩ : ∃ m, k + m = 7 := ⟨7 - k, by omega⟩
        have hmI : (7 : Int) - k = m := by omega
        have hm8 : (m : Int) < 8 := by omega
        have hcv : w.heap.size < wr.heap.size := hbl
        have hcell : wr.cell? ⟨w.heap.size, m, none⟩ = some (.int .u8 (((arrB k N).getD m 0).toNat : Nat)) := Blk.val hb m _ (by have := arrB_len k N (by omega); simp [byteCells, List.getD]; rw [List.getElem?_eq_getElem (by omega)]; simp)
        have hfr := Blk.free hb m
        have HA := Lib.hid (arrB_next k N hk8)
        have Hb := Lib.hid hb
        have Hext := Lib.hid hext
        generalize (arrB k N).getD m 0 = old at *
        clear hb hext
        go_wp2_with fail
        go_roundw
        case rel => exact ⟨k + 1, by omega, by go_num, (Chg.setCell).ext Hext.out (Nat.le_refl _), by
          have h := Blk.setCell (i := m) (v := .int .u8 ((N : Int) / 2 ^ (8 * k) % 256)) Hb.out
          have hv : (N : Int) / 2 ^ (8 * k) % 256 = ((UInt8.ofNat (N / 256 ^ k)).toNat : Int) := by
            have e1 : (256 : Nat) ^ k = 2 ^ (8 * k) := by rw [Nat.pow_mul]
            rw [e1]
            simp only [UInt8.toNat_ofNat', Int.natCast_emod, Int.natCast_ediv, Int.natCast_pow]
            rfl
          have e : (byteCells (arrB k N)).setIfInBounds m (.int .u8 ((N : Int) / 2 ^ (8 * k) % 256)) = byteCells (arrB (k + 1) N) := by
            have e7 : 7 - k = m := by omega
            rw [← HA.out, e7, hv]
            simp [byteCells, List.map_set]
          rw [e] at h
          exact h⟩
        case measure => simp [intOf]; omega
      · have hkI : decide ((k : Int) < 8) = false := decide_eq_false (by omega)
        obtain rfl : k = 8 := by omega
        have hb8 : Blk wr w.heap.size (.cells (byteCells (beL 8 N)) 81) := hb
        have hcv := run_bytes_string (P := Tryz.prog) wr 82 9 5 w.heap.size 0 8 (beL 8 N) Tryz.underlying82 Tryz.underlying5 Tryz.underlying9 (fun i hi => by rw [Nat.zero_add]; exact Blk.val hb8 i _ (by simp [byteCells, hi, byt, List.getD]))
        rw [beL_len] at hcv
        have Hext := Lib.hid hext
        generalize beL 8 N = B8 at *
        clear hb hb8 hext
        go_wp2_with fail
        go_ret
        exact ⟨ret_str HR.out.symm, Hext.out⟩
  · have hwi : (decide (0 ≤ n) && decide (n ≤ 1099511627776)) = false := by simp; omega
    have HWI := Lib.hid hwi
    have HR : Hid (slotL n = []) := Lib.hid (by unfold slotL; rw [if_pos (by omega)])
    clear hwi
    go_enter Tryz.func19, Tryz.ntmps19
    go_wp2_with (first | (go_at_call 29; refine (within_any _ _ _ _).mono ?_; rw [HWI.out]; rintro e w' ⟨rfl, rfl⟩))
    go_ret
    exact ⟨ret_str HR.out.symm, Ext.refl _⟩
end Go.Proofs.YtmnpappbacndlaaGreatDoor
/- The walk of the reference's Number, at a key that Slot has made. -/
namespace Go.Proofs.YtmnpappbacndlaaGreatDoor
open Go.RowKit Dsd

theorem beL_at : ∀ (k n i : Nat), i < k → byt (beL k n) i = n / 256 ^ (k - 1 - i) % 256
  | 0, _, _, h => by omega
  | k + 1, n, i, h => by
    by_cases hi : i = 0
    · subst hi
      simp [beL, byt]
    · obtain ⟨j, rfl⟩ : ∃ j, i = j + 1 := ⟨i - 1, by omega⟩
      have ih := beL_at k n j (by omega)
      have e : byt (beL (k + 1) n) (j + 1) = byt (beL k n) j := by simp [beL, byt]
      rw [e, ih]
      have : k - 1 - j = k + 1 - 1 - (j + 1) := by omega
      rw [this]

end Go.Proofs.YtmnpappbacndlaaGreatDoor
