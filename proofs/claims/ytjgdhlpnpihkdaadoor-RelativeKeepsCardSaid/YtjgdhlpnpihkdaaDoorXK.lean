/- Numbers as keys: the walks of Slot (program and reference) and of Number. -/
import Derived.Test.YtjgdhlpnpihkdaaDoorXH
import Derived.Test.YtjgdhlpnpihkdaaDoorW2
set_option linter.unusedSimpArgs false
set_option linter.unusedVariables false
namespace Dsd
/-- The k least bytes of a number, the greatest first. -/
def beL : Nat → Nat → List UInt8
  | 0, _ => []
  | k + 1, n => UInt8.ofNat (n / 256 ^ k) :: beL k n
theorem beL_len : ∀ (k n : Nat), (beL k n).length = k
  | 0, _ => rfl
  | k + 1, n => by rw [beL, List.length_cons, beL_len k n]
/-- A number as a key. -/
def slotL (n : Int) : List UInt8 := if n < 0 ∨ 1099511627776 < n then [] else beL 8 n.toNat
end Dsd
namespace Go.Proofs.YtjgdhlpnpihkdaaDoor
open Go.RowKit Dsd

theorem own_lit1 {w : World} {b base : Nat} {e : TypeId} {v : Value} (h : Blk w b (.cells #[v] e)) (hb : base ≤ b) : w.ownsRow base e 1 (.slice (some ⟨b, 0, none⟩) 1 1) 1 [v] :=
  ⟨by simp, .inr ⟨b, 1, #[v], rfl, hb, h, Nat.le_refl _, by unfold maxLen; omega, rfl, rfl⟩⟩
def u8s (l : List UInt8) : List Value := l.map fun x => Value.int .u8 ((x.toNat : Nat) : Int)
theorem u8s_one (l : List UInt8) : ∀ u ∈ u8s l, u.oneCell' = true := by
  intro u hu
  simp only [u8s, List.mem_map] at hu
  obtain ⟨s, _, rfl⟩ := hu
  rfl
theorem own_bytes {w : World} {base : Nat} {e : TypeId} {v : Value} {n : Nat} {l : List UInt8} (h : w.ownsRow base e 1 v n (u8s l)) (hn : 0 < n) : ∃ g c, v = .slice (some ⟨g, 0, none⟩) n c ∧ l.length = n ∧ ∀ i, i < l.length → w.cell? ⟨g, 0 + i, none⟩ = some (.int .u8 (byt l i : Nat)) := by
  obtain ⟨hl, ⟨h1, h2⟩ | ⟨g, cap, cur, rfl, _, hg, h3, _, h5, h6⟩⟩ := h
  · omega
  · have hll : l.length = n := by simpa [u8s] using hl
    refine ⟨g, cap, rfl, hll, fun i hi => ?_⟩
    have hb : Blk w g (.cells cur e) := hg
    refine Blk.val hb _ _ ?_
    have hx : (u8s l)[i]? = cur[i]? := by rw [← h6, List.getElem?_take, if_pos (by omega)]; simp
    rw [Nat.zero_add, ← hx]
    simp [u8s, hi, byt, List.getD]

set_option maxRecDepth 100000 in
set_option maxHeartbeats 1000000 in
theorem Slot_ref (n : Int) (w : World) : Calls Tryd.prog 63 #[.int .i64 n] w fun e w' => e = .returned (.string ⟨(slotL n).toArray⟩) ∧ Ext w w' := by
  by_cases h0 : n < 0
  · have HR : Hid (slotL n = []) := Lib.hid (by unfold slotL; rw [if_pos (.inl h0)])
    go_enter Tryd.func63, Tryd.ntmps63
    go_wp2
    go_ret
    exact ⟨ret_str HR.out.symm, Ext.refl _⟩
  · have h0I : decide (n < 0) = false := decide_eq_false h0
    by_cases h1 : 1099511627776 < n
    · have HR : Hid (slotL n = []) := Lib.hid (by unfold slotL; rw [if_pos (.inr h1)])
      go_enter Tryd.func63, Tryd.ntmps63
      go_wp2
      go_ret
      exact ⟨ret_str HR.out.symm, Ext.refl _⟩
    · have h1I : decide (1099511627776 < n) = false := decide_eq_false h1
      have HR : Hid (slotL n = beL 8 n.toNat) := Lib.hid (by unfold slotL; rw [if_neg (by omega)])
      obtain ⟨N, rfl⟩ := Int.eq_ofNat_of_zero_le (show 0 ≤ n by omega)
      rw [Int.toNat_natCast] at HR
      have hN : N ≤ 1099511627776 := by omega
      obtain ⟨i0, hi, hz0, hz1, hz2⟩ := info_parts infoByte
      clear h0 h1
      go_enter Tryd.func63, Tryd.ntmps63
      go_upto_region 4 with (fail)
      refine wp_name (fun w1 => Ext w w1 ∧ w1.ownsRow w.heap.size 5 1 (.slice (some ⟨w.heap.size, 0, none⟩) 0 0) 0 (u8s (beL 0 N))) ⟨Ext.alloc _ _, World.ownsRow_made w #[] 0 (Nat.le_refl _) (by simp) rfl⟩ ?_
      rintro w1 ⟨he1, hown1⟩
      have He1 := Lib.hid he1
      have Hown1 := Lib.hid hown1
      clear he1 hown1
      go_wp2_with fail
      go_loopw [0, 3, 4] (fun x o i wr => ∃ k : Nat, k ≤ 8 ∧ i = .int .i64 k ∧ x = .int .i64 ((N / 256 ^ k : Nat) : Int) ∧ Ext w wr ∧ (∃ g c, o = .slice (some ⟨g, 0, none⟩) k c) ∧ wr.ownsRow w.heap.size 5 1 o k (u8s (beL k N))) (fun _ _ i _ => 8 - (intOf i).toNat)
      case atStart => exact ⟨0, by omega, rfl, by simp, He1.out, ⟨_, _, rfl⟩, Hown1.out⟩
      case round =>
        obtain ⟨k, hk, rfl, rfl, hext, ⟨go, co, rfl⟩, hown⟩ := hrel
        have hwz := hext.size
        by_cases hk8 : k < 8
        · have hkI : (k : Int) < 8 := by omega
          have HB : Hid (beL (k + 1) N = UInt8.ofNat (N / 256 ^ k) :: beL k N) := Lib.hid rfl
          have HN : Hid (N / 256 ^ (k + 1) = N / 256 ^ k / 256) := Lib.hid (by rw [Nat.pow_succ, Nat.div_div_eq_div_mul])
          have hM : N / 256 ^ k ≤ 1099511627776 := Nat.le_trans (Nat.div_le_self _ _) hN
          generalize N / 256 ^ k = M at *
          have hr1 : (M : Int).tmod 256 = ((M % 256 : Nat) : Int) := by rw [Int.tmod_eq_emod_of_nonneg (by omega)]; omega
          have hr2 : IntKind.u8.wrap ((M % 256 : Nat) : Int) = ((M % 256 : Nat) : Int) := IntWalk.u8_in _ (by omega)
          have hq1 : IntKind.i64.wrap ((M : Int) / 256) = ((M / 256 : Nat) : Int) := by rw [IntWalk.i64_in _ (by omega)]; omega
          have hu : u8s [UInt8.ofNat M] = [.int .u8 ((M % 256 : Nat) : Int)] := by simp [u8s]
          obtain ⟨q', c', hv', hcell, hc1, hc2⟩ := own_cells hown
          have hll : (u8s (beL k N)).length = k := by simp [u8s, beL_len]
          rw [hll] at hv'
          simp at hv'
          obtain ⟨rfl, rfl⟩ := hv'
          have Hcell := Lib.hid (hcell.ext (Ext.alloc wr (.cells #[.int .u8 ((M % 256 : Nat) : Int)] 5)))
          have Hext := Lib.hid hext
          have HU := Lib.hid hu
          have Hll := Lib.hid hll
          clear hown hext hcell hc1 hc2 hu hll
          go_wp2_with (first | (at_builtin; (refine wpList_apps (o := ⟨some 21, _, _, _, _, _⟩) rfl (.tmp 19) (.tmp 20) 70 5 rfl w.heap.size (.int .u8 0) 1 Tryd.underlying70 infoByte rfl _ 1 [.int .u8 ((M % 256 : Nat) : Int)] rfl (own_lit1 (Blk.new wr _) hwz) (some ⟨go, 0, none⟩) k co (u8s (beL k N)) rfl rfl Hll.out Hcell.out (u8s_one _) (by omega) (by decide) (by simp; omega) ?_; intro v2 w2 hown2 hgr2; have hb2 := Below.of_grown (B := w.heap.size) hgr2 (own_lit1 (Blk.new wr _) hwz) (Nat.le_refl _) (by simp; omega); clear hgr2)))
          have hown3 : w2.ownsRow w.heap.size 5 1 v2 (k + 1) (u8s (beL (k + 1) N)) := by
            rw [HB.out, Nat.add_comm k 1]
            have e : u8s (UInt8.ofNat M :: beL k N) = u8s [UInt8.ofNat M] ++ u8s (beL k N) := rfl
            rw [e, HU.out]
            exact hown2
          obtain ⟨g2, c2, rfl, _, _⟩ := own_bytes hown3 (by omega)
          have Hown3 := Lib.hid hown3
          have HE2 := Lib.hid (Ext.trans' (Hext.out.trans (Ext.alloc _ _)) hb2)
          clear hown2 hown3 hb2
          go_wp2_with fail
          go_roundw
          case rel => exact ⟨k + 1, by omega, by go_num, by rw [HN.out]; go_num, HE2.out, ⟨_, _, rfl⟩, Hown3.out⟩
          case measure => simp [intOf]; omega
        · have hkI : decide ((k : Int) < 8) = false := decide_eq_false (by omega)
          obtain rfl : k = 8 := by omega
          obtain ⟨g2, c2, hv2, hl2, hcell⟩ := own_bytes hown (by omega)
          simp at hv2
          obtain ⟨rfl, rfl⟩ := hv2
          have hcv := run_bytes_string (P := Tryd.prog) wr 70 9 5 go 0 co (beL 8 N) Tryd.underlying70 Tryd.underlying5 Tryd.underlying9 hcell
          rw [beL_len] at hcv
          have Hext := Lib.hid hext
          generalize beL 8 N = B8 at *
          clear hown hcell hext hl2
          go_wp2_with fail
          go_ret
          exact ⟨ret_str HR.out.symm, Hext.out⟩
end Go.Proofs.YtjgdhlpnpihkdaaDoor

/- The walk of the program's Slot: a number as a key. -/
namespace Go.Proofs.YtjgdhlpnpihkdaaDoor
open Go.RowKit Dsd

/-- The array behind k rounds. -/
def arrB (k N : Nat) : List UInt8 := List.replicate (8 - k) 0 ++ beL k N
theorem arrB_len (k N : Nat) (hk : k ≤ 8) : (arrB k N).length = 8 := by simp [arrB, beL_len]; omega
theorem arrB_next (k N : Nat) (hk : k < 8) : (arrB k N).set (7 - k) (UInt8.ofNat (N / 256 ^ k)) = arrB (k + 1) N := by
  unfold arrB
  have e : 8 - k = (7 - k) + 1 := by omega
  have e2 : 8 - (k + 1) = 7 - k := by omega
  rw [e, e2, List.replicate_succ', List.append_assoc, List.set_append_right _ _ (by simp)]
  simp [beL]

set_option maxRecDepth 100000 in
set_option maxHeartbeats 1000000 in
theorem Slot_any (n : Int) (w : World) : Calls Tryd.prog 65 #[.int .i64 n] w fun e w' => e = .returned (.string ⟨(slotL n).toArray⟩) ∧ Ext w w' := by
  by_cases hin : 0 ≤ n ∧ n ≤ 1099511627776
  · have hwi : (decide (0 ≤ n) && decide (n ≤ 1099511627776)) = true := by simp; omega
    have HWI := Lib.hid hwi
    have HR : Hid (slotL n = beL 8 n.toNat) := Lib.hid (by unfold slotL; rw [if_neg (by omega)])
    obtain ⟨N, rfl⟩ := Int.eq_ofNat_of_zero_le hin.1
    rw [Int.toNat_natCast] at HR
    have hN : N ≤ 1099511627776 := by omega
    clear hwi hin
    go_enter Tryd.func65, Tryd.ntmps65
    go_upto_region 4 with (first | (go_at_call 102; refine (within_any _ _ _ _).mono ?_; rw [HWI.out]; rintro e w' ⟨rfl, rfl⟩))
    refine wp_name (fun w1 => Ext w w1 ∧ Blk w1 w.heap.size (.cells (byteCells (arrB 0 N)) 165)) ⟨Ext.alloc _ _, Blk.new w _⟩ ?_
    rintro w1 ⟨he1, hb1⟩
    have He1 := Lib.hid he1
    have Hb1 := Lib.hid hb1
    clear he1 hb1
    go_wp2_with fail
    go_loopw [8] (fun i wr => ∃ k : Nat, k ≤ 8 ∧ i = .int .i64 k ∧ Ext w wr ∧ Blk wr w.heap.size (.cells (byteCells (arrB k N)) 165)) (fun i _ => 8 - (intOf i).toNat)
    case atStart => exact ⟨0, by omega, rfl, He1.out, Hb1.out⟩
    case round =>
      obtain ⟨k, hk, rfl, hext, hb⟩ := hrel
      have hbl := Blk.lt hb
      by_cases hk8 : k < 8
      · have hkI : (k : Int) < 8 := by omega
        obtain ⟨m, hm⟩ : ∃ m, k + m = 7 := ⟨7 - k, by omega⟩
        have hmI : (7 : Int) - k = m := by omega
        have hm8 : (m : Int) < 8 := by omega
        have hcv : w.heap.size < wr.heap.size := hbl
        have hcell : wr.cell? ⟨w.heap.size, m, none⟩ = some (.int .u8 (((arrB k N).getD m 0).toNat : Nat)) := Blk.val hb m _ (by have := arrB_len k N (by omega); simp [byteCells, List.getD]; rw [List.getElem?_eq_getElem (by omega)]; simp)
        have hfr := Blk.free hb m
        have HA := Lib.hid (arrB_next k N hk8)
        have Hb := Lib.hid hb
        have Hext := Lib.hid hext
        generalize (arrB k N).getD m 0 = old at *
        clear hb hext
        go_wp2_with fail
        go_roundw
        case rel => exact ⟨k + 1, by omega, by go_num, (Chg.setCell).ext Hext.out (Nat.le_refl _), by
          have h := Blk.setCell (i := m) (v := .int .u8 ((N : Int) / 2 ^ (8 * k) % 256)) Hb.out
          have hv : (N : Int) / 2 ^ (8 * k) % 256 = ((UInt8.ofNat (N / 256 ^ k)).toNat : Int) := by
            have e1 : (256 : Nat) ^ k = 2 ^ (8 * k) := by rw [Nat.pow_mul]
            rw [e1]
            simp only [UInt8.toNat_ofNat', Int.natCast_emod, Int.natCast_ediv, Int.natCast_pow]
            rfl
          have e : (byteCells (arrB k N)).setIfInBounds m (.int .u8 ((N : Int) / 2 ^ (8 * k) % 256)) = byteCells (arrB (k + 1) N) := by
            have e7 : 7 - k = m := by omega
            rw [← HA.out, e7, hv]
            simp [byteCells, List.map_set]
          rw [e] at h
          exact h⟩
        case measure => simp [intOf]; omega
      · have hkI : decide ((k : Int) < 8) = false := decide_eq_false (by omega)
        obtain rfl : k = 8 := by omega
        have hb8 : Blk wr w.heap.size (.cells (byteCells (beL 8 N)) 165) := hb
        have hcv := run_bytes_string (P := Tryd.prog) wr 70 9 5 w.heap.size 0 8 (beL 8 N) Tryd.underlying70 Tryd.underlying5 Tryd.underlying9 (fun i hi => by rw [Nat.zero_add]; exact Blk.val hb8 i _ (by simp [byteCells, hi, byt, List.getD]))
        rw [beL_len] at hcv
        have Hext := Lib.hid hext
        generalize beL 8 N = B8 at *
        clear hb hb8 hext
        go_wp2_with fail
        go_ret
        exact ⟨ret_str HR.out.symm, Hext.out⟩
  · have hwi : (decide (0 ≤ n) && decide (n ≤ 1099511627776)) = false := by simp; omega
    have HWI := Lib.hid hwi
    have HR : Hid (slotL n = []) := Lib.hid (by unfold slotL; rw [if_pos (by omega)])
    clear hwi
    go_enter Tryd.func65, Tryd.ntmps65
    go_wp2_with (first | (go_at_call 102; refine (within_any _ _ _ _).mono ?_; rw [HWI.out]; rintro e w' ⟨rfl, rfl⟩))
    go_ret
    exact ⟨ret_str HR.out.symm, Ext.refl _⟩
end Go.Proofs.YtjgdhlpnpihkdaaDoor
/- The walk of the reference's Number, at a key that Slot has made. -/
namespace Go.Proofs.YtjgdhlpnpihkdaaDoor
open Go.RowKit Dsd

theorem beL_at : ∀ (k n i : Nat), i < k → byt (beL k n) i = n / 256 ^ (k - 1 - i) % 256
  | 0, _, _, h => by omega
  | k + 1, n, i, h => by
    by_cases hi : i = 0
    · subst hi
      simp [beL, byt]
    · obtain ⟨j, rfl⟩ : ∃ j, i = j + 1 := ⟨i - 1, by omega⟩
      have ih := beL_at k n j (by omega)
      have e : byt (beL (k + 1) n) (j + 1) = byt (beL k n) j := by simp [beL, byt]
      rw [e, ih]
      have : k - 1 - j = k + 1 - 1 - (j + 1) := by omega
      rw [this]

set_option maxRecDepth 100000 in
set_option maxHeartbeats 1000000 in
theorem Number_slot (N : Nat) (hN : N ≤ 1099511627776) (w : World) : Calls Tryd.prog 25 #[.string ⟨(slotL N).toArray⟩] w fun e w' => e = .returned (.tuple #[.int .i64 (N : Nat), .bool true]) ∧ w = w' := by
  have hs : slotL N = beL 8 N := by unfold slotL; rw [if_neg (by omega)]; simp
  rw [hs]
  have hl := beL_len 8 N
  have hb0 : byt (beL 8 N) 0 = 0 := by rw [beL_at 8 N 0 (by omega)]; omega
  have hb1 : byt (beL 8 N) 1 = 0 := by rw [beL_at 8 N 1 (by omega)]; omega
  have HB := Lib.hid (beL_at 8 N)
  generalize beL 8 N = B at *
  have hszB : (ByteArray.mk B.toArray).size = 8 := by simp [ByteArray.size, hl]
  clear hs
  go_enter Tryd.func25, Tryd.ntmps25
  go_wp2_with fail
  go_loop [4, 5] (fun x i => ∃ k : Nat, k ≤ 8 ∧ i = .int .i64 k ∧ x = .int .i64 ((N / 256 ^ (8 - k) : Nat) : Int)) (fun _ i => 8 - (intOf i).toNat)
  case atStart => exact ⟨0, by omega, rfl, by simp; omega⟩
  case round =>
    obtain ⟨k, hk, rfl, rfl⟩ := hrel
    by_cases hk8 : k < 8
    · have hkI : (k : Int) < 8 := by omega
      have hbk := HB.out k hk8
      have hM : N / 256 ^ (8 - 1 - k) ≤ 1099511627776 := Nat.le_trans (Nat.div_le_self _ _) hN
      have hq : N / 256 ^ (8 - k) = N / 256 ^ (8 - 1 - k) / 256 := by
        rw [show 8 - k = (8 - 1 - k) + 1 by omega, Nat.pow_succ, Nat.div_div_eq_div_mul]
      have HQ : Hid (N / 256 ^ (8 - (k + 1)) = N / 256 ^ (8 - 1 - k)) := Lib.hid (by rw [show 8 - (k + 1) = 8 - 1 - k by omega])
      rw [hq]
      generalize N / 256 ^ (8 - 1 - k) = M at *
      have hklen : k < B.length := by omega
      clear hq
      go_wp2
      go_round
      case rel => exact ⟨k + 1, by omega, by go_num, by rw [HQ.out]; first | (rw [hbk]; go_num) | go_num⟩
      case measure => simp [intOf]; omega
    · have hkI : decide ((k : Int) < 8) = false := decide_eq_false (by omega)
      obtain rfl : k = 8 := by omega
      have e : N / 256 ^ (8 - 8) = N := by simp
      rw [e]
      have hNI : decide (1099511627776 < (N : Int)) = false := decide_eq_false (by omega)
      go_wp2
      go_ret2
      exact ⟨rfl, rfl⟩
end Go.Proofs.YtjgdhlpnpihkdaaDoor
