/- The walk of the reference's Slot: a number as a key. -/
import Derived.Test.YtkhlglkipeoalaaDoorX8
set_option linter.unusedSimpArgs false
set_option linter.unusedVariables false
namespace Dsd
/-- The k least bytes of a number, the greatest first. -/
def beL : Nat → Nat → List UInt8
  | 0, _ => []
  | k + 1, n => UInt8.ofNat (n / 256 ^ k) :: beL k n
theorem beL_len : ∀ (k n : Nat), (beL k n).length = k
  | 0, _ => rfl
  | k + 1, n => by rw [beL, List.length_cons, beL_len k n]
/-- A number as a key. -/
def slotL (n : Int) : List UInt8 := if n < 0 ∨ 1099511627776 < n then [] else beL 8 n.toNat
end Dsd
namespace Go.Proofs.YtkhlglkipeoalaaDoor
open Go.RowKit Dsd

theorem own_lit1 {w : World} {b base : Nat} {e : TypeId} {v : Value} (h : Blk w b (.cells #[v] e)) (hb : base ≤ b) : w.ownsRow base e 1 (.slice (some ⟨b, 0, none⟩) 1 1) 1 [v] :=
  ⟨by simp, .inr ⟨b, 1, #[v], rfl, hb, h, Nat.le_refl _, by unfold maxLen; omega, rfl, rfl⟩⟩
def u8s (l : List UInt8) : List Value := l.map fun x => Value.int .u8 ((x.toNat : Nat) : Int)
theorem u8s_one (l : List UInt8) : ∀ u ∈ u8s l, u.oneCell' = true := by
  intro u hu
  simp only [u8s, List.mem_map] at hu
  obtain ⟨s, _, rfl⟩ := hu
  rfl
theorem own_bytes {w : World} {base : Nat} {e : TypeId} {v : Value} {n : Nat} {l : List UInt8} (h : w.ownsRow base e 1 v n (u8s l)) (hn : 0 < n) : ∃ g c, v = .slice (some ⟨g, 0, none⟩) n c ∧ l.length = n ∧ ∀ i, i < l.length → w.cell? ⟨g, 0 + i, none⟩ = some (.int .u8 (byt l i : Nat)) := by
  obtain ⟨hl, ⟨h1, h2⟩ | ⟨g, cap, cur, rfl, _, hg, h3, _, h5, h6⟩⟩ := h
  · omega
  · have hll : l.length = n := by simpa [u8s] using hl
    refine ⟨g, cap, rfl, hll, fun i hi => ?_⟩
    have hb : Blk w g (.cells cur e) := hg
    refine Blk.val hb _ _ ?_
    have hx : (u8s l)[i]? = cur[i]? := by rw [← h6, List.getElem?_take, if_pos (by omega)]; simp
    rw [Nat.zero_add, ← hx]
    simp [u8s, hi, byt, List.getD]

set_option maxRecDepth 100000 in
set_option maxHeartbeats 1000000 in
theorem Slot_ref (n : Int) (w : World) : Calls Tryd.prog 27 #[.int .i64 n] w fun e w' => e = .returned (.string ⟨(slotL n).toArray⟩) ∧ Ext w w' := by
  by_cases h0 : n < 0
  · have HR : Hid (slotL n = []) := Lib.hid (by unfold slotL; rw [if_pos (.inl h0)])
    go_enter Tryd.func27, Tryd.ntmps27
    go_wp2
    go_ret
    exact ⟨ret_str HR.out.symm, Ext.refl _⟩
  · have h0I : decide (n < 0) = false := decide_eq_false h0
    by_cases h1 : 1099511627776 < n
    · have HR : Hid (slotL n = []) := Lib.hid (by unfold slotL; rw [if_pos (.inr h1)])
      go_enter Tryd.func27, Tryd.ntmps27
      go_wp2
      go_ret
      exact ⟨ret_str HR.out.symm, Ext.refl _⟩
    · have h1I : decide (1099511627776 < n) = false := decide_eq_false h1
      have HR : Hid (slotL n = beL 8 n.toNat) := Lib.hid (by unfold slotL; rw [if_neg (by omega)])
      obtain ⟨N, rfl⟩ := Int.eq_ofNat_of_zero_le (show 0 ≤ n by omega)
      rw [Int.toNat_natCast] at HR
      have hN : N ≤ 1099511627776 := by omega
      obtain ⟨i0, hi, hz0, hz1, hz2⟩ := info_parts infoByte
      clear h0 h1
      go_enter Tryd.func27, Tryd.ntmps27
      go_upto_region 4 with (fail)
      refine wp_name (fun w1 => Ext w w1 ∧ w1.ownsRow w.heap.size 5 1 (.slice (some ⟨w.heap.size, 0, none⟩) 0 0) 0 (u8s (beL 0 N))) ⟨Ext.alloc _ _, World.ownsRow_made w #[] 0 (Nat.le_refl _) (by simp) rfl⟩ ?_
      rintro w1 ⟨he1, hown1⟩
      have He1 := Lib.hid he1
      have Hown1 := Lib.hid hown1
      clear he1 hown1
      go_wp2_with fail
      go_loopw [0, 3, 4] (fun x o i wr => ∃ k : Nat, k ≤ 8 ∧ i = .int .i64 k ∧ x = .int .i64 ((N / 256 ^ k : Nat) : Int) ∧ Ext w wr ∧ (∃ g c, o = .slice (some ⟨g, 0, none⟩) k c) ∧ wr.ownsRow w.heap.size 5 1 o k (u8s (beL k N))) (fun _ _ i _ => 8 - (intOf i).toNat)
      case atStart => exact ⟨0, by omega, rfl, by simp, He1.out, ⟨_, _, rfl⟩, Hown1.out⟩
      case round =>
        obtain ⟨k, hk, rfl, rfl, hext, ⟨go, co, rfl⟩, hown⟩ := hrel
        have hwz := hext.size
        by_cases hk8 : k < 8
        · have hkI : (k : Int) < 8 := by omega
          have HB : Hid (beL (k + 1) N = UInt8.ofNat (N / 256 ^ k) :: beL k N) := Lib.hid rfl
          have HN : Hid (N / 256 ^ (k + 1) = N / 256 ^ k / 256) := Lib.hid (by rw [Nat.pow_succ, Nat.div_div_eq_div_mul])
          have hM : N / 256 ^ k ≤ 1099511627776 := Nat.le_trans (Nat.div_le_self _ _) hN
          generalize N / 256 ^ k = M at *
          have hr1 : (M : Int).tmod 256 = ((M % 256 : Nat) : Int) := by rw [Int.tmod_eq_emod_of_nonneg (by omega)]; omega
          have hr2 : IntKind.u8.wrap ((M % 256 : Nat) : Int) = ((M % 256 : Nat) : Int) := IntWalk.u8_in _ (by omega)
          have hq1 : IntKind.i64.wrap ((M : Int) / 256) = ((M / 256 : Nat) : Int) := by rw [IntWalk.i64_in _ (by omega)]; omega
          have hu : u8s [UInt8.ofNat M] = [.int .u8 ((M % 256 : Nat) : Int)] := by simp [u8s]
          obtain ⟨q', c', hv', hcell, hc1, hc2⟩ := own_cells hown
          have hll : (u8s (beL k N)).length = k := by simp [u8s, beL_len]
          rw [hll] at hv'
          simp at hv'
          obtain ⟨rfl, rfl⟩ := hv'
          have Hcell := Lib.hid (hcell.ext (Ext.alloc wr (.cells #[.int .u8 ((M % 256 : Nat) : Int)] 5)))
          have Hext := Lib.hid hext
          have HU := Lib.hid hu
          have Hll := Lib.hid hll
          clear hown hext hcell hc1 hc2 hu hll
          go_wp2_with (first | (at_builtin; (refine wpList_apps (o := ⟨some 21, _, _, _, _, _⟩) rfl (.tmp 19) (.tmp 20) 94 5 rfl w.heap.size (.int .u8 0) 1 Tryd.underlying94 infoByte rfl _ 1 [.int .u8 ((M % 256 : Nat) : Int)] rfl (own_lit1 (Blk.new wr _) hwz) (some ⟨go, 0, none⟩) k co (u8s (beL k N)) rfl rfl Hll.out Hcell.out (u8s_one _) (by omega) (by decide) (by simp; omega) ?_; intro v2 w2 hown2 hgr2; have hb2 := Below.of_grown (B := w.heap.size) hgr2 (own_lit1 (Blk.new wr _) hwz) (Nat.le_refl _) (by simp; omega); clear hgr2)))
          have hown3 : w2.ownsRow w.heap.size 5 1 v2 (k + 1) (u8s (beL (k + 1) N)) := by
            rw [HB.out, Nat.add_comm k 1]
            have e : u8s (UInt8.ofNat M :: beL k N) = u8s [UInt8.ofNat M] ++ u8s (beL k N) := rfl
            rw [e, HU.out]
            exact hown2
          obtain ⟨g2, c2, rfl, _, _⟩ := own_bytes hown3 (by omega)
          have Hown3 := Lib.hid hown3
          have HE2 := Lib.hid (Ext.trans' (Hext.out.trans (Ext.alloc _ _)) hb2)
          clear hown2 hown3 hb2
          go_wp2_with fail
          go_roundw
          case rel => exact ⟨k + 1, by omega, by go_num, by rw [HN.out]; go_num, HE2.out, ⟨_, _, rfl⟩, Hown3.out⟩
          case measure => simp [intOf]; omega
        · have hkI : decide ((k : Int) < 8) = false := decide_eq_false (by omega)
          obtain rfl : k = 8 := by omega
          obtain ⟨g2, c2, hv2, hl2, hcell⟩ := own_bytes hown (by omega)
          simp at hv2
          obtain ⟨rfl, rfl⟩ := hv2
          have hcv := run_bytes_string (P := Tryd.prog) wr 94 9 5 go 0 co (beL 8 N) Tryd.underlying94 Tryd.underlying5 Tryd.underlying9 hcell
          rw [beL_len] at hcv
          have Hext := Lib.hid hext
          generalize beL 8 N = B8 at *
          clear hown hcell hext hl2
          go_wp2_with fail
          go_ret
          exact ⟨ret_str HR.out.symm, Hext.out⟩
end Go.Proofs.YtkhlglkipeoalaaDoor
