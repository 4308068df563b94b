/- The reference's EncodeSlots, for any slots. -/
import Derived.Test.YtadeohkcaaoflaaDoorW19
namespace Go.Proofs.YtadeohkcaaoflaaDoor
open Go.RowKit Dsd

theorem slots_cases (size length : Int) : (slotsN size length = 0 ∧ (isSizeB size && decide (1 ≤ length) && decide (length ≤ 200) && decide (length ≤ size - 7)) = false) ∨
    ∃ n len N : Nat, size = n ∧ length = len ∧ (n = 128 ∨ n = 256 ∨ n = 512) ∧ 1 ≤ len ∧ len ≤ 200 ∧ len + 7 ≤ n ∧ slotsN n len = N ∧ N ≠ 0 ∧ N * (len + 3) + 4 ≤ n ∧ (isSizeB size && decide (1 ≤ length) && decide (length ≤ 200) && decide (length ≤ size - 7)) = true := by
  cases hb : (isSizeB size && decide (1 ≤ length) && decide (length ≤ 200) && decide (length ≤ size - 7))
  · left
    refine ⟨?_, rfl⟩
    unfold slotsN
    rw [if_pos]
    simp at hb
    by_cases h1 : isSizeB size = true
    · have := hb h1; omega
    · left; simpa using h1
  · right
    have hb2 := hb
    simp at hb2
    obtain ⟨⟨⟨h1, h2⟩, h3⟩, h4⟩ := hb2
    obtain ⟨n, rfl, hn⟩ := isSize_nat h1
    obtain ⟨len, rfl⟩ := Int.eq_ofNat_of_zero_le (show 0 ≤ length by omega)
    refine ⟨n, len, (n - 4) / (len + 3), rfl, rfl, hn, by omega, by omega, by omega, ?_, ?_, ?_, rfl⟩
    · unfold slotsN
      rw [if_neg (by simp [h1]; omega)]
      have : ((n : Int) - 4) = ((n - 4 : Nat) : Int) := by omega
      rw [this]; norm_cast
    · have : 1 ≤ (n - 4) / (len + 3) := (Nat.le_div_iff_mul_le (by omega)).2 (by omega)
      omega
    · have := Nat.div_mul_le_self (n - 4) (len + 3)
      omega

/-- What EncodeSlots answers. -/
noncomputable def esStr (size length : Int) (L : List Slt) : List UInt8 := sStr size.toNat (slotsN size length).toNat length.toNat L
noncomputable def esErr (size length : Int) (L : List Slt) : Int := sErr (slotsN size length).toNat length.toNat L

set_option maxRecDepth 100000 in
theorem EncodeSlots_ref (size length : Int) (p : Option Addr) (cap m : Nat) (L : List Slt) (hm : L.length = m) (hml : m ≤ 1000000) (w : World) (hs : Slts w p L) :
    Calls Tryd.prog 24 #[.int .i64 size, .int .i64 length, .slice p m cap] w fun e w' => e = .returned (.tuple #[.string ⟨(esStr size length L).toArray⟩, .int .i64 (esErr size length L)]) ∧ Ext w w' := by
  rcases slots_cases size length with ⟨h0, hb⟩ | ⟨n, len, N, rfl, rfl, h1, h2, h3, h4, h5, h6, h7, hb⟩
  · have HE : Hid (esErr size length L = 1) := Lib.hid (by unfold esErr sErr; rw [h0]; rfl)
    have HS : Hid (esStr size length L = []) := Lib.hid (by unfold esStr sStr; rw [if_neg]; have := HE.out; unfold esErr at this; rw [this]; decide)
    have Hil := Lib.hid hb
    clear hb h0
    go_enter Tryd.func24, Tryd.ntmps24
    go_wp2_with (go_at_call 52; refine (IsLength_any _ _ _).mono ?_; rw [Hil.out]; rintro e w' ⟨rfl, rfl⟩)
    go_ret2
    exact ⟨ret_tup HS.out.symm HE.out.symm, Ext.refl _⟩
  · by_cases hmN : m ≤ N
    · have := EncodeSlots_ref_main n len N h1 h2 h3 h4 h5 h6 h7 p cap m L hm hmN w hs
      unfold esStr esErr
      rw [h5]
      exact this
    · have HE : Hid (esErr n len L = 8) := Lib.hid (by unfold esErr sErr; rw [h5, Int.toNat_natCast, if_neg h6, if_pos (by omega)])
      have HS : Hid (esStr n len L = []) := Lib.hid (by unfold esStr sStr; rw [if_neg]; have := HE.out; unfold esErr at this; rw [this]; decide)
      have Hil := Lib.hid hb
      have HN := Lib.hid h5
      have hmI : (N : Int) < m := by omega
      clear hb h5 h7
      go_enter Tryd.func24, Tryd.ntmps24
      go_wp2_with (first | (go_at_call 52; refine (IsLength_any _ _ _).mono ?_; rw [Hil.out]; rintro e w' ⟨rfl, rfl⟩) | (go_at_call 29; refine (SlotCount_ref _ _ _).mono ?_; rw [HN.out]; rintro e w' ⟨rfl, rfl⟩))
      go_ret2
      exact ⟨ret_tup HS.out.symm HE.out.symm, Ext.refl _⟩
end Go.Proofs.YtadeohkcaaoflaaDoor
