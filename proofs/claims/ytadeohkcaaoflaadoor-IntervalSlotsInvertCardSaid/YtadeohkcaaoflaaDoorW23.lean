/- The program's EncodeSlots, for any slots. -/
import Derived.Test.YtadeohkcaaoflaaDoorW22
namespace Go.Proofs.YtadeohkcaaoflaaDoor
open Go.RowKit Dsd

set_option maxRecDepth 100000 in
theorem EncodeSlots_any (size length : Int) (p : Option Addr) (cap m : Nat) (L : List Slt) (hm : L.length = m) (w : World) (hs : Slts w p L) :
    Calls Tryd.prog 23 #[.int .i64 size, .int .i64 length, .slice p m cap] w fun e w' => e = .returned (.tuple #[.string ⟨(esStr size length L).toArray⟩, .int .i64 (esErr size length L)]) ∧ Ext w w' := by
  rcases slots_cases size length with ⟨h0, hb⟩ | ⟨n, len, N, rfl, rfl, h1, h2, h3, h4, h5, h6, h7, hb⟩
  · have HE : Hid (esErr size length L = 1) := Lib.hid (by unfold esErr sErr; rw [h0]; rfl)
    have HS : Hid (esStr size length L = []) := Lib.hid (by unfold esStr sStr; rw [if_neg]; have := HE.out; unfold esErr at this; rw [this]; decide)
    have H0 := Lib.hid h0
    clear hb h0
    go_enter Tryd.func23, Tryd.ntmps23
    go_wp2_with (go_at_call 28; refine (SlotCount_any _ _ _).mono ?_; rw [H0.out]; rintro e w' ⟨rfl, rfl⟩)
    go_ret2
    exact ⟨ret_tup HS.out.symm HE.out.symm, Ext.refl _⟩
  · by_cases hmN : m ≤ N
    · have := EncodeSlots_main n len N h1 h2 h3 h4 h5 h6 h7 p cap m L hm hmN w hs
      unfold esStr esErr
      rw [h5]
      exact this
    · have HE : Hid (esErr n len L = 8) := Lib.hid (by unfold esErr sErr; rw [h5, Int.toNat_natCast, if_neg h6, if_pos (by omega)])
      have HS : Hid (esStr n len L = []) := Lib.hid (by unfold esStr sStr; rw [if_neg]; have := HE.out; unfold esErr at this; rw [this]; decide)
      have HN := Lib.hid h5
      have hmI : (N : Int) < m := by omega
      have hN0I : ((N : Int) == 0) = false := by simp; omega
      clear hb h5 h7
      go_enter Tryd.func23, Tryd.ntmps23
      go_wp2_with (go_at_call 28; refine (SlotCount_any _ _ _).mono ?_; rw [HN.out]; rintro e w' ⟨rfl, rfl⟩)
      go_ret2
      exact ⟨ret_tup HS.out.symm HE.out.symm, Ext.refl _⟩
end Go.Proofs.YtadeohkcaaoflaaDoor
