/- The walk of the reference's EncodeSlots. -/
import Derived.Test.YtadeohkcaaoflaaDoorW18
import Derived.Test.YtadeohkcaaoflaaDoorP17f
import Derived.Test.YtadeohkcaaoflaaDoorMono
namespace Go.Proofs.YtadeohkcaaoflaaDoor
open Go.RowKit Dsd

set_option maxRecDepth 100000 in
set_option maxHeartbeats 2000000 in
theorem EncodeSlots_ref_main (n len N : Nat) (hn4 : n = 128 ∨ n = 256 ∨ n = 512) (h1 : 1 ≤ len) (h2 : len ≤ 200) (h3 : len + 7 ≤ n) (hN : slotsN n len = N) (hN0 : N ≠ 0) (hroom : N * (len + 3) + 4 ≤ n) (p : Option Addr) (cap m : Nat) (L : List Slt) (hm : L.length = m) (hmN : m ≤ N) (w : World) (hs : Slts w p L) :
    Calls Tryd.prog 24 #[.int .i64 n, .int .i64 len, .slice p m cap] w fun e w' => e = .returned (.tuple #[.string ⟨(sStr n N len L).toArray⟩, .int .i64 (sErr N len L)]) ∧ Ext w w' := by
  have hil : (isSizeB n && decide ((1 : Int) ≤ len) && decide ((len : Int) ≤ 200) && decide ((len : Int) ≤ (n : Int) - 7)) = true := by
    have hi : isSizeB n = true := by rcases hn4 with rfl | rfl | rfl <;> rfl
    simp [hi]; omega
  have Hil := Lib.hid hil
  have Hs := Lib.hid hs
  have hmI : decide ((N : Int) < m) = false := by simp; omega
  have HN := Lib.hid hN
  have hN5 : N ≤ 512 := by have := Nat.le_mul_of_pos_right N (show 0 < len + 3 by omega); omega
  clear hil hs hN
  go_enter Tryd.func24, Tryd.ntmps24
  go_wp2_with (first | (go_at_call 52; refine (IsLength_any _ _ _).mono ?_; rw [Hil.out]; rintro e w' ⟨rfl, rfl⟩) | (go_at_call 29; refine (SlotCount_ref _ _ _).mono ?_; rw [HN.out]; rintro e w' ⟨rfl, rfl⟩))
  rw [show decide (N < m) = false from decide_eq_false (by omega)]
  obtain ⟨wo, rfl⟩ : ∃ wo : World, wo = w := ⟨_, rfl⟩
  go_loopw [8, 9, 10] (fun c mk i wr => ∃ k : Nat, k ≤ N ∧ i = .int .i64 k ∧ c = .string ⟨(sCont len L k).toArray⟩ ∧ mk = .string ⟨(sMarks len L k).toArray⟩ ∧ sGood len L k ∧ Ext wo wr) (fun _ _ i _ => N - (intOf i).toNat)
  case atStart => exact ⟨0, Nat.zero_le _, rfl, rfl, rfl, sGood_zero _ _, Ext.refl _⟩
  case round =>
    obtain ⟨k, hk, rfl, rfl, rfl, hg, hext⟩ := hrel
    have HG := Lib.hid hg
    have hkl : k * (len + 3) ≤ N * (len + 3) := Nat.mul_le_mul_right _ hk
    have hCl : (sCont len L k).length ≤ 512 := by rw [length_sCont hg]; rw [Nat.mul_add] at hkl; omega
    have hMl : (sMarks len L k).length ≤ 512 := by rw [length_sMarks]; rw [Nat.mul_add] at hkl; omega
    clear hg hkl
    obtain ⟨C, hC⟩ : ∃ C, C = sCont len L k := ⟨_, rfl⟩
    obtain ⟨M, hM⟩ : ∃ M, M = sMarks len L k := ⟨_, rfl⟩
    rw [← hC] at hCl
    rw [← hM] at hMl
    rw [← hC, ← hM]
    have HC := Lib.hid hC
    have HMk := Lib.hid hM
    clear hC hM
    by_cases hkN : k < N
    · have hkI : (k : Int) < N := by omega
      by_cases hkm : k < m
      · obtain ⟨b, off, rfl, hb, hc⟩ := Hs.out.at k (by omega)
        obtain ⟨c1, c2⟩ := hc k (by omega)
        have d1 := (hext.cell b (off + k * 2) hb).trans c1
        have d2 := (hext.cell b (off + k * 2 + 1) hb).trans c2
        have hbr := Nat.lt_of_lt_of_le hb hext.size
        generalize hx : L.getD k (false, []) = s at *
        have HX : Hid (slotAt L k = s) := Lib.hid hx
        clear hc c1 c2 hx
        obtain ⟨u, x⟩ := s
        simp only at d1 d2
        have hkmI : (k : Int) < m := by omega
        have hcell : ∀ (v1 v2 : Value), (wr.alloc (.cells #[v1, v2] 43)).cell? ⟨wr.heap.size, 0, none⟩ = some v1 ∧ (wr.alloc (.cells #[v1, v2] 43)).cell? ⟨wr.heap.size, 1, none⟩ = some v2 := fun v1 v2 => by
          have hb : Blk _ _ _ := Blk.new wr (.cells #[v1, v2] 43)
          unfold Blk at hb
          simp only [World.cell?, hb]
          exact ⟨rfl, rfl⟩
        cases u
        · by_cases hx0 : x = []
          · subst hx0
            have hz := fun w => zeros_any len (by omega) w
            have hf := fun w => field_any 4 len (by omega) (by omega) (by omega) (by omega) w
            have hzl : (List.replicate ((len : Int)).toNat (0 : UInt8)).length ≤ 512 := by simp; omega
            have hfl : (fieldL ((4 : Int)).toNat ((len : Int)).toNat).length = 3 := rfl
            generalize hZ : List.replicate ((len : Int)).toNat (0 : UInt8) = Z at *
            generalize hF : fieldL ((4 : Int)).toNat ((len : Int)).toNat = F at *
            have Hz := Lib.hid hz
            have Hf := Lib.hid hf
            have HZ := Lib.hid hZ
            have HF := Lib.hid hF
            clear hz hf hZ hF
            go_wp2_with (first | (go_at_call 29; refine (SlotCount_ref _ _ _).mono ?_; rw [HN.out]; rintro e w' ⟨rfl, rfl⟩) | (go_at_call 37; refine (Hz.out _).mono ?_; rintro e w3 ⟨rfl, he3⟩) | (go_at_call 53; refine (Hf.out _).mono ?_; rintro e w4 ⟨rfl, he4⟩))
            go_roundw
            case rel => exact ⟨k + 1, by omega, by go_num, by rw [sCont, ← HC.out, HX.out, ← HZ.out]; simp [slotBytes], by rw [sMarks, ← HMk.out, HX.out, ← HF.out]; rfl, sGood_succ HG.out (by rw [HX.out]; rfl), hext.trans ((Ext.alloc _ _).trans (he3.trans he4))⟩
            case measure => simp [intOf]; omega
          · have hxe : x.isEmpty = false := by simpa using hx0
            have HE : Hid (sErr N len L = 2) := Lib.hid (sErr_bad hN0 (by omega) hkN (by rw [HX.out]; exact hxe))
            have HS : Hid (sStr n N len L = []) := Lib.hid (by unfold sStr; rw [HE.out]; rfl)
            obtain ⟨e1, e2⟩ := hcell (.bool false) (.string ⟨x.toArray⟩)
            clear hx0
            go_wp2_with (first | (go_at_call 29; refine (SlotCount_ref _ _ _).mono ?_; rw [HN.out]; rintro e w' ⟨rfl, rfl⟩))
            go_ret2
            exact ⟨ret_tup HS.out.symm HE.out.symm, hext.trans (Ext.alloc _ _)⟩
        · by_cases hxl : x.length = len
          · have hxI : ((x.length : Int) == (len : Int)) = true := by simp [hxl]
            have HXL := Lib.hid hxl
            have hf := fun w => field_any 0 len (by omega) (by omega) (by omega) (by omega) w
            have hfl : (fieldL ((0 : Int)).toNat ((len : Int)).toNat).length = 3 := rfl
            generalize hF : fieldL ((0 : Int)).toNat ((len : Int)).toNat = F at *
            have Hf := Lib.hid hf
            have HF := Lib.hid hF
            have hx5 : x.length ≤ 512 := by omega
            clear hf hF
            obtain ⟨e1, e2⟩ := hcell (.bool true) (.string ⟨x.toArray⟩)
            clear hxl
            go_wp2_with (first | (go_at_call 29; refine (SlotCount_ref _ _ _).mono ?_; rw [HN.out]; rintro e w' ⟨rfl, rfl⟩))
            obtain ⟨wv, hwv⟩ : ∃ wv, wv = wr.alloc (.cells #[.bool true, .string ⟨x.toArray⟩] 43) := ⟨_, rfl⟩
            rw [← hwv] at e1 e2
            have hsz : wr.heap.size < wv.heap.size := by rw [hwv]; simp
            have HV := Lib.hid (show Ext wr wv by rw [hwv]; exact Ext.alloc _ _)
            rw [← hwv]
            clear hwv
            refine wp_region_mk 200 (Ext.refl wv) (by kernel_rfl) (by kernel_rfl) (by kernel_rfl) ?_
            simp only [List.take_succ_cons, List.take_zero, List.take_nil, List.drop_succ_cons, List.drop_zero, List.drop_nil, List.map_cons, List.map_nil]
            repeat (first
              | (refine wpML_move _ _ rfl (by first | exact .inl rfl | exact .inr rfl) rfl (by first | exact Is.stable _ | exact Fresh.stable _ _ _) ?_
                 simp only [setL, List.set_cons_succ, List.set_cons_zero, List.getD_cons_succ, List.getD_cons_zero])
              | (refine wpML_moveC _ rfl (by first | exact .inl rfl | exact .inr rfl) ?_
                 simp only [setL, List.set_cons_succ, List.set_cons_zero])
              | (apply wpML_det rfl
                 · intro a w' he hr K hK
                   simp [Reads, Oper.looksAt, Op.operands, Call.operands, factAt, Is] at hr
                   have hx := he.cell
                   go_simp
                   try go_bits
                   try (rw [if_neg (by omega)]; go_simp)
                   first
                     | exact hK _ (Ext.refl _)
                     | (refine (Hf.out _).mono ?_; rintro e w' ⟨rfl, he'⟩; exact hK _ he')
                 simp only [setL, List.set_cons_succ, List.set_cons_zero])
              | (apply wpML_det rfl
                 · intro a w' he hr K hK
                   simp [Reads, Oper.looksAt, Op.operands, Call.operands, factAt, Fresh] at hr
                   obtain ⟨b, hr1, hr2⟩ := hr
                   go_simp
                   exact hK _ (Ext.refl _)
                 simp only [setL, List.set_cons_succ, List.set_cons_zero]))
            intro w2 he2
            repeat (first | with_reducible refine rest_is _ _ _ _ ?_ | (with_reducible refine rest_fact _ _ _ _ ?_; intro _ _) | with_reducible refine rest_end _ _ ?_)
            simp only [List.reverse_cons, List.reverse_nil, List.nil_append, List.cons_append]
            go_wp2
            go_roundw
            case rel => exact ⟨k + 1, by omega, by go_num, by rw [sCont, ← HC.out, HX.out]; simp [slotBytes], by rw [sMarks, ← HMk.out, HX.out, ← HF.out]; rfl, sGood_succ HG.out (by rw [HX.out]; simp [slotGood, HXL.out]), hext.trans (HV.out.trans he2)⟩
            case measure => simp [intOf]; omega
          · have hxI : ((x.length : Int) == (len : Int)) = false := by simp; omega
            have HE : Hid (sErr N len L = 2) := Lib.hid (sErr_bad hN0 (by omega) hkN (by rw [HX.out]; simp [slotGood, hxl]))
            have HS : Hid (sStr n N len L = []) := Lib.hid (by unfold sStr; rw [HE.out]; rfl)
            obtain ⟨e1, e2⟩ := hcell (.bool true) (.string ⟨x.toArray⟩)
            clear hxl
            go_wp2_with (first | (go_at_call 29; refine (SlotCount_ref _ _ _).mono ?_; rw [HN.out]; rintro e w' ⟨rfl, rfl⟩))
            go_ret2
            exact ⟨ret_tup HS.out.symm HE.out.symm, hext.trans (Ext.alloc _ _)⟩
      · have hkmI : decide ((k : Int) < m) = false := by simp; omega
        have HX : Hid (slotAt L k = (false, [])) := Lib.hid (by unfold slotAt; rw [List.getD_eq_getElem?_getD, List.getElem?_eq_none (by omega)]; rfl)
        have hz := fun w => zeros_any len (by omega) w
        have hf := fun w => field_any 4 len (by omega) (by omega) (by omega) (by omega) w
        have hzl : (List.replicate ((len : Int)).toNat (0 : UInt8)).length ≤ 512 := by simp; omega
        have hfl : (fieldL ((4 : Int)).toNat ((len : Int)).toNat).length = 3 := rfl
        generalize hZ : List.replicate ((len : Int)).toNat (0 : UInt8) = Z at *
        generalize hF : fieldL ((4 : Int)).toNat ((len : Int)).toNat = F at *
        have Hz := Lib.hid hz
        have Hf := Lib.hid hf
        have HZ := Lib.hid hZ
        have HF := Lib.hid hF
        have e1 : (wr.alloc (.cells #[.bool false, .string ⟨#[]⟩] 43)).cell? ⟨wr.heap.size, 0, none⟩ = some (.bool false) ∧ (wr.alloc (.cells #[.bool false, .string ⟨#[]⟩] 43)).cell? ⟨wr.heap.size, 1, none⟩ = some (.string ⟨#[]⟩) := by
          have hb : Blk _ _ _ := Blk.new wr (.cells #[.bool false, .string ⟨#[]⟩] 43)
          unfold Blk at hb
          simp only [World.cell?, hb]
          exact ⟨rfl, rfl⟩
        obtain ⟨e1, e2⟩ := e1
        clear hz hf hZ hF
        go_wp2_with (first | (go_at_call 29; refine (SlotCount_ref _ _ _).mono ?_; rw [HN.out]; rintro e w' ⟨rfl, rfl⟩) | (go_at_call 37; refine (Hz.out _).mono ?_; rintro e w3 ⟨rfl, he3⟩) | (go_at_call 53; refine (Hf.out _).mono ?_; rintro e w4 ⟨rfl, he4⟩))
        go_roundw
        case rel => exact ⟨k + 1, by omega, by go_num, by rw [sCont, ← HC.out, HX.out, ← HZ.out]; simp [slotBytes], by rw [sMarks, ← HMk.out, HX.out, ← HF.out]; rfl, sGood_succ HG.out (by rw [HX.out]; rfl), hext.trans ((Ext.alloc _ _).trans (he3.trans he4))⟩
        case measure => simp [intOf]; omega
    · have hkN' : k = N := by omega
      subst hkN'
      have hkI : decide ((k : Int) < k) = false := by simp
      have HE : Hid (sErr k len L = 0) := Lib.hid (sErr_good hN0 (by omega) HG.out)
      have HS : Hid (sStr n k len L = wholeL n C M) := Lib.hid (by unfold sStr; rw [if_pos HE.out, ← HC.out, ← HMk.out])
      have hCL := length_sCont HG.out
      have hML := length_sMarks len L k
      rw [← HC.out] at hCL
      rw [← HMk.out] at hML
      rw [Nat.mul_add] at hroom
      have hw := whole_any n C M (by omega) (by omega)
      have Hw := Lib.hid hw
      clear hw hCL hML
      go_wp2_with (first | (go_at_call 29; refine (SlotCount_ref _ _ _).mono ?_; rw [HN.out]; rintro e w' ⟨rfl, rfl⟩) | (go_at_call 47; refine (Hw.out _).mono ?_; rintro e w5 ⟨rfl, he5⟩))
      go_ret2
      exact ⟨ret_tup HS.out.symm HE.out.symm, hext.trans he5⟩
end Go.Proofs.YtadeohkcaaoflaaDoor
