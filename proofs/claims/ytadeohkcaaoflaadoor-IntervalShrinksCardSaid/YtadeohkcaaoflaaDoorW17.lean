/- The walk of the law IntervalShrinks. -/
import Derived.Test.YtadeohkcaaoflaaDoorW16
import Derived.Test.YtadeohkcaaoflaaDoorP17e
namespace Go.Proofs.YtadeohkcaaoflaaDoor
open Go.RowKit Dsd

theorem Fits_b (p : Option Addr) (cap n : Nat) (L : List (List UInt8)) (size : Int) (w : World) (hs : Strs w p L) (hn : L.length = n) (hcap : n ≤ cap) (hcm : cap ≤ maxLen) (hm : Small L) :
    Calls Tryd.prog 21 #[.int .i64 size, .slice p n cap] w fun e w' => e = .returned (.bool (fitsB size L)) ∧ Ext w w' := Fits_any p cap n L size w hs hn hcap hcm hm

/-- A part of the records that leaves out one of them. -/
structure Part (w : World) (L : List (List UInt8)) (m : Nat) (size : Int) (pm : Option Addr) (cm : Nat) (M : List (List UInt8)) : Prop where
  strs : Strs w pm M
  len : M.length = m
  cap : m ≤ cm
  most : cm ≤ maxLen
  small : Small M
  fits : fitsB size L = true → fitsB size M = true
  less : 0 < (L.getD 0 []).length → 0 < (L.getD m []).length → sizeL M < sizeL L

set_option maxRecDepth 100000 in
set_option maxHeartbeats 2000000 in
theorem IntervalShrinks_any (p : Option Addr) (cap m : Nat) (L : List (List UInt8)) (size : Int) (w : World) (hs : Strs w p L) (hm : L.length = m) (hcap : m ≤ cap) (hcm : cap ≤ maxLen) :
    Calls Tryd.prog 7 #[.int .i64 size, .slice p m cap] w fun e w' => e = .returned (.bool true) ∧ Ext w w' := by
  have Hs := Lib.hid hs
  have hlm : L.length ≤ maxLen := by omega
  cases hsh : shortB L 200 600
  · clear hs
    go_enter Tryd.func7, Tryd.ntmps7
    go_wp2_with (first | (go_at_call 10; refine (awake_any _).mono ?_; rintro e w1 ⟨rfl, he1⟩) | (go_at_call 17; refine (few_any p cap m L _ (Hs.out.ext he1) hm hlm).mono ?_; rintro e w2 ⟨rfl, rfl⟩))
    go_ret
    exact ⟨rfl, he1⟩
  · have hsm := short_small hsh
    by_cases hm0 : m = 0
    · subst hm0
      clear hs
      go_enter Tryd.func7, Tryd.ntmps7
      go_wp2_with (first | (go_at_call 10; refine (awake_any _).mono ?_; rintro e w1 ⟨rfl, he1⟩) | (go_at_call 17; refine (few_any p cap 0 L _ (Hs.out.ext he1) hm hlm).mono ?_; rintro e w2 ⟨rfl, rfl⟩))
      go_ret
      exact ⟨rfl, he1⟩
    · obtain ⟨m, rfl⟩ : ∃ k, m = k + 1 := ⟨m - 1, by omega⟩
      have hm200 : m ≤ 1000000 := by have := hsm.1; omega
      obtain ⟨b, off, rfl, hb, hc⟩ := hs.at 0 (by omega)
      have hx := hc 0 (by omega)
      have hz := hc m (by omega)
      have hmI : (((m + 1 : Nat) : Int) == 0) = false := by simp; omega
      have HF := Lib.hid (fun w h => Fits_b (some ⟨b, off, none⟩) cap (m + 1) L size w h hm hcap hcm hsm)
      have HZ := Lib.hid (fun w h => Size_any (some ⟨b, off, none⟩) cap (m + 1) L w h hm hcap hcm hsm)
      have P1 : ∀ q c, (q = some ⟨b, off + 1, none⟩ ∨ m = 0) → c = cap - 1 → Part w L m size q c (L.drop 1) := fun q c hq hcc => by
        have hL : L = L.getD 0 [] :: L.drop 1 := by
          cases L with
          | nil => simp at hm
          | cons x xs => simp [List.getD]
        refine ⟨?_, by simp; omega, by omega, by omega, ⟨by have := hsm.1; simp; omega, fun s h => hsm.2 s (List.mem_of_mem_drop h)⟩, fun h => ?_, fun h0 _ => ?_⟩
        · rcases hq with rfl | h0
          · exact hs.drop 1
          · exact .inl (by rw [List.drop_eq_nil_of_le (by omega)]; rfl)
        · rw [hL] at h; exact fits_tail h
        · have := size_tail (L.getD 0 []) (L.drop 1)
          rw [← hL] at this; omega
      have P2 : Part w L m size (some ⟨b, off, none⟩) cap (L.take m) := by
        have hL : L = L.take m ++ [L.getD m []] := by
          have := List.take_succ_eq_append_getElem (l := L) (i := m) (by omega)
          rw [List.take_of_length_le (by omega)] at this
          simpa [List.getD, show m < L.length by omega] using this
        refine ⟨?_, by simp; omega, by omega, by omega, ⟨by have := hsm.1; simp; omega, fun s h => hsm.2 s (List.mem_of_mem_take h)⟩, fun h => ?_, fun _ h0 => ?_⟩
        · have := Cells.take hs m
          unfold Strs
          rwa [List.map_take]
        · rw [hL] at h; exact fits_init h
        · have := size_init (L.getD m []) (L.take m)
          rw [← hL] at this; omega
      have HTW := Lib.hid (fun h h5 => fits_twice (size := size) (L := L) h h5)
      have hfs : fitsB size L = true → 0 ≤ size ∧ size ≤ 512 := fun h => by
        unfold fitsB at h
        simp only [Bool.and_eq_true] at h
        obtain ⟨n, rfl, hn⟩ := isSize_nat h.1.1
        omega
      generalize hLx : L.getD 0 [] = x at *
      generalize hLz : L.getD m [] = z at *
      have hxl : x.length ≤ 1000000 := by rw [← hLx]; exact hsm.at 0
      have hzl : z.length ≤ 1000000 := by rw [← hLz]; exact hsm.at m
      have hex : ∃ q : Option Addr, (q = some ⟨b, off + 1, none⟩ ∨ m = 0) ∧ ((1 < cap ∧ q = some ⟨b, off + 1, none⟩) ∨ (cap = 1 ∧ q = some ⟨b, off, none⟩)) := by
        by_cases h1 : 1 < cap
        · exact ⟨_, .inl rfl, .inl ⟨h1, rfl⟩⟩
        · exact ⟨_, .inr (by omega), .inr ⟨by omega, rfl⟩⟩
      obtain ⟨q, hq, hq2⟩ := hex
      have PP1 := Lib.hid (P1 q (cap - 1) hq rfl)
      have PP2 := Lib.hid P2
      have hsz := sumLen_le L hsm
      have HLx := Lib.hid hLx
      have HLz := Lib.hid hLz
      clear hs hc P1 P2 hq hLx hLz
      go_enter Tryd.func7, Tryd.ntmps7
      go_wp2_with (first | (go_at_call 10; refine (awake_any _).mono ?_; rintro e w1 ⟨rfl, he1⟩) | (go_at_call 17; refine (few_any _ cap (m + 1) L _ (Hs.out.ext he1) hm hlm).mono ?_; rintro e w2 ⟨rfl, rfl⟩) | (go_at_call 21; refine (HF.out _ (Hs.out.ext he1)).mono ?_; rintro e w3 ⟨rfl, he3⟩; have e3 := he1.trans he3) | (go_at_call 19; refine (HZ.out _ (Hs.out.ext e3)).mono ?_; rintro e w4 ⟨rfl, he4⟩; have e4 := e3.trans he4))
      have HX4 := Lib.hid e4
      have Hs4 := Lib.hid (Hs.out.ext e4)
      have hb4 := Nat.lt_of_lt_of_le hb e4.size
      have hx4 := (e4.cell b (off + 0) hb).trans hx
      have hz4 := (e4.cell b (off + m) hb).trans hz
      have i1 : IntKind.i64.wrap ((m : Int) + 1 - 1) = m := by rw [IntWalk.i64_in _ (by omega)]; omega
      have i2 : (1 : Int) ≤ m + 1 := by omega
      have i3 : (m : Int) + 1 ≤ cap := by omega
      have i4 : (m : Int) ≤ cap := by omega
      have i5 : (0 : Int) ≤ m := by omega
      have hm1 : m + 1 - 1 = m := by omega
      clear e4 he1 he3 he4 e3 hx hz
      rcases hq2 with ⟨hc1, rfl⟩ | ⟨rfl, rfl⟩
      · have i6 : ¬ cap ≤ 1 := by omega
        have i7 : ¬ cap = 1 := by omega
        have i8 : ¬ 1 = cap := by omega
        refine wp_region_mk 200 (Ext.refl w4) (by kernel_rfl) (by kernel_rfl) (by kernel_rfl) ?_
        simp only [List.take_succ_cons, List.take_zero, List.take_nil, List.drop_succ_cons, List.drop_zero, List.drop_nil, List.map_cons, List.map_nil]
        repeat (first
          | (refine wpML_move _ _ rfl (by first | exact .inl rfl | exact .inr rfl) rfl (by first | exact Is.stable _ | exact Fresh.stable _ _ _) ?_
             simp only [setL, List.set_cons_succ, List.set_cons_zero, List.getD_cons_succ, List.getD_cons_zero])
          | (refine wpML_moveC _ rfl (by first | exact .inl rfl | exact .inr rfl) ?_
             simp only [setL, List.set_cons_succ, List.set_cons_zero])
          | (apply wpML_det rfl
             · intro a w' he hr K hK
               simp [Reads, Oper.looksAt, Op.operands, Call.operands, factAt, Is] at hr
               have hx := he.cell
               go_simp
               try go_bits
               try (rw [if_neg (by omega)]; go_simp)
               first
                 | exact hK _ (Ext.refl _)
             simp only [setL, List.set_cons_succ, List.set_cons_zero])
          | (refine wpML_fact (Fresh 2 2 (.cells #[.slice (some ⟨b, off + 1, none⟩) m (cap - 1), .slice (some ⟨b, off, none⟩) m cap] 23)) (Fresh.stable _ _ _) rfl ?_ ?_
             · intro a w' he hr K hK
               simp [Reads, Oper.looksAt, Op.operands, Call.operands, factAt, Is] at hr
               go_simp
               exact hK _ _ (Ext.alloc _ _) (Fresh.new _ _ _ _)
             simp only [setL, List.set_cons_succ, List.set_cons_zero])
          | (apply wpML_det rfl
             · intro a w' he hr K hK
               simp [Reads, Oper.looksAt, Op.operands, Call.operands, factAt, Fresh] at hr
               obtain ⟨b, hr1, hr2⟩ := hr
               go_simp
               exact hK _ (Ext.refl _)
             simp only [setL, List.set_cons_succ, List.set_cons_zero]))
        intro w2 he2
        repeat (first | with_reducible refine rest_is _ _ _ _ ?_ | (with_reducible refine rest_fact _ _ _ _ ?_; intro _ _) | with_reducible refine rest_end _ _ ?_)
        simp only [List.reverse_cons, List.reverse_nil, List.nil_append, List.cons_append]
        rename_i sl hfr
        obtain ⟨fb, rfl, hblk⟩ := hfr
        have hM : ∀ k, k < 2 → ∃ pm cm M, w2.cell? ⟨fb, 0 + k, none⟩ = some (.slice pm m cm) ∧ Part w L m size pm cm M := fun k hk => by
          have hbk : w2.heap[fb]? = _ := hblk
          rcases (show k = 0 ∨ k = 1 by omega) with rfl | rfl
          · exact ⟨_, _, _, by simp [World.cell?, hbk], PP1.out⟩
          · exact ⟨_, _, _, by simp [World.cell?, hbk], PP2.out⟩
        have HM := Lib.hid hM
        have hfl := Blk.lt hblk
        clear hM hblk i1 i2 i3 i4 i5 i6 i7 i8
        go_wp2
        go_loopw [33] (fun i wr => ∃ k : Nat, k ≤ 2 ∧ i = .int .i64 k ∧ Ext w2 wr) (fun i _ => 2 - (intOf i).toNat)
        case atStart => exact ⟨0, by omega, rfl, Ext.refl _⟩
        case round =>
          obtain ⟨k, hk, rfl, hext⟩ := hrel
          by_cases hk2 : k < 2
          · obtain ⟨pm, cm, M, hcell, hpart⟩ := HM.out k hk2
            have ck := (hext.cell fb (0 + k) hfl).trans hcell
            have hx5 := ((he2.trans hext).cell b (off + 0) hb4).trans hx4
            have hz5 := ((he2.trans hext).cell b (off + m) hb4).trans hz4
            have HX5 := Lib.hid (HX4.out.trans (he2.trans hext))
            have HSM := Lib.hid (hpart.strs.ext HX5.out)
            have HFM := Lib.hid (fun w h => Fits_b pm cm m M size w h hpart.len hpart.cap hpart.most hpart.small)
            have HZM := Lib.hid (fun w h => Size_any pm cm m M w h hpart.len hpart.cap hpart.most hpart.small)
            have Hpart := Lib.hid hpart
            have hszM := sumLen_le M hpart.small
            have hlen2 := hpart.len
            have hless : 0 < x.length → 0 < z.length → ¬ sizeL L ≤ sizeL M := fun h1 h2 => by
              have := hpart.less (by rw [HLx.out]; exact h1) (by rw [HLz.out]; exact h2)
              omega
            have Hless := Lib.hid hless
            have e0 : off + 0 = off := rfl
            rw [e0] at hx5
            rw [Nat.zero_add] at ck
            have hi0 : (0 : Int) < m + 1 := by omega
            have hi1 : IntKind.i64.wrap ((m : Int) + 1 - 1) = m := by rw [IntWalk.i64_in _ (by omega)]; omega
            clear hcell hpart hx4 hz4 hless
            cases hf : fitsB size L
            · by_cases hx0 : 0 < x.length
              · have hx0I : (0 : Int) < x.length := by omega
                by_cases hz0 : 0 < z.length
                · have hz0I : (0 : Int) < z.length := by omega
                  have hl := Hless.out hx0 hz0
                  go_wp2_with (go_at_call 19; refine (HZM.out _ HSM.out).mono ?_; rintro e w6 ⟨rfl, he6⟩)
                  go_roundw
                  case rel => exact ⟨k + 1, by omega, by go_num, hext.trans he6⟩
                  case measure => simp [intOf]; omega
                · first
                  | exact absurd hx0 hz0
                  | (have hz0I : decide ((0 : Int) < z.length) = false := decide_eq_false (by omega)
                     go_wp2_with fail
                     go_roundw
                     case rel => exact ⟨k + 1, by omega, by go_num, hext⟩
                     case measure => simp [intOf]; omega)
              · have hx0I : decide ((0 : Int) < x.length) = false := decide_eq_false (by omega)
                go_wp2_with fail
                go_roundw
                case rel => exact ⟨k + 1, by omega, by go_num, hext⟩
                case measure => simp [intOf]; omega
            · have hfM := Hpart.out.fits hf
              by_cases hx0 : 0 < x.length
              · have hx0I : (0 : Int) < x.length := by omega
                by_cases hz0 : 0 < z.length
                · have hz0I : (0 : Int) < z.length := by omega
                  have hl := Hless.out hx0 hz0
                  go_wp2_with (first | (go_at_call 21; refine (HFM.out _ HSM.out).mono ?_; rintro e w7 ⟨rfl, he7⟩; have hx8 := (he7.cell b off (Nat.lt_of_lt_of_le hb4 (he2.trans hext).size)).trans hx5; have hz8 := (he7.cell b (off + m) (Nat.lt_of_lt_of_le hb4 (he2.trans hext).size)).trans hz5) | (go_at_call 19; refine (HZM.out _ (HSM.out.ext he7)).mono ?_; rintro e w6 ⟨rfl, he6⟩))
                  go_roundw
                  case rel => exact ⟨k + 1, by omega, by go_num, hext.trans (he7.trans he6)⟩
                  case measure => simp [intOf]; omega
                · first
                  | exact absurd hx0 hz0
                  | (have hz0I : decide ((0 : Int) < z.length) = false := decide_eq_false (by omega)
                     go_wp2_with (first | (go_at_call 21; refine (HFM.out _ HSM.out).mono ?_; rintro e w7 ⟨rfl, he7⟩; have hx8 := (he7.cell b off (Nat.lt_of_lt_of_le hb4 (he2.trans hext).size)).trans hx5; have hz8 := (he7.cell b (off + m) (Nat.lt_of_lt_of_le hb4 (he2.trans hext).size)).trans hz5))
                     go_roundw
                     case rel => exact ⟨k + 1, by omega, by go_num, hext.trans he7⟩
                     case measure => simp [intOf]; omega)
              · have hx0I : decide ((0 : Int) < x.length) = false := decide_eq_false (by omega)
                go_wp2_with (first | (go_at_call 21; refine (HFM.out _ HSM.out).mono ?_; rintro e w7 ⟨rfl, he7⟩; have hx8 := (he7.cell b off (Nat.lt_of_lt_of_le hb4 (he2.trans hext).size)).trans hx5))
                go_roundw
                case rel => exact ⟨k + 1, by omega, by go_num, hext.trans he7⟩
                case measure => simp [intOf]; omega
          · have hk3 : k = 2 := by omega
            subst hk3
            have HX5 := Lib.hid (HX4.out.trans (he2.trans hext))
            cases hf : fitsB size L
            · go_wp2
              go_ret
              exact ⟨rfl, HX5.out⟩
            · obtain ⟨hs0, hs1⟩ := hfs hf
              by_cases h5 : size = 512
              · have h5I : (size == 512) = true := by simp [h5]
                go_wp2
                go_ret
                exact ⟨rfl, HX5.out⟩
              · have h5I : (size == 512) = false := by simp [h5]
                have h2 := HTW.out hf h5
                have hw2 : IntKind.i64.wrap (2 * size) = 2 * size := IntWalk.i64_in _ (by omega)
                go_wp2_with (go_at_call 21; refine (Fits_b (some ⟨b, off, none⟩) cap (m + 1) L (2 * size) _ (Hs.out.ext HX5.out) hm hcap hcm hsm).mono ?_; rintro e w8 ⟨rfl, he8⟩)
                go_ret
                exact ⟨rfl, HX5.out.trans he8⟩
      · obtain rfl : m = 0 := by omega
        obtain rfl : x = z := HLx.out.symm.trans HLz.out
        have i6 : ¬ (2 : Int) ≤ 1 := by omega
        refine wp_region_mk 200 (Ext.refl w4) (by kernel_rfl) (by kernel_rfl) (by kernel_rfl) ?_
        simp only [List.take_succ_cons, List.take_zero, List.take_nil, List.drop_succ_cons, List.drop_zero, List.drop_nil, List.map_cons, List.map_nil]
        repeat (first
          | (refine wpML_move _ _ rfl (by first | exact .inl rfl | exact .inr rfl) rfl (by first | exact Is.stable _ | exact Fresh.stable _ _ _) ?_
             simp only [setL, List.set_cons_succ, List.set_cons_zero, List.getD_cons_succ, List.getD_cons_zero])
          | (refine wpML_moveC _ rfl (by first | exact .inl rfl | exact .inr rfl) ?_
             simp only [setL, List.set_cons_succ, List.set_cons_zero])
          | (apply wpML_det rfl
             · intro a w' he hr K hK
               simp [Reads, Oper.looksAt, Op.operands, Call.operands, factAt, Is] at hr
               have hx := he.cell
               go_simp
               try go_bits
               try (rw [if_neg (by omega)]; go_simp)
               first
                 | exact hK _ (Ext.refl _)
             simp only [setL, List.set_cons_succ, List.set_cons_zero])
          | (refine wpML_fact (Fresh 2 2 (.cells #[.slice (some ⟨b, off, none⟩) 0 0, .slice (some ⟨b, off, none⟩) 0 1] 23)) (Fresh.stable _ _ _) rfl ?_ ?_
             · intro a w' he hr K hK
               simp [Reads, Oper.looksAt, Op.operands, Call.operands, factAt, Is] at hr
               go_simp
               exact hK _ _ (Ext.alloc _ _) (Fresh.new _ _ _ _)
             simp only [setL, List.set_cons_succ, List.set_cons_zero])
          | (apply wpML_det rfl
             · intro a w' he hr K hK
               simp [Reads, Oper.looksAt, Op.operands, Call.operands, factAt, Fresh] at hr
               obtain ⟨b, hr1, hr2⟩ := hr
               go_simp
               exact hK _ (Ext.refl _)
             simp only [setL, List.set_cons_succ, List.set_cons_zero]))
        intro w2 he2
        repeat (first | with_reducible refine rest_is _ _ _ _ ?_ | (with_reducible refine rest_fact _ _ _ _ ?_; intro _ _) | with_reducible refine rest_end _ _ ?_)
        simp only [List.reverse_cons, List.reverse_nil, List.nil_append, List.cons_append]
        rename_i sl hfr
        obtain ⟨fb, rfl, hblk⟩ := hfr
        have hM : ∀ k, k < 2 → ∃ pm cm M, w2.cell? ⟨fb, 0 + k, none⟩ = some (.slice pm 0 cm) ∧ Part w L 0 size pm cm M := fun k hk => by
          have hbk : w2.heap[fb]? = _ := hblk
          rcases (show k = 0 ∨ k = 1 by omega) with rfl | rfl
          · exact ⟨_, _, _, by simp [World.cell?, hbk], PP1.out⟩
          · exact ⟨_, _, _, by simp [World.cell?, hbk], PP2.out⟩
        have HM := Lib.hid hM
        have hfl := Blk.lt hblk
        clear hM hblk i1 i2 i3 i4 i5 i6
        go_wp2
        go_loopw [33] (fun i wr => ∃ k : Nat, k ≤ 2 ∧ i = .int .i64 k ∧ Ext w2 wr) (fun i _ => 2 - (intOf i).toNat)
        case atStart => exact ⟨0, by omega, rfl, Ext.refl _⟩
        case round =>
          obtain ⟨k, hk, rfl, hext⟩ := hrel
          by_cases hk2 : k < 2
          · obtain ⟨pm, cm, M, hcell, hpart⟩ := HM.out k hk2
            have ck := (hext.cell fb (0 + k) hfl).trans hcell
            have hx5 := ((he2.trans hext).cell b (off + 0) hb4).trans hx4
            have hz5 := ((he2.trans hext).cell b (off + 0) hb4).trans hz4
            have HX5 := Lib.hid (HX4.out.trans (he2.trans hext))
            have HSM := Lib.hid (hpart.strs.ext HX5.out)
            have HFM := Lib.hid (fun w h => Fits_b pm cm 0 M size w h hpart.len hpart.cap hpart.most hpart.small)
            have HZM := Lib.hid (fun w h => Size_any pm cm 0 M w h hpart.len hpart.cap hpart.most hpart.small)
            have Hpart := Lib.hid hpart
            have hszM := sumLen_le M hpart.small
            have hlen2 := hpart.len
            have hless : 0 < x.length → 0 < x.length → ¬ sizeL L ≤ sizeL M := fun h1 h2 => by
              have := hpart.less (by rw [HLx.out]; exact h1) (by rw [HLz.out]; exact h2)
              omega
            have Hless := Lib.hid hless
            have e0 : off + 0 = off := rfl
            rw [e0] at hx5
            rw [Nat.zero_add] at ck
            have hi0 : (0 : Int) < 0 + 1 := by omega
            have hi1 : IntKind.i64.wrap ((0 : Int) + 1 - 1) = 0 := by rw [IntWalk.i64_in _ (by omega)]; omega
            clear hcell hpart hx4 hz4 hless
            cases hf : fitsB size L
            · by_cases hx0 : 0 < x.length
              · have hx0I : (0 : Int) < x.length := by omega
                by_cases hz0 : 0 < x.length
                · have hz0I : (0 : Int) < x.length := by omega
                  have hl := Hless.out hx0 hz0
                  go_wp2_with (go_at_call 19; refine (HZM.out _ HSM.out).mono ?_; rintro e w6 ⟨rfl, he6⟩)
                  go_roundw
                  case rel => exact ⟨k + 1, by omega, by go_num, hext.trans he6⟩
                  case measure => simp [intOf]; omega
                · first
                  | exact absurd hx0 hz0
                  | (have hz0I : decide ((0 : Int) < x.length) = false := decide_eq_false (by omega)
                     go_wp2_with fail
                     go_roundw
                     case rel => exact ⟨k + 1, by omega, by go_num, hext⟩
                     case measure => simp [intOf]; omega)
              · have hx0I : decide ((0 : Int) < x.length) = false := decide_eq_false (by omega)
                go_wp2_with fail
                go_roundw
                case rel => exact ⟨k + 1, by omega, by go_num, hext⟩
                case measure => simp [intOf]; omega
            · have hfM := Hpart.out.fits hf
              by_cases hx0 : 0 < x.length
              · have hx0I : (0 : Int) < x.length := by omega
                by_cases hz0 : 0 < x.length
                · have hz0I : (0 : Int) < x.length := by omega
                  have hl := Hless.out hx0 hz0
                  go_wp2_with (first | (go_at_call 21; refine (HFM.out _ HSM.out).mono ?_; rintro e w7 ⟨rfl, he7⟩; have hx8 := (he7.cell b off (Nat.lt_of_lt_of_le hb4 (he2.trans hext).size)).trans hx5; have hz8 := (he7.cell b (off + 0) (Nat.lt_of_lt_of_le hb4 (he2.trans hext).size)).trans hz5) | (go_at_call 19; refine (HZM.out _ (HSM.out.ext he7)).mono ?_; rintro e w6 ⟨rfl, he6⟩))
                  go_roundw
                  case rel => exact ⟨k + 1, by omega, by go_num, hext.trans (he7.trans he6)⟩
                  case measure => simp [intOf]; omega
                · first
                  | exact absurd hx0 hz0
                  | (have hz0I : decide ((0 : Int) < x.length) = false := decide_eq_false (by omega)
                     go_wp2_with (first | (go_at_call 21; refine (HFM.out _ HSM.out).mono ?_; rintro e w7 ⟨rfl, he7⟩; have hx8 := (he7.cell b off (Nat.lt_of_lt_of_le hb4 (he2.trans hext).size)).trans hx5; have hz8 := (he7.cell b (off + 0) (Nat.lt_of_lt_of_le hb4 (he2.trans hext).size)).trans hz5))
                     go_roundw
                     case rel => exact ⟨k + 1, by omega, by go_num, hext.trans he7⟩
                     case measure => simp [intOf]; omega)
              · have hx0I : decide ((0 : Int) < x.length) = false := decide_eq_false (by omega)
                go_wp2_with (first | (go_at_call 21; refine (HFM.out _ HSM.out).mono ?_; rintro e w7 ⟨rfl, he7⟩; have hx8 := (he7.cell b off (Nat.lt_of_lt_of_le hb4 (he2.trans hext).size)).trans hx5))
                go_roundw
                case rel => exact ⟨k + 1, by omega, by go_num, hext.trans he7⟩
                case measure => simp [intOf]; omega
          · have hk3 : k = 2 := by omega
            subst hk3
            have HX5 := Lib.hid (HX4.out.trans (he2.trans hext))
            cases hf : fitsB size L
            · go_wp2
              go_ret
              exact ⟨rfl, HX5.out⟩
            · obtain ⟨hs0, hs1⟩ := hfs hf
              by_cases h5 : size = 512
              · have h5I : (size == 512) = true := by simp [h5]
                go_wp2
                go_ret
                exact ⟨rfl, HX5.out⟩
              · have h5I : (size == 512) = false := by simp [h5]
                have h2 := HTW.out hf h5
                have hw2 : IntKind.i64.wrap (2 * size) = 2 * size := IntWalk.i64_in _ (by omega)
                go_wp2_with (go_at_call 21; refine (Fits_b (some ⟨b, off, none⟩) 1 (0 + 1) L (2 * size) _ (Hs.out.ext HX5.out) hm hcap hcm hsm).mono ?_; rintro e w8 ⟨rfl, he8⟩)
                go_ret
                exact ⟨rfl, HX5.out.trans he8⟩
end Go.Proofs.YtadeohkcaaoflaaDoor
