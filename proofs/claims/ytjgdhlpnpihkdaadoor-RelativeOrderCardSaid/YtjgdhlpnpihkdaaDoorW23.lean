/- The walk of the program's EncodeSlots. -/
import Derived.Test.YtjgdhlpnpihkdaaDoorW20
import Derived.Test.YtjgdhlpnpihkdaaDoorW21
import Derived.Test.YtjgdhlpnpihkdaaDoorW8
set_option linter.unusedSimpArgs false
set_option linter.unusedVariables false
namespace Go.Proofs.YtjgdhlpnpihkdaaDoor
open Go.RowKit Dsd

set_option maxRecDepth 100000 in
set_option maxHeartbeats 2000000 in
theorem EncodeSlots_main (n len N : Nat) (hn4 : n = 128 ∨ n = 256 ∨ n = 512) (h1 : 1 ≤ len) (h2 : len ≤ 200) (h3 : len + 7 ≤ n) (hN : slotsN n len = N) (hN0 : N ≠ 0) (hroom : N * (len + 3) + 4 ≤ n) (p : Option Addr) (cap m : Nat) (L : List Slt) (hm : L.length = m) (hmN : m ≤ N) (w : World) (hs : Slts w p L) :
    Calls Tryd.prog 105 #[.int .i64 n, .int .i64 len, .slice p m cap] w fun e w' => e = .returned (.tuple #[.string ⟨(sStr n N len L).toArray⟩, .int .i64 (sErr N len L)]) ∧ Ext w w' := by
  have Hs := Lib.hid hs
  have hmI : decide ((N : Int) < m) = false := by simp; omega
  have hN0I : ((N : Int) == 0) = false := by simp; omega
  have HN := Lib.hid hN
  have hN5 : N ≤ 512 := by have := Nat.le_mul_of_pos_right N (show 0 < len + 3 by omega); omega
  have hn5 : n ≤ 512 := by omega
  have hnp := newPage_any n (by omega) hn5
  have Hnp := Lib.hid hnp
  clear hs hN hnp
  go_enter Tryd.func105, Tryd.ntmps105
  go_wp2_with (first | (go_at_call 103; refine (SlotCount_any _ _ _).mono ?_; rw [HN.out]; rintro e w' ⟨rfl, rfl⟩) | (go_at_call 85; refine (Hnp.out _).mono ?_; rintro e w2 ⟨rfl, he2, hz2, hp2⟩))
  try rw [show decide (N < m) = false from decide_eq_false (by omega)]
  obtain ⟨bb, hbb⟩ : ∃ bb, bb = w.heap.size := ⟨_, rfl⟩
  have hpw : pageBytes [] [] (n - 4) = List.replicate n 0 := by
    have e : n = (n - 4) + 4 := by omega
    conv => rhs; rw [e, ← List.replicate_append_replicate]
    simp [pageBytes]
  rw [← hpw, ← hbb] at hp2
  rw [← hbb]
  have HP2 := Lib.hid hp2
  have HE2 := Lib.hid he2
  have HBB := Lib.hid hbb
  clear hp2 he2 hz2 hpw hbb
  obtain ⟨wo, rfl⟩ : ∃ wo : World, wo = w2 := ⟨_, rfl⟩
  go_loopw [27] (fun i wr => ∃ k : Nat, k ≤ N ∧ i = .int .i64 k ∧ sGood len L k ∧ Ext w wr ∧
      Page wr (bb + 1) bb n (n - 4 - 3 * k) (k * len) (pageBytes (sCont len L k) (sMarks len L k) (n - 4 - 3 * k - k * len))) (fun i _ => N - (intOf i).toNat)
  case atStart => exact ⟨0, Nat.zero_le _, rfl, sGood_zero _ _, HE2.out, by simpa [sCont, sMarks] using HP2.out⟩
  case round =>
    obtain ⟨k, hk, rfl, hg, hext, hpg⟩ := hrel
    have HG := Lib.hid hg
    have hkl : k * (len + 3) ≤ N * (len + 3) := Nat.mul_le_mul_right _ hk
    have hCl : (sCont len L k).length = k * len := length_sCont hg
    have hMl : (sMarks len L k).length = 3 * k := length_sMarks len L k
    clear hg
    by_cases hkN : k < N
    · have hkI : (k : Int) < N := by omega
      by_cases hkm : k < m
      · obtain ⟨b, off, rfl, hb, hc⟩ := Hs.out.at k (by omega)
        obtain ⟨c1, c2⟩ := hc k (by omega)
        have d1 := (hext.cell b (off + k * 2) hb).trans c1
        have d2 := (hext.cell b (off + k * 2 + 1) hb).trans c2
        have hbr := Nat.lt_of_lt_of_le hb hext.size
        generalize hx : L.getD k (false, []) = s at *
        have HX : Hid (slotAt L k = s) := Lib.hid hx
        clear hc c1 c2 hx
        obtain ⟨u, x⟩ := s
        simp only at d1 d2
        have hkmI : (k : Int) < m := by omega
        have hcell : ∀ (v1 v2 : Value), (wr.alloc (.cells #[v1, v2] 131)).cell? ⟨wr.heap.size, 0, none⟩ = some v1 ∧ (wr.alloc (.cells #[v1, v2] 131)).cell? ⟨wr.heap.size, 1, none⟩ = some v2 := fun v1 v2 => by
          have hb : Blk _ _ _ := Blk.new wr (.cells #[v1, v2] 131)
          unfold Blk at hb
          simp only [World.cell?, hb]
          exact ⟨rfl, rfl⟩
        obtain ⟨g, hgg⟩ : ∃ g, n - 4 - 3 * k - k * len = len + g + 3 := ⟨n - 4 - 3 * k - k * len - len - 3, by
          have : (k + 1) * (len + 3) ≤ N * (len + 3) := Nat.mul_le_mul_right _ hkN
          rw [Nat.add_mul, Nat.mul_add] at this; omega⟩
        have hl3 : n - 4 - 3 * k - 3 = (sCont len L k).length + (len + g) := by rw [hCl]; omega
        rw [hgg] at hpg
        have hfp := fun c (hc : c < 256) W (h : Page W (bb + 1) bb n (n - 4 - 3 * k) (k * len) (pageBytes (sCont len L k) (sMarks len L k) (len + g + 3))) => field_pg (bb + 1) bb n (n - 4 - 3 * k) (k * len) (pageBytes (sCont len L k) (sMarks len L k) (len + g + 3)) c len (by omega) (by omega) hn5 hc (by omega) W h
        rw [hl3] at hfp
        have Hfp := Lib.hid hfp
        have Hpg := Lib.hid hpg
        clear hfp hpg
        cases u
        · by_cases hx0 : x = []
          · subst hx0
            obtain ⟨e1, e2⟩ := hcell (.bool false) (.string ⟨#[]⟩)
            go_wp2_with (first | (go_at_call 88; go_must (refine (Hfp.out 4 (by omega) _ (Hpg.out.ext (Ext.alloc _ _))).mono ?_; rintro e w4 ⟨rfl, hp4, ho4⟩)))
            have hpx := Blk.lt Hpg.out.box
            have hbbl := Blk.lt Hpg.out.row
            have hsz : wr.heap.size < (wr.alloc (.cells #[.bool false, .string ⟨#[]⟩] 131)).heap.size := by simp
            have f1 : w4.cell? ⟨wr.heap.size, 0, none⟩ = some (.bool false) := (World.cell?_of_block (ho4.block wr.heap.size hsz (by omega) (by omega))).trans e1
            have f2 : w4.cell? ⟨wr.heap.size, 1, none⟩ = some (.string ⟨#[]⟩) := (World.cell?_of_block (ho4.block wr.heap.size hsz (by omega) (by omega))).trans e2
            have hsz4 : wr.heap.size < w4.heap.size := Nat.lt_of_lt_of_le hsz ho4.size
            have hrep := fun w => Repeat_zeros len (by omega) w
            have hzl : (List.replicate len (0 : UInt8)).length = len := by simp
            generalize hZ : List.replicate len (0 : UInt8) = Z at *
            have Hrep := Lib.hid hrep
            have HZ := Lib.hid hZ
            rw [pageBytes_field] at hp4
            have HP4 := Lib.hid hp4
            have HO4 := Lib.hid ho4
            have i1 : IntKind.i64.wrap ((len : Int) - 0) = len := by rw [IntWalk.i64_in _ (by omega)]; omega
            clear hrep hZ hp4 ho4 e1 e2
            refine wp_region_mk 10 (Ext.refl w4) (by kernel_rfl) (by kernel_rfl) (by kernel_rfl) ?_
            simp only [List.take_succ_cons, List.take_zero, List.take_nil, List.drop_succ_cons, List.drop_zero, List.drop_nil, List.map_cons, List.map_nil]
            repeat (first
              | (refine wpML_move _ _ rfl (by first | exact .inl rfl | exact .inr rfl) rfl (by first | exact Is.stable _ | exact Fresh.stable _ _ _) ?_
                 simp only [setL, List.set_cons_succ, List.set_cons_zero, List.getD_cons_succ, List.getD_cons_zero])
              | (refine wpML_moveC _ rfl (by first | exact .inl rfl | exact .inr rfl) ?_
                 simp only [setL, List.set_cons_succ, List.set_cons_zero])
              | (apply wpML_det rfl
                 · intro a w' he hr K hK
                   simp [Reads, Oper.looksAt, Op.operands, Call.operands, factAt, Is] at hr
                   have hx := he.cell
                   go_simp
                   try go_bits
                   try (rw [if_neg (by omega)]; go_simp)
                   first
                     | exact hK _ (Ext.refl _)
                     | (refine (Hrep.out _).mono ?_; rintro e w' ⟨rfl, he'⟩; exact hK _ he')
                 simp only [setL, List.set_cons_succ, List.set_cons_zero])
              | (apply wpML_det rfl
                 · intro a w' he hr K hK
                   simp [Reads, Oper.looksAt, Op.operands, Call.operands, factAt, Fresh] at hr
                   obtain ⟨b, hr1, hr2⟩ := hr
                   go_simp
                   exact hK _ (Ext.refl _)
                 simp only [setL, List.set_cons_succ, List.set_cons_zero]))
            intro w2 he2
            repeat (first | with_reducible refine rest_is _ _ _ _ ?_ | (with_reducible refine rest_fact _ _ _ _ ?_; intro _ _) | with_reducible refine rest_end _ _ ?_)
            simp only [List.reverse_cons, List.reverse_nil, List.nil_append, List.cons_append]
            have hput := put_pg (bb + 1) bb n ((sCont len L k).length + (len + g)) (k * len) _ Z (by omega) (by omega) hn5 w2 (HP4.out.ext he2)
            have hput2 : pageBytes (sCont len L k) (fieldL 4 len ++ sMarks len L k) (len + g) = pageBytes (sCont len L k) (fieldL 4 len ++ sMarks len L k) (Z.length + g) := by rw [hzl]
            rw [hput2, ← hCl, pageBytes_put] at hput
            have Hput := Lib.hid hput
            have HE2' := Lib.hid he2
            have HO := Lib.hid (fun (W' : World) (o : Only (bb + 1) bb w2 W') => (((Only.of_ext (Ext.alloc wr _)).trans HO4.out).trans (Only.of_ext he2)).trans o |>.ext hext (show w.heap.size ≤ bb + 1 by have := HBB.out; omega) (show w.heap.size ≤ bb by have := HBB.out; omega))
            clear hput hput2 he2
            go_wp2_with (go_at_call 89; go_must (refine Hput.out.mono ?_; rintro e w5 ⟨rfl, hp5, ho5⟩))
            go_roundw
            case rel => exact ⟨k + 1, by omega, by go_num, sGood_succ HG.out (by rw [HX.out]; rfl), HO.out _ ho5, by
              have a1 : sCont len L (k + 1) = sCont len L k ++ Z := by rw [sCont, HX.out, ← HZ.out]; rfl
              have a2 : sMarks len L (k + 1) = fieldL 4 len ++ sMarks len L k := by rw [sMarks, HX.out]; rfl
              have a3 : (k + 1) * len = (sCont len L k).length + Z.length := by rw [hCl, hzl, Nat.add_mul]; omega
              have a4 : n - 4 - 3 * (k + 1) = (sCont len L k).length + (len + g) := by omega
              have a5 : (sCont len L k).length + (len + g) - ((sCont len L k).length + Z.length) = g := by omega
              rw [a1, a2, a3, a4, a5]
              exact hp5⟩
            case measure => simp [intOf]; omega
          · have hxp : (0 : Int) < x.length := by have := List.length_pos_iff.2 hx0; omega
            have hxe : x.isEmpty = false := by simpa using hx0
            have HE : Hid (sErr N len L = 2) := Lib.hid (sErr_bad hN0 (by omega) hkN (by rw [HX.out]; exact hxe))
            have HS : Hid (sStr n N len L = []) := Lib.hid (by unfold sStr; rw [HE.out]; rfl)
            obtain ⟨e1, e2⟩ := hcell (.bool false) (.string ⟨x.toArray⟩)
            go_wp2_with fail
            all_goals first | (go_ret2; exact ⟨ret_tup HS.out.symm HE.out.symm, hext.trans (Ext.alloc _ _)⟩) | (exfalso; simp_all; done) | (exfalso; omega)
        · by_cases hxl : x.length = len
          · have HXL := Lib.hid hxl
            have hl0 : (0 : Int) < len := by omega
            have hx5 : x.length ≤ 512 := by omega
            obtain ⟨e1, e2⟩ := hcell (.bool true) (.string ⟨x.toArray⟩)
            go_wp2_with (first | (go_at_call 88; go_must (refine (Hfp.out 0 (by omega) _ (Hpg.out.ext (Ext.alloc _ _))).mono ?_; rintro e w4 ⟨rfl, hp4, ho4⟩)))
            have hpx := Blk.lt Hpg.out.box
            have hbbl := Blk.lt Hpg.out.row
            have hsz : wr.heap.size < (wr.alloc (.cells #[.bool true, .string ⟨x.toArray⟩] 131)).heap.size := by simp
            have f1 : w4.cell? ⟨wr.heap.size, 0, none⟩ = some (.bool true) := (World.cell?_of_block (ho4.block wr.heap.size hsz (by omega) (by omega))).trans e1
            have f2 : w4.cell? ⟨wr.heap.size, 1, none⟩ = some (.string ⟨x.toArray⟩) := (World.cell?_of_block (ho4.block wr.heap.size hsz (by omega) (by omega))).trans e2
            have hsz4 : wr.heap.size < w4.heap.size := Nat.lt_of_lt_of_le hsz ho4.size
            have hrep : ∀ w, Calls Tryd.prog 119 #[.string ⟨[0].toArray⟩, .int .i64 0] w (fun e w' => e = .returned (.string ⟨#[]⟩) ∧ Ext w w') := fun w => Repeat_zeros 0 (by omega) w
            have hzl := HXL.out
            have Hrep := Lib.hid hrep
            rw [pageBytes_field] at hp4
            have HP4 := Lib.hid hp4
            have HO4 := Lib.hid ho4
            clear hrep hp4 ho4 e1 e2
            refine wp_region_mk 10 (Ext.refl w4) (by kernel_rfl) (by kernel_rfl) (by kernel_rfl) ?_
            simp only [List.take_succ_cons, List.take_zero, List.take_nil, List.drop_succ_cons, List.drop_zero, List.drop_nil, List.map_cons, List.map_nil]
            repeat (first
              | (refine wpML_move _ _ rfl (by first | exact .inl rfl | exact .inr rfl) rfl (by first | exact Is.stable _ | exact Fresh.stable _ _ _) ?_
                 simp only [setL, List.set_cons_succ, List.set_cons_zero, List.getD_cons_succ, List.getD_cons_zero])
              | (refine wpML_moveC _ rfl (by first | exact .inl rfl | exact .inr rfl) ?_
                 simp only [setL, List.set_cons_succ, List.set_cons_zero])
              | (apply wpML_det rfl
                 · intro a w' he hr K hK
                   simp [Reads, Oper.looksAt, Op.operands, Call.operands, factAt, Is] at hr
                   have hx := he.cell
                   go_simp
                   try go_bits
                   try (rw [if_neg (by omega)]; go_simp)
                   first
                     | exact hK _ (Ext.refl _)
                     | (refine (Hrep.out _).mono ?_; rintro e w' ⟨rfl, he'⟩; exact hK _ he')
                 simp only [setL, List.set_cons_succ, List.set_cons_zero])
              | (apply wpML_det rfl
                 · intro a w' he hr K hK
                   simp [Reads, Oper.looksAt, Op.operands, Call.operands, factAt, Fresh] at hr
                   obtain ⟨b, hr1, hr2⟩ := hr
                   go_simp
                   exact hK _ (Ext.refl _)
                 simp only [setL, List.set_cons_succ, List.set_cons_zero]))
            intro w2 he2
            repeat (first | with_reducible refine rest_is _ _ _ _ ?_ | (with_reducible refine rest_fact _ _ _ _ ?_; intro _ _) | with_reducible refine rest_end _ _ ?_)
            simp only [List.reverse_cons, List.reverse_nil, List.nil_append, List.cons_append]
            have hput := put_pg (bb + 1) bb n ((sCont len L k).length + (len + g)) (k * len) _ x (by omega) (by omega) hn5 w2 (HP4.out.ext he2)
            have hput2 : pageBytes (sCont len L k) (fieldL 0 len ++ sMarks len L k) (len + g) = pageBytes (sCont len L k) (fieldL 0 len ++ sMarks len L k) (x.length + g) := by rw [hzl]
            rw [hput2, ← hCl, pageBytes_put] at hput
            have Hput := Lib.hid hput
            have HE2' := Lib.hid he2
            have HO := Lib.hid (fun (W' : World) (o : Only (bb + 1) bb w2 W') => (((Only.of_ext (Ext.alloc wr _)).trans HO4.out).trans (Only.of_ext he2)).trans o |>.ext hext (show w.heap.size ≤ bb + 1 by have := HBB.out; omega) (show w.heap.size ≤ bb by have := HBB.out; omega))
            clear hput hput2 he2
            go_wp2_with (go_at_call 89; go_must (refine Hput.out.mono ?_; rintro e w5 ⟨rfl, hp5, ho5⟩))
            go_roundw
            case rel => exact ⟨k + 1, by omega, by go_num, sGood_succ HG.out (by rw [HX.out]; simp [slotGood, HXL.out]), HO.out _ ho5, by
              have a1 : sCont len L (k + 1) = sCont len L k ++ x := by rw [sCont, HX.out]; rfl
              have a2 : sMarks len L (k + 1) = fieldL 0 len ++ sMarks len L k := by rw [sMarks, HX.out]; rfl
              have a3 : (k + 1) * len = (sCont len L k).length + x.length := by rw [hCl, hzl, Nat.add_mul]; omega
              have a4 : n - 4 - 3 * (k + 1) = (sCont len L k).length + (len + g) := by omega
              have a5 : (sCont len L k).length + (len + g) - ((sCont len L k).length + x.length) = g := by omega
              rw [a1, a2, a3, a4, a5]
              exact hp5⟩
            case measure => simp [intOf]; omega
          · have hxI : ((x.length : Int) != (len : Int)) = true := by simp; omega
            have HE : Hid (sErr N len L = 2) := Lib.hid (sErr_bad hN0 (by omega) hkN (by rw [HX.out]; simp [slotGood, hxl]))
            have HS : Hid (sStr n N len L = []) := Lib.hid (by unfold sStr; rw [HE.out]; rfl)
            obtain ⟨e1, e2⟩ := hcell (.bool true) (.string ⟨x.toArray⟩)
            clear hxl
            go_wp2_with fail
            all_goals (go_ret2; exact ⟨ret_tup HS.out.symm HE.out.symm, hext.trans (Ext.alloc _ _)⟩)
      · have hkmI : decide ((k : Int) < m) = false := by simp; omega
        have HX : Hid (slotAt L k = (false, [])) := Lib.hid (by unfold slotAt; rw [List.getD_eq_getElem?_getD, List.getElem?_eq_none (by omega)]; rfl)
        have hcell : ∀ (v1 v2 : Value), (wr.alloc (.cells #[v1, v2] 131)).cell? ⟨wr.heap.size, 0, none⟩ = some v1 ∧ (wr.alloc (.cells #[v1, v2] 131)).cell? ⟨wr.heap.size, 1, none⟩ = some v2 := fun v1 v2 => by
          have hb : Blk _ _ _ := Blk.new wr (.cells #[v1, v2] 131)
          unfold Blk at hb
          simp only [World.cell?, hb]
          exact ⟨rfl, rfl⟩
        obtain ⟨g, hgg⟩ : ∃ g, n - 4 - 3 * k - k * len = len + g + 3 := ⟨n - 4 - 3 * k - k * len - len - 3, by
          have : (k + 1) * (len + 3) ≤ N * (len + 3) := Nat.mul_le_mul_right _ hkN
          rw [Nat.add_mul, Nat.mul_add] at this; omega⟩
        have hl3 : n - 4 - 3 * k - 3 = (sCont len L k).length + (len + g) := by rw [hCl]; omega
        rw [hgg] at hpg
        have hfp := fun c (hc : c < 256) W (h : Page W (bb + 1) bb n (n - 4 - 3 * k) (k * len) (pageBytes (sCont len L k) (sMarks len L k) (len + g + 3))) => field_pg (bb + 1) bb n (n - 4 - 3 * k) (k * len) (pageBytes (sCont len L k) (sMarks len L k) (len + g + 3)) c len (by omega) (by omega) hn5 hc (by omega) W h
        rw [hl3] at hfp
        have Hfp := Lib.hid hfp
        have Hpg := Lib.hid hpg
        clear hfp hpg
        obtain ⟨e1, e2⟩ := hcell (.bool false) (.string ⟨#[]⟩)
        go_wp2_with (first | (go_at_call 88; go_must (refine (Hfp.out 4 (by omega) _ (Hpg.out.ext (Ext.alloc _ _))).mono ?_; rintro e w4 ⟨rfl, hp4, ho4⟩)))
        have hpx := Blk.lt Hpg.out.box
        have hbbl := Blk.lt Hpg.out.row
        have hsz : wr.heap.size < (wr.alloc (.cells #[.bool false, .string ⟨#[]⟩] 131)).heap.size := by simp
        have f1 : w4.cell? ⟨wr.heap.size, 0, none⟩ = some (.bool false) := (World.cell?_of_block (ho4.block wr.heap.size hsz (by omega) (by omega))).trans e1
        have f2 : w4.cell? ⟨wr.heap.size, 1, none⟩ = some (.string ⟨#[]⟩) := (World.cell?_of_block (ho4.block wr.heap.size hsz (by omega) (by omega))).trans e2
        have hsz4 : wr.heap.size < w4.heap.size := Nat.lt_of_lt_of_le hsz ho4.size
        have hrep := fun w => Repeat_zeros len (by omega) w
        have hzl : (List.replicate len (0 : UInt8)).length = len := by simp
        generalize hZ : List.replicate len (0 : UInt8) = Z at *
        have Hrep := Lib.hid hrep
        have HZ := Lib.hid hZ
        rw [pageBytes_field] at hp4
        have HP4 := Lib.hid hp4
        have HO4 := Lib.hid ho4
        have i1 : IntKind.i64.wrap ((len : Int) - 0) = len := by rw [IntWalk.i64_in _ (by omega)]; omega
        clear hrep hZ hp4 ho4 e1 e2
        refine wp_region_mk 10 (Ext.refl w4) (by kernel_rfl) (by kernel_rfl) (by kernel_rfl) ?_
        simp only [List.take_succ_cons, List.take_zero, List.take_nil, List.drop_succ_cons, List.drop_zero, List.drop_nil, List.map_cons, List.map_nil]
        repeat (first
          | (refine wpML_move _ _ rfl (by first | exact .inl rfl | exact .inr rfl) rfl (by first | exact Is.stable _ | exact Fresh.stable _ _ _) ?_
             simp only [setL, List.set_cons_succ, List.set_cons_zero, List.getD_cons_succ, List.getD_cons_zero])
          | (refine wpML_moveC _ rfl (by first | exact .inl rfl | exact .inr rfl) ?_
             simp only [setL, List.set_cons_succ, List.set_cons_zero])
          | (apply wpML_det rfl
             · intro a w' he hr K hK
               simp [Reads, Oper.looksAt, Op.operands, Call.operands, factAt, Is] at hr
               have hx := he.cell
               go_simp
               try go_bits
               try (rw [if_neg (by omega)]; go_simp)
               first
                 | exact hK _ (Ext.refl _)
                 | (refine (Hrep.out _).mono ?_; rintro e w' ⟨rfl, he'⟩; exact hK _ he')
             simp only [setL, List.set_cons_succ, List.set_cons_zero])
          | (apply wpML_det rfl
             · intro a w' he hr K hK
               simp [Reads, Oper.looksAt, Op.operands, Call.operands, factAt, Fresh] at hr
               obtain ⟨b, hr1, hr2⟩ := hr
               go_simp
               exact hK _ (Ext.refl _)
             simp only [setL, List.set_cons_succ, List.set_cons_zero]))
        intro w2 he2
        repeat (first | with_reducible refine rest_is _ _ _ _ ?_ | (with_reducible refine rest_fact _ _ _ _ ?_; intro _ _) | with_reducible refine rest_end _ _ ?_)
        simp only [List.reverse_cons, List.reverse_nil, List.nil_append, List.cons_append]
        have hput := put_pg (bb + 1) bb n ((sCont len L k).length + (len + g)) (k * len) _ Z (by omega) (by omega) hn5 w2 (HP4.out.ext he2)
        have hput2 : pageBytes (sCont len L k) (fieldL 4 len ++ sMarks len L k) (len + g) = pageBytes (sCont len L k) (fieldL 4 len ++ sMarks len L k) (Z.length + g) := by rw [hzl]
        rw [hput2, ← hCl, pageBytes_put] at hput
        have Hput := Lib.hid hput
        have HE2' := Lib.hid he2
        have HO := Lib.hid (fun (W' : World) (o : Only (bb + 1) bb w2 W') => (((Only.of_ext (Ext.alloc wr _)).trans HO4.out).trans (Only.of_ext he2)).trans o |>.ext hext (show w.heap.size ≤ bb + 1 by have := HBB.out; omega) (show w.heap.size ≤ bb by have := HBB.out; omega))
        clear hput hput2 he2
        go_wp2_with (go_at_call 89; go_must (refine Hput.out.mono ?_; rintro e w5 ⟨rfl, hp5, ho5⟩))
        go_roundw
        case rel => exact ⟨k + 1, by omega, by go_num, sGood_succ HG.out (by rw [HX.out]; rfl), HO.out _ ho5, by
          have a1 : sCont len L (k + 1) = sCont len L k ++ Z := by rw [sCont, HX.out, ← HZ.out]; rfl
          have a2 : sMarks len L (k + 1) = fieldL 4 len ++ sMarks len L k := by rw [sMarks, HX.out]; rfl
          have a3 : (k + 1) * len = (sCont len L k).length + Z.length := by rw [hCl, hzl, Nat.add_mul]; omega
          have a4 : n - 4 - 3 * (k + 1) = (sCont len L k).length + (len + g) := by omega
          have a5 : (sCont len L k).length + (len + g) - ((sCont len L k).length + Z.length) = g := by omega
          rw [a1, a2, a3, a4, a5]
          exact hp5⟩
        case measure => simp [intOf]; omega
    · have hkN' : k = N := by omega
      subst hkN'
      have hkI : decide ((k : Int) < k) = false := by simp
      have HE : Hid (sErr k len L = 0) := Lib.hid (sErr_good hN0 (by omega) HG.out)
      have HS : Hid (sStr n k len L = wholeL n (sCont len L k) (sMarks len L k)) := Lib.hid (by unfold sStr; rw [if_pos HE.out])
      rw [Nat.mul_add] at hroom
      have hd := done_pg (bb + 1) bb n (n - 4 - 3 * k) (k * len) _ (by omega) (by omega) (by omega) hn5 wr hpg
      have hgap : n - 4 - 3 * k - k * len = n - 4 - 3 * k - (sCont len L k).length := by rw [hCl]
      rw [hgap, ← hCl, pageBytes_tail _ _ _ n (by rw [hMl]; omega)] at hd
      have hw : sCont len L k ++ List.replicate (n - 4 - 3 * k - (sCont len L k).length) 0 ++ sMarks len L k ++ tailL (sCont len L k).length (n - 4 - 3 * k - (sCont len L k).length) = wholeL n (sCont len L k) (sMarks len L k) := by
        unfold wholeL
        have : n - 4 - (sCont len L k).length - (sMarks len L k).length = n - 4 - 3 * k - (sCont len L k).length := by rw [hMl]; omega
        simp only [this]
      rw [hw] at hd
      have Hd := Lib.hid hd
      clear hd hw hgap hpg
      go_wp2_with (go_at_call 90; go_must (refine Hd.out.mono ?_; rintro e w5 ⟨rfl, ho5⟩))
      go_ret2
      exact ⟨ret_tup HS.out.symm HE.out.symm, ho5.ext hext (by have := HBB.out; omega) (by have := HBB.out; omega)⟩
end Go.Proofs.YtjgdhlpnpihkdaaDoor
/- The program's EncodeSlots, for any slots. -/
namespace Go.Proofs.YtjgdhlpnpihkdaaDoor
open Go.RowKit Dsd

set_option maxRecDepth 100000 in
theorem EncodeSlots_any (size length : Int) (p : Option Addr) (cap m : Nat) (L : List Slt) (hm : L.length = m) (w : World) (hs : Slts w p L) :
    Calls Tryd.prog 105 #[.int .i64 size, .int .i64 length, .slice p m cap] w fun e w' => e = .returned (.tuple #[.string ⟨(esStr size length L).toArray⟩, .int .i64 (esErr size length L)]) ∧ Ext w w' := by
  rcases slots_cases size length with ⟨h0, hb⟩ | ⟨n, len, N, rfl, rfl, h1, h2, h3, h4, h5, h6, h7, hb⟩
  · have HE : Hid (esErr size length L = 1) := Lib.hid (by unfold esErr sErr; rw [h0]; rfl)
    have HS : Hid (esStr size length L = []) := Lib.hid (by unfold esStr sStr; rw [if_neg]; have := HE.out; unfold esErr at this; rw [this]; decide)
    have H0 := Lib.hid h0
    clear hb h0
    go_enter Tryd.func105, Tryd.ntmps105
    go_wp2_with (go_at_call 103; refine (SlotCount_any _ _ _).mono ?_; rw [H0.out]; rintro e w' ⟨rfl, rfl⟩)
    go_ret2
    exact ⟨ret_tup HS.out.symm HE.out.symm, Ext.refl _⟩
  · by_cases hmN : m ≤ N
    · have := EncodeSlots_main n len N h1 h2 h3 h4 h5 h6 h7 p cap m L hm hmN w hs
      unfold esStr esErr
      rw [h5]
      exact this
    · have HE : Hid (esErr n len L = 8) := Lib.hid (by unfold esErr sErr; rw [h5, Int.toNat_natCast, if_neg h6, if_pos (by omega)])
      have HS : Hid (esStr n len L = []) := Lib.hid (by unfold esStr sStr; rw [if_neg]; have := HE.out; unfold esErr at this; rw [this]; decide)
      have HN := Lib.hid h5
      have hmI : (N : Int) < m := by omega
      have hN0I : ((N : Int) == 0) = false := by simp; omega
      clear hb h5 h7
      go_enter Tryd.func105, Tryd.ntmps105
      go_wp2_with (go_at_call 103; refine (SlotCount_any _ _ _).mono ?_; rw [HN.out]; rintro e w' ⟨rfl, rfl⟩)
      go_ret2
      exact ⟨ret_tup HS.out.symm HE.out.symm, Ext.refl _⟩
end Go.Proofs.YtjgdhlpnpihkdaaDoor
