/- The walks of the slots' small functions. -/
import Derived.Test.YtjgdhlpnpihkdaaDoorW13
import Derived.Laws.StructEq
import Derived.Test.YtjgdhlpnpihkdaaDoorP17f
import Derived.Test.YtjgdhlpnpihkdaaDoorMono
set_option linter.unusedSimpArgs false
set_option linter.unusedVariables false
namespace Go.Proofs.YtjgdhlpnpihkdaaDoor
open Go.RowKit Dsd

theorem IsLength_any (size length : Int) (w : World) :
    Calls Tryd.prog 66 #[.int .i64 size, .int .i64 length] w fun e w' => e = .returned (.bool (isSizeB size && decide (1 ≤ length) && decide (length ≤ 200) && decide (length ≤ size - 7))) ∧ w = w' := by
  by_cases h1 : isSizeB size = true
  · obtain ⟨n, rfl, hn⟩ := isSize_nat h1
    have i1 : IntKind.i64.wrap ((n : Int) - 7) = n - 7 := IntWalk.i64_in _ (by omega)
    go_enter Tryd.func66, Tryd.ntmps66
    go_wp2_with (go_at_call 94; refine (IsSize_any _ _).mono ?_; rintro e w' ⟨rfl, rfl⟩)
    all_goals go_ret
    all_goals exact ⟨ret_bool (by first | (simp [*]; done) | (simp [*]; omega) | (simp [*]; intros; omega)), rfl⟩
  · have h1' : isSizeB size = false := by simpa using h1
    clear h1
    go_enter Tryd.func66, Tryd.ntmps66
    go_wp2_with (go_at_call 94; refine (IsSize_any _ _).mono ?_; rintro e w' ⟨rfl, rfl⟩)
    all_goals go_ret
    all_goals exact ⟨ret_bool (by first | (simp [*]; done) | (simp [*]; omega) | (simp [*]; intros; omega)), rfl⟩

set_option maxRecDepth 100000 in
theorem SlotCount_ref (size length : Int) (w : World) :
    Calls Tryd.prog 35 #[.int .i64 size, .int .i64 length] w fun e w' => e = .returned (.int .i64 (slotsN size length)) ∧ w = w' := by
  cases hb : (isSizeB size && decide (1 ≤ length) && decide (length ≤ 200) && decide (length ≤ size - 7))
  · have HE : Hid (slotsN size length = 0) := Lib.hid (by
      unfold slotsN
      rw [if_pos]
      simp at hb
      by_cases h1 : isSizeB size = true
      · have := hb h1; omega
      · left; simpa using h1)
    go_enter Tryd.func35, Tryd.ntmps35
    go_wp2_with (go_at_call 66; refine (IsLength_any _ _ _).mono ?_; rintro e w' ⟨rfl, rfl⟩)
    all_goals (go_ret; exact ⟨ret_int HE.out.symm, rfl⟩)
  · have hb2 := hb
    simp at hb2
    obtain ⟨⟨⟨h1, h2⟩, h3⟩, h4⟩ := hb2
    obtain ⟨n, rfl, hn⟩ := isSize_nat h1
    have HE : Hid (slotsN n length = ((n : Int) - 4) / (length + 3)) := Lib.hid (by unfold slotsN; rw [if_neg (by simp [h1]; omega)])
    have hq : ((n : Int) - 4).tdiv (length + 3) = ((n : Int) - 4) / (length + 3) := Int.tdiv_eq_ediv_of_nonneg (by omega)
    have q1 : 0 ≤ ((n : Int) - 4) / (length + 3) := Int.ediv_nonneg (by omega) (by omega)
    have q2 : ((n : Int) - 4) / (length + 3) ≤ (n : Int) - 4 := Int.ediv_le_self _ (by omega)
    generalize ((n : Int) - 4) / (length + 3) = q at *
    have q3 : IntKind.i64.wrap q = q := IntWalk.i64_in _ (by omega)
    have l1 : IntKind.i64.wrap (length + 3) = length + 3 := IntWalk.i64_in _ (by omega)
    have l2 : ¬ length + 3 = 0 := by omega
    have i1 : IntKind.i64.wrap ((n : Int) - 4) = n - 4 := IntWalk.i64_in _ (by omega)
    have HB := Lib.hid hb
    clear hb
    go_enter Tryd.func35, Tryd.ntmps35
    go_wp2_with (go_at_call 66; refine (IsLength_any _ _ _).mono ?_; rw [HB.out]; rintro e w' ⟨rfl, rfl⟩)
    all_goals (go_ret; exact ⟨ret_int HE.out.symm, rfl⟩)

theorem slotFields : (Tryd.prog.fieldsOf 131).toList.map (fun f => (f.name, f.type, f.offset)) = [("Used", 4, 0), ("Record", 9, 1)] := by kernel_rfl
theorem slotHeld : Tryd.prog.stoodInHeld 131 = false := by kernel_rfl
theorem slotGuard : Tryd.prog.eqGuardType Tryd.prog.depth 131 = false := by kernel_rfl
theorem slotDesc : Tryd.prog.underlying 131 = some (.struct (Tryd.prog.fieldsOf 131)) := by kernel_rfl
/-- Slots are compared field by field. -/
theorem slot_equal (u u' : Bool) (x x' : List UInt8) (W : World) : (Op.equalIn 10000 131 (.agg #[.bool u, .string ⟨x.toArray⟩]) (.agg #[.bool u', .string ⟨x'.toArray⟩])).run Tryd.prog W = .ok ((u, x) == (u', x')) W := by
  rw [run_equalIn_agg W 9999 131 _ _ slotDesc slotHeld]
  have h := slotFields
  generalize (Tryd.prog.fieldsOf 131).toList = fs at *
  have hl : fs.length = 2 := by simpa using congrArg List.length h
  obtain ⟨f, g, rfl⟩ : ∃ f g, fs = [f, g] := by
    cases fs with
    | nil => simp at hl
    | cons f fs =>
      cases fs with
      | nil => simp at hl
      | cons g fs =>
        cases fs with
        | nil => exact ⟨f, g, rfl⟩
        | cons _ _ => simp at hl
  simp at h
  obtain ⟨⟨a1, a2, a3⟩, b1, b2, b3⟩ := h
  simp [Op.eqFields, a1, a2, a3, b1, b2, b3, go_sem]
  by_cases h1 : u = u'
  · by_cases h2 : x = x'
    · simp [h1, h2]
    · simp [h1, h2]
  · simp [h1]

/-- A slice of slots that is read. -/
def Slts (w : World) (p : Option Addr) (L : List Slt) : Prop :=
  L = [] ∨ ∃ b off, p = some ⟨b, off, none⟩ ∧ b < w.heap.size ∧ ∀ i, i < L.length → w.cell? ⟨b, off + i * 2, none⟩ = some (.bool (L.getD i (false, [])).1) ∧ w.cell? ⟨b, off + i * 2 + 1, none⟩ = some (.string ⟨(L.getD i (false, [])).2.toArray⟩)
theorem Slts.ext {w w' : World} {p : Option Addr} {L : List Slt} (h : Slts w p L) (e : Ext w w') : Slts w' p L := by
  rcases h with h | ⟨b, off, hp, hb, hc⟩
  · exact .inl h
  · exact .inr ⟨b, off, hp, Nat.lt_of_lt_of_le hb e.size, fun i hi => ⟨(e.cell b _ hb).trans (hc i hi).1, (e.cell b _ hb).trans (hc i hi).2⟩⟩
theorem Slts.at {w : World} {p : Option Addr} {L : List Slt} (h : Slts w p L) (k : Nat) (hk : k < L.length) :
    ∃ b off, p = some ⟨b, off, none⟩ ∧ b < w.heap.size ∧ ∀ i, i < L.length → w.cell? ⟨b, off + i * 2, none⟩ = some (.bool (L.getD i (false, [])).1) ∧ w.cell? ⟨b, off + i * 2 + 1, none⟩ = some (.string ⟨(L.getD i (false, [])).2.toArray⟩) := by
  rcases h with h | h
  · subst h; simp at hk
  · exact h

end Go.Proofs.YtjgdhlpnpihkdaaDoor
/- The walk of the reference's EncodeSlots. -/
namespace Go.Proofs.YtjgdhlpnpihkdaaDoor
open Go.RowKit Dsd

set_option maxRecDepth 100000 in
set_option maxHeartbeats 2000000 in
theorem EncodeSlots_ref_main (n len N : Nat) (hn4 : n = 128 ∨ n = 256 ∨ n = 512) (h1 : 1 ≤ len) (h2 : len ≤ 200) (h3 : len + 7 ≤ n) (hN : slotsN n len = N) (hN0 : N ≠ 0) (hroom : N * (len + 3) + 4 ≤ n) (p : Option Addr) (cap m : Nat) (L : List Slt) (hm : L.length = m) (hmN : m ≤ N) (w : World) (hs : Slts w p L) :
    Calls Tryd.prog 107 #[.int .i64 n, .int .i64 len, .slice p m cap] w fun e w' => e = .returned (.tuple #[.string ⟨(sStr n N len L).toArray⟩, .int .i64 (sErr N len L)]) ∧ Ext w w' := by
  have hil : (isSizeB n && decide ((1 : Int) ≤ len) && decide ((len : Int) ≤ 200) && decide ((len : Int) ≤ (n : Int) - 7)) = true := by
    have hi : isSizeB n = true := by rcases hn4 with rfl | rfl | rfl <;> rfl
    simp [hi]; omega
  have Hil := Lib.hid hil
  have Hs := Lib.hid hs
  have hmI : decide ((N : Int) < m) = false := by simp; omega
  have HN := Lib.hid hN
  have hN5 : N ≤ 512 := by have := Nat.le_mul_of_pos_right N (show 0 < len + 3 by omega); omega
  clear hil hs hN
  go_enter Tryd.func107, Tryd.ntmps107
  go_wp2_with (first | (go_at_call 66; refine (IsLength_any _ _ _).mono ?_; rw [Hil.out]; rintro e w' ⟨rfl, rfl⟩) | (go_at_call 35; refine (SlotCount_ref _ _ _).mono ?_; rw [HN.out]; rintro e w' ⟨rfl, rfl⟩))
  rw [show decide (N < m) = false from decide_eq_false (by omega)]
  obtain ⟨wo, rfl⟩ : ∃ wo : World, wo = w := ⟨_, rfl⟩
  go_loopw [8, 9, 10] (fun c mk i wr => ∃ k : Nat, k ≤ N ∧ i = .int .i64 k ∧ c = .string ⟨(sCont len L k).toArray⟩ ∧ mk = .string ⟨(sMarks len L k).toArray⟩ ∧ sGood len L k ∧ Ext wo wr) (fun _ _ i _ => N - (intOf i).toNat)
  case atStart => exact ⟨0, Nat.zero_le _, rfl, rfl, rfl, sGood_zero _ _, Ext.refl _⟩
  case round =>
    obtain ⟨k, hk, rfl, rfl, rfl, hg, hext⟩ := hrel
    have HG := Lib.hid hg
    have hkl : k * (len + 3) ≤ N * (len + 3) := Nat.mul_le_mul_right _ hk
    have hCl : (sCont len L k).length ≤ 512 := by rw [length_sCont hg]; rw [Nat.mul_add] at hkl; omega
    have hMl : (sMarks len L k).length ≤ 512 := by rw [length_sMarks]; rw [Nat.mul_add] at hkl; omega
    clear hg hkl
    obtain ⟨C, hC⟩ : ∃ C, C = sCont len L k := ⟨_, rfl⟩
    obtain ⟨M, hM⟩ : ∃ M, M = sMarks len L k := ⟨_, rfl⟩
    rw [← hC] at hCl
    rw [← hM] at hMl
    rw [← hC, ← hM]
    have HC := Lib.hid hC
    have HMk := Lib.hid hM
    clear hC hM
    by_cases hkN : k < N
    · have hkI : (k : Int) < N := by omega
      by_cases hkm : k < m
      · obtain ⟨b, off, rfl, hb, hc⟩ := Hs.out.at k (by omega)
        obtain ⟨c1, c2⟩ := hc k (by omega)
        have d1 := (hext.cell b (off + k * 2) hb).trans c1
        have d2 := (hext.cell b (off + k * 2 + 1) hb).trans c2
        have hbr := Nat.lt_of_lt_of_le hb hext.size
        generalize hx : L.getD k (false, []) = s at *
        have HX : Hid (slotAt L k = s) := Lib.hid hx
        clear hc c1 c2 hx
        obtain ⟨u, x⟩ := s
        simp only at d1 d2
        have hkmI : (k : Int) < m := by omega
        have hcell : ∀ (v1 v2 : Value), (wr.alloc (.cells #[v1, v2] 131)).cell? ⟨wr.heap.size, 0, none⟩ = some v1 ∧ (wr.alloc (.cells #[v1, v2] 131)).cell? ⟨wr.heap.size, 1, none⟩ = some v2 := fun v1 v2 => by
          have hb : Blk _ _ _ := Blk.new wr (.cells #[v1, v2] 131)
          unfold Blk at hb
          simp only [World.cell?, hb]
          exact ⟨rfl, rfl⟩
        cases u
        · by_cases hx0 : x = []
          · subst hx0
            have hz := fun w => zeros_any len (by omega) w
            have hf := fun w => field_any 4 len (by omega) (by omega) (by omega) (by omega) w
            have hzl : (List.replicate ((len : Int)).toNat (0 : UInt8)).length ≤ 512 := by simp; omega
            have hfl : (fieldL ((4 : Int)).toNat ((len : Int)).toNat).length = 3 := rfl
            generalize hZ : List.replicate ((len : Int)).toNat (0 : UInt8) = Z at *
            generalize hF : fieldL ((4 : Int)).toNat ((len : Int)).toNat = F at *
            have Hz := Lib.hid hz
            have Hf := Lib.hid hf
            have HZ := Lib.hid hZ
            have HF := Lib.hid hF
            clear hz hf hZ hF
            go_wp2_with (first | (go_at_call 35; refine (SlotCount_ref _ _ _).mono ?_; rw [HN.out]; rintro e w' ⟨rfl, rfl⟩) | (go_at_call 115; refine (Hz.out _).mono ?_; rintro e w3 ⟨rfl, he3⟩) | (go_at_call 117; refine (Hf.out _).mono ?_; rintro e w4 ⟨rfl, he4⟩))
            go_roundw
            case rel => exact ⟨k + 1, by omega, by go_num, by rw [sCont, ← HC.out, HX.out, ← HZ.out]; simp [slotBytes], by rw [sMarks, ← HMk.out, HX.out, ← HF.out]; rfl, sGood_succ HG.out (by rw [HX.out]; rfl), hext.trans ((Ext.alloc _ _).trans (he3.trans he4))⟩
            case measure => simp [intOf]; omega
          · have hxe : x.isEmpty = false := by simpa using hx0
            have HE : Hid (sErr N len L = 2) := Lib.hid (sErr_bad hN0 (by omega) hkN (by rw [HX.out]; exact hxe))
            have HS : Hid (sStr n N len L = []) := Lib.hid (by unfold sStr; rw [HE.out]; rfl)
            obtain ⟨e1, e2⟩ := hcell (.bool false) (.string ⟨x.toArray⟩)
            clear hx0
            go_wp2_with (first | (go_at_call 35; refine (SlotCount_ref _ _ _).mono ?_; rw [HN.out]; rintro e w' ⟨rfl, rfl⟩))
            go_ret2
            exact ⟨ret_tup HS.out.symm HE.out.symm, hext.trans (Ext.alloc _ _)⟩
        · by_cases hxl : x.length = len
          · have hxI : ((x.length : Int) == (len : Int)) = true := by simp [hxl]
            have HXL := Lib.hid hxl
            have hf := fun w => field_any 0 len (by omega) (by omega) (by omega) (by omega) w
            have hfl : (fieldL ((0 : Int)).toNat ((len : Int)).toNat).length = 3 := rfl
            generalize hF : fieldL ((0 : Int)).toNat ((len : Int)).toNat = F at *
            have Hf := Lib.hid hf
            have HF := Lib.hid hF
            have hx5 : x.length ≤ 512 := by omega
            clear hf hF
            obtain ⟨e1, e2⟩ := hcell (.bool true) (.string ⟨x.toArray⟩)
            clear hxl
            go_wp2_with (first | (go_at_call 35; refine (SlotCount_ref _ _ _).mono ?_; rw [HN.out]; rintro e w' ⟨rfl, rfl⟩))
            obtain ⟨wv, hwv⟩ : ∃ wv, wv = wr.alloc (.cells #[.bool true, .string ⟨x.toArray⟩] 131) := ⟨_, rfl⟩
            rw [← hwv] at e1 e2
            have hsz : wr.heap.size < wv.heap.size := by rw [hwv]; simp
            have HV := Lib.hid (show Ext wr wv by rw [hwv]; exact Ext.alloc _ _)
            rw [← hwv]
            clear hwv
            refine wp_region_mk 200 (Ext.refl wv) (by kernel_rfl) (by kernel_rfl) (by kernel_rfl) ?_
            simp only [List.take_succ_cons, List.take_zero, List.take_nil, List.drop_succ_cons, List.drop_zero, List.drop_nil, List.map_cons, List.map_nil]
            repeat (first
              | (refine wpML_move _ _ rfl (by first | exact .inl rfl | exact .inr rfl) rfl (by first | exact Is.stable _ | exact Fresh.stable _ _ _) ?_
                 simp only [setL, List.set_cons_succ, List.set_cons_zero, List.getD_cons_succ, List.getD_cons_zero])
              | (refine wpML_moveC _ rfl (by first | exact .inl rfl | exact .inr rfl) ?_
                 simp only [setL, List.set_cons_succ, List.set_cons_zero])
              | (apply wpML_det rfl
                 · intro a w' he hr K hK
                   simp [Reads, Oper.looksAt, Op.operands, Call.operands, factAt, Is] at hr
                   have hx := he.cell
                   go_simp
                   try go_bits
                   try (rw [if_neg (by omega)]; go_simp)
                   first
                     | exact hK _ (Ext.refl _)
                     | (refine (Hf.out _).mono ?_; rintro e w' ⟨rfl, he'⟩; exact hK _ he')
                 simp only [setL, List.set_cons_succ, List.set_cons_zero])
              | (apply wpML_det rfl
                 · intro a w' he hr K hK
                   simp [Reads, Oper.looksAt, Op.operands, Call.operands, factAt, Fresh] at hr
                   obtain ⟨b, hr1, hr2⟩ := hr
                   go_simp
                   exact hK _ (Ext.refl _)
                 simp only [setL, List.set_cons_succ, List.set_cons_zero]))
            intro w2 he2
            repeat (first | with_reducible refine rest_is _ _ _ _ ?_ | (with_reducible refine rest_fact _ _ _ _ ?_; intro _ _) | with_reducible refine rest_end _ _ ?_)
            simp only [List.reverse_cons, List.reverse_nil, List.nil_append, List.cons_append]
            go_wp2
            go_roundw
            case rel => exact ⟨k + 1, by omega, by go_num, by rw [sCont, ← HC.out, HX.out]; simp [slotBytes], by rw [sMarks, ← HMk.out, HX.out, ← HF.out]; rfl, sGood_succ HG.out (by rw [HX.out]; simp [slotGood, HXL.out]), hext.trans (HV.out.trans he2)⟩
            case measure => simp [intOf]; omega
          · have hxI : ((x.length : Int) == (len : Int)) = false := by simp; omega
            have HE : Hid (sErr N len L = 2) := Lib.hid (sErr_bad hN0 (by omega) hkN (by rw [HX.out]; simp [slotGood, hxl]))
            have HS : Hid (sStr n N len L = []) := Lib.hid (by unfold sStr; rw [HE.out]; rfl)
            obtain ⟨e1, e2⟩ := hcell (.bool true) (.string ⟨x.toArray⟩)
            clear hxl
            go_wp2_with (first | (go_at_call 35; refine (SlotCount_ref _ _ _).mono ?_; rw [HN.out]; rintro e w' ⟨rfl, rfl⟩))
            go_ret2
            exact ⟨ret_tup HS.out.symm HE.out.symm, hext.trans (Ext.alloc _ _)⟩
      · have hkmI : decide ((k : Int) < m) = false := by simp; omega
        have HX : Hid (slotAt L k = (false, [])) := Lib.hid (by unfold slotAt; rw [List.getD_eq_getElem?_getD, List.getElem?_eq_none (by omega)]; rfl)
        have hz := fun w => zeros_any len (by omega) w
        have hf := fun w => field_any 4 len (by omega) (by omega) (by omega) (by omega) w
        have hzl : (List.replicate ((len : Int)).toNat (0 : UInt8)).length ≤ 512 := by simp; omega
        have hfl : (fieldL ((4 : Int)).toNat ((len : Int)).toNat).length = 3 := rfl
        generalize hZ : List.replicate ((len : Int)).toNat (0 : UInt8) = Z at *
        generalize hF : fieldL ((4 : Int)).toNat ((len : Int)).toNat = F at *
        have Hz := Lib.hid hz
        have Hf := Lib.hid hf
        have HZ := Lib.hid hZ
        have HF := Lib.hid hF
        have e1 : (wr.alloc (.cells #[.bool false, .string ⟨#[]⟩] 131)).cell? ⟨wr.heap.size, 0, none⟩ = some (.bool false) ∧ (wr.alloc (.cells #[.bool false, .string ⟨#[]⟩] 131)).cell? ⟨wr.heap.size, 1, none⟩ = some (.string ⟨#[]⟩) := by
          have hb : Blk _ _ _ := Blk.new wr (.cells #[.bool false, .string ⟨#[]⟩] 131)
          unfold Blk at hb
          simp only [World.cell?, hb]
          exact ⟨rfl, rfl⟩
        obtain ⟨e1, e2⟩ := e1
        clear hz hf hZ hF
        go_wp2_with (first | (go_at_call 35; refine (SlotCount_ref _ _ _).mono ?_; rw [HN.out]; rintro e w' ⟨rfl, rfl⟩) | (go_at_call 115; refine (Hz.out _).mono ?_; rintro e w3 ⟨rfl, he3⟩) | (go_at_call 117; refine (Hf.out _).mono ?_; rintro e w4 ⟨rfl, he4⟩))
        go_roundw
        case rel => exact ⟨k + 1, by omega, by go_num, by rw [sCont, ← HC.out, HX.out, ← HZ.out]; simp [slotBytes], by rw [sMarks, ← HMk.out, HX.out, ← HF.out]; rfl, sGood_succ HG.out (by rw [HX.out]; rfl), hext.trans ((Ext.alloc _ _).trans (he3.trans he4))⟩
        case measure => simp [intOf]; omega
    · have hkN' : k = N := by omega
      subst hkN'
      have hkI : decide ((k : Int) < k) = false := by simp
      have HE : Hid (sErr k len L = 0) := Lib.hid (sErr_good hN0 (by omega) HG.out)
      have HS : Hid (sStr n k len L = wholeL n C M) := Lib.hid (by unfold sStr; rw [if_pos HE.out, ← HC.out, ← HMk.out])
      have hCL := length_sCont HG.out
      have hML := length_sMarks len L k
      rw [← HC.out] at hCL
      rw [← HMk.out] at hML
      rw [Nat.mul_add] at hroom
      have hw := whole_any n C M (by omega) (by omega)
      have Hw := Lib.hid hw
      clear hw hCL hML
      go_wp2_with (first | (go_at_call 35; refine (SlotCount_ref _ _ _).mono ?_; rw [HN.out]; rintro e w' ⟨rfl, rfl⟩) | (go_at_call 97; refine (Hw.out _).mono ?_; rintro e w5 ⟨rfl, he5⟩))
      go_ret2
      exact ⟨ret_tup HS.out.symm HE.out.symm, hext.trans he5⟩
end Go.Proofs.YtjgdhlpnpihkdaaDoor
/- The reference's EncodeSlots, for any slots. -/
namespace Go.Proofs.YtjgdhlpnpihkdaaDoor
open Go.RowKit Dsd

theorem slots_cases (size length : Int) : (slotsN size length = 0 ∧ (isSizeB size && decide (1 ≤ length) && decide (length ≤ 200) && decide (length ≤ size - 7)) = false) ∨
    ∃ n len N : Nat, size = n ∧ length = len ∧ (n = 128 ∨ n = 256 ∨ n = 512) ∧ 1 ≤ len ∧ len ≤ 200 ∧ len + 7 ≤ n ∧ slotsN n len = N ∧ N ≠ 0 ∧ N * (len + 3) + 4 ≤ n ∧ (isSizeB size && decide (1 ≤ length) && decide (length ≤ 200) && decide (length ≤ size - 7)) = true := by
  cases hb : (isSizeB size && decide (1 ≤ length) && decide (length ≤ 200) && decide (length ≤ size - 7))
  · left
    refine ⟨?_, rfl⟩
    unfold slotsN
    rw [if_pos]
    simp at hb
    by_cases h1 : isSizeB size = true
    · have := hb h1; omega
    · left; simpa using h1
  · right
    have hb2 := hb
    simp at hb2
    obtain ⟨⟨⟨h1, h2⟩, h3⟩, h4⟩ := hb2
    obtain ⟨n, rfl, hn⟩ := isSize_nat h1
    obtain ⟨len, rfl⟩ := Int.eq_ofNat_of_zero_le (show 0 ≤ length by omega)
    refine ⟨n, len, (n - 4) / (len + 3), rfl, rfl, hn, by omega, by omega, by omega, ?_, ?_, ?_, rfl⟩
    · unfold slotsN
      rw [if_neg (by simp [h1]; omega)]
      have : ((n : Int) - 4) = ((n - 4 : Nat) : Int) := by omega
      rw [this]; norm_cast
    · have : 1 ≤ (n - 4) / (len + 3) := (Nat.le_div_iff_mul_le (by omega)).2 (by omega)
      omega
    · have := Nat.div_mul_le_self (n - 4) (len + 3)
      omega


set_option maxRecDepth 100000 in
theorem EncodeSlots_ref (size length : Int) (p : Option Addr) (cap m : Nat) (L : List Slt) (hm : L.length = m) (hml : m ≤ 1000000) (w : World) (hs : Slts w p L) :
    Calls Tryd.prog 107 #[.int .i64 size, .int .i64 length, .slice p m cap] w fun e w' => e = .returned (.tuple #[.string ⟨(esStr size length L).toArray⟩, .int .i64 (esErr size length L)]) ∧ Ext w w' := by
  rcases slots_cases size length with ⟨h0, hb⟩ | ⟨n, len, N, rfl, rfl, h1, h2, h3, h4, h5, h6, h7, hb⟩
  · have HE : Hid (esErr size length L = 1) := Lib.hid (by unfold esErr sErr; rw [h0]; rfl)
    have HS : Hid (esStr size length L = []) := Lib.hid (by unfold esStr sStr; rw [if_neg]; have := HE.out; unfold esErr at this; rw [this]; decide)
    have Hil := Lib.hid hb
    clear hb h0
    go_enter Tryd.func107, Tryd.ntmps107
    go_wp2_with (go_at_call 66; refine (IsLength_any _ _ _).mono ?_; rw [Hil.out]; rintro e w' ⟨rfl, rfl⟩)
    go_ret2
    exact ⟨ret_tup HS.out.symm HE.out.symm, Ext.refl _⟩
  · by_cases hmN : m ≤ N
    · have := EncodeSlots_ref_main n len N h1 h2 h3 h4 h5 h6 h7 p cap m L hm hmN w hs
      unfold esStr esErr
      rw [h5]
      exact this
    · have HE : Hid (esErr n len L = 8) := Lib.hid (by unfold esErr sErr; rw [h5, Int.toNat_natCast, if_neg h6, if_pos (by omega)])
      have HS : Hid (esStr n len L = []) := Lib.hid (by unfold esStr sStr; rw [if_neg]; have := HE.out; unfold esErr at this; rw [this]; decide)
      have Hil := Lib.hid hb
      have HN := Lib.hid h5
      have hmI : (N : Int) < m := by omega
      clear hb h5 h7
      go_enter Tryd.func107, Tryd.ntmps107
      go_wp2_with (first | (go_at_call 66; refine (IsLength_any _ _ _).mono ?_; rw [Hil.out]; rintro e w' ⟨rfl, rfl⟩) | (go_at_call 35; refine (SlotCount_ref _ _ _).mono ?_; rw [HN.out]; rintro e w' ⟨rfl, rfl⟩))
      go_ret2
      exact ⟨ret_tup HS.out.symm HE.out.symm, Ext.refl _⟩
end Go.Proofs.YtjgdhlpnpihkdaaDoor
