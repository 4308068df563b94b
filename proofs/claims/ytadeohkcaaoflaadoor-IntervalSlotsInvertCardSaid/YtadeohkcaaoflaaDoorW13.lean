/- The walks of SlotCount and awake. -/
import Derived.Test.YtadeohkcaaoflaaDoorW12
namespace Go.Proofs.YtadeohkcaaoflaaDoor
open Go.RowKit Dsd

theorem strs_new (w : World) (L : List (List UInt8)) (t : TypeId) : Strs (w.alloc (.cells (L.map fun s => Value.string ⟨s.toArray⟩).toArray t)) (some ⟨w.heap.size, 0, none⟩) L := by
  refine .inr ⟨w.heap.size, 0, rfl, by simp, fun i hi => ?_⟩
  have hb : Blk _ _ _ := Blk.new w (.cells (L.map fun s => Value.string ⟨s.toArray⟩).toArray t)
  simp only [List.length_map] at hi
  unfold Blk at hb
  unfold World.cell?
  simp only [hb]
  simp [hi, List.getD]

/-- How many slots. -/
def slotsN (size length : Int) : Int := if isSizeB size = false ∨ length < 1 ∨ 200 < length ∨ size - 7 < length then 0 else (size - 4) / (length + 3)

set_option maxRecDepth 100000 in
theorem SlotCount_any (size length : Int) (w : World) :
    Calls Tryd.prog 28 #[.int .i64 size, .int .i64 length] w fun e w' => e = .returned (.int .i64 (slotsN size length)) ∧ w = w' := by
  by_cases h1 : isSizeB size = true
  · obtain ⟨n, rfl, hn⟩ := isSize_nat h1
    by_cases h2 : length < 1
    · have HE : Hid (slotsN n length = 0) := Lib.hid (by unfold slotsN; rw [if_pos (by omega)])
      go_enter Tryd.func28, Tryd.ntmps28
      go_wp2_with (go_at_call 30; refine (isSize_any _ _).mono ?_; rintro e w' ⟨rfl, rfl⟩)
      go_ret
      exact ⟨ret_int HE.out.symm, rfl⟩
    · have h2' : decide (length < 1) = false := by simpa using h2
      have hm : min (200 : Int) ((n : Int) - 4 - 3) = if (n : Int) = 128 then 121 else 200 := by split <;> omega
      have i1 : IntKind.i64.wrap ((n : Int) - 4) = n - 4 := IntWalk.i64_in _ (by omega)
      have i2 : IntKind.i64.wrap ((n : Int) - 4 - 3) = n - 4 - 3 := IntWalk.i64_in _ (by omega)
      by_cases h3 : min (200 : Int) ((n : Int) - 4 - 3) < length
      · have HE : Hid (slotsN n length = 0) := Lib.hid (by unfold slotsN; rw [if_pos (by omega)])
        go_enter Tryd.func28, Tryd.ntmps28
        go_wp2_with (go_at_call 30; refine (isSize_any _ _).mono ?_; rintro e w' ⟨rfl, rfl⟩)
        all_goals (go_ret; exact ⟨ret_int HE.out.symm, rfl⟩)
      · have hl : length ≤ 200 := by omega
        have hl2 : length ≤ n - 7 := by omega
        have HE : Hid (slotsN n length = ((n : Int) - 4) / (length + 3)) := Lib.hid (by unfold slotsN; rw [if_neg (by simp [h1]; omega)])
        have hq : ((n : Int) - 4).tdiv (length + 3) = ((n : Int) - 4) / (length + 3) := Int.tdiv_eq_ediv_of_nonneg (by omega)
        have q1 : 0 ≤ ((n : Int) - 4) / (length + 3) := Int.ediv_nonneg (by omega) (by omega)
        have q2 : ((n : Int) - 4) / (length + 3) ≤ (n : Int) - 4 := Int.ediv_le_self _ (by omega)
        generalize ((n : Int) - 4) / (length + 3) = q at *
        have q3 : IntKind.i64.wrap q = q := IntWalk.i64_in _ (by omega)
        have l1 : IntKind.i64.wrap (length + 3) = length + 3 := IntWalk.i64_in _ (by omega)
        have l2 : ¬ length + 3 = 0 := by omega
        go_enter Tryd.func28, Tryd.ntmps28
        go_wp2_with (go_at_call 30; refine (isSize_any _ _).mono ?_; rintro e w' ⟨rfl, rfl⟩)
        all_goals (go_ret; exact ⟨ret_int HE.out.symm, rfl⟩)
  · have h1' : isSizeB size = false := by simpa using h1
    have HE : Hid (slotsN size length = 0) := Lib.hid (by unfold slotsN; rw [if_pos (.inl h1')])
    clear h1
    go_enter Tryd.func28, Tryd.ntmps28
    go_wp2_with (go_at_call 30; refine (isSize_any _ _).mono ?_; rintro e w' ⟨rfl, rfl⟩)
    go_ret
    exact ⟨ret_int HE.out.symm, rfl⟩

/-- The chapter's example. -/
def exL : List (List UInt8) := [[97, 98], [99, 100], [101]]
set_option maxRecDepth 10000 in
theorem ex_enc : encErr 128 exL = 0 := by decide
set_option maxRecDepth 10000 in
theorem ex_len : (encStr 128 exL).length = 128 := by decide
set_option maxRecDepth 10000 in
theorem ex_head : (encStr 128 exL).take 5 = [97, 98, 99, 100, 101] := by decide
set_option maxRecDepth 10000 in
theorem ex_tail : (encStr 128 exL).drop 115 = [0, 1, 0, 8, 2, 0, 64, 2, 0, 5, 0, 110, 0] := by decide
theorem ex_size : sizeL exL = 18 := by decide
theorem ex_small : Small exL := ⟨by decide, by decide⟩

theorem ex_max : exL.length ≤ maxLen := by unfold maxLen; simp [exL]
theorem strs_ex (w : World) (t : TypeId) : Strs (w.alloc (.cells #[.string ⟨#[97, 98]⟩, .string ⟨#[99, 100]⟩, .string ⟨#[101]⟩] t)) (some ⟨w.heap.size, 0, none⟩) exL := strs_new w exL t
theorem ex_texts (p : Option Addr) (cap : Nat) (w : World) (h : Strs w p exL) :
    Calls Tryd.prog 13 #[.slice p 3 cap, .slice (some ⟨w.heap.size, 0, none⟩) 3 3] (w.alloc (.cells #[.string ⟨#[97, 98]⟩, .string ⟨#[99, 100]⟩, .string ⟨#[101]⟩] 9)) fun e w' => e = .returned (.bool true) ∧ Ext w w' := by
  refine (Texts_any p (some ⟨w.heap.size, 0, none⟩) cap 3 3 3 exL exL _ (h.ext (Ext.alloc _ _)) (strs_ex w 9) rfl rfl ex_max ex_max).mono ?_
  rintro e w' ⟨he, hq⟩
  refine ⟨by rw [he]; exact ret_bool (by simp), (Ext.alloc _ _).trans (Ext.of_drawn hq)⟩
theorem ex_sizes (w : World) :
    Calls Tryd.prog 19 #[.slice (some ⟨w.heap.size, 0, none⟩) 3 3] (w.alloc (.cells #[.string ⟨#[97, 98]⟩, .string ⟨#[99, 100]⟩, .string ⟨#[101]⟩] 9)) fun e w' => e = .returned (.int .i64 18) ∧ Ext w w' := by
  refine (Size_any _ 3 3 exL _ (strs_ex w 9) rfl (by decide) (by decide) ex_small).mono ?_
  rintro e w' ⟨he, hq⟩
  refine ⟨by rw [he, ex_size]; rfl, (Ext.alloc _ _).trans hq⟩
theorem ex_encode (w : World) :
    Calls Tryd.prog 16 #[.int .i64 128, .slice (some ⟨w.heap.size, 0, none⟩) 3 3] (w.alloc (.cells #[.string ⟨#[97, 98]⟩, .string ⟨#[99, 100]⟩, .string ⟨#[101]⟩] 9)) fun e w' => e = .returned (.tuple #[.string ⟨(encStr 128 exL).toArray⟩, .int .i64 0]) ∧ Ext w w' := by
  refine (Encode_any _ 3 3 exL 128 _ (strs_ex w 9) rfl (by decide) (by decide) ex_small).mono ?_
  rintro e w' ⟨he, hq⟩
  refine ⟨by rw [he, ex_enc], (Ext.alloc _ _).trans hq⟩
theorem ex_decode (w : World) :
    Calls Tryd.prog 11 #[.int .i64 128, .string ⟨(encStr 128 exL).toArray⟩] w fun e w' => ∃ p cap, e = .returned (.tuple #[.slice p 3 cap, .int .i64 0]) ∧ Strs w' p exL ∧ Ext w w' := by
  refine (Decode_any 128 (encStr 128 exL) (by rw [ex_len]; omega) w).mono ?_
  rintro e w' ⟨he, ⟨p, cap, L, hee, hsl, hsm, hel, _⟩ | ⟨_, hno⟩⟩
  · have hLL : L = exL := enc_inj (n := 128) (by omega) ⟨ex_enc, rfl⟩ hel
    subst hLL
    exact ⟨p, cap, hee, hsl, he⟩
  · exact absurd ⟨ex_enc, rfl⟩ (hno exL)
theorem ex_slots : slotsN 128 10 = 9 := by decide

set_option maxRecDepth 100000 in
set_option maxHeartbeats 1000000 in
theorem awake_any (w : World) : Calls Tryd.prog 10 #[] w fun e w' => e = .returned (.bool true) ∧ Ext w w' := by
  have h2 := ex_len
  have h3 := ex_head
  have h4 := ex_tail
  have h5 := ex_slots
  have Hen := Lib.hid ex_encode
  have Hdec := Lib.hid ex_decode
  generalize encStr 128 exL = s at *
  go_enter Tryd.func10, Tryd.ntmps10
  go_wp2_with (first | (go_at_call 16; go_must (refine (Hen.out _).mono ?_; rintro e w1 ⟨rfl, he1⟩)) | (go_at_call 11; go_must (refine (Hdec.out _).mono ?_; rintro e w2 ⟨p, cap, rfl, hsl, he2⟩; have HSL := Lib.hid hsl; clear hsl)) | (go_at_call 13; go_must (refine (ex_texts p cap w2 HSL.out).mono ?_; rintro e w3 ⟨rfl, he3⟩)) | (go_at_call 19; go_must (refine (ex_sizes _).mono ?_; rintro e w4 ⟨rfl, he4⟩)) | (go_at_call 28; refine (SlotCount_any _ _ _).mono ?_; rintro e w5 ⟨rfl, rfl⟩))
  go_ret
  exact ⟨rfl, ((he1.trans he2).trans he3).trans he4⟩
end Go.Proofs.YtadeohkcaaoflaaDoor
