/- The walks of SlotCount and awake. -/
import Derived.Test.YtmnpappbacndlaaGreatDoorW2
import Derived.Test.YtmnpappbacndlaaGreatDoorP17f
set_option linter.unusedSimpArgs false
set_option linter.unusedVariables false
namespace Go.Proofs.YtmnpappbacndlaaGreatDoor
open Go.RowKit Dsd

theorem strs_new (w : World) (L : List (List UInt8)) (t : TypeId) : Strs (w.alloc (.cells (L.map fun s => Value.string ⟨s.toArray⟩).toArray t)) (some ⟨w.heap.size, 0, none⟩) L := by
  refine .inr ⟨w.heap.size, 0, rfl, by simp, fun i hi => ?_⟩
  have hb : Blk _ _ _ := Blk.new w (.cells (L.map fun s => Value.string ⟨s.toArray⟩).toArray t)
  simp only [List.length_map] at hi
  unfold Blk at hb
  unfold World.cell?
  simp only [hb]
  simp [hi, List.getD]


set_option maxRecDepth 100000 in
theorem SlotCount_any (size length : Int) (w : World) :
    Calls Tryz.prog 24 #[.int .i64 size, .int .i64 length] w fun e w' => e = .returned (.int .i64 (slotsN size length)) ∧ w = w' := by
  by_cases h1 : isSizeB size = true
  · obtain ⟨n, rfl, hn⟩ := isSize_nat h1
    by_cases h2 : length < 1
    · have HE : Hid (slotsN n length = 0) := Lib.hid (by unfold slotsN; rw [if_pos (by omega)])
      go_enter Tryz.func24, Tryz.ntmps24
      go_wp2_with (go_at_call 44; refine (isSize_any _ _).mono ?_; rintro e w' ⟨rfl, rfl⟩)
      go_ret
      exact ⟨ret_int HE.out.symm, rfl⟩
    · have h2' : decide (length < 1) = false := by simpa using h2
      have hm : min (200 : Int) ((n : Int) - 4 - 3) = if (n : Int) = 128 then 121 else 200 := by split <;> omega
      have i1 : IntKind.i64.wrap ((n : Int) - 4) = n - 4 := IntWalk.i64_in _ (by omega)
      have i2 : IntKind.i64.wrap ((n : Int) - 4 - 3) = n - 4 - 3 := IntWalk.i64_in _ (by omega)
      by_cases h3 : min (200 : Int) ((n : Int) - 4 - 3) < length
      · have HE : Hid (slotsN n length = 0) := Lib.hid (by unfold slotsN; rw [if_pos (by omega)])
        go_enter Tryz.func24, Tryz.ntmps24
        go_wp2_with (go_at_call 44; refine (isSize_any _ _).mono ?_; rintro e w' ⟨rfl, rfl⟩)
        all_goals (go_ret; exact ⟨ret_int HE.out.symm, rfl⟩)
      · have hl : length ≤ 200 := by omega
        have hl2 : length ≤ n - 7 := by omega
        have HE : Hid (slotsN n length = ((n : Int) - 4) / (length + 3)) := Lib.hid (by unfold slotsN; rw [if_neg (by simp [h1]; omega)])
        have hq : ((n : Int) - 4).tdiv (length + 3) = ((n : Int) - 4) / (length + 3) := Int.tdiv_eq_ediv_of_nonneg (by omega)
        have q1 : 0 ≤ ((n : Int) - 4) / (length + 3) := Int.ediv_nonneg (by omega) (by omega)
        have q2 : ((n : Int) - 4) / (length + 3) ≤ (n : Int) - 4 := Int.ediv_le_self _ (by omega)
        generalize ((n : Int) - 4) / (length + 3) = q at *
        have q3 : IntKind.i64.wrap q = q := IntWalk.i64_in _ (by omega)
        have l1 : IntKind.i64.wrap (length + 3) = length + 3 := IntWalk.i64_in _ (by omega)
        have l2 : ¬ length + 3 = 0 := by omega
        go_enter Tryz.func24, Tryz.ntmps24
        go_wp2_with (go_at_call 44; refine (isSize_any _ _).mono ?_; rintro e w' ⟨rfl, rfl⟩)
        all_goals (go_ret; exact ⟨ret_int HE.out.symm, rfl⟩)
  · have h1' : isSizeB size = false := by simpa using h1
    have HE : Hid (slotsN size length = 0) := Lib.hid (by unfold slotsN; rw [if_pos (.inl h1')])
    clear h1
    go_enter Tryz.func24, Tryz.ntmps24
    go_wp2_with (go_at_call 44; refine (isSize_any _ _).mono ?_; rintro e w' ⟨rfl, rfl⟩)
    go_ret
    exact ⟨ret_int HE.out.symm, rfl⟩

end Go.Proofs.YtmnpappbacndlaaGreatDoor
