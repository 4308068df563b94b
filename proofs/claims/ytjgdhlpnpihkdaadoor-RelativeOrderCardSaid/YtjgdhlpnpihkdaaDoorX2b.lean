/- The walk of chapter 16's Valid (program): any description. -/
import Derived.Test.YtjgdhlpnpihkdaaDoorX2a
set_option linter.unusedSimpArgs false
set_option linter.unusedVariables false
namespace Go.Proofs.YtjgdhlpnpihkdaaDoor
open Go.RowKit Dsd

set_option maxRecDepth 100000 in
set_option maxHeartbeats 1000000 in
theorem Valid_key_n (d : DS) (w : World) (h1 : (d.interval == 128) = false) (h2 : (d.interval == 256) = false) (h4 : (d.interval == 512) = false) : Calls Tryd.prog 78 #[.agg #[.int .i64 d.id, .int .i64 d.org, .int .i64 d.format, .int .i64 d.length, .int .i64 d.block, .int .i64 d.keyAt, .int .i64 d.keyLength, .int .i64 d.interval, .int .i64 d.area, .int .i64 d.freeInterval, .int .i64 d.freeArea, .int .i64 d.base, .int .i64 d.altAt, .int .i64 d.altLength, .bool d.unique, .int .i64 d.cls, .string ⟨d.volume.toArray⟩, .string ⟨d.owner.toArray⟩, .int .i64 d.created, .int .i64 d.expires, .bool d.archived]] w fun e w' => e = .returned (.bool (validB d)) ∧ Ext w w' := by
  have HN : Hid (false = validB d) := Lib.hid (valid_no (by simp at h1 h2 h4; unfold ValidP; omega))
  have i0 : ∀ w, (Instr.index 170 (.agg #[.int .i64 128, .int .i64 256, .int .i64 512]) (.int .i64 0)).run Tryd.prog w = .ok (.int .i64 128) w := fun _ => by kernel_rfl
  have i1 : ∀ w, (Instr.index 170 (.agg #[.int .i64 128, .int .i64 256, .int .i64 512]) (.int .i64 1)).run Tryd.prog w = .ok (.int .i64 256) w := fun _ => by kernel_rfl
  have i2 : ∀ w, (Instr.index 170 (.agg #[.int .i64 128, .int .i64 256, .int .i64 512]) (.int .i64 2)).run Tryd.prog w = .ok (.int .i64 512) w := fun _ => by kernel_rfl
  go_enter Tryd.func78, Tryd.ntmps78
  go_wp2
  go_loop [4, 9] (fun kn i => ∃ k : Nat, k ≤ 3 ∧ i = .int .i64 k ∧ kn = .bool (decide (3 < k))) (fun _ i => 3 - (intOf i).toNat)
  case atStart => exact ⟨0, Nat.zero_le _, rfl, rfl⟩
  case round =>
    obtain ⟨k, hk, rfl, rfl⟩ := hrel
    by_cases k0 : k = 0
    · subst k0
      go_wp2
      go_round
      case rel => exact ⟨1, by omega, rfl, rfl⟩
      case measure => simp [intOf]
    · by_cases k1 : k = 1
      · subst k1
        go_wp2
        go_round
        case rel => exact ⟨2, by omega, rfl, rfl⟩
        case measure => simp [intOf]
      · by_cases k2 : k = 2
        · subst k2
          go_wp2
          go_round
          case rel => exact ⟨3, by omega, rfl, rfl⟩
          case measure => simp [intOf]
        · obtain rfl : k = 3 := by omega
          clear i0 i1 i2 k0 k1 k2
          go_wp2_with (first | (go_at_call 102; refine (within_any _ _ _ _).mono ?_; rintro e w' ⟨rfl, rfl⟩))
          all_goals go_ret
          all_goals exact ⟨ret_bool HN.out, (by repeat (first | exact Ext.refl _ | exact Ext.alloc _ _ | refine Ext.trans ?_ (Ext.alloc _ _)))⟩

theorem Valid_any (d : DS) (w : World) : Calls Tryd.prog 78 #[.agg #[.int .i64 d.id, .int .i64 d.org, .int .i64 d.format, .int .i64 d.length, .int .i64 d.block, .int .i64 d.keyAt, .int .i64 d.keyLength, .int .i64 d.interval, .int .i64 d.area, .int .i64 d.freeInterval, .int .i64 d.freeArea, .int .i64 d.base, .int .i64 d.altAt, .int .i64 d.altLength, .bool d.unique, .int .i64 d.cls, .string ⟨d.volume.toArray⟩, .string ⟨d.owner.toArray⟩, .int .i64 d.created, .int .i64 d.expires, .bool d.archived]] w fun e w' => e = .returned (.bool (validB d)) ∧ Ext w w' := by
  by_cases b1 : d.interval = 128
  · exact Valid_key_128 d w b1
  · by_cases b2 : d.interval = 256
    · exact Valid_key_256 d w b2
    · by_cases b3 : d.interval = 512
      · exact Valid_key_512 d w b3
      · exact Valid_key_n d w (by simpa using b1) (by simpa using b2) (by simpa using b3)
end Go.Proofs.YtjgdhlpnpihkdaaDoor
