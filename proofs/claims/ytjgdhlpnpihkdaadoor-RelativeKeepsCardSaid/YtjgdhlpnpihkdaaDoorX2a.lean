/- The walk of chapter 16's Valid (program): intervals of 128 bytes. -/
import Derived.Test.YtjgdhlpnpihkdaaDoorX2
set_option linter.unusedSimpArgs false
set_option linter.unusedVariables false
namespace Go.Proofs.YtjgdhlpnpihkdaaDoor
open Go.RowKit Dsd

set_option maxRecDepth 100000 in
set_option maxHeartbeats 1000000 in
theorem Valid_key_o128 (d : DS) (w : World) (hs : d.interval = 128) (ho : ¬ (1 ≤ d.org ∧ d.org ≤ 3)) (hO : (decide (1 ≤ d.org) && decide (d.org ≤ 3)) = false) : Calls Tryd.prog 78 #[.agg #[.int .i64 d.id, .int .i64 d.org, .int .i64 d.format, .int .i64 d.length, .int .i64 d.block, .int .i64 d.keyAt, .int .i64 d.keyLength, .int .i64 d.interval, .int .i64 d.area, .int .i64 d.freeInterval, .int .i64 d.freeArea, .int .i64 d.base, .int .i64 d.altAt, .int .i64 d.altLength, .bool d.unique, .int .i64 d.cls, .string ⟨d.volume.toArray⟩, .string ⟨d.owner.toArray⟩, .int .i64 d.created, .int .i64 d.expires, .bool d.archived]] w fun e w' => e = .returned (.bool (validB d)) ∧ Ext w w' := by
  have i0 : ∀ w, (Instr.index 170 (.agg #[.int .i64 128, .int .i64 256, .int .i64 512]) (.int .i64 0)).run Tryd.prog w = .ok (.int .i64 128) w := fun _ => by kernel_rfl
  have i1 : ∀ w, (Instr.index 170 (.agg #[.int .i64 128, .int .i64 256, .int .i64 512]) (.int .i64 1)).run Tryd.prog w = .ok (.int .i64 256) w := fun _ => by kernel_rfl
  have i2 : ∀ w, (Instr.index 170 (.agg #[.int .i64 128, .int .i64 256, .int .i64 512]) (.int .i64 2)).run Tryd.prog w = .ok (.int .i64 512) w := fun _ => by kernel_rfl
  simp only [hs]
  go_enter Tryd.func78, Tryd.ntmps78
  go_wp2
  go_loop [4, 9] (fun kn i => ∃ k : Nat, k ≤ 3 ∧ i = .int .i64 k ∧ kn = .bool (decide (0 < k))) (fun _ i => 3 - (intOf i).toNat)
  case atStart => exact ⟨0, Nat.zero_le _, rfl, rfl⟩
  case round =>
    obtain ⟨k, hk, rfl, rfl⟩ := hrel
    by_cases k0 : k = 0
    · subst k0
      go_wp2
      go_round
      case rel => exact ⟨1, by omega, rfl, rfl⟩
      case measure => simp [intOf]
    · by_cases k1 : k = 1
      · subst k1
        go_wp2
        go_round
        case rel => exact ⟨2, by omega, rfl, rfl⟩
        case measure => simp [intOf]
      · by_cases k2 : k = 2
        · subst k2
          go_wp2
          go_round
          case rel => exact ⟨3, by omega, rfl, rfl⟩
          case measure => simp [intOf]
        · obtain rfl : k = 3 := by omega
          clear i0 i1 i2 k0 k1 k2
          go_wp2_with (first | (go_at_call 102; refine (within_any _ _ _ _).mono ?_; rintro e w' ⟨rfl, rfl⟩))
          all_goals go_ret
          all_goals exact ⟨ret_bool (valid_no (by unfold ValidP; omega)), (by repeat (first | exact Ext.refl _ | exact Ext.alloc _ _ | refine Ext.trans ?_ (Ext.alloc _ _)))⟩

set_option maxRecDepth 100000 in
set_option maxHeartbeats 1000000 in
theorem Valid_key_l128 (d : DS) (w : World) (hs : d.interval = 128) (ho : 1 ≤ d.org) (ho2 : d.org ≤ 3) (hl : ¬ (1 ≤ d.length ∧ d.length ≤ 121)) (hL : (decide (1 ≤ d.length) && decide (d.length ≤ 121)) = false) : Calls Tryd.prog 78 #[.agg #[.int .i64 d.id, .int .i64 d.org, .int .i64 d.format, .int .i64 d.length, .int .i64 d.block, .int .i64 d.keyAt, .int .i64 d.keyLength, .int .i64 d.interval, .int .i64 d.area, .int .i64 d.freeInterval, .int .i64 d.freeArea, .int .i64 d.base, .int .i64 d.altAt, .int .i64 d.altLength, .bool d.unique, .int .i64 d.cls, .string ⟨d.volume.toArray⟩, .string ⟨d.owner.toArray⟩, .int .i64 d.created, .int .i64 d.expires, .bool d.archived]] w fun e w' => e = .returned (.bool (validB d)) ∧ Ext w w' := by
  have i0 : ∀ w, (Instr.index 170 (.agg #[.int .i64 128, .int .i64 256, .int .i64 512]) (.int .i64 0)).run Tryd.prog w = .ok (.int .i64 128) w := fun _ => by kernel_rfl
  have i1 : ∀ w, (Instr.index 170 (.agg #[.int .i64 128, .int .i64 256, .int .i64 512]) (.int .i64 1)).run Tryd.prog w = .ok (.int .i64 256) w := fun _ => by kernel_rfl
  have i2 : ∀ w, (Instr.index 170 (.agg #[.int .i64 128, .int .i64 256, .int .i64 512]) (.int .i64 2)).run Tryd.prog w = .ok (.int .i64 512) w := fun _ => by kernel_rfl
  simp only [hs]
  go_enter Tryd.func78, Tryd.ntmps78
  go_wp2
  go_loop [4, 9] (fun kn i => ∃ k : Nat, k ≤ 3 ∧ i = .int .i64 k ∧ kn = .bool (decide (0 < k))) (fun _ i => 3 - (intOf i).toNat)
  case atStart => exact ⟨0, Nat.zero_le _, rfl, rfl⟩
  case round =>
    obtain ⟨k, hk, rfl, rfl⟩ := hrel
    by_cases k0 : k = 0
    · subst k0
      go_wp2
      go_round
      case rel => exact ⟨1, by omega, rfl, rfl⟩
      case measure => simp [intOf]
    · by_cases k1 : k = 1
      · subst k1
        go_wp2
        go_round
        case rel => exact ⟨2, by omega, rfl, rfl⟩
        case measure => simp [intOf]
      · by_cases k2 : k = 2
        · subst k2
          go_wp2
          go_round
          case rel => exact ⟨3, by omega, rfl, rfl⟩
          case measure => simp [intOf]
        · obtain rfl : k = 3 := by omega
          clear i0 i1 i2 k0 k1 k2
          go_wp2_with (first | (go_at_call 102; refine (within_any _ _ _ _).mono ?_; rintro e w' ⟨rfl, rfl⟩))
          all_goals go_ret
          all_goals exact ⟨ret_bool (valid_no (by unfold ValidP; omega)), (by repeat (first | exact Ext.refl _ | exact Ext.alloc _ _ | refine Ext.trans ?_ (Ext.alloc _ _)))⟩

set_option maxRecDepth 100000 in
set_option maxHeartbeats 1000000 in
theorem Valid_key_z128 (d : DS) (w : World) (hs : d.interval = 128) (ho : 1 ≤ d.org) (ho2 : d.org ≤ 3) (hl : 1 ≤ d.length) (hl2 : d.length ≤ 121) (hz : ¬ (d.format = 0 ∧ d.block = 0)) : Calls Tryd.prog 78 #[.agg #[.int .i64 d.id, .int .i64 d.org, .int .i64 d.format, .int .i64 d.length, .int .i64 d.block, .int .i64 d.keyAt, .int .i64 d.keyLength, .int .i64 d.interval, .int .i64 d.area, .int .i64 d.freeInterval, .int .i64 d.freeArea, .int .i64 d.base, .int .i64 d.altAt, .int .i64 d.altLength, .bool d.unique, .int .i64 d.cls, .string ⟨d.volume.toArray⟩, .string ⟨d.owner.toArray⟩, .int .i64 d.created, .int .i64 d.expires, .bool d.archived]] w fun e w' => e = .returned (.bool (validB d)) ∧ Ext w w' := by
  have HN : Hid (false = validB d) := Lib.hid (valid_no (by unfold ValidP; omega))
  have HZ : Hid ([d.format, d.block].all (· == 0) = false) := Lib.hid (by simp; omega)
  clear hz
  have i0 : ∀ w, (Instr.index 170 (.agg #[.int .i64 128, .int .i64 256, .int .i64 512]) (.int .i64 0)).run Tryd.prog w = .ok (.int .i64 128) w := fun _ => by kernel_rfl
  have i1 : ∀ w, (Instr.index 170 (.agg #[.int .i64 128, .int .i64 256, .int .i64 512]) (.int .i64 1)).run Tryd.prog w = .ok (.int .i64 256) w := fun _ => by kernel_rfl
  have i2 : ∀ w, (Instr.index 170 (.agg #[.int .i64 128, .int .i64 256, .int .i64 512]) (.int .i64 2)).run Tryd.prog w = .ok (.int .i64 512) w := fun _ => by kernel_rfl
  simp only [hs]
  go_enter Tryd.func78, Tryd.ntmps78
  go_wp2
  go_loop [4, 9] (fun kn i => ∃ k : Nat, k ≤ 3 ∧ i = .int .i64 k ∧ kn = .bool (decide (0 < k))) (fun _ i => 3 - (intOf i).toNat)
  case atStart => exact ⟨0, Nat.zero_le _, rfl, rfl⟩
  case round =>
    obtain ⟨k, hk, rfl, rfl⟩ := hrel
    by_cases k0 : k = 0
    · subst k0
      go_wp2
      go_round
      case rel => exact ⟨1, by omega, rfl, rfl⟩
      case measure => simp [intOf]
    · by_cases k1 : k = 1
      · subst k1
        go_wp2
        go_round
        case rel => exact ⟨2, by omega, rfl, rfl⟩
        case measure => simp [intOf]
      · by_cases k2 : k = 2
        · subst k2
          go_wp2
          go_round
          case rel => exact ⟨3, by omega, rfl, rfl⟩
          case measure => simp [intOf]
        · obtain rfl : k = 3 := by omega
          clear i0 i1 i2 k0 k1 k2
          go_wp2_with (first | (go_at_call 102; refine (within_any _ _ _ _).mono ?_; rintro e w' ⟨rfl, rfl⟩) | (go_at_call 109; go_must (refine (zeros_key _ _ 2 [d.format, d.block] _ (ints_at _ _ [d.format, d.block] 3 _ rfl (by simp)) rfl (by omega)).mono ?_; rw [HZ.out]; rintro e w' ⟨rfl, rfl⟩)))
          all_goals go_ret
          all_goals exact ⟨ret_bool HN.out, (by repeat (first | exact Ext.refl _ | exact Ext.alloc _ _ | refine Ext.trans ?_ (Ext.alloc _ _)))⟩

set_option maxRecDepth 100000 in
set_option maxHeartbeats 1000000 in
theorem Valid_key_e128 (d : DS) (w : World) (hs : d.interval = 128) (ho : 1 ≤ d.org) (ho2 : d.org ≤ 3) (h3 : (d.org != 3) = true) (hl : 1 ≤ d.length) (hl2 : d.length ≤ 121) (hf : d.format = 0) (hb : d.block = 0) : Calls Tryd.prog 78 #[.agg #[.int .i64 d.id, .int .i64 d.org, .int .i64 d.format, .int .i64 d.length, .int .i64 d.block, .int .i64 d.keyAt, .int .i64 d.keyLength, .int .i64 d.interval, .int .i64 d.area, .int .i64 d.freeInterval, .int .i64 d.freeArea, .int .i64 d.base, .int .i64 d.altAt, .int .i64 d.altLength, .bool d.unique, .int .i64 d.cls, .string ⟨d.volume.toArray⟩, .string ⟨d.owner.toArray⟩, .int .i64 d.created, .int .i64 d.expires, .bool d.archived]] w fun e w' => e = .returned (.bool (validB d)) ∧ Ext w w' := by
  have h3' : d.org ≠ 3 := by simpa using h3
  have HZ : Hid ([d.format, d.block].all (· == 0) = true) := Lib.hid (by simp [hf, hb])
  have HV : Hid ([d.keyAt, d.keyLength, d.area, d.freeInterval, d.freeArea].all (· == 0) = validB d) := Lib.hid (by
    cases hv : [d.keyAt, d.keyLength, d.area, d.freeInterval, d.freeArea].all (· == 0)
    · refine valid_no (fun k => ?_)
      obtain ⟨a, b, c, e, f⟩ := k.2.2.2.2.2.2.2.2.2 h3'
      rw [a, b, c, e, f] at hv
      simp at hv
    · simp at hv
      exact valid_yes (by unfold ValidP; omega))
  clear hf hb h3'
  have i0 : ∀ w, (Instr.index 170 (.agg #[.int .i64 128, .int .i64 256, .int .i64 512]) (.int .i64 0)).run Tryd.prog w = .ok (.int .i64 128) w := fun _ => by kernel_rfl
  have i1 : ∀ w, (Instr.index 170 (.agg #[.int .i64 128, .int .i64 256, .int .i64 512]) (.int .i64 1)).run Tryd.prog w = .ok (.int .i64 256) w := fun _ => by kernel_rfl
  have i2 : ∀ w, (Instr.index 170 (.agg #[.int .i64 128, .int .i64 256, .int .i64 512]) (.int .i64 2)).run Tryd.prog w = .ok (.int .i64 512) w := fun _ => by kernel_rfl
  simp only [hs]
  go_enter Tryd.func78, Tryd.ntmps78
  go_wp2
  go_loop [4, 9] (fun kn i => ∃ k : Nat, k ≤ 3 ∧ i = .int .i64 k ∧ kn = .bool (decide (0 < k))) (fun _ i => 3 - (intOf i).toNat)
  case atStart => exact ⟨0, Nat.zero_le _, rfl, rfl⟩
  case round =>
    obtain ⟨k, hk, rfl, rfl⟩ := hrel
    by_cases k0 : k = 0
    · subst k0
      go_wp2
      go_round
      case rel => exact ⟨1, by omega, rfl, rfl⟩
      case measure => simp [intOf]
    · by_cases k1 : k = 1
      · subst k1
        go_wp2
        go_round
        case rel => exact ⟨2, by omega, rfl, rfl⟩
        case measure => simp [intOf]
      · by_cases k2 : k = 2
        · subst k2
          go_wp2
          go_round
          case rel => exact ⟨3, by omega, rfl, rfl⟩
          case measure => simp [intOf]
        · obtain rfl : k = 3 := by omega
          clear i0 i1 i2 k0 k1 k2
          go_wp2_with (first | (go_at_call 109; have tk := HZ; (refine (zeros_key _ _ 2 [d.format, d.block] _ (ints_at _ _ [d.format, d.block] 3 _ rfl (by simp)) rfl (by omega)).mono ?_; rw [HZ.out]; rintro e w' ⟨rfl, rfl⟩; clear HZ tk)) | (go_at_call 109; go_must (refine (zeros_key _ _ 5 [d.keyAt, d.keyLength, d.area, d.freeInterval, d.freeArea] _ (ints_at _ _ [d.keyAt, d.keyLength, d.area, d.freeInterval, d.freeArea] 3 _ rfl (by simp)) rfl (by omega)).mono ?_; rw [HV.out]; rintro e w' ⟨rfl, rfl⟩)) | (go_at_call 102; refine (within_any _ _ _ _).mono ?_; rintro e w' ⟨rfl, rfl⟩))
          all_goals go_ret
          all_goals exact ⟨ret_bool rfl, (by repeat (first | exact Ext.refl _ | exact Ext.alloc _ _ | refine Ext.trans ?_ (Ext.alloc _ _)))⟩

set_option maxRecDepth 100000 in
set_option maxHeartbeats 1000000 in
theorem Valid_key_k128 (d : DS) (w : World) (hs : d.interval = 128) (h3 : d.org = 3) (hl : 1 ≤ d.length) (hl2 : d.length ≤ 121) (hf : d.format = 0) (hb : d.block = 0) : Calls Tryd.prog 78 #[.agg #[.int .i64 d.id, .int .i64 d.org, .int .i64 d.format, .int .i64 d.length, .int .i64 d.block, .int .i64 d.keyAt, .int .i64 d.keyLength, .int .i64 d.interval, .int .i64 d.area, .int .i64 d.freeInterval, .int .i64 d.freeArea, .int .i64 d.base, .int .i64 d.altAt, .int .i64 d.altLength, .bool d.unique, .int .i64 d.cls, .string ⟨d.volume.toArray⟩, .string ⟨d.owner.toArray⟩, .int .i64 d.created, .int .i64 d.expires, .bool d.archived]] w fun e w' => e = .returned (.bool (validB d)) ∧ Ext w w' := by
  have HZ : Hid ([d.format, d.block].all (· == 0) = true) := Lib.hid (by simp [hf, hb])
  have HF := Lib.hid hf
  have HB := Lib.hid hb
  clear hf hb
  have i0 : ∀ w, (Instr.index 170 (.agg #[.int .i64 128, .int .i64 256, .int .i64 512]) (.int .i64 0)).run Tryd.prog w = .ok (.int .i64 128) w := fun _ => by kernel_rfl
  have i1 : ∀ w, (Instr.index 170 (.agg #[.int .i64 128, .int .i64 256, .int .i64 512]) (.int .i64 1)).run Tryd.prog w = .ok (.int .i64 256) w := fun _ => by kernel_rfl
  have i2 : ∀ w, (Instr.index 170 (.agg #[.int .i64 128, .int .i64 256, .int .i64 512]) (.int .i64 2)).run Tryd.prog w = .ok (.int .i64 512) w := fun _ => by kernel_rfl
  simp only [hs, h3]
  go_enter Tryd.func78, Tryd.ntmps78
  go_wp2
  go_loop [4, 9] (fun kn i => ∃ k : Nat, k ≤ 3 ∧ i = .int .i64 k ∧ kn = .bool (decide (0 < k))) (fun _ i => 3 - (intOf i).toNat)
  case atStart => exact ⟨0, Nat.zero_le _, rfl, rfl⟩
  case round =>
    obtain ⟨k, hk, rfl, rfl⟩ := hrel
    by_cases k0 : k = 0
    · subst k0
      go_wp2
      go_round
      case rel => exact ⟨1, by omega, rfl, rfl⟩
      case measure => simp [intOf]
    · by_cases k1 : k = 1
      · subst k1
        go_wp2
        go_round
        case rel => exact ⟨2, by omega, rfl, rfl⟩
        case measure => simp [intOf]
      · by_cases k2 : k = 2
        · subst k2
          go_wp2
          go_round
          case rel => exact ⟨3, by omega, rfl, rfl⟩
          case measure => simp [intOf]
        · obtain rfl : k = 3 := by omega
          clear i0 i1 i2 k0 k1 k2
          go_wp2_with (first | (go_at_call 109; go_must (refine (zeros_key _ _ 2 [d.format, d.block] _ (ints_at _ _ [d.format, d.block] 3 _ rfl (by simp)) rfl (by omega)).mono ?_; rw [HZ.out]; rintro e w' ⟨rfl, rfl⟩)) | (go_at_call 102; refine (within_any _ _ _ _).mono ?_; rintro e w' ⟨rfl, rfl⟩))
          all_goals go_ret
          all_goals first | exact ⟨ret_bool (valid_no (by unfold ValidP; have := HF.out; have := HB.out; omega)), (by repeat (first | exact Ext.refl _ | exact Ext.alloc _ _ | refine Ext.trans ?_ (Ext.alloc _ _)))⟩ | exact ⟨ret_bool (valid_last (by unfold ValidP; simp only [decide_eq_true_eq]; omega) (by unfold ValidP; simp only [decide_eq_true_eq]; have := HF.out; have := HB.out; omega)), (by repeat (first | exact Ext.refl _ | exact Ext.alloc _ _ | refine Ext.trans ?_ (Ext.alloc _ _)))⟩

theorem Valid_key_128 (d : DS) (w : World) (hs : d.interval = 128) : Calls Tryd.prog 78 #[.agg #[.int .i64 d.id, .int .i64 d.org, .int .i64 d.format, .int .i64 d.length, .int .i64 d.block, .int .i64 d.keyAt, .int .i64 d.keyLength, .int .i64 d.interval, .int .i64 d.area, .int .i64 d.freeInterval, .int .i64 d.freeArea, .int .i64 d.base, .int .i64 d.altAt, .int .i64 d.altLength, .bool d.unique, .int .i64 d.cls, .string ⟨d.volume.toArray⟩, .string ⟨d.owner.toArray⟩, .int .i64 d.created, .int .i64 d.expires, .bool d.archived]] w fun e w' => e = .returned (.bool (validB d)) ∧ Ext w w' := by
  by_cases ho : 1 ≤ d.org ∧ d.org ≤ 3
  · by_cases hl : 1 ≤ d.length ∧ d.length ≤ 121
    · by_cases hz : d.format = 0 ∧ d.block = 0
      · by_cases h3 : d.org = 3
        · exact Valid_key_k128 d w hs h3 hl.1 hl.2 hz.1 hz.2
        · exact Valid_key_e128 d w hs ho.1 ho.2 (by simpa using h3) hl.1 hl.2 hz.1 hz.2
      · exact Valid_key_z128 d w hs ho.1 ho.2 hl.1 hl.2 hz
    · exact Valid_key_l128 d w hs ho.1 ho.2 hl (by simp; omega)
  · exact Valid_key_o128 d w hs ho (by simp; omega)
end Go.Proofs.YtjgdhlpnpihkdaaDoor
/- The walk of chapter 16's Valid (program): intervals of 256 bytes. -/
namespace Go.Proofs.YtjgdhlpnpihkdaaDoor
open Go.RowKit Dsd

set_option maxRecDepth 100000 in
set_option maxHeartbeats 1000000 in
theorem Valid_key_o256 (d : DS) (w : World) (hs : d.interval = 256) (ho : ¬ (1 ≤ d.org ∧ d.org ≤ 3)) (hO : (decide (1 ≤ d.org) && decide (d.org ≤ 3)) = false) : Calls Tryd.prog 78 #[.agg #[.int .i64 d.id, .int .i64 d.org, .int .i64 d.format, .int .i64 d.length, .int .i64 d.block, .int .i64 d.keyAt, .int .i64 d.keyLength, .int .i64 d.interval, .int .i64 d.area, .int .i64 d.freeInterval, .int .i64 d.freeArea, .int .i64 d.base, .int .i64 d.altAt, .int .i64 d.altLength, .bool d.unique, .int .i64 d.cls, .string ⟨d.volume.toArray⟩, .string ⟨d.owner.toArray⟩, .int .i64 d.created, .int .i64 d.expires, .bool d.archived]] w fun e w' => e = .returned (.bool (validB d)) ∧ Ext w w' := by
  have i0 : ∀ w, (Instr.index 170 (.agg #[.int .i64 128, .int .i64 256, .int .i64 512]) (.int .i64 0)).run Tryd.prog w = .ok (.int .i64 128) w := fun _ => by kernel_rfl
  have i1 : ∀ w, (Instr.index 170 (.agg #[.int .i64 128, .int .i64 256, .int .i64 512]) (.int .i64 1)).run Tryd.prog w = .ok (.int .i64 256) w := fun _ => by kernel_rfl
  have i2 : ∀ w, (Instr.index 170 (.agg #[.int .i64 128, .int .i64 256, .int .i64 512]) (.int .i64 2)).run Tryd.prog w = .ok (.int .i64 512) w := fun _ => by kernel_rfl
  simp only [hs]
  go_enter Tryd.func78, Tryd.ntmps78
  go_wp2
  go_loop [4, 9] (fun kn i => ∃ k : Nat, k ≤ 3 ∧ i = .int .i64 k ∧ kn = .bool (decide (1 < k))) (fun _ i => 3 - (intOf i).toNat)
  case atStart => exact ⟨0, Nat.zero_le _, rfl, rfl⟩
  case round =>
    obtain ⟨k, hk, rfl, rfl⟩ := hrel
    by_cases k0 : k = 0
    · subst k0
      go_wp2
      go_round
      case rel => exact ⟨1, by omega, rfl, rfl⟩
      case measure => simp [intOf]
    · by_cases k1 : k = 1
      · subst k1
        go_wp2
        go_round
        case rel => exact ⟨2, by omega, rfl, rfl⟩
        case measure => simp [intOf]
      · by_cases k2 : k = 2
        · subst k2
          go_wp2
          go_round
          case rel => exact ⟨3, by omega, rfl, rfl⟩
          case measure => simp [intOf]
        · obtain rfl : k = 3 := by omega
          clear i0 i1 i2 k0 k1 k2
          go_wp2_with (first | (go_at_call 102; refine (within_any _ _ _ _).mono ?_; rintro e w' ⟨rfl, rfl⟩))
          all_goals go_ret
          all_goals exact ⟨ret_bool (valid_no (by unfold ValidP; omega)), (by repeat (first | exact Ext.refl _ | exact Ext.alloc _ _ | refine Ext.trans ?_ (Ext.alloc _ _)))⟩

set_option maxRecDepth 100000 in
set_option maxHeartbeats 1000000 in
theorem Valid_key_l256 (d : DS) (w : World) (hs : d.interval = 256) (ho : 1 ≤ d.org) (ho2 : d.org ≤ 3) (hl : ¬ (1 ≤ d.length ∧ d.length ≤ 200)) (hL : (decide (1 ≤ d.length) && decide (d.length ≤ 200)) = false) : Calls Tryd.prog 78 #[.agg #[.int .i64 d.id, .int .i64 d.org, .int .i64 d.format, .int .i64 d.length, .int .i64 d.block, .int .i64 d.keyAt, .int .i64 d.keyLength, .int .i64 d.interval, .int .i64 d.area, .int .i64 d.freeInterval, .int .i64 d.freeArea, .int .i64 d.base, .int .i64 d.altAt, .int .i64 d.altLength, .bool d.unique, .int .i64 d.cls, .string ⟨d.volume.toArray⟩, .string ⟨d.owner.toArray⟩, .int .i64 d.created, .int .i64 d.expires, .bool d.archived]] w fun e w' => e = .returned (.bool (validB d)) ∧ Ext w w' := by
  have i0 : ∀ w, (Instr.index 170 (.agg #[.int .i64 128, .int .i64 256, .int .i64 512]) (.int .i64 0)).run Tryd.prog w = .ok (.int .i64 128) w := fun _ => by kernel_rfl
  have i1 : ∀ w, (Instr.index 170 (.agg #[.int .i64 128, .int .i64 256, .int .i64 512]) (.int .i64 1)).run Tryd.prog w = .ok (.int .i64 256) w := fun _ => by kernel_rfl
  have i2 : ∀ w, (Instr.index 170 (.agg #[.int .i64 128, .int .i64 256, .int .i64 512]) (.int .i64 2)).run Tryd.prog w = .ok (.int .i64 512) w := fun _ => by kernel_rfl
  simp only [hs]
  go_enter Tryd.func78, Tryd.ntmps78
  go_wp2
  go_loop [4, 9] (fun kn i => ∃ k : Nat, k ≤ 3 ∧ i = .int .i64 k ∧ kn = .bool (decide (1 < k))) (fun _ i => 3 - (intOf i).toNat)
  case atStart => exact ⟨0, Nat.zero_le _, rfl, rfl⟩
  case round =>
    obtain ⟨k, hk, rfl, rfl⟩ := hrel
    by_cases k0 : k = 0
    · subst k0
      go_wp2
      go_round
      case rel => exact ⟨1, by omega, rfl, rfl⟩
      case measure => simp [intOf]
    · by_cases k1 : k = 1
      · subst k1
        go_wp2
        go_round
        case rel => exact ⟨2, by omega, rfl, rfl⟩
        case measure => simp [intOf]
      · by_cases k2 : k = 2
        · subst k2
          go_wp2
          go_round
          case rel => exact ⟨3, by omega, rfl, rfl⟩
          case measure => simp [intOf]
        · obtain rfl : k = 3 := by omega
          clear i0 i1 i2 k0 k1 k2
          go_wp2_with (first | (go_at_call 102; refine (within_any _ _ _ _).mono ?_; rintro e w' ⟨rfl, rfl⟩))
          all_goals go_ret
          all_goals exact ⟨ret_bool (valid_no (by unfold ValidP; omega)), (by repeat (first | exact Ext.refl _ | exact Ext.alloc _ _ | refine Ext.trans ?_ (Ext.alloc _ _)))⟩

set_option maxRecDepth 100000 in
set_option maxHeartbeats 1000000 in
theorem Valid_key_z256 (d : DS) (w : World) (hs : d.interval = 256) (ho : 1 ≤ d.org) (ho2 : d.org ≤ 3) (hl : 1 ≤ d.length) (hl2 : d.length ≤ 200) (hz : ¬ (d.format = 0 ∧ d.block = 0)) : Calls Tryd.prog 78 #[.agg #[.int .i64 d.id, .int .i64 d.org, .int .i64 d.format, .int .i64 d.length, .int .i64 d.block, .int .i64 d.keyAt, .int .i64 d.keyLength, .int .i64 d.interval, .int .i64 d.area, .int .i64 d.freeInterval, .int .i64 d.freeArea, .int .i64 d.base, .int .i64 d.altAt, .int .i64 d.altLength, .bool d.unique, .int .i64 d.cls, .string ⟨d.volume.toArray⟩, .string ⟨d.owner.toArray⟩, .int .i64 d.created, .int .i64 d.expires, .bool d.archived]] w fun e w' => e = .returned (.bool (validB d)) ∧ Ext w w' := by
  have HN : Hid (false = validB d) := Lib.hid (valid_no (by unfold ValidP; omega))
  have HZ : Hid ([d.format, d.block].all (· == 0) = false) := Lib.hid (by simp; omega)
  clear hz
  have i0 : ∀ w, (Instr.index 170 (.agg #[.int .i64 128, .int .i64 256, .int .i64 512]) (.int .i64 0)).run Tryd.prog w = .ok (.int .i64 128) w := fun _ => by kernel_rfl
  have i1 : ∀ w, (Instr.index 170 (.agg #[.int .i64 128, .int .i64 256, .int .i64 512]) (.int .i64 1)).run Tryd.prog w = .ok (.int .i64 256) w := fun _ => by kernel_rfl
  have i2 : ∀ w, (Instr.index 170 (.agg #[.int .i64 128, .int .i64 256, .int .i64 512]) (.int .i64 2)).run Tryd.prog w = .ok (.int .i64 512) w := fun _ => by kernel_rfl
  simp only [hs]
  go_enter Tryd.func78, Tryd.ntmps78
  go_wp2
  go_loop [4, 9] (fun kn i => ∃ k : Nat, k ≤ 3 ∧ i = .int .i64 k ∧ kn = .bool (decide (1 < k))) (fun _ i => 3 - (intOf i).toNat)
  case atStart => exact ⟨0, Nat.zero_le _, rfl, rfl⟩
  case round =>
    obtain ⟨k, hk, rfl, rfl⟩ := hrel
    by_cases k0 : k = 0
    · subst k0
      go_wp2
      go_round
      case rel => exact ⟨1, by omega, rfl, rfl⟩
      case measure => simp [intOf]
    · by_cases k1 : k = 1
      · subst k1
        go_wp2
        go_round
        case rel => exact ⟨2, by omega, rfl, rfl⟩
        case measure => simp [intOf]
      · by_cases k2 : k = 2
        · subst k2
          go_wp2
          go_round
          case rel => exact ⟨3, by omega, rfl, rfl⟩
          case measure => simp [intOf]
        · obtain rfl : k = 3 := by omega
          clear i0 i1 i2 k0 k1 k2
          go_wp2_with (first | (go_at_call 102; refine (within_any _ _ _ _).mono ?_; rintro e w' ⟨rfl, rfl⟩) | (go_at_call 109; go_must (refine (zeros_key _ _ 2 [d.format, d.block] _ (ints_at _ _ [d.format, d.block] 3 _ rfl (by simp)) rfl (by omega)).mono ?_; rw [HZ.out]; rintro e w' ⟨rfl, rfl⟩)))
          all_goals go_ret
          all_goals exact ⟨ret_bool HN.out, (by repeat (first | exact Ext.refl _ | exact Ext.alloc _ _ | refine Ext.trans ?_ (Ext.alloc _ _)))⟩

set_option maxRecDepth 100000 in
set_option maxHeartbeats 1000000 in
theorem Valid_key_e256 (d : DS) (w : World) (hs : d.interval = 256) (ho : 1 ≤ d.org) (ho2 : d.org ≤ 3) (h3 : (d.org != 3) = true) (hl : 1 ≤ d.length) (hl2 : d.length ≤ 200) (hf : d.format = 0) (hb : d.block = 0) : Calls Tryd.prog 78 #[.agg #[.int .i64 d.id, .int .i64 d.org, .int .i64 d.format, .int .i64 d.length, .int .i64 d.block, .int .i64 d.keyAt, .int .i64 d.keyLength, .int .i64 d.interval, .int .i64 d.area, .int .i64 d.freeInterval, .int .i64 d.freeArea, .int .i64 d.base, .int .i64 d.altAt, .int .i64 d.altLength, .bool d.unique, .int .i64 d.cls, .string ⟨d.volume.toArray⟩, .string ⟨d.owner.toArray⟩, .int .i64 d.created, .int .i64 d.expires, .bool d.archived]] w fun e w' => e = .returned (.bool (validB d)) ∧ Ext w w' := by
  have h3' : d.org ≠ 3 := by simpa using h3
  have HZ : Hid ([d.format, d.block].all (· == 0) = true) := Lib.hid (by simp [hf, hb])
  have HV : Hid ([d.keyAt, d.keyLength, d.area, d.freeInterval, d.freeArea].all (· == 0) = validB d) := Lib.hid (by
    cases hv : [d.keyAt, d.keyLength, d.area, d.freeInterval, d.freeArea].all (· == 0)
    · refine valid_no (fun k => ?_)
      obtain ⟨a, b, c, e, f⟩ := k.2.2.2.2.2.2.2.2.2 h3'
      rw [a, b, c, e, f] at hv
      simp at hv
    · simp at hv
      exact valid_yes (by unfold ValidP; omega))
  clear hf hb h3'
  have i0 : ∀ w, (Instr.index 170 (.agg #[.int .i64 128, .int .i64 256, .int .i64 512]) (.int .i64 0)).run Tryd.prog w = .ok (.int .i64 128) w := fun _ => by kernel_rfl
  have i1 : ∀ w, (Instr.index 170 (.agg #[.int .i64 128, .int .i64 256, .int .i64 512]) (.int .i64 1)).run Tryd.prog w = .ok (.int .i64 256) w := fun _ => by kernel_rfl
  have i2 : ∀ w, (Instr.index 170 (.agg #[.int .i64 128, .int .i64 256, .int .i64 512]) (.int .i64 2)).run Tryd.prog w = .ok (.int .i64 512) w := fun _ => by kernel_rfl
  simp only [hs]
  go_enter Tryd.func78, Tryd.ntmps78
  go_wp2
  go_loop [4, 9] (fun kn i => ∃ k : Nat, k ≤ 3 ∧ i = .int .i64 k ∧ kn = .bool (decide (1 < k))) (fun _ i => 3 - (intOf i).toNat)
  case atStart => exact ⟨0, Nat.zero_le _, rfl, rfl⟩
  case round =>
    obtain ⟨k, hk, rfl, rfl⟩ := hrel
    by_cases k0 : k = 0
    · subst k0
      go_wp2
      go_round
      case rel => exact ⟨1, by omega, rfl, rfl⟩
      case measure => simp [intOf]
    · by_cases k1 : k = 1
      · subst k1
        go_wp2
        go_round
        case rel => exact ⟨2, by omega, rfl, rfl⟩
        case measure => simp [intOf]
      · by_cases k2 : k = 2
        · subst k2
          go_wp2
          go_round
          case rel => exact ⟨3, by omega, rfl, rfl⟩
          case measure => simp [intOf]
        · obtain rfl : k = 3 := by omega
          clear i0 i1 i2 k0 k1 k2
          go_wp2_with (first | (go_at_call 109; have tk := HZ; (refine (zeros_key _ _ 2 [d.format, d.block] _ (ints_at _ _ [d.format, d.block] 3 _ rfl (by simp)) rfl (by omega)).mono ?_; rw [HZ.out]; rintro e w' ⟨rfl, rfl⟩; clear HZ tk)) | (go_at_call 109; go_must (refine (zeros_key _ _ 5 [d.keyAt, d.keyLength, d.area, d.freeInterval, d.freeArea] _ (ints_at _ _ [d.keyAt, d.keyLength, d.area, d.freeInterval, d.freeArea] 3 _ rfl (by simp)) rfl (by omega)).mono ?_; rw [HV.out]; rintro e w' ⟨rfl, rfl⟩)) | (go_at_call 102; refine (within_any _ _ _ _).mono ?_; rintro e w' ⟨rfl, rfl⟩))
          all_goals go_ret
          all_goals exact ⟨ret_bool rfl, (by repeat (first | exact Ext.refl _ | exact Ext.alloc _ _ | refine Ext.trans ?_ (Ext.alloc _ _)))⟩

set_option maxRecDepth 100000 in
set_option maxHeartbeats 1000000 in
theorem Valid_key_k256 (d : DS) (w : World) (hs : d.interval = 256) (h3 : d.org = 3) (hl : 1 ≤ d.length) (hl2 : d.length ≤ 200) (hf : d.format = 0) (hb : d.block = 0) : Calls Tryd.prog 78 #[.agg #[.int .i64 d.id, .int .i64 d.org, .int .i64 d.format, .int .i64 d.length, .int .i64 d.block, .int .i64 d.keyAt, .int .i64 d.keyLength, .int .i64 d.interval, .int .i64 d.area, .int .i64 d.freeInterval, .int .i64 d.freeArea, .int .i64 d.base, .int .i64 d.altAt, .int .i64 d.altLength, .bool d.unique, .int .i64 d.cls, .string ⟨d.volume.toArray⟩, .string ⟨d.owner.toArray⟩, .int .i64 d.created, .int .i64 d.expires, .bool d.archived]] w fun e w' => e = .returned (.bool (validB d)) ∧ Ext w w' := by
  have HZ : Hid ([d.format, d.block].all (· == 0) = true) := Lib.hid (by simp [hf, hb])
  have HF := Lib.hid hf
  have HB := Lib.hid hb
  clear hf hb
  have i0 : ∀ w, (Instr.index 170 (.agg #[.int .i64 128, .int .i64 256, .int .i64 512]) (.int .i64 0)).run Tryd.prog w = .ok (.int .i64 128) w := fun _ => by kernel_rfl
  have i1 : ∀ w, (Instr.index 170 (.agg #[.int .i64 128, .int .i64 256, .int .i64 512]) (.int .i64 1)).run Tryd.prog w = .ok (.int .i64 256) w := fun _ => by kernel_rfl
  have i2 : ∀ w, (Instr.index 170 (.agg #[.int .i64 128, .int .i64 256, .int .i64 512]) (.int .i64 2)).run Tryd.prog w = .ok (.int .i64 512) w := fun _ => by kernel_rfl
  simp only [hs, h3]
  go_enter Tryd.func78, Tryd.ntmps78
  go_wp2
  go_loop [4, 9] (fun kn i => ∃ k : Nat, k ≤ 3 ∧ i = .int .i64 k ∧ kn = .bool (decide (1 < k))) (fun _ i => 3 - (intOf i).toNat)
  case atStart => exact ⟨0, Nat.zero_le _, rfl, rfl⟩
  case round =>
    obtain ⟨k, hk, rfl, rfl⟩ := hrel
    by_cases k0 : k = 0
    · subst k0
      go_wp2
      go_round
      case rel => exact ⟨1, by omega, rfl, rfl⟩
      case measure => simp [intOf]
    · by_cases k1 : k = 1
      · subst k1
        go_wp2
        go_round
        case rel => exact ⟨2, by omega, rfl, rfl⟩
        case measure => simp [intOf]
      · by_cases k2 : k = 2
        · subst k2
          go_wp2
          go_round
          case rel => exact ⟨3, by omega, rfl, rfl⟩
          case measure => simp [intOf]
        · obtain rfl : k = 3 := by omega
          clear i0 i1 i2 k0 k1 k2
          go_wp2_with (first | (go_at_call 109; go_must (refine (zeros_key _ _ 2 [d.format, d.block] _ (ints_at _ _ [d.format, d.block] 3 _ rfl (by simp)) rfl (by omega)).mono ?_; rw [HZ.out]; rintro e w' ⟨rfl, rfl⟩)) | (go_at_call 102; refine (within_any _ _ _ _).mono ?_; rintro e w' ⟨rfl, rfl⟩))
          all_goals go_ret
          all_goals first | exact ⟨ret_bool (valid_no (by unfold ValidP; have := HF.out; have := HB.out; omega)), (by repeat (first | exact Ext.refl _ | exact Ext.alloc _ _ | refine Ext.trans ?_ (Ext.alloc _ _)))⟩ | exact ⟨ret_bool (valid_last (by unfold ValidP; simp only [decide_eq_true_eq]; omega) (by unfold ValidP; simp only [decide_eq_true_eq]; have := HF.out; have := HB.out; omega)), (by repeat (first | exact Ext.refl _ | exact Ext.alloc _ _ | refine Ext.trans ?_ (Ext.alloc _ _)))⟩

theorem Valid_key_256 (d : DS) (w : World) (hs : d.interval = 256) : Calls Tryd.prog 78 #[.agg #[.int .i64 d.id, .int .i64 d.org, .int .i64 d.format, .int .i64 d.length, .int .i64 d.block, .int .i64 d.keyAt, .int .i64 d.keyLength, .int .i64 d.interval, .int .i64 d.area, .int .i64 d.freeInterval, .int .i64 d.freeArea, .int .i64 d.base, .int .i64 d.altAt, .int .i64 d.altLength, .bool d.unique, .int .i64 d.cls, .string ⟨d.volume.toArray⟩, .string ⟨d.owner.toArray⟩, .int .i64 d.created, .int .i64 d.expires, .bool d.archived]] w fun e w' => e = .returned (.bool (validB d)) ∧ Ext w w' := by
  by_cases ho : 1 ≤ d.org ∧ d.org ≤ 3
  · by_cases hl : 1 ≤ d.length ∧ d.length ≤ 200
    · by_cases hz : d.format = 0 ∧ d.block = 0
      · by_cases h3 : d.org = 3
        · exact Valid_key_k256 d w hs h3 hl.1 hl.2 hz.1 hz.2
        · exact Valid_key_e256 d w hs ho.1 ho.2 (by simpa using h3) hl.1 hl.2 hz.1 hz.2
      · exact Valid_key_z256 d w hs ho.1 ho.2 hl.1 hl.2 hz
    · exact Valid_key_l256 d w hs ho.1 ho.2 hl (by simp; omega)
  · exact Valid_key_o256 d w hs ho (by simp; omega)
end Go.Proofs.YtjgdhlpnpihkdaaDoor
/- The walk of chapter 16's Valid (program): intervals of 512 bytes. -/
namespace Go.Proofs.YtjgdhlpnpihkdaaDoor
open Go.RowKit Dsd

set_option maxRecDepth 100000 in
set_option maxHeartbeats 1000000 in
theorem Valid_key_o512 (d : DS) (w : World) (hs : d.interval = 512) (ho : ¬ (1 ≤ d.org ∧ d.org ≤ 3)) (hO : (decide (1 ≤ d.org) && decide (d.org ≤ 3)) = false) : Calls Tryd.prog 78 #[.agg #[.int .i64 d.id, .int .i64 d.org, .int .i64 d.format, .int .i64 d.length, .int .i64 d.block, .int .i64 d.keyAt, .int .i64 d.keyLength, .int .i64 d.interval, .int .i64 d.area, .int .i64 d.freeInterval, .int .i64 d.freeArea, .int .i64 d.base, .int .i64 d.altAt, .int .i64 d.altLength, .bool d.unique, .int .i64 d.cls, .string ⟨d.volume.toArray⟩, .string ⟨d.owner.toArray⟩, .int .i64 d.created, .int .i64 d.expires, .bool d.archived]] w fun e w' => e = .returned (.bool (validB d)) ∧ Ext w w' := by
  have i0 : ∀ w, (Instr.index 170 (.agg #[.int .i64 128, .int .i64 256, .int .i64 512]) (.int .i64 0)).run Tryd.prog w = .ok (.int .i64 128) w := fun _ => by kernel_rfl
  have i1 : ∀ w, (Instr.index 170 (.agg #[.int .i64 128, .int .i64 256, .int .i64 512]) (.int .i64 1)).run Tryd.prog w = .ok (.int .i64 256) w := fun _ => by kernel_rfl
  have i2 : ∀ w, (Instr.index 170 (.agg #[.int .i64 128, .int .i64 256, .int .i64 512]) (.int .i64 2)).run Tryd.prog w = .ok (.int .i64 512) w := fun _ => by kernel_rfl
  simp only [hs]
  go_enter Tryd.func78, Tryd.ntmps78
  go_wp2
  go_loop [4, 9] (fun kn i => ∃ k : Nat, k ≤ 3 ∧ i = .int .i64 k ∧ kn = .bool (decide (2 < k))) (fun _ i => 3 - (intOf i).toNat)
  case atStart => exact ⟨0, Nat.zero_le _, rfl, rfl⟩
  case round =>
    obtain ⟨k, hk, rfl, rfl⟩ := hrel
    by_cases k0 : k = 0
    · subst k0
      go_wp2
      go_round
      case rel => exact ⟨1, by omega, rfl, rfl⟩
      case measure => simp [intOf]
    · by_cases k1 : k = 1
      · subst k1
        go_wp2
        go_round
        case rel => exact ⟨2, by omega, rfl, rfl⟩
        case measure => simp [intOf]
      · by_cases k2 : k = 2
        · subst k2
          go_wp2
          go_round
          case rel => exact ⟨3, by omega, rfl, rfl⟩
          case measure => simp [intOf]
        · obtain rfl : k = 3 := by omega
          clear i0 i1 i2 k0 k1 k2
          go_wp2_with (first | (go_at_call 102; refine (within_any _ _ _ _).mono ?_; rintro e w' ⟨rfl, rfl⟩))
          all_goals go_ret
          all_goals exact ⟨ret_bool (valid_no (by unfold ValidP; omega)), (by repeat (first | exact Ext.refl _ | exact Ext.alloc _ _ | refine Ext.trans ?_ (Ext.alloc _ _)))⟩

set_option maxRecDepth 100000 in
set_option maxHeartbeats 1000000 in
theorem Valid_key_l512 (d : DS) (w : World) (hs : d.interval = 512) (ho : 1 ≤ d.org) (ho2 : d.org ≤ 3) (hl : ¬ (1 ≤ d.length ∧ d.length ≤ 200)) (hL : (decide (1 ≤ d.length) && decide (d.length ≤ 200)) = false) : Calls Tryd.prog 78 #[.agg #[.int .i64 d.id, .int .i64 d.org, .int .i64 d.format, .int .i64 d.length, .int .i64 d.block, .int .i64 d.keyAt, .int .i64 d.keyLength, .int .i64 d.interval, .int .i64 d.area, .int .i64 d.freeInterval, .int .i64 d.freeArea, .int .i64 d.base, .int .i64 d.altAt, .int .i64 d.altLength, .bool d.unique, .int .i64 d.cls, .string ⟨d.volume.toArray⟩, .string ⟨d.owner.toArray⟩, .int .i64 d.created, .int .i64 d.expires, .bool d.archived]] w fun e w' => e = .returned (.bool (validB d)) ∧ Ext w w' := by
  have i0 : ∀ w, (Instr.index 170 (.agg #[.int .i64 128, .int .i64 256, .int .i64 512]) (.int .i64 0)).run Tryd.prog w = .ok (.int .i64 128) w := fun _ => by kernel_rfl
  have i1 : ∀ w, (Instr.index 170 (.agg #[.int .i64 128, .int .i64 256, .int .i64 512]) (.int .i64 1)).run Tryd.prog w = .ok (.int .i64 256) w := fun _ => by kernel_rfl
  have i2 : ∀ w, (Instr.index 170 (.agg #[.int .i64 128, .int .i64 256, .int .i64 512]) (.int .i64 2)).run Tryd.prog w = .ok (.int .i64 512) w := fun _ => by kernel_rfl
  simp only [hs]
  go_enter Tryd.func78, Tryd.ntmps78
  go_wp2
  go_loop [4, 9] (fun kn i => ∃ k : Nat, k ≤ 3 ∧ i = .int .i64 k ∧ kn = .bool (decide (2 < k))) (fun _ i => 3 - (intOf i).toNat)
  case atStart => exact ⟨0, Nat.zero_le _, rfl, rfl⟩
  case round =>
    obtain ⟨k, hk, rfl, rfl⟩ := hrel
    by_cases k0 : k = 0
    · subst k0
      go_wp2
      go_round
      case rel => exact ⟨1, by omega, rfl, rfl⟩
      case measure => simp [intOf]
    · by_cases k1 : k = 1
      · subst k1
        go_wp2
        go_round
        case rel => exact ⟨2, by omega, rfl, rfl⟩
        case measure => simp [intOf]
      · by_cases k2 : k = 2
        · subst k2
          go_wp2
          go_round
          case rel => exact ⟨3, by omega, rfl, rfl⟩
          case measure => simp [intOf]
        · obtain rfl : k = 3 := by omega
          clear i0 i1 i2 k0 k1 k2
          go_wp2_with (first | (go_at_call 102; refine (within_any _ _ _ _).mono ?_; rintro e w' ⟨rfl, rfl⟩))
          all_goals go_ret
          all_goals exact ⟨ret_bool (valid_no (by unfold ValidP; omega)), (by repeat (first | exact Ext.refl _ | exact Ext.alloc _ _ | refine Ext.trans ?_ (Ext.alloc _ _)))⟩

set_option maxRecDepth 100000 in
set_option maxHeartbeats 1000000 in
theorem Valid_key_z512 (d : DS) (w : World) (hs : d.interval = 512) (ho : 1 ≤ d.org) (ho2 : d.org ≤ 3) (hl : 1 ≤ d.length) (hl2 : d.length ≤ 200) (hz : ¬ (d.format = 0 ∧ d.block = 0)) : Calls Tryd.prog 78 #[.agg #[.int .i64 d.id, .int .i64 d.org, .int .i64 d.format, .int .i64 d.length, .int .i64 d.block, .int .i64 d.keyAt, .int .i64 d.keyLength, .int .i64 d.interval, .int .i64 d.area, .int .i64 d.freeInterval, .int .i64 d.freeArea, .int .i64 d.base, .int .i64 d.altAt, .int .i64 d.altLength, .bool d.unique, .int .i64 d.cls, .string ⟨d.volume.toArray⟩, .string ⟨d.owner.toArray⟩, .int .i64 d.created, .int .i64 d.expires, .bool d.archived]] w fun e w' => e = .returned (.bool (validB d)) ∧ Ext w w' := by
  have HN : Hid (false = validB d) := Lib.hid (valid_no (by unfold ValidP; omega))
  have HZ : Hid ([d.format, d.block].all (· == 0) = false) := Lib.hid (by simp; omega)
  clear hz
  have i0 : ∀ w, (Instr.index 170 (.agg #[.int .i64 128, .int .i64 256, .int .i64 512]) (.int .i64 0)).run Tryd.prog w = .ok (.int .i64 128) w := fun _ => by kernel_rfl
  have i1 : ∀ w, (Instr.index 170 (.agg #[.int .i64 128, .int .i64 256, .int .i64 512]) (.int .i64 1)).run Tryd.prog w = .ok (.int .i64 256) w := fun _ => by kernel_rfl
  have i2 : ∀ w, (Instr.index 170 (.agg #[.int .i64 128, .int .i64 256, .int .i64 512]) (.int .i64 2)).run Tryd.prog w = .ok (.int .i64 512) w := fun _ => by kernel_rfl
  simp only [hs]
  go_enter Tryd.func78, Tryd.ntmps78
  go_wp2
  go_loop [4, 9] (fun kn i => ∃ k : Nat, k ≤ 3 ∧ i = .int .i64 k ∧ kn = .bool (decide (2 < k))) (fun _ i => 3 - (intOf i).toNat)
  case atStart => exact ⟨0, Nat.zero_le _, rfl, rfl⟩
  case round =>
    obtain ⟨k, hk, rfl, rfl⟩ := hrel
    by_cases k0 : k = 0
    · subst k0
      go_wp2
      go_round
      case rel => exact ⟨1, by omega, rfl, rfl⟩
      case measure => simp [intOf]
    · by_cases k1 : k = 1
      · subst k1
        go_wp2
        go_round
        case rel => exact ⟨2, by omega, rfl, rfl⟩
        case measure => simp [intOf]
      · by_cases k2 : k = 2
        · subst k2
          go_wp2
          go_round
          case rel => exact ⟨3, by omega, rfl, rfl⟩
          case measure => simp [intOf]
        · obtain rfl : k = 3 := by omega
          clear i0 i1 i2 k0 k1 k2
          go_wp2_with (first | (go_at_call 102; refine (within_any _ _ _ _).mono ?_; rintro e w' ⟨rfl, rfl⟩) | (go_at_call 109; go_must (refine (zeros_key _ _ 2 [d.format, d.block] _ (ints_at _ _ [d.format, d.block] 3 _ rfl (by simp)) rfl (by omega)).mono ?_; rw [HZ.out]; rintro e w' ⟨rfl, rfl⟩)))
          all_goals go_ret
          all_goals exact ⟨ret_bool HN.out, (by repeat (first | exact Ext.refl _ | exact Ext.alloc _ _ | refine Ext.trans ?_ (Ext.alloc _ _)))⟩

set_option maxRecDepth 100000 in
set_option maxHeartbeats 1000000 in
theorem Valid_key_e512 (d : DS) (w : World) (hs : d.interval = 512) (ho : 1 ≤ d.org) (ho2 : d.org ≤ 3) (h3 : (d.org != 3) = true) (hl : 1 ≤ d.length) (hl2 : d.length ≤ 200) (hf : d.format = 0) (hb : d.block = 0) : Calls Tryd.prog 78 #[.agg #[.int .i64 d.id, .int .i64 d.org, .int .i64 d.format, .int .i64 d.length, .int .i64 d.block, .int .i64 d.keyAt, .int .i64 d.keyLength, .int .i64 d.interval, .int .i64 d.area, .int .i64 d.freeInterval, .int .i64 d.freeArea, .int .i64 d.base, .int .i64 d.altAt, .int .i64 d.altLength, .bool d.unique, .int .i64 d.cls, .string ⟨d.volume.toArray⟩, .string ⟨d.owner.toArray⟩, .int .i64 d.created, .int .i64 d.expires, .bool d.archived]] w fun e w' => e = .returned (.bool (validB d)) ∧ Ext w w' := by
  have h3' : d.org ≠ 3 := by simpa using h3
  have HZ : Hid ([d.format, d.block].all (· == 0) = true) := Lib.hid (by simp [hf, hb])
  have HV : Hid ([d.keyAt, d.keyLength, d.area, d.freeInterval, d.freeArea].all (· == 0) = validB d) := Lib.hid (by
    cases hv : [d.keyAt, d.keyLength, d.area, d.freeInterval, d.freeArea].all (· == 0)
    · refine valid_no (fun k => ?_)
      obtain ⟨a, b, c, e, f⟩ := k.2.2.2.2.2.2.2.2.2 h3'
      rw [a, b, c, e, f] at hv
      simp at hv
    · simp at hv
      exact valid_yes (by unfold ValidP; omega))
  clear hf hb h3'
  have i0 : ∀ w, (Instr.index 170 (.agg #[.int .i64 128, .int .i64 256, .int .i64 512]) (.int .i64 0)).run Tryd.prog w = .ok (.int .i64 128) w := fun _ => by kernel_rfl
  have i1 : ∀ w, (Instr.index 170 (.agg #[.int .i64 128, .int .i64 256, .int .i64 512]) (.int .i64 1)).run Tryd.prog w = .ok (.int .i64 256) w := fun _ => by kernel_rfl
  have i2 : ∀ w, (Instr.index 170 (.agg #[.int .i64 128, .int .i64 256, .int .i64 512]) (.int .i64 2)).run Tryd.prog w = .ok (.int .i64 512) w := fun _ => by kernel_rfl
  simp only [hs]
  go_enter Tryd.func78, Tryd.ntmps78
  go_wp2
  go_loop [4, 9] (fun kn i => ∃ k : Nat, k ≤ 3 ∧ i = .int .i64 k ∧ kn = .bool (decide (2 < k))) (fun _ i => 3 - (intOf i).toNat)
  case atStart => exact ⟨0, Nat.zero_le _, rfl, rfl⟩
  case round =>
    obtain ⟨k, hk, rfl, rfl⟩ := hrel
    by_cases k0 : k = 0
    · subst k0
      go_wp2
      go_round
      case rel => exact ⟨1, by omega, rfl, rfl⟩
      case measure => simp [intOf]
    · by_cases k1 : k = 1
      · subst k1
        go_wp2
        go_round
        case rel => exact ⟨2, by omega, rfl, rfl⟩
        case measure => simp [intOf]
      · by_cases k2 : k = 2
        · subst k2
          go_wp2
          go_round
          case rel => exact ⟨3, by omega, rfl, rfl⟩
          case measure => simp [intOf]
        · obtain rfl : k = 3 := by omega
          clear i0 i1 i2 k0 k1 k2
          go_wp2_with (first | (go_at_call 109; have tk := HZ; (refine (zeros_key _ _ 2 [d.format, d.block] _ (ints_at _ _ [d.format, d.block] 3 _ rfl (by simp)) rfl (by omega)).mono ?_; rw [HZ.out]; rintro e w' ⟨rfl, rfl⟩; clear HZ tk)) | (go_at_call 109; go_must (refine (zeros_key _ _ 5 [d.keyAt, d.keyLength, d.area, d.freeInterval, d.freeArea] _ (ints_at _ _ [d.keyAt, d.keyLength, d.area, d.freeInterval, d.freeArea] 3 _ rfl (by simp)) rfl (by omega)).mono ?_; rw [HV.out]; rintro e w' ⟨rfl, rfl⟩)) | (go_at_call 102; refine (within_any _ _ _ _).mono ?_; rintro e w' ⟨rfl, rfl⟩))
          all_goals go_ret
          all_goals exact ⟨ret_bool rfl, (by repeat (first | exact Ext.refl _ | exact Ext.alloc _ _ | refine Ext.trans ?_ (Ext.alloc _ _)))⟩

set_option maxRecDepth 100000 in
set_option maxHeartbeats 1000000 in
theorem Valid_key_k512 (d : DS) (w : World) (hs : d.interval = 512) (h3 : d.org = 3) (hl : 1 ≤ d.length) (hl2 : d.length ≤ 200) (hf : d.format = 0) (hb : d.block = 0) : Calls Tryd.prog 78 #[.agg #[.int .i64 d.id, .int .i64 d.org, .int .i64 d.format, .int .i64 d.length, .int .i64 d.block, .int .i64 d.keyAt, .int .i64 d.keyLength, .int .i64 d.interval, .int .i64 d.area, .int .i64 d.freeInterval, .int .i64 d.freeArea, .int .i64 d.base, .int .i64 d.altAt, .int .i64 d.altLength, .bool d.unique, .int .i64 d.cls, .string ⟨d.volume.toArray⟩, .string ⟨d.owner.toArray⟩, .int .i64 d.created, .int .i64 d.expires, .bool d.archived]] w fun e w' => e = .returned (.bool (validB d)) ∧ Ext w w' := by
  have HZ : Hid ([d.format, d.block].all (· == 0) = true) := Lib.hid (by simp [hf, hb])
  have HF := Lib.hid hf
  have HB := Lib.hid hb
  clear hf hb
  have i0 : ∀ w, (Instr.index 170 (.agg #[.int .i64 128, .int .i64 256, .int .i64 512]) (.int .i64 0)).run Tryd.prog w = .ok (.int .i64 128) w := fun _ => by kernel_rfl
  have i1 : ∀ w, (Instr.index 170 (.agg #[.int .i64 128, .int .i64 256, .int .i64 512]) (.int .i64 1)).run Tryd.prog w = .ok (.int .i64 256) w := fun _ => by kernel_rfl
  have i2 : ∀ w, (Instr.index 170 (.agg #[.int .i64 128, .int .i64 256, .int .i64 512]) (.int .i64 2)).run Tryd.prog w = .ok (.int .i64 512) w := fun _ => by kernel_rfl
  simp only [hs, h3]
  go_enter Tryd.func78, Tryd.ntmps78
  go_wp2
  go_loop [4, 9] (fun kn i => ∃ k : Nat, k ≤ 3 ∧ i = .int .i64 k ∧ kn = .bool (decide (2 < k))) (fun _ i => 3 - (intOf i).toNat)
  case atStart => exact ⟨0, Nat.zero_le _, rfl, rfl⟩
  case round =>
    obtain ⟨k, hk, rfl, rfl⟩ := hrel
    by_cases k0 : k = 0
    · subst k0
      go_wp2
      go_round
      case rel => exact ⟨1, by omega, rfl, rfl⟩
      case measure => simp [intOf]
    · by_cases k1 : k = 1
      · subst k1
        go_wp2
        go_round
        case rel => exact ⟨2, by omega, rfl, rfl⟩
        case measure => simp [intOf]
      · by_cases k2 : k = 2
        · subst k2
          go_wp2
          go_round
          case rel => exact ⟨3, by omega, rfl, rfl⟩
          case measure => simp [intOf]
        · obtain rfl : k = 3 := by omega
          clear i0 i1 i2 k0 k1 k2
          go_wp2_with (first | (go_at_call 109; go_must (refine (zeros_key _ _ 2 [d.format, d.block] _ (ints_at _ _ [d.format, d.block] 3 _ rfl (by simp)) rfl (by omega)).mono ?_; rw [HZ.out]; rintro e w' ⟨rfl, rfl⟩)) | (go_at_call 102; refine (within_any _ _ _ _).mono ?_; rintro e w' ⟨rfl, rfl⟩))
          all_goals go_ret
          all_goals first | exact ⟨ret_bool (valid_no (by unfold ValidP; have := HF.out; have := HB.out; omega)), (by repeat (first | exact Ext.refl _ | exact Ext.alloc _ _ | refine Ext.trans ?_ (Ext.alloc _ _)))⟩ | exact ⟨ret_bool (valid_last (by unfold ValidP; simp only [decide_eq_true_eq]; omega) (by unfold ValidP; simp only [decide_eq_true_eq]; have := HF.out; have := HB.out; omega)), (by repeat (first | exact Ext.refl _ | exact Ext.alloc _ _ | refine Ext.trans ?_ (Ext.alloc _ _)))⟩

theorem Valid_key_512 (d : DS) (w : World) (hs : d.interval = 512) : Calls Tryd.prog 78 #[.agg #[.int .i64 d.id, .int .i64 d.org, .int .i64 d.format, .int .i64 d.length, .int .i64 d.block, .int .i64 d.keyAt, .int .i64 d.keyLength, .int .i64 d.interval, .int .i64 d.area, .int .i64 d.freeInterval, .int .i64 d.freeArea, .int .i64 d.base, .int .i64 d.altAt, .int .i64 d.altLength, .bool d.unique, .int .i64 d.cls, .string ⟨d.volume.toArray⟩, .string ⟨d.owner.toArray⟩, .int .i64 d.created, .int .i64 d.expires, .bool d.archived]] w fun e w' => e = .returned (.bool (validB d)) ∧ Ext w w' := by
  by_cases ho : 1 ≤ d.org ∧ d.org ≤ 3
  · by_cases hl : 1 ≤ d.length ∧ d.length ≤ 200
    · by_cases hz : d.format = 0 ∧ d.block = 0
      · by_cases h3 : d.org = 3
        · exact Valid_key_k512 d w hs h3 hl.1 hl.2 hz.1 hz.2
        · exact Valid_key_e512 d w hs ho.1 ho.2 (by simpa using h3) hl.1 hl.2 hz.1 hz.2
      · exact Valid_key_z512 d w hs ho.1 ho.2 hl.1 hl.2 hz
    · exact Valid_key_l512 d w hs ho.1 ho.2 hl (by simp; omega)
  · exact Valid_key_o512 d w hs ho (by simp; omega)
end Go.Proofs.YtjgdhlpnpihkdaaDoor
