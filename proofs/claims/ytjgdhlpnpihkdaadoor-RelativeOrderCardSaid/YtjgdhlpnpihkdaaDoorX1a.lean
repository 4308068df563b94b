/- The walk of chapter 16's Valid (reference): intervals of 128 bytes. -/
import Derived.Test.YtjgdhlpnpihkdaaDoorX1
set_option linter.unusedSimpArgs false
set_option linter.unusedVariables false
namespace Go.Proofs.YtjgdhlpnpihkdaaDoor
open Go.RowKit Dsd

set_option maxRecDepth 100000 in
set_option maxHeartbeats 1000000 in
theorem Valid_ref_k128 (d : DS) (w : World) (h3 : d.org = 3) (hs : d.interval = 128) (hf : d.format = 0) (hb : d.block = 0) : Calls Tryd.prog 23 #[.agg #[.int .i64 d.id, .int .i64 d.org, .int .i64 d.format, .int .i64 d.length, .int .i64 d.block, .int .i64 d.keyAt, .int .i64 d.keyLength, .int .i64 d.interval, .int .i64 d.area, .int .i64 d.freeInterval, .int .i64 d.freeArea, .int .i64 d.base, .int .i64 d.altAt, .int .i64 d.altLength, .bool d.unique, .int .i64 d.cls, .string ⟨d.volume.toArray⟩, .string ⟨d.owner.toArray⟩, .int .i64 d.created, .int .i64 d.expires, .bool d.archived]] w fun e w' => e = .returned (.bool (validB d)) ∧ Ext w w' := by
  go_enter Tryd.func23, Tryd.ntmps23
  go_wp2_with (go_at_call 62; refine (between_any _ _ _ _).mono ?_; rintro e w' ⟨rfl, rfl⟩)
  all_goals go_ret
  all_goals first | exact ⟨ret_bool (valid_no (by unfold ValidP; omega)), Ext.alloc _ _⟩ | exact ⟨ret_bool (valid_last (by unfold ValidP; simp only [decide_eq_true_eq]; omega) (by unfold ValidP; simp only [decide_eq_true_eq]; omega)), Ext.alloc _ _⟩

set_option maxRecDepth 100000 in
set_option maxHeartbeats 1000000 in
theorem Valid_ref_e128 (d : DS) (w : World) (h3 : d.org = 1) (hs : d.interval = 128) (hf : d.format = 0) (hb : d.block = 0) : Calls Tryd.prog 23 #[.agg #[.int .i64 d.id, .int .i64 d.org, .int .i64 d.format, .int .i64 d.length, .int .i64 d.block, .int .i64 d.keyAt, .int .i64 d.keyLength, .int .i64 d.interval, .int .i64 d.area, .int .i64 d.freeInterval, .int .i64 d.freeArea, .int .i64 d.base, .int .i64 d.altAt, .int .i64 d.altLength, .bool d.unique, .int .i64 d.cls, .string ⟨d.volume.toArray⟩, .string ⟨d.owner.toArray⟩, .int .i64 d.created, .int .i64 d.expires, .bool d.archived]] w fun e w' => e = .returned (.bool (validB d)) ∧ Ext w w' := by
  go_enter Tryd.func23, Tryd.ntmps23
  go_wp2_with (go_at_call 62; refine (between_any _ _ _ _).mono ?_; rintro e w' ⟨rfl, rfl⟩)
  all_goals go_ret
  all_goals first | exact ⟨ret_bool (valid_no (by unfold ValidP; omega)), Ext.alloc _ _⟩ | exact ⟨ret_bool (valid_ne (by omega) (.inl (by assumption))), Ext.alloc _ _⟩ | exact ⟨ret_bool (valid_ne (by omega) (.inr (.inl (by assumption)))), Ext.alloc _ _⟩ | exact ⟨ret_bool (valid_ne (by omega) (.inr (.inr (.inl (by assumption))))), Ext.alloc _ _⟩ | exact ⟨ret_bool (valid_ne (by omega) (.inr (.inr (.inr (.inl (by assumption)))))), Ext.alloc _ _⟩ | exact ⟨ret_bool (valid_ye (by omega) (by unfold ValidH; omega) (by omega) (by omega) (by omega) (by omega)), Ext.alloc _ _⟩

set_option maxRecDepth 100000 in
set_option maxHeartbeats 1000000 in
theorem Valid_ref_r128 (d : DS) (w : World) (h3 : d.org = 2) (hs : d.interval = 128) (hf : d.format = 0) (hb : d.block = 0) : Calls Tryd.prog 23 #[.agg #[.int .i64 d.id, .int .i64 d.org, .int .i64 d.format, .int .i64 d.length, .int .i64 d.block, .int .i64 d.keyAt, .int .i64 d.keyLength, .int .i64 d.interval, .int .i64 d.area, .int .i64 d.freeInterval, .int .i64 d.freeArea, .int .i64 d.base, .int .i64 d.altAt, .int .i64 d.altLength, .bool d.unique, .int .i64 d.cls, .string ⟨d.volume.toArray⟩, .string ⟨d.owner.toArray⟩, .int .i64 d.created, .int .i64 d.expires, .bool d.archived]] w fun e w' => e = .returned (.bool (validB d)) ∧ Ext w w' := by
  go_enter Tryd.func23, Tryd.ntmps23
  go_wp2_with (go_at_call 62; refine (between_any _ _ _ _).mono ?_; rintro e w' ⟨rfl, rfl⟩)
  all_goals go_ret
  all_goals first | exact ⟨ret_bool (valid_no (by unfold ValidP; omega)), Ext.alloc _ _⟩ | exact ⟨ret_bool (valid_ne (by omega) (.inl (by assumption))), Ext.alloc _ _⟩ | exact ⟨ret_bool (valid_ne (by omega) (.inr (.inl (by assumption)))), Ext.alloc _ _⟩ | exact ⟨ret_bool (valid_ne (by omega) (.inr (.inr (.inl (by assumption))))), Ext.alloc _ _⟩ | exact ⟨ret_bool (valid_ne (by omega) (.inr (.inr (.inr (.inl (by assumption)))))), Ext.alloc _ _⟩ | exact ⟨ret_bool (valid_ye (by omega) (by unfold ValidH; omega) (by omega) (by omega) (by omega) (by omega)), Ext.alloc _ _⟩

set_option maxRecDepth 100000 in
set_option maxHeartbeats 1000000 in
theorem Valid_ref_f1_128 (d : DS) (w : World) (h3 : d.org = 1) (hs : d.interval = 128) (hf : ¬ d.format = 0) (hf2 : (d.format != 0) = true) : Calls Tryd.prog 23 #[.agg #[.int .i64 d.id, .int .i64 d.org, .int .i64 d.format, .int .i64 d.length, .int .i64 d.block, .int .i64 d.keyAt, .int .i64 d.keyLength, .int .i64 d.interval, .int .i64 d.area, .int .i64 d.freeInterval, .int .i64 d.freeArea, .int .i64 d.base, .int .i64 d.altAt, .int .i64 d.altLength, .bool d.unique, .int .i64 d.cls, .string ⟨d.volume.toArray⟩, .string ⟨d.owner.toArray⟩, .int .i64 d.created, .int .i64 d.expires, .bool d.archived]] w fun e w' => e = .returned (.bool (validB d)) ∧ Ext w w' := by
  go_enter Tryd.func23, Tryd.ntmps23
  go_wp2_with (go_at_call 62; refine (between_any _ _ _ _).mono ?_; rintro e w' ⟨rfl, rfl⟩)
  all_goals go_ret
  all_goals exact ⟨ret_bool (valid_no (by unfold ValidP; omega)), Ext.alloc _ _⟩

set_option maxRecDepth 100000 in
set_option maxHeartbeats 1000000 in
theorem Valid_ref_b1_128 (d : DS) (w : World) (h3 : d.org = 1) (hs : d.interval = 128) (hf : d.format = 0) (hb : ¬ d.block = 0) (hb2 : (d.block != 0) = true) : Calls Tryd.prog 23 #[.agg #[.int .i64 d.id, .int .i64 d.org, .int .i64 d.format, .int .i64 d.length, .int .i64 d.block, .int .i64 d.keyAt, .int .i64 d.keyLength, .int .i64 d.interval, .int .i64 d.area, .int .i64 d.freeInterval, .int .i64 d.freeArea, .int .i64 d.base, .int .i64 d.altAt, .int .i64 d.altLength, .bool d.unique, .int .i64 d.cls, .string ⟨d.volume.toArray⟩, .string ⟨d.owner.toArray⟩, .int .i64 d.created, .int .i64 d.expires, .bool d.archived]] w fun e w' => e = .returned (.bool (validB d)) ∧ Ext w w' := by
  go_enter Tryd.func23, Tryd.ntmps23
  go_wp2_with (go_at_call 62; refine (between_any _ _ _ _).mono ?_; rintro e w' ⟨rfl, rfl⟩)
  all_goals go_ret
  all_goals exact ⟨ret_bool (valid_no (by unfold ValidP; omega)), Ext.alloc _ _⟩

set_option maxRecDepth 100000 in
set_option maxHeartbeats 1000000 in
theorem Valid_ref_f2_128 (d : DS) (w : World) (h3 : d.org = 2) (hs : d.interval = 128) (hf : ¬ d.format = 0) (hf2 : (d.format != 0) = true) : Calls Tryd.prog 23 #[.agg #[.int .i64 d.id, .int .i64 d.org, .int .i64 d.format, .int .i64 d.length, .int .i64 d.block, .int .i64 d.keyAt, .int .i64 d.keyLength, .int .i64 d.interval, .int .i64 d.area, .int .i64 d.freeInterval, .int .i64 d.freeArea, .int .i64 d.base, .int .i64 d.altAt, .int .i64 d.altLength, .bool d.unique, .int .i64 d.cls, .string ⟨d.volume.toArray⟩, .string ⟨d.owner.toArray⟩, .int .i64 d.created, .int .i64 d.expires, .bool d.archived]] w fun e w' => e = .returned (.bool (validB d)) ∧ Ext w w' := by
  go_enter Tryd.func23, Tryd.ntmps23
  go_wp2_with (go_at_call 62; refine (between_any _ _ _ _).mono ?_; rintro e w' ⟨rfl, rfl⟩)
  all_goals go_ret
  all_goals exact ⟨ret_bool (valid_no (by unfold ValidP; omega)), Ext.alloc _ _⟩

set_option maxRecDepth 100000 in
set_option maxHeartbeats 1000000 in
theorem Valid_ref_b2_128 (d : DS) (w : World) (h3 : d.org = 2) (hs : d.interval = 128) (hf : d.format = 0) (hb : ¬ d.block = 0) (hb2 : (d.block != 0) = true) : Calls Tryd.prog 23 #[.agg #[.int .i64 d.id, .int .i64 d.org, .int .i64 d.format, .int .i64 d.length, .int .i64 d.block, .int .i64 d.keyAt, .int .i64 d.keyLength, .int .i64 d.interval, .int .i64 d.area, .int .i64 d.freeInterval, .int .i64 d.freeArea, .int .i64 d.base, .int .i64 d.altAt, .int .i64 d.altLength, .bool d.unique, .int .i64 d.cls, .string ⟨d.volume.toArray⟩, .string ⟨d.owner.toArray⟩, .int .i64 d.created, .int .i64 d.expires, .bool d.archived]] w fun e w' => e = .returned (.bool (validB d)) ∧ Ext w w' := by
  go_enter Tryd.func23, Tryd.ntmps23
  go_wp2_with (go_at_call 62; refine (between_any _ _ _ _).mono ?_; rintro e w' ⟨rfl, rfl⟩)
  all_goals go_ret
  all_goals exact ⟨ret_bool (valid_no (by unfold ValidP; omega)), Ext.alloc _ _⟩

set_option maxRecDepth 100000 in
set_option maxHeartbeats 1000000 in
theorem Valid_ref_f3_128 (d : DS) (w : World) (h3 : d.org = 3) (hs : d.interval = 128) (hf : ¬ d.format = 0) (hf2 : (d.format != 0) = true) : Calls Tryd.prog 23 #[.agg #[.int .i64 d.id, .int .i64 d.org, .int .i64 d.format, .int .i64 d.length, .int .i64 d.block, .int .i64 d.keyAt, .int .i64 d.keyLength, .int .i64 d.interval, .int .i64 d.area, .int .i64 d.freeInterval, .int .i64 d.freeArea, .int .i64 d.base, .int .i64 d.altAt, .int .i64 d.altLength, .bool d.unique, .int .i64 d.cls, .string ⟨d.volume.toArray⟩, .string ⟨d.owner.toArray⟩, .int .i64 d.created, .int .i64 d.expires, .bool d.archived]] w fun e w' => e = .returned (.bool (validB d)) ∧ Ext w w' := by
  go_enter Tryd.func23, Tryd.ntmps23
  go_wp2_with (go_at_call 62; refine (between_any _ _ _ _).mono ?_; rintro e w' ⟨rfl, rfl⟩)
  all_goals go_ret
  all_goals exact ⟨ret_bool (valid_no (by unfold ValidP; omega)), Ext.alloc _ _⟩

set_option maxRecDepth 100000 in
set_option maxHeartbeats 1000000 in
theorem Valid_ref_b3_128 (d : DS) (w : World) (h3 : d.org = 3) (hs : d.interval = 128) (hf : d.format = 0) (hb : ¬ d.block = 0) (hb2 : (d.block != 0) = true) : Calls Tryd.prog 23 #[.agg #[.int .i64 d.id, .int .i64 d.org, .int .i64 d.format, .int .i64 d.length, .int .i64 d.block, .int .i64 d.keyAt, .int .i64 d.keyLength, .int .i64 d.interval, .int .i64 d.area, .int .i64 d.freeInterval, .int .i64 d.freeArea, .int .i64 d.base, .int .i64 d.altAt, .int .i64 d.altLength, .bool d.unique, .int .i64 d.cls, .string ⟨d.volume.toArray⟩, .string ⟨d.owner.toArray⟩, .int .i64 d.created, .int .i64 d.expires, .bool d.archived]] w fun e w' => e = .returned (.bool (validB d)) ∧ Ext w w' := by
  go_enter Tryd.func23, Tryd.ntmps23
  go_wp2_with (go_at_call 62; refine (between_any _ _ _ _).mono ?_; rintro e w' ⟨rfl, rfl⟩)
  all_goals go_ret
  all_goals exact ⟨ret_bool (valid_no (by unfold ValidP; omega)), Ext.alloc _ _⟩

theorem Valid_ref_128 (d : DS) (w : World) (hs : d.interval = 128) (ho : d.org = 1 ∨ d.org = 2 ∨ d.org = 3) : Calls Tryd.prog 23 #[.agg #[.int .i64 d.id, .int .i64 d.org, .int .i64 d.format, .int .i64 d.length, .int .i64 d.block, .int .i64 d.keyAt, .int .i64 d.keyLength, .int .i64 d.interval, .int .i64 d.area, .int .i64 d.freeInterval, .int .i64 d.freeArea, .int .i64 d.base, .int .i64 d.altAt, .int .i64 d.altLength, .bool d.unique, .int .i64 d.cls, .string ⟨d.volume.toArray⟩, .string ⟨d.owner.toArray⟩, .int .i64 d.created, .int .i64 d.expires, .bool d.archived]] w fun e w' => e = .returned (.bool (validB d)) ∧ Ext w w' := by
  by_cases hf : d.format = 0
  · by_cases hb : d.block = 0
    · rcases ho with h | h | h
      · exact Valid_ref_e128 d w h hs hf hb
      · exact Valid_ref_r128 d w h hs hf hb
      · exact Valid_ref_k128 d w h hs hf hb
    · have hb2 : (d.block != 0) = true := by simpa using hb
      rcases ho with h | h | h
      · exact Valid_ref_b1_128 d w h hs hf hb hb2
      · exact Valid_ref_b2_128 d w h hs hf hb hb2
      · exact Valid_ref_b3_128 d w h hs hf hb hb2
  · have hf2 : (d.format != 0) = true := by simpa using hf
    rcases ho with h | h | h
    · exact Valid_ref_f1_128 d w h hs hf hf2
    · exact Valid_ref_f2_128 d w h hs hf hf2
    · exact Valid_ref_f3_128 d w h hs hf hf2
end Go.Proofs.YtjgdhlpnpihkdaaDoor
/- The walk of chapter 16's Valid (reference): intervals of 256 bytes. -/
namespace Go.Proofs.YtjgdhlpnpihkdaaDoor
open Go.RowKit Dsd

set_option maxRecDepth 100000 in
set_option maxHeartbeats 1000000 in
theorem Valid_ref_k256 (d : DS) (w : World) (h3 : d.org = 3) (hs : d.interval = 256) (hf : d.format = 0) (hb : d.block = 0) : Calls Tryd.prog 23 #[.agg #[.int .i64 d.id, .int .i64 d.org, .int .i64 d.format, .int .i64 d.length, .int .i64 d.block, .int .i64 d.keyAt, .int .i64 d.keyLength, .int .i64 d.interval, .int .i64 d.area, .int .i64 d.freeInterval, .int .i64 d.freeArea, .int .i64 d.base, .int .i64 d.altAt, .int .i64 d.altLength, .bool d.unique, .int .i64 d.cls, .string ⟨d.volume.toArray⟩, .string ⟨d.owner.toArray⟩, .int .i64 d.created, .int .i64 d.expires, .bool d.archived]] w fun e w' => e = .returned (.bool (validB d)) ∧ Ext w w' := by
  go_enter Tryd.func23, Tryd.ntmps23
  go_wp2_with (go_at_call 62; refine (between_any _ _ _ _).mono ?_; rintro e w' ⟨rfl, rfl⟩)
  all_goals go_ret
  all_goals first | exact ⟨ret_bool (valid_no (by unfold ValidP; omega)), Ext.alloc _ _⟩ | exact ⟨ret_bool (valid_last (by unfold ValidP; simp only [decide_eq_true_eq]; omega) (by unfold ValidP; simp only [decide_eq_true_eq]; omega)), Ext.alloc _ _⟩

set_option maxRecDepth 100000 in
set_option maxHeartbeats 1000000 in
theorem Valid_ref_e256 (d : DS) (w : World) (h3 : d.org = 1) (hs : d.interval = 256) (hf : d.format = 0) (hb : d.block = 0) : Calls Tryd.prog 23 #[.agg #[.int .i64 d.id, .int .i64 d.org, .int .i64 d.format, .int .i64 d.length, .int .i64 d.block, .int .i64 d.keyAt, .int .i64 d.keyLength, .int .i64 d.interval, .int .i64 d.area, .int .i64 d.freeInterval, .int .i64 d.freeArea, .int .i64 d.base, .int .i64 d.altAt, .int .i64 d.altLength, .bool d.unique, .int .i64 d.cls, .string ⟨d.volume.toArray⟩, .string ⟨d.owner.toArray⟩, .int .i64 d.created, .int .i64 d.expires, .bool d.archived]] w fun e w' => e = .returned (.bool (validB d)) ∧ Ext w w' := by
  go_enter Tryd.func23, Tryd.ntmps23
  go_wp2_with (go_at_call 62; refine (between_any _ _ _ _).mono ?_; rintro e w' ⟨rfl, rfl⟩)
  all_goals go_ret
  all_goals first | exact ⟨ret_bool (valid_no (by unfold ValidP; omega)), Ext.alloc _ _⟩ | exact ⟨ret_bool (valid_ne (by omega) (.inl (by assumption))), Ext.alloc _ _⟩ | exact ⟨ret_bool (valid_ne (by omega) (.inr (.inl (by assumption)))), Ext.alloc _ _⟩ | exact ⟨ret_bool (valid_ne (by omega) (.inr (.inr (.inl (by assumption))))), Ext.alloc _ _⟩ | exact ⟨ret_bool (valid_ne (by omega) (.inr (.inr (.inr (.inl (by assumption)))))), Ext.alloc _ _⟩ | exact ⟨ret_bool (valid_ye (by omega) (by unfold ValidH; omega) (by omega) (by omega) (by omega) (by omega)), Ext.alloc _ _⟩

set_option maxRecDepth 100000 in
set_option maxHeartbeats 1000000 in
theorem Valid_ref_r256 (d : DS) (w : World) (h3 : d.org = 2) (hs : d.interval = 256) (hf : d.format = 0) (hb : d.block = 0) : Calls Tryd.prog 23 #[.agg #[.int .i64 d.id, .int .i64 d.org, .int .i64 d.format, .int .i64 d.length, .int .i64 d.block, .int .i64 d.keyAt, .int .i64 d.keyLength, .int .i64 d.interval, .int .i64 d.area, .int .i64 d.freeInterval, .int .i64 d.freeArea, .int .i64 d.base, .int .i64 d.altAt, .int .i64 d.altLength, .bool d.unique, .int .i64 d.cls, .string ⟨d.volume.toArray⟩, .string ⟨d.owner.toArray⟩, .int .i64 d.created, .int .i64 d.expires, .bool d.archived]] w fun e w' => e = .returned (.bool (validB d)) ∧ Ext w w' := by
  go_enter Tryd.func23, Tryd.ntmps23
  go_wp2_with (go_at_call 62; refine (between_any _ _ _ _).mono ?_; rintro e w' ⟨rfl, rfl⟩)
  all_goals go_ret
  all_goals first | exact ⟨ret_bool (valid_no (by unfold ValidP; omega)), Ext.alloc _ _⟩ | exact ⟨ret_bool (valid_ne (by omega) (.inl (by assumption))), Ext.alloc _ _⟩ | exact ⟨ret_bool (valid_ne (by omega) (.inr (.inl (by assumption)))), Ext.alloc _ _⟩ | exact ⟨ret_bool (valid_ne (by omega) (.inr (.inr (.inl (by assumption))))), Ext.alloc _ _⟩ | exact ⟨ret_bool (valid_ne (by omega) (.inr (.inr (.inr (.inl (by assumption)))))), Ext.alloc _ _⟩ | exact ⟨ret_bool (valid_ye (by omega) (by unfold ValidH; omega) (by omega) (by omega) (by omega) (by omega)), Ext.alloc _ _⟩

set_option maxRecDepth 100000 in
set_option maxHeartbeats 1000000 in
theorem Valid_ref_f1_256 (d : DS) (w : World) (h3 : d.org = 1) (hs : d.interval = 256) (hf : ¬ d.format = 0) (hf2 : (d.format != 0) = true) : Calls Tryd.prog 23 #[.agg #[.int .i64 d.id, .int .i64 d.org, .int .i64 d.format, .int .i64 d.length, .int .i64 d.block, .int .i64 d.keyAt, .int .i64 d.keyLength, .int .i64 d.interval, .int .i64 d.area, .int .i64 d.freeInterval, .int .i64 d.freeArea, .int .i64 d.base, .int .i64 d.altAt, .int .i64 d.altLength, .bool d.unique, .int .i64 d.cls, .string ⟨d.volume.toArray⟩, .string ⟨d.owner.toArray⟩, .int .i64 d.created, .int .i64 d.expires, .bool d.archived]] w fun e w' => e = .returned (.bool (validB d)) ∧ Ext w w' := by
  go_enter Tryd.func23, Tryd.ntmps23
  go_wp2_with (go_at_call 62; refine (between_any _ _ _ _).mono ?_; rintro e w' ⟨rfl, rfl⟩)
  all_goals go_ret
  all_goals exact ⟨ret_bool (valid_no (by unfold ValidP; omega)), Ext.alloc _ _⟩

set_option maxRecDepth 100000 in
set_option maxHeartbeats 1000000 in
theorem Valid_ref_b1_256 (d : DS) (w : World) (h3 : d.org = 1) (hs : d.interval = 256) (hf : d.format = 0) (hb : ¬ d.block = 0) (hb2 : (d.block != 0) = true) : Calls Tryd.prog 23 #[.agg #[.int .i64 d.id, .int .i64 d.org, .int .i64 d.format, .int .i64 d.length, .int .i64 d.block, .int .i64 d.keyAt, .int .i64 d.keyLength, .int .i64 d.interval, .int .i64 d.area, .int .i64 d.freeInterval, .int .i64 d.freeArea, .int .i64 d.base, .int .i64 d.altAt, .int .i64 d.altLength, .bool d.unique, .int .i64 d.cls, .string ⟨d.volume.toArray⟩, .string ⟨d.owner.toArray⟩, .int .i64 d.created, .int .i64 d.expires, .bool d.archived]] w fun e w' => e = .returned (.bool (validB d)) ∧ Ext w w' := by
  go_enter Tryd.func23, Tryd.ntmps23
  go_wp2_with (go_at_call 62; refine (between_any _ _ _ _).mono ?_; rintro e w' ⟨rfl, rfl⟩)
  all_goals go_ret
  all_goals exact ⟨ret_bool (valid_no (by unfold ValidP; omega)), Ext.alloc _ _⟩

set_option maxRecDepth 100000 in
set_option maxHeartbeats 1000000 in
theorem Valid_ref_f2_256 (d : DS) (w : World) (h3 : d.org = 2) (hs : d.interval = 256) (hf : ¬ d.format = 0) (hf2 : (d.format != 0) = true) : Calls Tryd.prog 23 #[.agg #[.int .i64 d.id, .int .i64 d.org, .int .i64 d.format, .int .i64 d.length, .int .i64 d.block, .int .i64 d.keyAt, .int .i64 d.keyLength, .int .i64 d.interval, .int .i64 d.area, .int .i64 d.freeInterval, .int .i64 d.freeArea, .int .i64 d.base, .int .i64 d.altAt, .int .i64 d.altLength, .bool d.unique, .int .i64 d.cls, .string ⟨d.volume.toArray⟩, .string ⟨d.owner.toArray⟩, .int .i64 d.created, .int .i64 d.expires, .bool d.archived]] w fun e w' => e = .returned (.bool (validB d)) ∧ Ext w w' := by
  go_enter Tryd.func23, Tryd.ntmps23
  go_wp2_with (go_at_call 62; refine (between_any _ _ _ _).mono ?_; rintro e w' ⟨rfl, rfl⟩)
  all_goals go_ret
  all_goals exact ⟨ret_bool (valid_no (by unfold ValidP; omega)), Ext.alloc _ _⟩

set_option maxRecDepth 100000 in
set_option maxHeartbeats 1000000 in
theorem Valid_ref_b2_256 (d : DS) (w : World) (h3 : d.org = 2) (hs : d.interval = 256) (hf : d.format = 0) (hb : ¬ d.block = 0) (hb2 : (d.block != 0) = true) : Calls Tryd.prog 23 #[.agg #[.int .i64 d.id, .int .i64 d.org, .int .i64 d.format, .int .i64 d.length, .int .i64 d.block, .int .i64 d.keyAt, .int .i64 d.keyLength, .int .i64 d.interval, .int .i64 d.area, .int .i64 d.freeInterval, .int .i64 d.freeArea, .int .i64 d.base, .int .i64 d.altAt, .int .i64 d.altLength, .bool d.unique, .int .i64 d.cls, .string ⟨d.volume.toArray⟩, .string ⟨d.owner.toArray⟩, .int .i64 d.created, .int .i64 d.expires, .bool d.archived]] w fun e w' => e = .returned (.bool (validB d)) ∧ Ext w w' := by
  go_enter Tryd.func23, Tryd.ntmps23
  go_wp2_with (go_at_call 62; refine (between_any _ _ _ _).mono ?_; rintro e w' ⟨rfl, rfl⟩)
  all_goals go_ret
  all_goals exact ⟨ret_bool (valid_no (by unfold ValidP; omega)), Ext.alloc _ _⟩

set_option maxRecDepth 100000 in
set_option maxHeartbeats 1000000 in
theorem Valid_ref_f3_256 (d : DS) (w : World) (h3 : d.org = 3) (hs : d.interval = 256) (hf : ¬ d.format = 0) (hf2 : (d.format != 0) = true) : Calls Tryd.prog 23 #[.agg #[.int .i64 d.id, .int .i64 d.org, .int .i64 d.format, .int .i64 d.length, .int .i64 d.block, .int .i64 d.keyAt, .int .i64 d.keyLength, .int .i64 d.interval, .int .i64 d.area, .int .i64 d.freeInterval, .int .i64 d.freeArea, .int .i64 d.base, .int .i64 d.altAt, .int .i64 d.altLength, .bool d.unique, .int .i64 d.cls, .string ⟨d.volume.toArray⟩, .string ⟨d.owner.toArray⟩, .int .i64 d.created, .int .i64 d.expires, .bool d.archived]] w fun e w' => e = .returned (.bool (validB d)) ∧ Ext w w' := by
  go_enter Tryd.func23, Tryd.ntmps23
  go_wp2_with (go_at_call 62; refine (between_any _ _ _ _).mono ?_; rintro e w' ⟨rfl, rfl⟩)
  all_goals go_ret
  all_goals exact ⟨ret_bool (valid_no (by unfold ValidP; omega)), Ext.alloc _ _⟩

set_option maxRecDepth 100000 in
set_option maxHeartbeats 1000000 in
theorem Valid_ref_b3_256 (d : DS) (w : World) (h3 : d.org = 3) (hs : d.interval = 256) (hf : d.format = 0) (hb : ¬ d.block = 0) (hb2 : (d.block != 0) = true) : Calls Tryd.prog 23 #[.agg #[.int .i64 d.id, .int .i64 d.org, .int .i64 d.format, .int .i64 d.length, .int .i64 d.block, .int .i64 d.keyAt, .int .i64 d.keyLength, .int .i64 d.interval, .int .i64 d.area, .int .i64 d.freeInterval, .int .i64 d.freeArea, .int .i64 d.base, .int .i64 d.altAt, .int .i64 d.altLength, .bool d.unique, .int .i64 d.cls, .string ⟨d.volume.toArray⟩, .string ⟨d.owner.toArray⟩, .int .i64 d.created, .int .i64 d.expires, .bool d.archived]] w fun e w' => e = .returned (.bool (validB d)) ∧ Ext w w' := by
  go_enter Tryd.func23, Tryd.ntmps23
  go_wp2_with (go_at_call 62; refine (between_any _ _ _ _).mono ?_; rintro e w' ⟨rfl, rfl⟩)
  all_goals go_ret
  all_goals exact ⟨ret_bool (valid_no (by unfold ValidP; omega)), Ext.alloc _ _⟩

theorem Valid_ref_256 (d : DS) (w : World) (hs : d.interval = 256) (ho : d.org = 1 ∨ d.org = 2 ∨ d.org = 3) : Calls Tryd.prog 23 #[.agg #[.int .i64 d.id, .int .i64 d.org, .int .i64 d.format, .int .i64 d.length, .int .i64 d.block, .int .i64 d.keyAt, .int .i64 d.keyLength, .int .i64 d.interval, .int .i64 d.area, .int .i64 d.freeInterval, .int .i64 d.freeArea, .int .i64 d.base, .int .i64 d.altAt, .int .i64 d.altLength, .bool d.unique, .int .i64 d.cls, .string ⟨d.volume.toArray⟩, .string ⟨d.owner.toArray⟩, .int .i64 d.created, .int .i64 d.expires, .bool d.archived]] w fun e w' => e = .returned (.bool (validB d)) ∧ Ext w w' := by
  by_cases hf : d.format = 0
  · by_cases hb : d.block = 0
    · rcases ho with h | h | h
      · exact Valid_ref_e256 d w h hs hf hb
      · exact Valid_ref_r256 d w h hs hf hb
      · exact Valid_ref_k256 d w h hs hf hb
    · have hb2 : (d.block != 0) = true := by simpa using hb
      rcases ho with h | h | h
      · exact Valid_ref_b1_256 d w h hs hf hb hb2
      · exact Valid_ref_b2_256 d w h hs hf hb hb2
      · exact Valid_ref_b3_256 d w h hs hf hb hb2
  · have hf2 : (d.format != 0) = true := by simpa using hf
    rcases ho with h | h | h
    · exact Valid_ref_f1_256 d w h hs hf hf2
    · exact Valid_ref_f2_256 d w h hs hf hf2
    · exact Valid_ref_f3_256 d w h hs hf hf2
end Go.Proofs.YtjgdhlpnpihkdaaDoor
/- The walk of chapter 16's Valid (reference): intervals of 512 bytes. -/
namespace Go.Proofs.YtjgdhlpnpihkdaaDoor
open Go.RowKit Dsd

set_option maxRecDepth 100000 in
set_option maxHeartbeats 1000000 in
theorem Valid_ref_k512 (d : DS) (w : World) (h3 : d.org = 3) (hs : d.interval = 512) (hf : d.format = 0) (hb : d.block = 0) : Calls Tryd.prog 23 #[.agg #[.int .i64 d.id, .int .i64 d.org, .int .i64 d.format, .int .i64 d.length, .int .i64 d.block, .int .i64 d.keyAt, .int .i64 d.keyLength, .int .i64 d.interval, .int .i64 d.area, .int .i64 d.freeInterval, .int .i64 d.freeArea, .int .i64 d.base, .int .i64 d.altAt, .int .i64 d.altLength, .bool d.unique, .int .i64 d.cls, .string ⟨d.volume.toArray⟩, .string ⟨d.owner.toArray⟩, .int .i64 d.created, .int .i64 d.expires, .bool d.archived]] w fun e w' => e = .returned (.bool (validB d)) ∧ Ext w w' := by
  go_enter Tryd.func23, Tryd.ntmps23
  go_wp2_with (go_at_call 62; refine (between_any _ _ _ _).mono ?_; rintro e w' ⟨rfl, rfl⟩)
  all_goals go_ret
  all_goals first | exact ⟨ret_bool (valid_no (by unfold ValidP; omega)), Ext.alloc _ _⟩ | exact ⟨ret_bool (valid_last (by unfold ValidP; simp only [decide_eq_true_eq]; omega) (by unfold ValidP; simp only [decide_eq_true_eq]; omega)), Ext.alloc _ _⟩

set_option maxRecDepth 100000 in
set_option maxHeartbeats 1000000 in
theorem Valid_ref_e512 (d : DS) (w : World) (h3 : d.org = 1) (hs : d.interval = 512) (hf : d.format = 0) (hb : d.block = 0) : Calls Tryd.prog 23 #[.agg #[.int .i64 d.id, .int .i64 d.org, .int .i64 d.format, .int .i64 d.length, .int .i64 d.block, .int .i64 d.keyAt, .int .i64 d.keyLength, .int .i64 d.interval, .int .i64 d.area, .int .i64 d.freeInterval, .int .i64 d.freeArea, .int .i64 d.base, .int .i64 d.altAt, .int .i64 d.altLength, .bool d.unique, .int .i64 d.cls, .string ⟨d.volume.toArray⟩, .string ⟨d.owner.toArray⟩, .int .i64 d.created, .int .i64 d.expires, .bool d.archived]] w fun e w' => e = .returned (.bool (validB d)) ∧ Ext w w' := by
  go_enter Tryd.func23, Tryd.ntmps23
  go_wp2_with (go_at_call 62; refine (between_any _ _ _ _).mono ?_; rintro e w' ⟨rfl, rfl⟩)
  all_goals go_ret
  all_goals first | exact ⟨ret_bool (valid_no (by unfold ValidP; omega)), Ext.alloc _ _⟩ | exact ⟨ret_bool (valid_ne (by omega) (.inl (by assumption))), Ext.alloc _ _⟩ | exact ⟨ret_bool (valid_ne (by omega) (.inr (.inl (by assumption)))), Ext.alloc _ _⟩ | exact ⟨ret_bool (valid_ne (by omega) (.inr (.inr (.inl (by assumption))))), Ext.alloc _ _⟩ | exact ⟨ret_bool (valid_ne (by omega) (.inr (.inr (.inr (.inl (by assumption)))))), Ext.alloc _ _⟩ | exact ⟨ret_bool (valid_ye (by omega) (by unfold ValidH; omega) (by omega) (by omega) (by omega) (by omega)), Ext.alloc _ _⟩

set_option maxRecDepth 100000 in
set_option maxHeartbeats 1000000 in
theorem Valid_ref_r512 (d : DS) (w : World) (h3 : d.org = 2) (hs : d.interval = 512) (hf : d.format = 0) (hb : d.block = 0) : Calls Tryd.prog 23 #[.agg #[.int .i64 d.id, .int .i64 d.org, .int .i64 d.format, .int .i64 d.length, .int .i64 d.block, .int .i64 d.keyAt, .int .i64 d.keyLength, .int .i64 d.interval, .int .i64 d.area, .int .i64 d.freeInterval, .int .i64 d.freeArea, .int .i64 d.base, .int .i64 d.altAt, .int .i64 d.altLength, .bool d.unique, .int .i64 d.cls, .string ⟨d.volume.toArray⟩, .string ⟨d.owner.toArray⟩, .int .i64 d.created, .int .i64 d.expires, .bool d.archived]] w fun e w' => e = .returned (.bool (validB d)) ∧ Ext w w' := by
  go_enter Tryd.func23, Tryd.ntmps23
  go_wp2_with (go_at_call 62; refine (between_any _ _ _ _).mono ?_; rintro e w' ⟨rfl, rfl⟩)
  all_goals go_ret
  all_goals first | exact ⟨ret_bool (valid_no (by unfold ValidP; omega)), Ext.alloc _ _⟩ | exact ⟨ret_bool (valid_ne (by omega) (.inl (by assumption))), Ext.alloc _ _⟩ | exact ⟨ret_bool (valid_ne (by omega) (.inr (.inl (by assumption)))), Ext.alloc _ _⟩ | exact ⟨ret_bool (valid_ne (by omega) (.inr (.inr (.inl (by assumption))))), Ext.alloc _ _⟩ | exact ⟨ret_bool (valid_ne (by omega) (.inr (.inr (.inr (.inl (by assumption)))))), Ext.alloc _ _⟩ | exact ⟨ret_bool (valid_ye (by omega) (by unfold ValidH; omega) (by omega) (by omega) (by omega) (by omega)), Ext.alloc _ _⟩

set_option maxRecDepth 100000 in
set_option maxHeartbeats 1000000 in
theorem Valid_ref_f1_512 (d : DS) (w : World) (h3 : d.org = 1) (hs : d.interval = 512) (hf : ¬ d.format = 0) (hf2 : (d.format != 0) = true) : Calls Tryd.prog 23 #[.agg #[.int .i64 d.id, .int .i64 d.org, .int .i64 d.format, .int .i64 d.length, .int .i64 d.block, .int .i64 d.keyAt, .int .i64 d.keyLength, .int .i64 d.interval, .int .i64 d.area, .int .i64 d.freeInterval, .int .i64 d.freeArea, .int .i64 d.base, .int .i64 d.altAt, .int .i64 d.altLength, .bool d.unique, .int .i64 d.cls, .string ⟨d.volume.toArray⟩, .string ⟨d.owner.toArray⟩, .int .i64 d.created, .int .i64 d.expires, .bool d.archived]] w fun e w' => e = .returned (.bool (validB d)) ∧ Ext w w' := by
  go_enter Tryd.func23, Tryd.ntmps23
  go_wp2_with (go_at_call 62; refine (between_any _ _ _ _).mono ?_; rintro e w' ⟨rfl, rfl⟩)
  all_goals go_ret
  all_goals exact ⟨ret_bool (valid_no (by unfold ValidP; omega)), Ext.alloc _ _⟩

set_option maxRecDepth 100000 in
set_option maxHeartbeats 1000000 in
theorem Valid_ref_b1_512 (d : DS) (w : World) (h3 : d.org = 1) (hs : d.interval = 512) (hf : d.format = 0) (hb : ¬ d.block = 0) (hb2 : (d.block != 0) = true) : Calls Tryd.prog 23 #[.agg #[.int .i64 d.id, .int .i64 d.org, .int .i64 d.format, .int .i64 d.length, .int .i64 d.block, .int .i64 d.keyAt, .int .i64 d.keyLength, .int .i64 d.interval, .int .i64 d.area, .int .i64 d.freeInterval, .int .i64 d.freeArea, .int .i64 d.base, .int .i64 d.altAt, .int .i64 d.altLength, .bool d.unique, .int .i64 d.cls, .string ⟨d.volume.toArray⟩, .string ⟨d.owner.toArray⟩, .int .i64 d.created, .int .i64 d.expires, .bool d.archived]] w fun e w' => e = .returned (.bool (validB d)) ∧ Ext w w' := by
  go_enter Tryd.func23, Tryd.ntmps23
  go_wp2_with (go_at_call 62; refine (between_any _ _ _ _).mono ?_; rintro e w' ⟨rfl, rfl⟩)
  all_goals go_ret
  all_goals exact ⟨ret_bool (valid_no (by unfold ValidP; omega)), Ext.alloc _ _⟩

set_option maxRecDepth 100000 in
set_option maxHeartbeats 1000000 in
theorem Valid_ref_f2_512 (d : DS) (w : World) (h3 : d.org = 2) (hs : d.interval = 512) (hf : ¬ d.format = 0) (hf2 : (d.format != 0) = true) : Calls Tryd.prog 23 #[.agg #[.int .i64 d.id, .int .i64 d.org, .int .i64 d.format, .int .i64 d.length, .int .i64 d.block, .int .i64 d.keyAt, .int .i64 d.keyLength, .int .i64 d.interval, .int .i64 d.area, .int .i64 d.freeInterval, .int .i64 d.freeArea, .int .i64 d.base, .int .i64 d.altAt, .int .i64 d.altLength, .bool d.unique, .int .i64 d.cls, .string ⟨d.volume.toArray⟩, .string ⟨d.owner.toArray⟩, .int .i64 d.created, .int .i64 d.expires, .bool d.archived]] w fun e w' => e = .returned (.bool (validB d)) ∧ Ext w w' := by
  go_enter Tryd.func23, Tryd.ntmps23
  go_wp2_with (go_at_call 62; refine (between_any _ _ _ _).mono ?_; rintro e w' ⟨rfl, rfl⟩)
  all_goals go_ret
  all_goals exact ⟨ret_bool (valid_no (by unfold ValidP; omega)), Ext.alloc _ _⟩

set_option maxRecDepth 100000 in
set_option maxHeartbeats 1000000 in
theorem Valid_ref_b2_512 (d : DS) (w : World) (h3 : d.org = 2) (hs : d.interval = 512) (hf : d.format = 0) (hb : ¬ d.block = 0) (hb2 : (d.block != 0) = true) : Calls Tryd.prog 23 #[.agg #[.int .i64 d.id, .int .i64 d.org, .int .i64 d.format, .int .i64 d.length, .int .i64 d.block, .int .i64 d.keyAt, .int .i64 d.keyLength, .int .i64 d.interval, .int .i64 d.area, .int .i64 d.freeInterval, .int .i64 d.freeArea, .int .i64 d.base, .int .i64 d.altAt, .int .i64 d.altLength, .bool d.unique, .int .i64 d.cls, .string ⟨d.volume.toArray⟩, .string ⟨d.owner.toArray⟩, .int .i64 d.created, .int .i64 d.expires, .bool d.archived]] w fun e w' => e = .returned (.bool (validB d)) ∧ Ext w w' := by
  go_enter Tryd.func23, Tryd.ntmps23
  go_wp2_with (go_at_call 62; refine (between_any _ _ _ _).mono ?_; rintro e w' ⟨rfl, rfl⟩)
  all_goals go_ret
  all_goals exact ⟨ret_bool (valid_no (by unfold ValidP; omega)), Ext.alloc _ _⟩

set_option maxRecDepth 100000 in
set_option maxHeartbeats 1000000 in
theorem Valid_ref_f3_512 (d : DS) (w : World) (h3 : d.org = 3) (hs : d.interval = 512) (hf : ¬ d.format = 0) (hf2 : (d.format != 0) = true) : Calls Tryd.prog 23 #[.agg #[.int .i64 d.id, .int .i64 d.org, .int .i64 d.format, .int .i64 d.length, .int .i64 d.block, .int .i64 d.keyAt, .int .i64 d.keyLength, .int .i64 d.interval, .int .i64 d.area, .int .i64 d.freeInterval, .int .i64 d.freeArea, .int .i64 d.base, .int .i64 d.altAt, .int .i64 d.altLength, .bool d.unique, .int .i64 d.cls, .string ⟨d.volume.toArray⟩, .string ⟨d.owner.toArray⟩, .int .i64 d.created, .int .i64 d.expires, .bool d.archived]] w fun e w' => e = .returned (.bool (validB d)) ∧ Ext w w' := by
  go_enter Tryd.func23, Tryd.ntmps23
  go_wp2_with (go_at_call 62; refine (between_any _ _ _ _).mono ?_; rintro e w' ⟨rfl, rfl⟩)
  all_goals go_ret
  all_goals exact ⟨ret_bool (valid_no (by unfold ValidP; omega)), Ext.alloc _ _⟩

set_option maxRecDepth 100000 in
set_option maxHeartbeats 1000000 in
theorem Valid_ref_b3_512 (d : DS) (w : World) (h3 : d.org = 3) (hs : d.interval = 512) (hf : d.format = 0) (hb : ¬ d.block = 0) (hb2 : (d.block != 0) = true) : Calls Tryd.prog 23 #[.agg #[.int .i64 d.id, .int .i64 d.org, .int .i64 d.format, .int .i64 d.length, .int .i64 d.block, .int .i64 d.keyAt, .int .i64 d.keyLength, .int .i64 d.interval, .int .i64 d.area, .int .i64 d.freeInterval, .int .i64 d.freeArea, .int .i64 d.base, .int .i64 d.altAt, .int .i64 d.altLength, .bool d.unique, .int .i64 d.cls, .string ⟨d.volume.toArray⟩, .string ⟨d.owner.toArray⟩, .int .i64 d.created, .int .i64 d.expires, .bool d.archived]] w fun e w' => e = .returned (.bool (validB d)) ∧ Ext w w' := by
  go_enter Tryd.func23, Tryd.ntmps23
  go_wp2_with (go_at_call 62; refine (between_any _ _ _ _).mono ?_; rintro e w' ⟨rfl, rfl⟩)
  all_goals go_ret
  all_goals exact ⟨ret_bool (valid_no (by unfold ValidP; omega)), Ext.alloc _ _⟩

theorem Valid_ref_512 (d : DS) (w : World) (hs : d.interval = 512) (ho : d.org = 1 ∨ d.org = 2 ∨ d.org = 3) : Calls Tryd.prog 23 #[.agg #[.int .i64 d.id, .int .i64 d.org, .int .i64 d.format, .int .i64 d.length, .int .i64 d.block, .int .i64 d.keyAt, .int .i64 d.keyLength, .int .i64 d.interval, .int .i64 d.area, .int .i64 d.freeInterval, .int .i64 d.freeArea, .int .i64 d.base, .int .i64 d.altAt, .int .i64 d.altLength, .bool d.unique, .int .i64 d.cls, .string ⟨d.volume.toArray⟩, .string ⟨d.owner.toArray⟩, .int .i64 d.created, .int .i64 d.expires, .bool d.archived]] w fun e w' => e = .returned (.bool (validB d)) ∧ Ext w w' := by
  by_cases hf : d.format = 0
  · by_cases hb : d.block = 0
    · rcases ho with h | h | h
      · exact Valid_ref_e512 d w h hs hf hb
      · exact Valid_ref_r512 d w h hs hf hb
      · exact Valid_ref_k512 d w h hs hf hb
    · have hb2 : (d.block != 0) = true := by simpa using hb
      rcases ho with h | h | h
      · exact Valid_ref_b1_512 d w h hs hf hb hb2
      · exact Valid_ref_b2_512 d w h hs hf hb hb2
      · exact Valid_ref_b3_512 d w h hs hf hb hb2
  · have hf2 : (d.format != 0) = true := by simpa using hf
    rcases ho with h | h | h
    · exact Valid_ref_f1_512 d w h hs hf hf2
    · exact Valid_ref_f2_512 d w h hs hf hf2
    · exact Valid_ref_f3_512 d w h hs hf hf2
end Go.Proofs.YtjgdhlpnpihkdaaDoor
