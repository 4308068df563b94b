/- The walk of chapter 16's Valid (reference): any description. -/
import Derived.Test.YtjgdhlpnpihkdaaDoorX1a
set_option linter.unusedSimpArgs false
set_option linter.unusedVariables false
namespace Go.Proofs.YtjgdhlpnpihkdaaDoor
open Go.RowKit Dsd

set_option maxRecDepth 100000 in
set_option maxHeartbeats 1000000 in
theorem Valid_ref_o (d : DS) (w : World) (h1 : d.org ≠ 1) (h2 : d.org ≠ 2) (h3 : d.org ≠ 3) : Calls Tryd.prog 23 #[.agg #[.int .i64 d.id, .int .i64 d.org, .int .i64 d.format, .int .i64 d.length, .int .i64 d.block, .int .i64 d.keyAt, .int .i64 d.keyLength, .int .i64 d.interval, .int .i64 d.area, .int .i64 d.freeInterval, .int .i64 d.freeArea, .int .i64 d.base, .int .i64 d.altAt, .int .i64 d.altLength, .bool d.unique, .int .i64 d.cls, .string ⟨d.volume.toArray⟩, .string ⟨d.owner.toArray⟩, .int .i64 d.created, .int .i64 d.expires, .bool d.archived]] w fun e w' => e = .returned (.bool (validB d)) ∧ Ext w w' := by
  have i1 : (d.org != 1) = true := by simpa using h1
  have i2 : (d.org != 2) = true := by simpa using h2
  have i3 : (d.org != 3) = true := by simpa using h3
  go_enter Tryd.func23, Tryd.ntmps23
  go_wp2_with (go_at_call 62; refine (between_any _ _ _ _).mono ?_; rintro e w' ⟨rfl, rfl⟩)
  all_goals go_ret
  all_goals exact ⟨ret_bool (valid_no (by unfold ValidP; omega)), Ext.alloc _ _⟩

set_option maxRecDepth 100000 in
set_option maxHeartbeats 1000000 in
theorem Valid_ref_s1 (d : DS) (w : World) (h3 : d.org = 1) (h1 : d.interval ≠ 128) (h2 : d.interval ≠ 256) (h4 : d.interval ≠ 512) : Calls Tryd.prog 23 #[.agg #[.int .i64 d.id, .int .i64 d.org, .int .i64 d.format, .int .i64 d.length, .int .i64 d.block, .int .i64 d.keyAt, .int .i64 d.keyLength, .int .i64 d.interval, .int .i64 d.area, .int .i64 d.freeInterval, .int .i64 d.freeArea, .int .i64 d.base, .int .i64 d.altAt, .int .i64 d.altLength, .bool d.unique, .int .i64 d.cls, .string ⟨d.volume.toArray⟩, .string ⟨d.owner.toArray⟩, .int .i64 d.created, .int .i64 d.expires, .bool d.archived]] w fun e w' => e = .returned (.bool (validB d)) ∧ Ext w w' := by
  have i1 : (d.interval != 128) = true := by simpa using h1
  have i2 : (d.interval != 256) = true := by simpa using h2
  have i3 : (d.interval != 512) = true := by simpa using h4
  go_enter Tryd.func23, Tryd.ntmps23
  go_wp2_with (go_at_call 62; refine (between_any _ _ _ _).mono ?_; rintro e w' ⟨rfl, rfl⟩)
  all_goals go_ret
  all_goals exact ⟨ret_bool (valid_no (by unfold ValidP; omega)), Ext.alloc _ _⟩

set_option maxRecDepth 100000 in
set_option maxHeartbeats 1000000 in
theorem Valid_ref_s2 (d : DS) (w : World) (h3 : d.org = 2) (h1 : d.interval ≠ 128) (h2 : d.interval ≠ 256) (h4 : d.interval ≠ 512) : Calls Tryd.prog 23 #[.agg #[.int .i64 d.id, .int .i64 d.org, .int .i64 d.format, .int .i64 d.length, .int .i64 d.block, .int .i64 d.keyAt, .int .i64 d.keyLength, .int .i64 d.interval, .int .i64 d.area, .int .i64 d.freeInterval, .int .i64 d.freeArea, .int .i64 d.base, .int .i64 d.altAt, .int .i64 d.altLength, .bool d.unique, .int .i64 d.cls, .string ⟨d.volume.toArray⟩, .string ⟨d.owner.toArray⟩, .int .i64 d.created, .int .i64 d.expires, .bool d.archived]] w fun e w' => e = .returned (.bool (validB d)) ∧ Ext w w' := by
  have i1 : (d.interval != 128) = true := by simpa using h1
  have i2 : (d.interval != 256) = true := by simpa using h2
  have i3 : (d.interval != 512) = true := by simpa using h4
  go_enter Tryd.func23, Tryd.ntmps23
  go_wp2_with (go_at_call 62; refine (between_any _ _ _ _).mono ?_; rintro e w' ⟨rfl, rfl⟩)
  all_goals go_ret
  all_goals exact ⟨ret_bool (valid_no (by unfold ValidP; omega)), Ext.alloc _ _⟩

set_option maxRecDepth 100000 in
set_option maxHeartbeats 1000000 in
theorem Valid_ref_s3 (d : DS) (w : World) (h3 : d.org = 3) (h1 : d.interval ≠ 128) (h2 : d.interval ≠ 256) (h4 : d.interval ≠ 512) : Calls Tryd.prog 23 #[.agg #[.int .i64 d.id, .int .i64 d.org, .int .i64 d.format, .int .i64 d.length, .int .i64 d.block, .int .i64 d.keyAt, .int .i64 d.keyLength, .int .i64 d.interval, .int .i64 d.area, .int .i64 d.freeInterval, .int .i64 d.freeArea, .int .i64 d.base, .int .i64 d.altAt, .int .i64 d.altLength, .bool d.unique, .int .i64 d.cls, .string ⟨d.volume.toArray⟩, .string ⟨d.owner.toArray⟩, .int .i64 d.created, .int .i64 d.expires, .bool d.archived]] w fun e w' => e = .returned (.bool (validB d)) ∧ Ext w w' := by
  have i1 : (d.interval != 128) = true := by simpa using h1
  have i2 : (d.interval != 256) = true := by simpa using h2
  have i3 : (d.interval != 512) = true := by simpa using h4
  go_enter Tryd.func23, Tryd.ntmps23
  go_wp2_with (go_at_call 62; refine (between_any _ _ _ _).mono ?_; rintro e w' ⟨rfl, rfl⟩)
  all_goals go_ret
  all_goals exact ⟨ret_bool (valid_no (by unfold ValidP; omega)), Ext.alloc _ _⟩

theorem Valid_ref (d : DS) (w : World) : Calls Tryd.prog 23 #[.agg #[.int .i64 d.id, .int .i64 d.org, .int .i64 d.format, .int .i64 d.length, .int .i64 d.block, .int .i64 d.keyAt, .int .i64 d.keyLength, .int .i64 d.interval, .int .i64 d.area, .int .i64 d.freeInterval, .int .i64 d.freeArea, .int .i64 d.base, .int .i64 d.altAt, .int .i64 d.altLength, .bool d.unique, .int .i64 d.cls, .string ⟨d.volume.toArray⟩, .string ⟨d.owner.toArray⟩, .int .i64 d.created, .int .i64 d.expires, .bool d.archived]] w fun e w' => e = .returned (.bool (validB d)) ∧ Ext w w' := by
  by_cases ho : d.org = 1 ∨ d.org = 2 ∨ d.org = 3
  · by_cases b1 : d.interval = 128
    · exact Valid_ref_128 d w b1 ho
    · by_cases b2 : d.interval = 256
      · exact Valid_ref_256 d w b2 ho
      · by_cases b3 : d.interval = 512
        · exact Valid_ref_512 d w b3 ho
        · rcases ho with h | h | h
          · exact Valid_ref_s1 d w h b1 b2 b3
          · exact Valid_ref_s2 d w h b1 b2 b3
          · exact Valid_ref_s3 d w h b1 b2 b3
  · exact Valid_ref_o d w (fun h => ho (.inl h)) (fun h => ho (.inr (.inl h))) (fun h => ho (.inr (.inr h)))
end Go.Proofs.YtjgdhlpnpihkdaaDoor
