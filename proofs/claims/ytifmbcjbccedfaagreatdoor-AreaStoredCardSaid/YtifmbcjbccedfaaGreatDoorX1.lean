/- A part of the proof. -/
import Derived.Test.YtifmbcjbccedfaaGreatDoorPA

set_option linter.unusedSimpArgs false
set_option linter.unusedVariables false
namespace Go.Proofs.YtifmbcjbccedfaaGreatDoor
open Go.RowKit Dsd
theorem between_any (n lo hi : Int) (w : World) : Calls Tryz.prog 56 #[.int .i64 n, .int .i64 lo, .int .i64 hi] w fun e w' => e = .returned (.bool (decide (lo ≤ n) && decide (n ≤ hi))) ∧ w = w' := by
 go_enter Tryz.func56, Tryz.ntmps56
 go_wp2
 all_goals go_ret
 all_goals first | (simp [*]; done) | (simp [*]; omega)
theorem within_any (n lo hi : Int) (w : World) : Calls Tryz.prog 120 #[.int .i64 n, .int .i64 lo, .int .i64 hi] w fun e w' => e = .returned (.bool (decide (lo ≤ n) && decide (n ≤ hi))) ∧ w = w' := by
 go_enter Tryz.func120, Tryz.ntmps120
 go_wp2
 all_goals go_ret
 all_goals first | (simp [*]; done) | (simp [*]; omega)
def ValidP (d : DS) : Prop := 1 ≤ d.org ∧ d.org ≤ 3 ∧ (d.interval = 128 ∨ d.interval = 256 ∨ d.interval = 512) ∧ 1 ≤ d.length ∧ d.length ≤ 200 ∧ d.length ≤ d.interval - 7 ∧ d.format = 0 ∧ d.block = 0 ∧
 (d.org = 3 → d.length ≤ d.interval / 2 - 8 ∧ 0 ≤ d.keyAt ∧ 1 ≤ d.keyLength ∧ d.keyLength ≤ d.interval / 16 ∧ d.keyAt + d.keyLength ≤ d.length ∧ 2 ≤ d.area ∧ d.area ≤ 8 ∧ 0 ≤ d.freeInterval ∧ d.freeInterval ≤ 90 ∧ 0 ≤ d.freeArea ∧ d.freeArea ≤ d.area - 1) ∧
 (d.org ≠ 3 → d.keyAt = 0 ∧ d.keyLength = 0 ∧ d.area = 0 ∧ d.freeInterval = 0 ∧ d.freeArea = 0)
theorem valid_iff (d : DS) : validB d = true ↔ ValidP d := by
 unfold validB validK ValidP isSizeB
 by_cases h : d.org = 3
 · simp only [h, if_true]
   simp
   omega
 · simp only [h, if_false]
   simp
   omega
theorem valid_no {d : DS} (h : ¬ ValidP d) : false = validB d := by
 cases hb : validB d
 · rfl
 · exact absurd ((valid_iff d).1 hb) h
theorem valid_yes {d : DS} (h : ValidP d) : true = validB d := ((valid_iff d).2 h).symm
theorem valid_last {d : DS} {x y : Bool} (h1 : ValidP d → x = true ∧ y = true) (h2 : x = true → y = true → ValidP d) : (x && y) = validB d := by
 cases hv : validB d
 · cases x <;> cases y <;> first | rfl | (exact absurd ((valid_iff d).2 (h2 rfl rfl)) (by rw [hv]; simp))
 · obtain ⟨rfl, rfl⟩ := h1 ((valid_iff d).1 hv)
   rfl
theorem valid_ne {d : DS} (h3 : d.org ≠ 3) (h : (d.keyAt == 0) = false ∨ (d.keyLength == 0) = false ∨ (d.area == 0) = false ∨ (d.freeInterval == 0) = false ∨ (d.freeArea == 0) = false) : false = validB d := by
 refine valid_no fun k => ?_
 obtain ⟨a, b, c, e, f⟩ := k.2.2.2.2.2.2.2.2.2 h3
 rcases h with h | h | h | h | h
 · rw [a] at h; cases h
 · rw [b] at h; cases h
 · rw [c] at h; cases h
 · rw [e] at h; cases h
 · rw [f] at h; cases h
def ValidH (d : DS) : Prop := 1 ≤ d.org ∧ d.org ≤ 3 ∧ (d.interval = 128 ∨ d.interval = 256 ∨ d.interval = 512) ∧ 1 ≤ d.length ∧ d.length ≤ 200 ∧ d.length ≤ d.interval - 7 ∧ d.format = 0 ∧ d.block = 0
theorem valid_ye {d : DS} (h3 : d.org ≠ 3) (h : ValidH d) (h1 : d.keyAt = 0) (h2 : d.keyLength = 0) (h4 : d.area = 0) (h5 : d.freeInterval = 0) : (d.freeArea == 0) = validB d := by
 cases hz : d.freeArea == 0
 · exact valid_ne h3 (.inr (.inr (.inr (.inr hz))))
 · simp at hz
   unfold ValidH at h
   exact valid_yes ⟨h.1, h.2.1, h.2.2.1, h.2.2.2.1, h.2.2.2.2.1, h.2.2.2.2.2.1, h.2.2.2.2.2.2.1, h.2.2.2.2.2.2.2, fun h => absurd h h3, fun _ => ⟨h1, h2, h4, h5, hz⟩⟩
end Go.Proofs.YtifmbcjbccedfaaGreatDoor
namespace Go.Proofs.YtifmbcjbccedfaaGreatDoor
open Go.RowKit Dsd
set_option maxRecDepth 100000 in
set_option maxHeartbeats 1000000 in
theorem Valid_ref_k128 (d : DS) (w : World) (h3 : d.org = 3) (hs : d.interval = 128) (hf : d.format = 0) (hb : d.block = 0) : Calls Tryz.prog 23 #[.agg #[.int .i64 d.id, .int .i64 d.org, .int .i64 d.format, .int .i64 d.length, .int .i64 d.block, .int .i64 d.keyAt, .int .i64 d.keyLength, .int .i64 d.interval, .int .i64 d.area, .int .i64 d.freeInterval, .int .i64 d.freeArea, .int .i64 d.base, .int .i64 d.altAt, .int .i64 d.altLength, .bool d.unique, .int .i64 d.cls, .string ⟨d.volume.toArray⟩, .string ⟨d.owner.toArray⟩, .int .i64 d.created, .int .i64 d.expires, .bool d.archived]] w fun e w' => e = .returned (.bool (validB d)) ∧ Ext w w' := by
 go_enter Tryz.func23, Tryz.ntmps23
 go_wp2_with (go_at_call 56; refine (between_any _ _ _ _).mono ?_; rintro e w' ⟨rfl, rfl⟩)
 all_goals go_ret
 all_goals first | exact ⟨ret_bool (valid_no (by unfold ValidP; omega)), Ext.alloc _ _⟩ | exact ⟨ret_bool (valid_last (by unfold ValidP; simp only [decide_eq_true_eq]; omega) (by unfold ValidP; simp only [decide_eq_true_eq]; omega)), Ext.alloc _ _⟩
set_option maxRecDepth 100000 in
set_option maxHeartbeats 1000000 in
theorem Valid_ref_e128 (d : DS) (w : World) (h3 : d.org = 1) (hs : d.interval = 128) (hf : d.format = 0) (hb : d.block = 0) : Calls Tryz.prog 23 #[.agg #[.int .i64 d.id, .int .i64 d.org, .int .i64 d.format, .int .i64 d.length, .int .i64 d.block, .int .i64 d.keyAt, .int .i64 d.keyLength, .int .i64 d.interval, .int .i64 d.area, .int .i64 d.freeInterval, .int .i64 d.freeArea, .int .i64 d.base, .int .i64 d.altAt, .int .i64 d.altLength, .bool d.unique, .int .i64 d.cls, .string ⟨d.volume.toArray⟩, .string ⟨d.owner.toArray⟩, .int .i64 d.created, .int .i64 d.expires, .bool d.archived]] w fun e w' => e = .returned (.bool (validB d)) ∧ Ext w w' := by
 go_enter Tryz.func23, Tryz.ntmps23
 go_wp2_with (go_at_call 56; refine (between_any _ _ _ _).mono ?_; rintro e w' ⟨rfl, rfl⟩)
 all_goals go_ret
 all_goals first | exact ⟨ret_bool (valid_no (by unfold ValidP; omega)), Ext.alloc _ _⟩ | exact ⟨ret_bool (valid_ne (by omega) (.inl (by assumption))), Ext.alloc _ _⟩ | exact ⟨ret_bool (valid_ne (by omega) (.inr (.inl (by assumption)))), Ext.alloc _ _⟩ | exact ⟨ret_bool (valid_ne (by omega) (.inr (.inr (.inl (by assumption))))), Ext.alloc _ _⟩ | exact ⟨ret_bool (valid_ne (by omega) (.inr (.inr (.inr (.inl (by assumption)))))), Ext.alloc _ _⟩ | exact ⟨ret_bool (valid_ye (by omega) (by unfold ValidH; omega) (by omega) (by omega) (by omega) (by omega)), Ext.alloc _ _⟩
set_option maxRecDepth 100000 in
set_option maxHeartbeats 1000000 in
theorem Valid_ref_r128 (d : DS) (w : World) (h3 : d.org = 2) (hs : d.interval = 128) (hf : d.format = 0) (hb : d.block = 0) : Calls Tryz.prog 23 #[.agg #[.int .i64 d.id, .int .i64 d.org, .int .i64 d.format, .int .i64 d.length, .int .i64 d.block, .int .i64 d.keyAt, .int .i64 d.keyLength, .int .i64 d.interval, .int .i64 d.area, .int .i64 d.freeInterval, .int .i64 d.freeArea, .int .i64 d.base, .int .i64 d.altAt, .int .i64 d.altLength, .bool d.unique, .int .i64 d.cls, .string ⟨d.volume.toArray⟩, .string ⟨d.owner.toArray⟩, .int .i64 d.created, .int .i64 d.expires, .bool d.archived]] w fun e w' => e = .returned (.bool (validB d)) ∧ Ext w w' := by
 go_enter Tryz.func23, Tryz.ntmps23
 go_wp2_with (go_at_call 56; refine (between_any _ _ _ _).mono ?_; rintro e w' ⟨rfl, rfl⟩)
 all_goals go_ret
 all_goals first | exact ⟨ret_bool (valid_no (by unfold ValidP; omega)), Ext.alloc _ _⟩ | exact ⟨ret_bool (valid_ne (by omega) (.inl (by assumption))), Ext.alloc _ _⟩ | exact ⟨ret_bool (valid_ne (by omega) (.inr (.inl (by assumption)))), Ext.alloc _ _⟩ | exact ⟨ret_bool (valid_ne (by omega) (.inr (.inr (.inl (by assumption))))), Ext.alloc _ _⟩ | exact ⟨ret_bool (valid_ne (by omega) (.inr (.inr (.inr (.inl (by assumption)))))), Ext.alloc _ _⟩ | exact ⟨ret_bool (valid_ye (by omega) (by unfold ValidH; omega) (by omega) (by omega) (by omega) (by omega)), Ext.alloc _ _⟩
set_option maxRecDepth 100000 in
set_option maxHeartbeats 1000000 in
theorem Valid_ref_f1_128 (d : DS) (w : World) (h3 : d.org = 1) (hs : d.interval = 128) (hf : ¬ d.format = 0) (hf2 : (d.format != 0) = true) : Calls Tryz.prog 23 #[.agg #[.int .i64 d.id, .int .i64 d.org, .int .i64 d.format, .int .i64 d.length, .int .i64 d.block, .int .i64 d.keyAt, .int .i64 d.keyLength, .int .i64 d.interval, .int .i64 d.area, .int .i64 d.freeInterval, .int .i64 d.freeArea, .int .i64 d.base, .int .i64 d.altAt, .int .i64 d.altLength, .bool d.unique, .int .i64 d.cls, .string ⟨d.volume.toArray⟩, .string ⟨d.owner.toArray⟩, .int .i64 d.created, .int .i64 d.expires, .bool d.archived]] w fun e w' => e = .returned (.bool (validB d)) ∧ Ext w w' := by
 go_enter Tryz.func23, Tryz.ntmps23
 go_wp2_with (go_at_call 56; refine (between_any _ _ _ _).mono ?_; rintro e w' ⟨rfl, rfl⟩)
 all_goals go_ret
 all_goals exact ⟨ret_bool (valid_no (by unfold ValidP; omega)), Ext.alloc _ _⟩
set_option maxRecDepth 100000 in
set_option maxHeartbeats 1000000 in
theorem Valid_ref_b1_128 (d : DS) (w : World) (h3 : d.org = 1) (hs : d.interval = 128) (hf : d.format = 0) (hb : ¬ d.block = 0) (hb2 : (d.block != 0) = true) : Calls Tryz.prog 23 #[.agg #[.int .i64 d.id, .int .i64 d.org, .int .i64 d.format, .int .i64 d.length, .int .i64 d.block, .int .i64 d.keyAt, .int .i64 d.keyLength, .int .i64 d.interval, .int .i64 d.area, .int .i64 d.freeInterval, .int .i64 d.freeArea, .int .i64 d.base, .int .i64 d.altAt, .int .i64 d.altLength, .bool d.unique, .int .i64 d.cls, .string ⟨d.volume.toArray⟩, .string ⟨d.owner.toArray⟩, .int .i64 d.created, .int .i64 d.expires, .bool d.archived]] w fun e w' => e = .returned (.bool (validB d)) ∧ Ext w w' := by
 go_enter Tryz.func23, Tryz.ntmps23
 go_wp2_with (go_at_call 56; refine (between_any _ _ _ _).mono ?_; rintro e w' ⟨rfl, rfl⟩)
 all_goals go_ret
 all_goals exact ⟨ret_bool (valid_no (by unfold ValidP; omega)), Ext.alloc _ _⟩
set_option maxRecDepth 100000 in
set_option maxHeartbeats 1000000 in
theorem Valid_ref_f2_128 (d : DS) (w : World) (h3 : d.org = 2) (hs : d.interval = 128) (hf : ¬ d.format = 0) (hf2 : (d.format != 0) = true) : Calls Tryz.prog 23 #[.agg #[.int .i64 d.id, .int .i64 d.org, .int .i64 d.format, .int .i64 d.length, .int .i64 d.block, .int .i64 d.keyAt, .int .i64 d.keyLength, .int .i64 d.interval, .int .i64 d.area, .int .i64 d.freeInterval, .int .i64 d.freeArea, .int .i64 d.base, .int .i64 d.altAt, .int .i64 d.altLength, .bool d.unique, .int .i64 d.cls, .string ⟨d.volume.toArray⟩, .string ⟨d.owner.toArray⟩, .int .i64 d.created, .int .i64 d.expires, .bool d.archived]] w fun e w' => e = .returned (.bool (validB d)) ∧ Ext w w' := by
 go_enter Tryz.func23, Tryz.ntmps23
 go_wp2_with (go_at_call 56; refine (between_any _ _ _ _).mono ?_; rintro e w' ⟨rfl, rfl⟩)
 all_goals go_ret
 all_goals exact ⟨ret_bool (valid_no (by unfold ValidP; omega)), Ext.alloc _ _⟩
set_option maxRecDepth 100000 in
set_option maxHeartbeats 1000000 in
theorem Valid_ref_b2_128 (d : DS) (w : World) (h3 : d.org = 2) (hs : d.interval = 128) (hf : d.format = 0) (hb : ¬ d.block = 0) (hb2 : (d.block != 0) = true) : Calls Tryz.prog 23 #[.agg #[.int .i64 d.id, .int .i64 d.org, .int .i64 d.format, .int .i64 d.length, .int .i64 d.block, .int .i64 d.keyAt, .int .i64 d.keyLength, .int .i64 d.interval, .int .i64 d.area, .int .i64 d.freeInterval, .int .i64 d.freeArea, .int .i64 d.base, .int .i64 d.altAt, .int .i64 d.altLength, .bool d.unique, .int .i64 d.cls, .string ⟨d.volume.toArray⟩, .string ⟨d.owner.toArray⟩, .int .i64 d.created, .int .i64 d.expires, .bool d.archived]] w fun e w' => e = .returned (.bool (validB d)) ∧ Ext w w' := by
 go_enter Tryz.func23, Tryz.ntmps23
 go_wp2_with (go_at_call 56; refine (between_any _ _ _ _).mono ?_; rintro e w' ⟨rfl, rfl⟩)
 all_goals go_ret
 all_goals exact ⟨ret_bool (valid_no (by unfold ValidP; omega)), Ext.alloc _ _⟩
set_option maxRecDepth 100000 in
set_option maxHeartbeats 1000000 in
theorem Valid_ref_f3_128 (d : DS) (w : World) (h3 : d.org = 3) (hs : d.interval = 128) (hf : ¬ d.format = 0) (hf2 : (d.format != 0) = true) : Calls Tryz.prog 23 #[.agg #[.int .i64 d.id, .int .i64 d.org, .int .i64 d.format, .int .i64 d.length, .int .i64 d.block, .int .i64 d.keyAt, .int .i64 d.keyLength, .int .i64 d.interval, .int .i64 d.area, .int .i64 d.freeInterval, .int .i64 d.freeArea, .int .i64 d.base, .int .i64 d.altAt, .int .i64 d.altLength, .bool d.unique, .int .i64 d.cls, .string ⟨d.volume.toArray⟩, .string ⟨d.owner.toArray⟩, .int .i64 d.created, .int .i64 d.expires, .bool d.archived]] w fun e w' => e = .returned (.bool (validB d)) ∧ Ext w w' := by
 go_enter Tryz.func23, Tryz.ntmps23
 go_wp2_with (go_at_call 56; refine (between_any _ _ _ _).mono ?_; rintro e w' ⟨rfl, rfl⟩)
 all_goals go_ret
 all_goals exact ⟨ret_bool (valid_no (by unfold ValidP; omega)), Ext.alloc _ _⟩
set_option maxRecDepth 100000 in
set_option maxHeartbeats 1000000 in
theorem Valid_ref_b3_128 (d : DS) (w : World) (h3 : d.org = 3) (hs : d.interval = 128) (hf : d.format = 0) (hb : ¬ d.block = 0) (hb2 : (d.block != 0) = true) : Calls Tryz.prog 23 #[.agg #[.int .i64 d.id, .int .i64 d.org, .int .i64 d.format, .int .i64 d.length, .int .i64 d.block, .int .i64 d.keyAt, .int .i64 d.keyLength, .int .i64 d.interval, .int .i64 d.area, .int .i64 d.freeInterval, .int .i64 d.freeArea, .int .i64 d.base, .int .i64 d.altAt, .int .i64 d.altLength, .bool d.unique, .int .i64 d.cls, .string ⟨d.volume.toArray⟩, .string ⟨d.owner.toArray⟩, .int .i64 d.created, .int .i64 d.expires, .bool d.archived]] w fun e w' => e = .returned (.bool (validB d)) ∧ Ext w w' := by
 go_enter Tryz.func23, Tryz.ntmps23
 go_wp2_with (go_at_call 56; refine (between_any _ _ _ _).mono ?_; rintro e w' ⟨rfl, rfl⟩)
 all_goals go_ret
 all_goals exact ⟨ret_bool (valid_no (by unfold ValidP; omega)), Ext.alloc _ _⟩
theorem Valid_ref_128 (d : DS) (w : World) (hs : d.interval = 128) (ho : d.org = 1 ∨ d.org = 2 ∨ d.org = 3) : Calls Tryz.prog 23 #[.agg #[.int .i64 d.id, .int .i64 d.org, .int .i64 d.format, .int .i64 d.length, .int .i64 d.block, .int .i64 d.keyAt, .int .i64 d.keyLength, .int .i64 d.interval, .int .i64 d.area, .int .i64 d.freeInterval, .int .i64 d.freeArea, .int .i64 d.base, .int .i64 d.altAt, .int .i64 d.altLength, .bool d.unique, .int .i64 d.cls, .string ⟨d.volume.toArray⟩, .string ⟨d.owner.toArray⟩, .int .i64 d.created, .int .i64 d.expires, .bool d.archived]] w fun e w' => e = .returned (.bool (validB d)) ∧ Ext w w' := by
 by_cases hf : d.format = 0
 · by_cases hb : d.block = 0
   · rcases ho with h | h | h
     · exact Valid_ref_e128 d w h hs hf hb
     · exact Valid_ref_r128 d w h hs hf hb
     · exact Valid_ref_k128 d w h hs hf hb
   · have hb2 : (d.block != 0) = true := by simpa using hb
     rcases ho with h | h | h
     · exact Valid_ref_b1_128 d w h hs hf hb hb2
     · exact Valid_ref_b2_128 d w h hs hf hb hb2
     · exact Valid_ref_b3_128 d w h hs hf hb hb2
 · have hf2 : (d.format != 0) = true := by simpa using hf
   rcases ho with h | h | h
   · exact Valid_ref_f1_128 d w h hs hf hf2
   · exact Valid_ref_f2_128 d w h hs hf hf2
   · exact Valid_ref_f3_128 d w h hs hf hf2
end Go.Proofs.YtifmbcjbccedfaaGreatDoor
namespace Go.Proofs.YtifmbcjbccedfaaGreatDoor
open Go.RowKit Dsd
set_option maxRecDepth 100000 in
set_option maxHeartbeats 1000000 in
theorem Valid_ref_k256 (d : DS) (w : World) (h3 : d.org = 3) (hs : d.interval = 256) (hf : d.format = 0) (hb : d.block = 0) : Calls Tryz.prog 23 #[.agg #[.int .i64 d.id, .int .i64 d.org, .int .i64 d.format, .int .i64 d.length, .int .i64 d.block, .int .i64 d.keyAt, .int .i64 d.keyLength, .int .i64 d.interval, .int .i64 d.area, .int .i64 d.freeInterval, .int .i64 d.freeArea, .int .i64 d.base, .int .i64 d.altAt, .int .i64 d.altLength, .bool d.unique, .int .i64 d.cls, .string ⟨d.volume.toArray⟩, .string ⟨d.owner.toArray⟩, .int .i64 d.created, .int .i64 d.expires, .bool d.archived]] w fun e w' => e = .returned (.bool (validB d)) ∧ Ext w w' := by
 go_enter Tryz.func23, Tryz.ntmps23
 go_wp2_with (go_at_call 56; refine (between_any _ _ _ _).mono ?_; rintro e w' ⟨rfl, rfl⟩)
 all_goals go_ret
 all_goals first | exact ⟨ret_bool (valid_no (by unfold ValidP; omega)), Ext.alloc _ _⟩ | exact ⟨ret_bool (valid_last (by unfold ValidP; simp only [decide_eq_true_eq]; omega) (by unfold ValidP; simp only [decide_eq_true_eq]; omega)), Ext.alloc _ _⟩
set_option maxRecDepth 100000 in
set_option maxHeartbeats 1000000 in
theorem Valid_ref_e256 (d : DS) (w : World) (h3 : d.org = 1) (hs : d.interval = 256) (hf : d.format = 0) (hb : d.block = 0) : Calls Tryz.prog 23 #[.agg #[.int .i64 d.id, .int .i64 d.org, .int .i64 d.format, .int .i64 d.length, .int .i64 d.block, .int .i64 d.keyAt, .int .i64 d.keyLength, .int .i64 d.interval, .int .i64 d.area, .int .i64 d.freeInterval, .int .i64 d.freeArea, .int .i64 d.base, .int .i64 d.altAt, .int .i64 d.altLength, .bool d.unique, .int .i64 d.cls, .string ⟨d.volume.toArray⟩, .string ⟨d.owner.toArray⟩, .int .i64 d.created, .int .i64 d.expires, .bool d.archived]] w fun e w' => e = .returned (.bool (validB d)) ∧ Ext w w' := by
 go_enter Tryz.func23, Tryz.ntmps23
 go_wp2_with (go_at_call 56; refine (between_any _ _ _ _).mono ?_; rintro e w' ⟨rfl, rfl⟩)
 all_goals go_ret
 all_goals first | exact ⟨ret_bool (valid_no (by unfold ValidP; omega)), Ext.alloc _ _⟩ | exact ⟨ret_bool (valid_ne (by omega) (.inl (by assumption))), Ext.alloc _ _⟩ | exact ⟨ret_bool (valid_ne (by omega) (.inr (.inl (by assumption)))), Ext.alloc _ _⟩ | exact ⟨ret_bool (valid_ne (by omega) (.inr (.inr (.inl (by assumption))))), Ext.alloc _ _⟩ | exact ⟨ret_bool (valid_ne (by omega) (.inr (.inr (.inr (.inl (by assumption)))))), Ext.alloc _ _⟩ | exact ⟨ret_bool (valid_ye (by omega) (by unfold ValidH; omega) (by omega) (by omega) (by omega) (by omega)), Ext.alloc _ _⟩
set_option maxRecDepth 100000 in
set_option maxHeartbeats 1000000 in
theorem Valid_ref_r256 (d : DS) (w : World) (h3 : d.org = 2) (hs : d.interval = 256) (hf : d.format = 0) (hb : d.block = 0) : Calls Tryz.prog 23 #[.agg #[.int .i64 d.id, .int .i64 d.org, .int .i64 d.format, .int .i64 d.length, .int .i64 d.block, .int .i64 d.keyAt, .int .i64 d.keyLength, .int .i64 d.interval, .int .i64 d.area, .int .i64 d.freeInterval, .int .i64 d.freeArea, .int .i64 d.base, .int .i64 d.altAt, .int .i64 d.altLength, .bool d.unique, .int .i64 d.cls, .string ⟨d.volume.toArray⟩, .string ⟨d.owner.toArray⟩, .int .i64 d.created, .int .i64 d.expires, .bool d.archived]] w fun e w' => e = .returned (.bool (validB d)) ∧ Ext w w' := by
 go_enter Tryz.func23, Tryz.ntmps23
 go_wp2_with (go_at_call 56; refine (between_any _ _ _ _).mono ?_; rintro e w' ⟨rfl, rfl⟩)
 all_goals go_ret
 all_goals first | exact ⟨ret_bool (valid_no (by unfold ValidP; omega)), Ext.alloc _ _⟩ | exact ⟨ret_bool (valid_ne (by omega) (.inl (by assumption))), Ext.alloc _ _⟩ | exact ⟨ret_bool (valid_ne (by omega) (.inr (.inl (by assumption)))), Ext.alloc _ _⟩ | exact ⟨ret_bool (valid_ne (by omega) (.inr (.inr (.inl (by assumption))))), Ext.alloc _ _⟩ | exact ⟨ret_bool (valid_ne (by omega) (.inr (.inr (.inr (.inl (by assumption)))))), Ext.alloc _ _⟩ | exact ⟨ret_bool (valid_ye (by omega) (by unfold ValidH; omega) (by omega) (by omega) (by omega) (by omega)), Ext.alloc _ _⟩
set_option maxRecDepth 100000 in
set_option maxHeartbeats 1000000 in
theorem Valid_ref_f1_256 (d : DS) (w : World) (h3 : d.org = 1) (hs : d.interval = 256) (hf : ¬ d.format = 0) (hf2 : (d.format != 0) = true) : Calls Tryz.prog 23 #[.agg #[.int .i64 d.id, .int .i64 d.org, .int .i64 d.format, .int .i64 d.length, .int .i64 d.block, .int .i64 d.keyAt, .int .i64 d.keyLength, .int .i64 d.interval, .int .i64 d.area, .int .i64 d.freeInterval, .int .i64 d.freeArea, .int .i64 d.base, .int .i64 d.altAt, .int .i64 d.altLength, .bool d.unique, .int .i64 d.cls, .string ⟨d.volume.toArray⟩, .string ⟨d.owner.toArray⟩, .int .i64 d.created, .int .i64 d.expires, .bool d.archived]] w fun e w' => e = .returned (.bool (validB d)) ∧ Ext w w' := by
 go_enter Tryz.func23, Tryz.ntmps23
 go_wp2_with (go_at_call 56; refine (between_any _ _ _ _).mono ?_; rintro e w' ⟨rfl, rfl⟩)
 all_goals go_ret
 all_goals exact ⟨ret_bool (valid_no (by unfold ValidP; omega)), Ext.alloc _ _⟩
set_option maxRecDepth 100000 in
set_option maxHeartbeats 1000000 in
theorem Valid_ref_b1_256 (d : DS) (w : World) (h3 : d.org = 1) (hs : d.interval = 256) (hf : d.format = 0) (hb : ¬ d.block = 0) (hb2 : (d.block != 0) = true) : Calls Tryz.prog 23 #[.agg #[.int .i64 d.id, .int .i64 d.org, .int .i64 d.format, .int .i64 d.length, .int .i64 d.block, .int .i64 d.keyAt, .int .i64 d.keyLength, .int .i64 d.interval, .int .i64 d.area, .int .i64 d.freeInterval, .int .i64 d.freeArea, .int .i64 d.base, .int .i64 d.altAt, .int .i64 d.altLength, .bool d.unique, .int .i64 d.cls, .string ⟨d.volume.toArray⟩, .string ⟨d.owner.toArray⟩, .int .i64 d.created, .int .i64 d.expires, .bool d.archived]] w fun e w' => e = .returned (.bool (validB d)) ∧ Ext w w' := by
 go_enter Tryz.func23, Tryz.ntmps23
 go_wp2_with (go_at_call 56; refine (between_any _ _ _ _).mono ?_; rintro e w' ⟨rfl, rfl⟩)
 all_goals go_ret
 all_goals exact ⟨ret_bool (valid_no (by unfold ValidP; omega)), Ext.alloc _ _⟩
set_option maxRecDepth 100000 in
set_option maxHeartbeats 1000000 in
theorem Valid_ref_f2_256 (d : DS) (w : World) (h3 : d.org = 2) (hs : d.interval = 256) (hf : ¬ d.format = 0) (hf2 : (d.format != 0) = true) : Calls Tryz.prog 23 #[.agg #[.int .i64 d.id, .int .i64 d.org, .int .i64 d.format, .int .i64 d.length, .int .i64 d.block, .int .i64 d.keyAt, .int .i64 d.keyLength, .int .i64 d.interval, .int .i64 d.area, .int .i64 d.freeInterval, .int .i64 d.freeArea, .int .i64 d.base, .int .i64 d.altAt, .int .i64 d.altLength, .bool d.unique, .int .i64 d.cls, .string ⟨d.volume.toArray⟩, .string ⟨d.owner.toArray⟩, .int .i64 d.created, .int .i64 d.expires, .bool d.archived]] w fun e w' => e = .returned (.bool (validB d)) ∧ Ext w w' := by
 go_enter Tryz.func23, Tryz.ntmps23
 go_wp2_with (go_at_call 56; refine (between_any _ _ _ _).mono ?_; rintro e w' ⟨rfl, rfl⟩)
 all_goals go_ret
 all_goals exact ⟨ret_bool (valid_no (by unfold ValidP; omega)), Ext.alloc _ _⟩
set_option maxRecDepth 100000 in
set_option maxHeartbeats 1000000 in
theorem Valid_ref_b2_256 (d : DS) (w : World) (h3 : d.org = 2) (hs : d.interval = 256) (hf : d.format = 0) (hb : ¬ d.block = 0) (hb2 : (d.block != 0) = true) : Calls Tryz.prog 23 #[.agg #[.int .i64 d.id, .int .i64 d.org, .int .i64 d.format, .int .i64 d.length, .int .i64 d.block, .int .i64 d.keyAt, .int .i64 d.keyLength, .int .i64 d.interval, .int .i64 d.area, .int .i64 d.freeInterval, .int .i64 d.freeArea, .int .i64 d.base, .int .i64 d.altAt, .int .i64 d.altLength, .bool d.unique, .int .i64 d.cls, .string ⟨d.volume.toArray⟩, .string ⟨d.owner.toArray⟩, .int .i64 d.created, .int .i64 d.expires, .bool d.archived]] w fun e w' => e = .returned (.bool (validB d)) ∧ Ext w w' := by
 go_enter Tryz.func23, Tryz.ntmps23
 go_wp2_with (go_at_call 56; refine (between_any _ _ _ _).mono ?_; rintro e w' ⟨rfl, rfl⟩)
 all_goals go_ret
 all_goals exact ⟨ret_bool (valid_no (by unfold ValidP; omega)), Ext.alloc _ _⟩
set_option maxRecDepth 100000 in
set_option maxHeartbeats 1000000 in
theorem Valid_ref_f3_256 (d : DS) (w : World) (h3 : d.org = 3) (hs : d.interval = 256) (hf : ¬ d.format = 0) (hf2 : (d.format != 0) = true) : Calls Tryz.prog 23 #[.agg #[.int .i64 d.id, .int .i64 d.org, .int .i64 d.format, .int .i64 d.length, .int .i64 d.block, .int .i64 d.keyAt, .int .i64 d.keyLength, .int .i64 d.interval, .int .i64 d.area, .int .i64 d.freeInterval, .int .i64 d.freeArea, .int .i64 d.base, .int .i64 d.altAt, .int .i64 d.altLength, .bool d.unique, .int .i64 d.cls, .string ⟨d.volume.toArray⟩, .string ⟨d.owner.toArray⟩, .int .i64 d.created, .int .i64 d.expires, .bool d.archived]] w fun e w' => e = .returned (.bool (validB d)) ∧ Ext w w' := by
 go_enter Tryz.func23, Tryz.ntmps23
 go_wp2_with (go_at_call 56; refine (between_any _ _ _ _).mono ?_; rintro e w' ⟨rfl, rfl⟩)
 all_goals go_ret
 all_goals exact ⟨ret_bool (valid_no (by unfold ValidP; omega)), Ext.alloc _ _⟩
set_option maxRecDepth 100000 in
set_option maxHeartbeats 1000000 in
theorem Valid_ref_b3_256 (d : DS) (w : World) (h3 : d.org = 3) (hs : d.interval = 256) (hf : d.format = 0) (hb : ¬ d.block = 0) (hb2 : (d.block != 0) = true) : Calls Tryz.prog 23 #[.agg #[.int .i64 d.id, .int .i64 d.org, .int .i64 d.format, .int .i64 d.length, .int .i64 d.block, .int .i64 d.keyAt, .int .i64 d.keyLength, .int .i64 d.interval, .int .i64 d.area, .int .i64 d.freeInterval, .int .i64 d.freeArea, .int .i64 d.base, .int .i64 d.altAt, .int .i64 d.altLength, .bool d.unique, .int .i64 d.cls, .string ⟨d.volume.toArray⟩, .string ⟨d.owner.toArray⟩, .int .i64 d.created, .int .i64 d.expires, .bool d.archived]] w fun e w' => e = .returned (.bool (validB d)) ∧ Ext w w' := by
 go_enter Tryz.func23, Tryz.ntmps23
 go_wp2_with (go_at_call 56; refine (between_any _ _ _ _).mono ?_; rintro e w' ⟨rfl, rfl⟩)
 all_goals go_ret
 all_goals exact ⟨ret_bool (valid_no (by unfold ValidP; omega)), Ext.alloc _ _⟩
theorem Valid_ref_256 (d : DS) (w : World) (hs : d.interval = 256) (ho : d.org = 1 ∨ d.org = 2 ∨ d.org = 3) : Calls Tryz.prog 23 #[.agg #[.int .i64 d.id, .int .i64 d.org, .int .i64 d.format, .int .i64 d.length, .int .i64 d.block, .int .i64 d.keyAt, .int .i64 d.keyLength, .int .i64 d.interval, .int .i64 d.area, .int .i64 d.freeInterval, .int .i64 d.freeArea, .int .i64 d.base, .int .i64 d.altAt, .int .i64 d.altLength, .bool d.unique, .int .i64 d.cls, .string ⟨d.volume.toArray⟩, .string ⟨d.owner.toArray⟩, .int .i64 d.created, .int .i64 d.expires, .bool d.archived]] w fun e w' => e = .returned (.bool (validB d)) ∧ Ext w w' := by
 by_cases hf : d.format = 0
 · by_cases hb : d.block = 0
   · rcases ho with h | h | h
     · exact Valid_ref_e256 d w h hs hf hb
     · exact Valid_ref_r256 d w h hs hf hb
     · exact Valid_ref_k256 d w h hs hf hb
   · have hb2 : (d.block != 0) = true := by simpa using hb
     rcases ho with h | h | h
     · exact Valid_ref_b1_256 d w h hs hf hb hb2
     · exact Valid_ref_b2_256 d w h hs hf hb hb2
     · exact Valid_ref_b3_256 d w h hs hf hb hb2
 · have hf2 : (d.format != 0) = true := by simpa using hf
   rcases ho with h | h | h
   · exact Valid_ref_f1_256 d w h hs hf hf2
   · exact Valid_ref_f2_256 d w h hs hf hf2
   · exact Valid_ref_f3_256 d w h hs hf hf2
end Go.Proofs.YtifmbcjbccedfaaGreatDoor
namespace Go.Proofs.YtifmbcjbccedfaaGreatDoor
open Go.RowKit Dsd
set_option maxRecDepth 100000 in
set_option maxHeartbeats 1000000 in
theorem Valid_ref_k512 (d : DS) (w : World) (h3 : d.org = 3) (hs : d.interval = 512) (hf : d.format = 0) (hb : d.block = 0) : Calls Tryz.prog 23 #[.agg #[.int .i64 d.id, .int .i64 d.org, .int .i64 d.format, .int .i64 d.length, .int .i64 d.block, .int .i64 d.keyAt, .int .i64 d.keyLength, .int .i64 d.interval, .int .i64 d.area, .int .i64 d.freeInterval, .int .i64 d.freeArea, .int .i64 d.base, .int .i64 d.altAt, .int .i64 d.altLength, .bool d.unique, .int .i64 d.cls, .string ⟨d.volume.toArray⟩, .string ⟨d.owner.toArray⟩, .int .i64 d.created, .int .i64 d.expires, .bool d.archived]] w fun e w' => e = .returned (.bool (validB d)) ∧ Ext w w' := by
 go_enter Tryz.func23, Tryz.ntmps23
 go_wp2_with (go_at_call 56; refine (between_any _ _ _ _).mono ?_; rintro e w' ⟨rfl, rfl⟩)
 all_goals go_ret
 all_goals first | exact ⟨ret_bool (valid_no (by unfold ValidP; omega)), Ext.alloc _ _⟩ | exact ⟨ret_bool (valid_last (by unfold ValidP; simp only [decide_eq_true_eq]; omega) (by unfold ValidP; simp only [decide_eq_true_eq]; omega)), Ext.alloc _ _⟩
set_option maxRecDepth 100000 in
set_option maxHeartbeats 1000000 in
theorem Valid_ref_e512 (d : DS) (w : World) (h3 : d.org = 1) (hs : d.interval = 512) (hf : d.format = 0) (hb : d.block = 0) : Calls Tryz.prog 23 #[.agg #[.int .i64 d.id, .int .i64 d.org, .int .i64 d.format, .int .i64 d.length, .int .i64 d.block, .int .i64 d.keyAt, .int .i64 d.keyLength, .int .i64 d.interval, .int .i64 d.area, .int .i64 d.freeInterval, .int .i64 d.freeArea, .int .i64 d.base, .int .i64 d.altAt, .int .i64 d.altLength, .bool d.unique, .int .i64 d.cls, .string ⟨d.volume.toArray⟩, .string ⟨d.owner.toArray⟩, .int .i64 d.created, .int .i64 d.expires, .bool d.archived]] w fun e w' => e = .returned (.bool (validB d)) ∧ Ext w w' := by
 go_enter Tryz.func23, Tryz.ntmps23
 go_wp2_with (go_at_call 56; refine (between_any _ _ _ _).mono ?_; rintro e w' ⟨rfl, rfl⟩)
 all_goals go_ret
 all_goals first | exact ⟨ret_bool (valid_no (by unfold ValidP; omega)), Ext.alloc _ _⟩ | exact ⟨ret_bool (valid_ne (by omega) (.inl (by assumption))), Ext.alloc _ _⟩ | exact ⟨ret_bool (valid_ne (by omega) (.inr (.inl (by assumption)))), Ext.alloc _ _⟩ | exact ⟨ret_bool (valid_ne (by omega) (.inr (.inr (.inl (by assumption))))), Ext.alloc _ _⟩ | exact ⟨ret_bool (valid_ne (by omega) (.inr (.inr (.inr (.inl (by assumption)))))), Ext.alloc _ _⟩ | exact ⟨ret_bool (valid_ye (by omega) (by unfold ValidH; omega) (by omega) (by omega) (by omega) (by omega)), Ext.alloc _ _⟩
set_option maxRecDepth 100000 in
set_option maxHeartbeats 1000000 in
theorem Valid_ref_r512 (d : DS) (w : World) (h3 : d.org = 2) (hs : d.interval = 512) (hf : d.format = 0) (hb : d.block = 0) : Calls Tryz.prog 23 #[.agg #[.int .i64 d.id, .int .i64 d.org, .int .i64 d.format, .int .i64 d.length, .int .i64 d.block, .int .i64 d.keyAt, .int .i64 d.keyLength, .int .i64 d.interval, .int .i64 d.area, .int .i64 d.freeInterval, .int .i64 d.freeArea, .int .i64 d.base, .int .i64 d.altAt, .int .i64 d.altLength, .bool d.unique, .int .i64 d.cls, .string ⟨d.volume.toArray⟩, .string ⟨d.owner.toArray⟩, .int .i64 d.created, .int .i64 d.expires, .bool d.archived]] w fun e w' => e = .returned (.bool (validB d)) ∧ Ext w w' := by
 go_enter Tryz.func23, Tryz.ntmps23
 go_wp2_with (go_at_call 56; refine (between_any _ _ _ _).mono ?_; rintro e w' ⟨rfl, rfl⟩)
 all_goals go_ret
 all_goals first | exact ⟨ret_bool (valid_no (by unfold ValidP; omega)), Ext.alloc _ _⟩ | exact ⟨ret_bool (valid_ne (by omega) (.inl (by assumption))), Ext.alloc _ _⟩ | exact ⟨ret_bool (valid_ne (by omega) (.inr (.inl (by assumption)))), Ext.alloc _ _⟩ | exact ⟨ret_bool (valid_ne (by omega) (.inr (.inr (.inl (by assumption))))), Ext.alloc _ _⟩ | exact ⟨ret_bool (valid_ne (by omega) (.inr (.inr (.inr (.inl (by assumption)))))), Ext.alloc _ _⟩ | exact ⟨ret_bool (valid_ye (by omega) (by unfold ValidH; omega) (by omega) (by omega) (by omega) (by omega)), Ext.alloc _ _⟩
set_option maxRecDepth 100000 in
set_option maxHeartbeats 1000000 in
theorem Valid_ref_f1_512 (d : DS) (w : World) (h3 : d.org = 1) (hs : d.interval = 512) (hf : ¬ d.format = 0) (hf2 : (d.format != 0) = true) : Calls Tryz.prog 23 #[.agg #[.int .i64 d.id, .int .i64 d.org, .int .i64 d.format, .int .i64 d.length, .int .i64 d.block, .int .i64 d.keyAt, .int .i64 d.keyLength, .int .i64 d.interval, .int .i64 d.area, .int .i64 d.freeInterval, .int .i64 d.freeArea, .int .i64 d.base, .int .i64 d.altAt, .int .i64 d.altLength, .bool d.unique, .int .i64 d.cls, .string ⟨d.volume.toArray⟩, .string ⟨d.owner.toArray⟩, .int .i64 d.created, .int .i64 d.expires, .bool d.archived]] w fun e w' => e = .returned (.bool (validB d)) ∧ Ext w w' := by
 go_enter Tryz.func23, Tryz.ntmps23
 go_wp2_with (go_at_call 56; refine (between_any _ _ _ _).mono ?_; rintro e w' ⟨rfl, rfl⟩)
 all_goals go_ret
 all_goals exact ⟨ret_bool (valid_no (by unfold ValidP; omega)), Ext.alloc _ _⟩
set_option maxRecDepth 100000 in
set_option maxHeartbeats 1000000 in
theorem Valid_ref_b1_512 (d : DS) (w : World) (h3 : d.org = 1) (hs : d.interval = 512) (hf : d.format = 0) (hb : ¬ d.block = 0) (hb2 : (d.block != 0) = true) : Calls Tryz.prog 23 #[.agg #[.int .i64 d.id, .int .i64 d.org, .int .i64 d.format, .int .i64 d.length, .int .i64 d.block, .int .i64 d.keyAt, .int .i64 d.keyLength, .int .i64 d.interval, .int .i64 d.area, .int .i64 d.freeInterval, .int .i64 d.freeArea, .int .i64 d.base, .int .i64 d.altAt, .int .i64 d.altLength, .bool d.unique, .int .i64 d.cls, .string ⟨d.volume.toArray⟩, .string ⟨d.owner.toArray⟩, .int .i64 d.created, .int .i64 d.expires, .bool d.archived]] w fun e w' => e = .returned (.bool (validB d)) ∧ Ext w w' := by
 go_enter Tryz.func23, Tryz.ntmps23
 go_wp2_with (go_at_call 56; refine (between_any _ _ _ _).mono ?_; rintro e w' ⟨rfl, rfl⟩)
 all_goals go_ret
 all_goals exact ⟨ret_bool (valid_no (by unfold ValidP; omega)), Ext.alloc _ _⟩
set_option maxRecDepth 100000 in
set_option maxHeartbeats 1000000 in
theorem Valid_ref_f2_512 (d : DS) (w : World) (h3 : d.org = 2) (hs : d.interval = 512) (hf : ¬ d.format = 0) (hf2 : (d.format != 0) = true) : Calls Tryz.prog 23 #[.agg #[.int .i64 d.id, .int .i64 d.org, .int .i64 d.format, .int .i64 d.length, .int .i64 d.block, .int .i64 d.keyAt, .int .i64 d.keyLength, .int .i64 d.interval, .int .i64 d.area, .int .i64 d.freeInterval, .int .i64 d.freeArea, .int .i64 d.base, .int .i64 d.altAt, .int .i64 d.altLength, .bool d.unique, .int .i64 d.cls, .string ⟨d.volume.toArray⟩, .string ⟨d.owner.toArray⟩, .int .i64 d.created, .int .i64 d.expires, .bool d.archived]] w fun e w' => e = .returned (.bool (validB d)) ∧ Ext w w' := by
 go_enter Tryz.func23, Tryz.ntmps23
 go_wp2_with (go_at_call 56; refine (between_any _ _ _ _).mono ?_; rintro e w' ⟨rfl, rfl⟩)
 all_goals go_ret
 all_goals exact ⟨ret_bool (valid_no (by unfold ValidP; omega)), Ext.alloc _ _⟩
set_option maxRecDepth 100000 in
set_option maxHeartbeats 1000000 in
theorem Valid_ref_b2_512 (d : DS) (w : World) (h3 : d.org = 2) (hs : d.interval = 512) (hf : d.format = 0) (hb : ¬ d.block = 0) (hb2 : (d.block != 0) = true) : Calls Tryz.prog 23 #[.agg #[.int .i64 d.id, .int .i64 d.org, .int .i64 d.format, .int .i64 d.length, .int .i64 d.block, .int .i64 d.keyAt, .int .i64 d.keyLength, .int .i64 d.interval, .int .i64 d.area, .int .i64 d.freeInterval, .int .i64 d.freeArea, .int .i64 d.base, .int .i64 d.altAt, .int .i64 d.altLength, .bool d.unique, .int .i64 d.cls, .string ⟨d.volume.toArray⟩, .string ⟨d.owner.toArray⟩, .int .i64 d.created, .int .i64 d.expires, .bool d.archived]] w fun e w' => e = .returned (.bool (validB d)) ∧ Ext w w' := by
 go_enter Tryz.func23, Tryz.ntmps23
 go_wp2_with (go_at_call 56; refine (between_any _ _ _ _).mono ?_; rintro e w' ⟨rfl, rfl⟩)
 all_goals go_ret
 all_goals exact ⟨ret_bool (valid_no (by unfold ValidP; omega)), Ext.alloc _ _⟩
set_option maxRecDepth 100000 in
set_option maxHeartbeats 1000000 in
theorem Valid_ref_f3_512 (d : DS) (w : World) (h3 : d.org = 3) (hs : d.interval = 512) (hf : ¬ d.format = 0) (hf2 : (d.format != 0) = true) : Calls Tryz.prog 23 #[.agg #[.int .i64 d.id, .int .i64 d.org, .int .i64 d.format, .int .i64 d.length, .int .i64 d.block, .int .i64 d.keyAt, .int .i64 d.keyLength, .int .i64 d.interval, .int .i64 d.area, .int .i64 d.freeInterval, .int .i64 d.freeArea, .int .i64 d.base, .int .i64 d.altAt, .int .i64 d.altLength, .bool d.unique, .int .i64 d.cls, .string ⟨d.volume.toArray⟩, .string ⟨d.owner.toArray⟩, .int .i64 d.created, .int .i64 d.expires, .bool d.archived]] w fun e w' => e = .returned (.bool (validB d)) ∧ Ext w w' := by
 go_enter Tryz.func23, Tryz.ntmps23
 go_wp2_with (go_at_call 56; refine (between_any _ _ _ _).mono ?_; rintro e w' ⟨rfl, rfl⟩)
 all_goals go_ret
 all_goals exact ⟨ret_bool (valid_no (by unfold ValidP; omega)), Ext.alloc _ _⟩
set_option maxRecDepth 100000 in
set_option maxHeartbeats 1000000 in
theorem Valid_ref_b3_512 (d : DS) (w : World) (h3 : d.org = 3) (hs : d.interval = 512) (hf : d.format = 0) (hb : ¬ d.block = 0) (hb2 : (d.block != 0) = true) : Calls Tryz.prog 23 #[.agg #[.int .i64 d.id, .int .i64 d.org, .int .i64 d.format, .int .i64 d.length, .int .i64 d.block, .int .i64 d.keyAt, .int .i64 d.keyLength, .int .i64 d.interval, .int .i64 d.area, .int .i64 d.freeInterval, .int .i64 d.freeArea, .int .i64 d.base, .int .i64 d.altAt, .int .i64 d.altLength, .bool d.unique, .int .i64 d.cls, .string ⟨d.volume.toArray⟩, .string ⟨d.owner.toArray⟩, .int .i64 d.created, .int .i64 d.expires, .bool d.archived]] w fun e w' => e = .returned (.bool (validB d)) ∧ Ext w w' := by
 go_enter Tryz.func23, Tryz.ntmps23
 go_wp2_with (go_at_call 56; refine (between_any _ _ _ _).mono ?_; rintro e w' ⟨rfl, rfl⟩)
 all_goals go_ret
 all_goals exact ⟨ret_bool (valid_no (by unfold ValidP; omega)), Ext.alloc _ _⟩
theorem Valid_ref_512 (d : DS) (w : World) (hs : d.interval = 512) (ho : d.org = 1 ∨ d.org = 2 ∨ d.org = 3) : Calls Tryz.prog 23 #[.agg #[.int .i64 d.id, .int .i64 d.org, .int .i64 d.format, .int .i64 d.length, .int .i64 d.block, .int .i64 d.keyAt, .int .i64 d.keyLength, .int .i64 d.interval, .int .i64 d.area, .int .i64 d.freeInterval, .int .i64 d.freeArea, .int .i64 d.base, .int .i64 d.altAt, .int .i64 d.altLength, .bool d.unique, .int .i64 d.cls, .string ⟨d.volume.toArray⟩, .string ⟨d.owner.toArray⟩, .int .i64 d.created, .int .i64 d.expires, .bool d.archived]] w fun e w' => e = .returned (.bool (validB d)) ∧ Ext w w' := by
 by_cases hf : d.format = 0
 · by_cases hb : d.block = 0
   · rcases ho with h | h | h
     · exact Valid_ref_e512 d w h hs hf hb
     · exact Valid_ref_r512 d w h hs hf hb
     · exact Valid_ref_k512 d w h hs hf hb
   · have hb2 : (d.block != 0) = true := by simpa using hb
     rcases ho with h | h | h
     · exact Valid_ref_b1_512 d w h hs hf hb hb2
     · exact Valid_ref_b2_512 d w h hs hf hb hb2
     · exact Valid_ref_b3_512 d w h hs hf hb hb2
 · have hf2 : (d.format != 0) = true := by simpa using hf
   rcases ho with h | h | h
   · exact Valid_ref_f1_512 d w h hs hf hf2
   · exact Valid_ref_f2_512 d w h hs hf hf2
   · exact Valid_ref_f3_512 d w h hs hf hf2
end Go.Proofs.YtifmbcjbccedfaaGreatDoor
namespace Go.Proofs.YtifmbcjbccedfaaGreatDoor
open Go.RowKit Dsd
set_option maxRecDepth 100000 in
set_option maxHeartbeats 1000000 in
theorem Valid_ref_o (d : DS) (w : World) (h1 : d.org ≠ 1) (h2 : d.org ≠ 2) (h3 : d.org ≠ 3) : Calls Tryz.prog 23 #[.agg #[.int .i64 d.id, .int .i64 d.org, .int .i64 d.format, .int .i64 d.length, .int .i64 d.block, .int .i64 d.keyAt, .int .i64 d.keyLength, .int .i64 d.interval, .int .i64 d.area, .int .i64 d.freeInterval, .int .i64 d.freeArea, .int .i64 d.base, .int .i64 d.altAt, .int .i64 d.altLength, .bool d.unique, .int .i64 d.cls, .string ⟨d.volume.toArray⟩, .string ⟨d.owner.toArray⟩, .int .i64 d.created, .int .i64 d.expires, .bool d.archived]] w fun e w' => e = .returned (.bool (validB d)) ∧ Ext w w' := by
 have i1 : (d.org != 1) = true := by simpa using h1
 have i2 : (d.org != 2) = true := by simpa using h2
 have i3 : (d.org != 3) = true := by simpa using h3
 go_enter Tryz.func23, Tryz.ntmps23
 go_wp2_with (go_at_call 56; refine (between_any _ _ _ _).mono ?_; rintro e w' ⟨rfl, rfl⟩)
 all_goals go_ret
 all_goals exact ⟨ret_bool (valid_no (by unfold ValidP; omega)), Ext.alloc _ _⟩
set_option maxRecDepth 100000 in
set_option maxHeartbeats 1000000 in
theorem Valid_ref_s1 (d : DS) (w : World) (h3 : d.org = 1) (h1 : d.interval ≠ 128) (h2 : d.interval ≠ 256) (h4 : d.interval ≠ 512) : Calls Tryz.prog 23 #[.agg #[.int .i64 d.id, .int .i64 d.org, .int .i64 d.format, .int .i64 d.length, .int .i64 d.block, .int .i64 d.keyAt, .int .i64 d.keyLength, .int .i64 d.interval, .int .i64 d.area, .int .i64 d.freeInterval, .int .i64 d.freeArea, .int .i64 d.base, .int .i64 d.altAt, .int .i64 d.altLength, .bool d.unique, .int .i64 d.cls, .string ⟨d.volume.toArray⟩, .string ⟨d.owner.toArray⟩, .int .i64 d.created, .int .i64 d.expires, .bool d.archived]] w fun e w' => e = .returned (.bool (validB d)) ∧ Ext w w' := by
 have i1 : (d.interval != 128) = true := by simpa using h1
 have i2 : (d.interval != 256) = true := by simpa using h2
 have i3 : (d.interval != 512) = true := by simpa using h4
 go_enter Tryz.func23, Tryz.ntmps23
 go_wp2_with (go_at_call 56; refine (between_any _ _ _ _).mono ?_; rintro e w' ⟨rfl, rfl⟩)
 all_goals go_ret
 all_goals exact ⟨ret_bool (valid_no (by unfold ValidP; omega)), Ext.alloc _ _⟩
set_option maxRecDepth 100000 in
set_option maxHeartbeats 1000000 in
theorem Valid_ref_s2 (d : DS) (w : World) (h3 : d.org = 2) (h1 : d.interval ≠ 128) (h2 : d.interval ≠ 256) (h4 : d.interval ≠ 512) : Calls Tryz.prog 23 #[.agg #[.int .i64 d.id, .int .i64 d.org, .int .i64 d.format, .int .i64 d.length, .int .i64 d.block, .int .i64 d.keyAt, .int .i64 d.keyLength, .int .i64 d.interval, .int .i64 d.area, .int .i64 d.freeInterval, .int .i64 d.freeArea, .int .i64 d.base, .int .i64 d.altAt, .int .i64 d.altLength, .bool d.unique, .int .i64 d.cls, .string ⟨d.volume.toArray⟩, .string ⟨d.owner.toArray⟩, .int .i64 d.created, .int .i64 d.expires, .bool d.archived]] w fun e w' => e = .returned (.bool (validB d)) ∧ Ext w w' := by
 have i1 : (d.interval != 128) = true := by simpa using h1
 have i2 : (d.interval != 256) = true := by simpa using h2
 have i3 : (d.interval != 512) = true := by simpa using h4
 go_enter Tryz.func23, Tryz.ntmps23
 go_wp2_with (go_at_call 56; refine (between_any _ _ _ _).mono ?_; rintro e w' ⟨rfl, rfl⟩)
 all_goals go_ret
 all_goals exact ⟨ret_bool (valid_no (by unfold ValidP; omega)), Ext.alloc _ _⟩
set_option maxRecDepth 100000 in
set_option maxHeartbeats 1000000 in
theorem Valid_ref_s3 (d : DS) (w : World) (h3 : d.org = 3) (h1 : d.interval ≠ 128) (h2 : d.interval ≠ 256) (h4 : d.interval ≠ 512) : Calls Tryz.prog 23 #[.agg #[.int .i64 d.id, .int .i64 d.org, .int .i64 d.format, .int .i64 d.length, .int .i64 d.block, .int .i64 d.keyAt, .int .i64 d.keyLength, .int .i64 d.interval, .int .i64 d.area, .int .i64 d.freeInterval, .int .i64 d.freeArea, .int .i64 d.base, .int .i64 d.altAt, .int .i64 d.altLength, .bool d.unique, .int .i64 d.cls, .string ⟨d.volume.toArray⟩, .string ⟨d.owner.toArray⟩, .int .i64 d.created, .int .i64 d.expires, .bool d.archived]] w fun e w' => e = .returned (.bool (validB d)) ∧ Ext w w' := by
 have i1 : (d.interval != 128) = true := by simpa using h1
 have i2 : (d.interval != 256) = true := by simpa using h2
 have i3 : (d.interval != 512) = true := by simpa using h4
 go_enter Tryz.func23, Tryz.ntmps23
 go_wp2_with (go_at_call 56; refine (between_any _ _ _ _).mono ?_; rintro e w' ⟨rfl, rfl⟩)
 all_goals go_ret
 all_goals exact ⟨ret_bool (valid_no (by unfold ValidP; omega)), Ext.alloc _ _⟩
theorem Valid_ref (d : DS) (w : World) : Calls Tryz.prog 23 #[.agg #[.int .i64 d.id, .int .i64 d.org, .int .i64 d.format, .int .i64 d.length, .int .i64 d.block, .int .i64 d.keyAt, .int .i64 d.keyLength, .int .i64 d.interval, .int .i64 d.area, .int .i64 d.freeInterval, .int .i64 d.freeArea, .int .i64 d.base, .int .i64 d.altAt, .int .i64 d.altLength, .bool d.unique, .int .i64 d.cls, .string ⟨d.volume.toArray⟩, .string ⟨d.owner.toArray⟩, .int .i64 d.created, .int .i64 d.expires, .bool d.archived]] w fun e w' => e = .returned (.bool (validB d)) ∧ Ext w w' := by
 by_cases ho : d.org = 1 ∨ d.org = 2 ∨ d.org = 3
 · by_cases b1 : d.interval = 128
   · exact Valid_ref_128 d w b1 ho
   · by_cases b2 : d.interval = 256
     · exact Valid_ref_256 d w b2 ho
     · by_cases b3 : d.interval = 512
       · exact Valid_ref_512 d w b3 ho
       · rcases ho with h | h | h
         · exact Valid_ref_s1 d w h b1 b2 b3
         · exact Valid_ref_s2 d w h b1 b2 b3
         · exact Valid_ref_s3 d w h b1 b2 b3
 · exact Valid_ref_o d w (fun h => ho (.inl h)) (fun h => ho (.inr (.inl h))) (fun h => ho (.inr (.inr h)))
end Go.Proofs.YtifmbcjbccedfaaGreatDoor
