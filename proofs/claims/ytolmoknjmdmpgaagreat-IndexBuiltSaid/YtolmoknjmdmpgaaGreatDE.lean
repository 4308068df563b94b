/- The walks of package index's described and load. -/
import Derived.Test.YtolmoknjmdmpgaaGreatDD
set_option linter.unusedSimpArgs false
set_option linter.unusedVariables false
namespace Go.Proofs.YtolmoknjmdmpgaaGreat
open Go.RowKit Dsd
set_option maxRecDepth 100000 in
set_option maxHeartbeats 1000000 in
theorem described22_any (h : Hd) (d : DS) (w : World) :
    Calls Tryz.prog 50 #[.agg #[.int .i64 h.applied, .int .i64 h.count, .int .i64 h.fin, .int .i64 h.root, .int .i64 h.height, .int .i64 h.splits, .int .i64 h.areas], .agg #[.int .i64 d.id, .int .i64 d.org, .int .i64 d.format, .int .i64 d.length, .int .i64 d.block, .int .i64 d.keyAt, .int .i64 d.keyLength, .int .i64 d.interval, .int .i64 d.area, .int .i64 d.freeInterval, .int .i64 d.freeArea, .int .i64 d.base, .int .i64 d.altAt, .int .i64 d.altLength, .bool d.unique, .int .i64 d.cls, .string ⟨d.volume.toArray⟩, .string ⟨d.owner.toArray⟩, .int .i64 d.created, .int .i64 d.expires, .bool d.archived]] w fun e w' => e = .returned (.bool (keyedB d && decide (0 ≤ h.fin) && decide (h.fin ≤ 16777152))) ∧ Ext w w' := by
  have Hv := Lib.hid (fun W => Valid_any d W)
  have hdd := hd_ds w h d
  have HE : Hid (keyedB d = (validB d && decide (d.org = 3))) := Lib.hid rfl
  have ho : (d.org == 3) = decide (d.org = 3) := rfl
  go_enter Tryz.func50, Tryz.ntmps50
  go_upto_region 1 with (fail)
  refine wp_name (fun w0 => Ext w w0 ∧ HdAt w0 w.heap.size h ∧ DsAt w0 (w.heap.size + 1) d) hdd ?_
  clear hdd
  rintro w0 ⟨he0, hh0, hb0⟩
  cases hv : validB d
  · rw [hv] at HE Hv
    clear hv
    go_wp2_with (first | (refine wpList_ds rfl (.tmp 3) rfl _ rfl d hb0 ?_) | (go_at_call 74; refine (Hv.out _).mono ?_; rintro e w1 ⟨rfl, he1⟩))
    go_ret
    exact ⟨by rw [HE.out]; rfl, he0.trans he1⟩
  · rw [hv] at HE Hv
    clear hv
    go_upto_region 2 with (first | (refine wpList_ds rfl (.tmp 3) rfl _ rfl d hb0 ?_) | (go_at_call 74; refine (Hv.out _).mono ?_; rintro e w1 ⟨rfl, he1⟩; have c1 := Blk.val (he1.blk _ _ hb0) 1 _ rfl; have hl := Blk.lt (he1.blk _ _ hb0); have c2 := Blk.val (he1.blk _ _ hh0) 2 _ rfl; have hl2 := Blk.lt (he1.blk _ _ hh0)))
    all_goals
      go_ret
      refine ⟨congrArg (fun b => Ending.returned (Value.bool b)) ?_, he0.trans he1⟩
      rw [HE.out]
      clear hb0 hh0 c1 c2 hl hl2 he0 he1 Hv HE
      first
        | (simp [*]; done)
        | (simp [*]; omega)
set_option maxRecDepth 100000 in
theorem IsKeyedR_any (d : DS) (w : World) : Calls Tryz.prog 17 #[.agg #[.int .i64 d.id, .int .i64 d.org, .int .i64 d.format, .int .i64 d.length, .int .i64 d.block, .int .i64 d.keyAt, .int .i64 d.keyLength, .int .i64 d.interval, .int .i64 d.area, .int .i64 d.freeInterval, .int .i64 d.freeArea, .int .i64 d.base, .int .i64 d.altAt, .int .i64 d.altLength, .bool d.unique, .int .i64 d.cls, .string ⟨d.volume.toArray⟩, .string ⟨d.owner.toArray⟩, .int .i64 d.created, .int .i64 d.expires, .bool d.archived]] w fun e w' => e = .returned (.bool (keyedB d)) ∧ Ext w w' := by
  have Hv := Lib.hid (Valid_ref d)
  have hb := Blk.new w (.cells #[.int .i64 d.id, .int .i64 d.org, .int .i64 d.format, .int .i64 d.length, .int .i64 d.block, .int .i64 d.keyAt, .int .i64 d.keyLength, .int .i64 d.interval, .int .i64 d.area, .int .i64 d.freeInterval, .int .i64 d.freeArea, .int .i64 d.base, .int .i64 d.altAt, .int .i64 d.altLength, .bool d.unique, .int .i64 d.cls, .string ⟨d.volume.toArray⟩, .string ⟨d.owner.toArray⟩, .int .i64 d.created, .int .i64 d.expires, .bool d.archived] 26)
  have HE : Hid (keyedB d = (validB d && decide (d.org = 3))) := Lib.hid rfl
  have ho : (d.org == 3) = decide (d.org = 3) := rfl
  go_enter Tryz.func17, Tryz.ntmps17
  go_upto_region 1 with (fail)
  refine wp_name (fun w0 => Ext w w0 ∧ DsAt w0 w.heap.size d) ⟨Ext.alloc _ _, hb⟩ ?_
  rintro w0 ⟨he0, hb0⟩
  clear hb
  cases hv : validB d
  · rw [hv] at HE Hv
    clear hv
    go_wp2_with (first | (refine wpList_ds rfl (.tmp 1) rfl _ rfl d hb0 ?_) | (go_at_call 35; refine (Hv.out _).mono ?_; rintro e w1 ⟨rfl, he1⟩))
    go_ret
    exact ⟨by rw [HE.out]; rfl, he0.trans he1⟩
  · rw [hv] at HE Hv
    clear hv
    go_wp2_with (first | (refine wpList_ds rfl (.tmp 1) rfl _ rfl d hb0 ?_) | (go_at_call 35; refine (Hv.out _).mono ?_; rintro e w1 ⟨rfl, he1⟩; have c1 := Blk.val (he1.blk _ _ hb0) 1 _ rfl; have hl := Blk.lt (he1.blk _ _ hb0)))
    go_ret
    exact ⟨by rw [HE.out]; rfl, he0.trans he1⟩
set_option maxRecDepth 100000 in
set_option maxHeartbeats 1000000 in
theorem Door22_any (h : Hd) (d : DS) (w : World) :
    Calls Tryz.prog 29 #[.agg #[.int .i64 h.applied, .int .i64 h.count, .int .i64 h.fin, .int .i64 h.root, .int .i64 h.height, .int .i64 h.splits, .int .i64 h.areas], .agg #[.int .i64 d.id, .int .i64 d.org, .int .i64 d.format, .int .i64 d.length, .int .i64 d.block, .int .i64 d.keyAt, .int .i64 d.keyLength, .int .i64 d.interval, .int .i64 d.area, .int .i64 d.freeInterval, .int .i64 d.freeArea, .int .i64 d.base, .int .i64 d.altAt, .int .i64 d.altLength, .bool d.unique, .int .i64 d.cls, .string ⟨d.volume.toArray⟩, .string ⟨d.owner.toArray⟩, .int .i64 d.created, .int .i64 d.expires, .bool d.archived]] w fun e w' => e = .returned (.int .i64 (door22 h d)) ∧ Ext w w' := by
  have Hv := Lib.hid (fun W => IsKeyedR_any d W)
  have hdd := hd_ds w h d
  have HE : Hid (door22 h d = if keyedB d && decide (1 ≤ h.root) && decide (h.root ≤ 16777216) && decide (0 ≤ h.height) && decide (h.height ≤ 6) && decide (0 ≤ h.fin) && decide (h.fin ≤ 16777152) then 0 else 1) := Lib.hid rfl
  go_enter Tryz.func29, Tryz.ntmps29
  go_upto_region 1 with (fail)
  refine wp_name (fun w0 => Ext w w0 ∧ HdAt w0 w.heap.size h ∧ DsAt w0 (w.heap.size + 1) d) hdd ?_
  clear hdd
  rintro w0 ⟨he0, hh0, hb0⟩
  cases hv : keyedB d
  · rw [hv] at HE Hv
    clear hv
    go_wp2_with (first | (refine wpList_ds rfl (.tmp 3) rfl _ rfl d hb0 ?_) | (go_at_call 17; refine (Hv.out _).mono ?_; rintro e w1 ⟨rfl, he1⟩))
    go_ret
    exact ⟨by rw [HE.out]; rfl, he0.trans he1⟩
  · rw [hv] at HE Hv
    clear hv
    go_wp2_with (first | (refine wpList_ds rfl (.tmp 3) rfl _ rfl d hb0 ?_) | (go_at_call 17; refine (Hv.out _).mono ?_; rintro e w1 ⟨rfl, he1⟩; have c2 := Blk.val (he1.blk _ _ hh0) 2 _ rfl; have c3 := Blk.val (he1.blk _ _ hh0) 3 _ rfl; have c4 := Blk.val (he1.blk _ _ hh0) 4 _ rfl; have hl2 := Blk.lt (he1.blk _ _ hh0)))
    all_goals
      go_ret
      refine ⟨congrArg (fun b => Ending.returned (Value.int .i64 b)) ?_, he0.trans he1⟩
      rw [HE.out]
      clear hb0 hh0 c2 c3 c4 hl2 he0 he1 Hv HE
      first
        | (simp [*]; done)
        | (simp [*]; omega)
end Go.Proofs.YtolmoknjmdmpgaaGreat
