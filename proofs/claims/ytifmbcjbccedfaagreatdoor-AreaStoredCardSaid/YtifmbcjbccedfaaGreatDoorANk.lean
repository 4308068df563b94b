/- A part of the proof. -/
import Derived.Test.YtifmbcjbccedfaaGreatDoorAN

set_option linter.unusedSimpArgs false
set_option linter.unusedVariables false
namespace Go.Proofs.YtifmbcjbccedfaaGreatDoor
open Go.RowKit Dsd
set_option maxRecDepth 100000 in
set_option maxHeartbeats 2000000 in
theorem KeyR_any (d : DS) (s : List UInt8) (er : Bool) (hd : keyedB d = true) (w : World) : Calls Tryz.prog 47 #[.agg #[.int .i64 d.id, .int .i64 d.org, .int .i64 d.format, .int .i64 d.length, .int .i64 d.block, .int .i64 d.keyAt, .int .i64 d.keyLength, .int .i64 d.interval, .int .i64 d.area, .int .i64 d.freeInterval, .int .i64 d.freeArea, .int .i64 d.base, .int .i64 d.altAt, .int .i64 d.altLength, .bool d.unique, .int .i64 d.cls, .string ⟨d.volume.toArray⟩, .string ⟨d.owner.toArray⟩, .int .i64 d.created, .int .i64 d.expires, .bool d.archived], .agg #[.string ⟨s.toArray⟩, .bool er]] w fun e w' => e = .returned (.string ⟨(opKey d s).toArray⟩) ∧ Ext w w' := by
 have HI := Lib.hid (IsRecordR_any d s hd)
 obtain ⟨h1, h2, h3, h4, h5, h6, h7, h8, h9⟩ := keyed_spec hd
 have hz := isSize_le (valid_spec h1).2.2.1
 have hb1 := Blk.alloc (Blk.new w (.cells #[.int .i64 d.id, .int .i64 d.org, .int .i64 d.format, .int .i64 d.length, .int .i64 d.block, .int .i64 d.keyAt, .int .i64 d.keyLength, .int .i64 d.interval, .int .i64 d.area, .int .i64 d.freeInterval, .int .i64 d.freeArea, .int .i64 d.base, .int .i64 d.altAt, .int .i64 d.altLength, .bool d.unique, .int .i64 d.cls, .string ⟨d.volume.toArray⟩, .string ⟨d.owner.toArray⟩, .int .i64 d.created, .int .i64 d.expires, .bool d.archived] 23)) (.cells #[.string ⟨s.toArray⟩, .bool er] 85)
 have hb2 := Blk.new (w.alloc (.cells #[.int .i64 d.id, .int .i64 d.org, .int .i64 d.format, .int .i64 d.length, .int .i64 d.block, .int .i64 d.keyAt, .int .i64 d.keyLength, .int .i64 d.interval, .int .i64 d.area, .int .i64 d.freeInterval, .int .i64 d.freeArea, .int .i64 d.base, .int .i64 d.altAt, .int .i64 d.altLength, .bool d.unique, .int .i64 d.cls, .string ⟨d.volume.toArray⟩, .string ⟨d.owner.toArray⟩, .int .i64 d.created, .int .i64 d.expires, .bool d.archived] 23)) (.cells #[.string ⟨s.toArray⟩, .bool er] 85)
 clear h1 h2
 cases hr : recB d s
 · rw [hr] at HI
   have HE : Hid (opKey d s = s) := Lib.hid (by unfold opKey; rw [hr]; rfl)
   go_enter Tryz.func47, Tryz.ntmps47
   go_upto_region 1 with (fail)
   refine wp_name (fun w0 => Ext w w0 ∧ DsAt w0 w.heap.size d ∧ Blk w0 (w.heap.size + 1) (.cells #[.string ⟨s.toArray⟩, .bool er] 85)) ⟨(Ext.alloc _ _).trans (Ext.alloc _ _), hb1, by simpa using hb2⟩ ?_
   clear hb1 hb2
   rintro w0 ⟨he0, hd0, ho0⟩
   have c0 := Blk.val ho0 0 _ rfl
   have l0 := Blk.lt ho0
   go_wp2_with (first | (refine wpList_ds rfl (.tmp 2) rfl _ rfl d hd0 ?_) | (go_at_call 42; refine (HI.out _).mono ?_; rintro e w1 ⟨rfl, he1⟩; have c1 := Blk.val (he1.blk _ _ ho0) 0 _ rfl; have l1 := Blk.lt (he1.blk _ _ ho0)))
   go_ret
   exact ⟨by rw [HE.out]; rfl, he0.trans he1⟩
 · rw [hr] at HI
   have HK := Lib.hid (keyOfR_any d s hd hr)
   have HE : Hid (opKey d s = keyD d s) := Lib.hid (by unfold opKey; rw [hr]; rfl)
   have hs := recB_spec hr
   have i1 : decide (d.keyAt < 0) = false := decide_eq_false (by omega)
   have i2 : decide (d.keyLength < 0) = false := decide_eq_false (by omega)
   have i3 : decide ((s.length : Int) < d.keyAt) = false := decide_eq_false (by omega)
   have i4 : decide ((s.length : Int) - d.keyAt < d.keyLength) = false := decide_eq_false (by omega)
   have i5 : IntKind.i64.wrap ((s.length : Int) - d.keyAt) = (s.length : Int) - d.keyAt := IntWalk.i64_in _ (by omega)
   go_enter Tryz.func47, Tryz.ntmps47
   go_upto_region 1 with (fail)
   refine wp_name (fun w0 => Ext w w0 ∧ DsAt w0 w.heap.size d ∧ Blk w0 (w.heap.size + 1) (.cells #[.string ⟨s.toArray⟩, .bool er] 85)) ⟨(Ext.alloc _ _).trans (Ext.alloc _ _), hb1, by simpa using hb2⟩ ?_
   clear hb1 hb2
   rintro w0 ⟨he0, hd0, ho0⟩
   have c0 := Blk.val ho0 0 _ rfl
   have l0 := Blk.lt ho0
   go_wp2_with (first | (refine wpList_ds (o := ⟨some 5, _, _, _, _, _⟩) rfl (.tmp 2) rfl _ rfl d hd0 ?_) | (go_at_call 42; refine (HI.out _).mono ?_; rintro e w1 ⟨rfl, he1⟩; have c1 := Blk.val (he1.blk _ _ ho0) 0 _ rfl; have l1 := Blk.lt (he1.blk _ _ ho0); have hd1 := hd0.ext he1; have k5 := Blk.val hd1 5 _ rfl; have k6 := Blk.val hd1 6 _ rfl; have l2 := Blk.lt hd1) | (refine wpList_ds (o := ⟨some 41, _, _, _, _, _⟩) rfl (.tmp 2) rfl _ rfl d hd1 ?_) | (go_at_call 43; refine (HK.out _).mono ?_; rintro e w2 ⟨rfl, he2⟩))
   go_ret
   exact ⟨by rw [HE.out]; rfl, (he0.trans he1).trans he2⟩
end Go.Proofs.YtifmbcjbccedfaaGreatDoor
