/- The reference's Append, for all inputs. -/
import Derived.Test.YtkhlglkipeoalaaDoorX19
set_option linter.unusedSimpArgs false
set_option linter.unusedVariables false
namespace Go.Proofs.YtkhlglkipeoalaaDoor
open Go.RowKit Dsd

set_option maxRecDepth 100000 in
set_option maxHeartbeats 2000000 in
theorem Append_ref (p : Option Addr) (n cap : Nat) (m : List (List UInt8)) (h : Hd) (d : DS) (r : List UInt8) (w : World) (hs : Strs w p m) (hn : m.length = n) (hm : Small m) (hr : r.length ≤ 1000000) :
    Calls Tryd.prog 13 #[.slice p n cap, .agg #[.int .i64 h.applied, .int .i64 h.count, .int .i64 h.fin, .int .i64 h.root, .int .i64 h.height, .int .i64 h.splits, .int .i64 h.areas], .agg #[.int .i64 d.id, .int .i64 d.org, .int .i64 d.format, .int .i64 d.length, .int .i64 d.block, .int .i64 d.keyAt, .int .i64 d.keyLength, .int .i64 d.interval, .int .i64 d.area, .int .i64 d.freeInterval, .int .i64 d.freeArea, .int .i64 d.base, .int .i64 d.altAt, .int .i64 d.altLength, .bool d.unique, .int .i64 d.cls, .string ⟨d.volume.toArray⟩, .string ⟨d.owner.toArray⟩, .int .i64 d.created, .int .i64 d.expires, .bool d.archived], .string ⟨r.toArray⟩] w (AppOut m h d r w) := by
  have Hdo := Lib.hid (Door_any h d 1)
  by_cases hd : doorOf h d 1 = 0
  · by_cases hlen : 1 ≤ r.length ∧ (r.length : Int) ≤ d.length
    · by_cases hx : (endOfC m d.interval h.fin).2 = 0
      · exact Append_ref_main p n cap m h d r w hs hn hm hd hlen.1 hlen.2 hx
      · have HR : Hid (appendOf m h d r = .err (endOfC m d.interval h.fin).2) := Lib.hid (by unfold appendOf; rw [if_neg (by simp [hd]), if_neg (by omega), if_pos hx])
        rw [hd] at Hdo
        have Hs := Lib.hid hs
        have hf0 : h.fin ≠ 0 := fun e => by apply hx; unfold endOfC; rw [if_pos e]
        have hpl := (plain_spec (door_zero hd).2.1).2.2
        have h0I : decide (0 < h.fin) = true := decide_eq_true (by omega)
        have h0P : 0 < h.fin := by omega
        have hxe : (endOfC m d.interval h.fin).2 = (loadOf m d.interval h.fin).2 := by unfold endOfC; rw [if_neg hf0]
        rw [hxe] at HR hx
        have Hlo := Lib.hid (fun w hs => (Load_ref p cap n m d h.fin w hs hn hm).mono (show ∀ e w', LoadOut m d.interval h.fin w e w' → (e = .returned (.tuple #[.slice none 0 0, .int .i64 (loadOf m d.interval h.fin).2]) ∧ Ext w w') from by
          rintro e w' ⟨he, ⟨_, rfl⟩ | ⟨h3, _⟩⟩
          · exact ⟨rfl, he⟩
          · exact absurd h3 hx))
        have hxI : ((loadOf m d.interval h.fin).2 != 0) = true := by simpa using hx
        generalize (loadOf m d.interval h.fin).2 = x at *
        obtain ⟨hl1, hl2⟩ := hlen
        have hl1N : decide (r.length < 1) = false := decide_eq_false (by omega)
        have hl1I : decide ((r.length : Int) < 1) = false := decide_eq_false (by omega)
        have hl2I : decide (d.length < (r.length : Int)) = false := decide_eq_false (by omega)
        clear hs hd hx hxe hf0
        go_enter Tryd.func13, Tryd.ntmps13
        go_upto_region 1 with (fail)
        refine wp_name (fun w0 => Ext w w0 ∧ HdAt w0 w.heap.size h ∧ DsAt w0 (w.heap.size + 1) d ∧ Blk w0 (w.heap.size + 1 + 1) (.cells #[.int .i64 0, .int .i64 0, .int .i64 0, .int .i64 0, .int .i64 0, .int .i64 0, .int .i64 0] 28)) (hd_ds_cl w h d _ _) ?_
        rintro w0 ⟨he0, hb1, hb2, hb3⟩
        go_upto_region 7 with (first | (refine wpList_ds rfl (.tmp 6) rfl _ rfl d hb2 ?_) | (refine wpList_hd rfl (.tmp 5) rfl _ rfl h hb1 ?_) | (go_at_call 40; refine (Hdo.out _).mono ?_; rintro e w1 ⟨rfl, he1⟩; have hb1 := hb1.ext he1; have hb2 := hb2.ext he1; have hb3 := he1.blk _ _ hb3; have c3 := Blk.val hb2 3 _ rfl))
        refine wp_name (fun w2 => Ext w w2 ∧ HdAt w2 w.heap.size h ∧ DsAt w2 (w.heap.size + 1) d ∧ Blk w2 (w.heap.size + 1 + 1) (.cells #[.int .i64 0, .int .i64 0, .int .i64 0, .int .i64 0, .int .i64 0, .int .i64 0, .int .i64 0] 28)) ⟨(he0.trans he1).trans (Ext.alloc _ _), hb1.alloc _, hb2.alloc _, hb3.alloc _⟩ ?_
        rintro w2 ⟨he2, hb1, hb2, hb3⟩
        have h2 : w2.cell? ⟨w.heap.size, 2, none⟩ = some (.int .i64 h.fin) := Blk.val hb1 2 _ rfl
        clear c3 he0 he1
        go_wp2_with (first | (refine wpList_ds rfl (.tmp 6) rfl _ rfl d hb2 ?_) | (go_at_call 41; refine (Hlo.out _ (Hs.out.ext he2)).mono ?_; rintro e w3 ⟨rfl, he3⟩; have hb3 := he3.blk _ _ hb3) | (refine wpList_put rfl 28 (.tmp 8) (.tmp 52) rfl _ #[.int .i64 0, .int .i64 0, .int .i64 0, .int .i64 0, .int .i64 0, .int .i64 0, .int .i64 0] rfl rfl _ _ hb3 hdSize rfl (hd_one Hd.zero) ?_; intro w4 hb4 hc4))
        exact bodyPost_ret (results_row3 Tryd.results13 _ _ _ _ _ _ rfl hb4 hdDesc rfl hdSize) rfl (appOut_no (hc4.ext (he2.trans he3) (by omega)) HR.out)
    · have HR : Hid (appendOf m h d r = .err 2) := Lib.hid (by unfold appendOf; rw [if_neg (by simp [hd]), if_pos (by omega)])
      rw [hd] at Hdo
      clear hs hd
      by_cases hl1 : 1 ≤ r.length
      · have hl1N : decide (r.length < 1) = false := decide_eq_false (by omega)
        have hl1I : decide ((r.length : Int) < 1) = false := decide_eq_false (by omega)
        have hl2I : decide (d.length < (r.length : Int)) = true := decide_eq_true (by omega)
        clear hlen
        go_enter Tryd.func13, Tryd.ntmps13
        go_upto_region 1 with (fail)
        refine wp_name (fun w0 => Ext w w0 ∧ HdAt w0 w.heap.size h ∧ DsAt w0 (w.heap.size + 1) d ∧ Blk w0 (w.heap.size + 1 + 1) (.cells #[.int .i64 0, .int .i64 0, .int .i64 0, .int .i64 0, .int .i64 0, .int .i64 0, .int .i64 0] 28)) (hd_ds_cl w h d _ _) ?_
        rintro w0 ⟨he0, hb1, hb2, hb3⟩
        go_wp2_with (first | (refine wpList_ds rfl (.tmp 6) rfl _ rfl d hb2 ?_) | (refine wpList_hd rfl (.tmp 5) rfl _ rfl h hb1 ?_) | (go_at_call 40; refine (Hdo.out _).mono ?_; rintro e w1 ⟨rfl, he1⟩; have hb2 := hb2.ext he1; have hb3 := he1.blk _ _ hb3; have c3 := Blk.val hb2 3 _ rfl) | (refine wpList_put rfl 28 (.tmp 8) (.tmp 37) rfl _ #[.int .i64 0, .int .i64 0, .int .i64 0, .int .i64 0, .int .i64 0, .int .i64 0, .int .i64 0] rfl rfl _ _ hb3 hdSize rfl (hd_one Hd.zero) ?_; intro w4 hb4 hc4))
        exact bodyPost_ret (results_row3 Tryd.results13 _ _ _ _ _ _ rfl hb4 hdDesc rfl hdSize) rfl (appOut_no (hc4.ext (he0.trans he1) (by omega)) HR.out)
      · have hl1N : decide (r.length < 1) = true := decide_eq_true (by omega)
        have hl1I : decide ((r.length : Int) < 1) = true := decide_eq_true (by omega)
        clear hlen
        go_enter Tryd.func13, Tryd.ntmps13
        go_upto_region 1 with (fail)
        refine wp_name (fun w0 => Ext w w0 ∧ HdAt w0 w.heap.size h ∧ DsAt w0 (w.heap.size + 1) d ∧ Blk w0 (w.heap.size + 1 + 1) (.cells #[.int .i64 0, .int .i64 0, .int .i64 0, .int .i64 0, .int .i64 0, .int .i64 0, .int .i64 0] 28)) (hd_ds_cl w h d _ _) ?_
        rintro w0 ⟨he0, hb1, hb2, hb3⟩
        go_wp2_with (first | (refine wpList_ds rfl (.tmp 6) rfl _ rfl d hb2 ?_) | (refine wpList_hd rfl (.tmp 5) rfl _ rfl h hb1 ?_) | (go_at_call 40; refine (Hdo.out _).mono ?_; rintro e w1 ⟨rfl, he1⟩; have hb2 := hb2.ext he1; have hb3 := he1.blk _ _ hb3; have c3 := Blk.val hb2 3 _ rfl) | (refine wpList_put rfl 28 (.tmp 8) (.tmp 37) rfl _ #[.int .i64 0, .int .i64 0, .int .i64 0, .int .i64 0, .int .i64 0, .int .i64 0, .int .i64 0] rfl rfl _ _ hb3 hdSize rfl (hd_one Hd.zero) ?_; intro w4 hb4 hc4))
        exact bodyPost_ret (results_row3 Tryd.results13 _ _ _ _ _ _ rfl hb4 hdDesc rfl hdSize) rfl (appOut_no (hc4.ext (he0.trans he1) (by omega)) HR.out)
  · have HR : Hid (appendOf m h d r = .err (doorOf h d 1)) := Lib.hid (by unfold appendOf; rw [if_pos hd])
    have hdI : (doorOf h d 1 != 0) = true := by simpa using hd
    generalize doorOf h d 1 = c at *
    clear hd hs
    go_enter Tryd.func13, Tryd.ntmps13
    go_upto_region 1 with (fail)
    refine wp_name (fun w0 => Ext w w0 ∧ HdAt w0 w.heap.size h ∧ DsAt w0 (w.heap.size + 1) d ∧ Blk w0 (w.heap.size + 1 + 1) (.cells #[.int .i64 0, .int .i64 0, .int .i64 0, .int .i64 0, .int .i64 0, .int .i64 0, .int .i64 0] 28)) (hd_ds_cl w h d _ _) ?_
    rintro w0 ⟨he0, hb1, hb2, hb3⟩
    go_wp2_with (first | (refine wpList_ds rfl (.tmp 6) rfl _ rfl d hb2 ?_) | (refine wpList_hd rfl (.tmp 5) rfl _ rfl h hb1 ?_) | (go_at_call 40; refine (Hdo.out _).mono ?_; rintro e w1 ⟨rfl, he1⟩; have hb3 := he1.blk _ _ hb3) | (refine wpList_put rfl 28 (.tmp 8) (.tmp 25) rfl _ #[.int .i64 0, .int .i64 0, .int .i64 0, .int .i64 0, .int .i64 0, .int .i64 0, .int .i64 0] rfl rfl _ _ hb3 hdSize rfl (hd_one Hd.zero) ?_; intro w4 hb4 hc4))
    exact bodyPost_ret (results_row3 Tryd.results13 _ _ _ _ _ _ rfl hb4 hdDesc rfl hdSize) rfl (appOut_no (hc4.ext (he0.trans he1) (by omega)) HR.out)
end Go.Proofs.YtkhlglkipeoalaaDoor
