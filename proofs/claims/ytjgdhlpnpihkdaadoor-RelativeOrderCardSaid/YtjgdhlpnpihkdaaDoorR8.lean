/- The walk of package relative's Put: the ways that change nothing. -/
import Derived.Test.YtjgdhlpnpihkdaaDoorR6
import Derived.Test.YtjgdhlpnpihkdaaDoorP19
set_option linter.unusedSimpArgs false
set_option linter.unusedVariables false
namespace Go.Proofs.YtjgdhlpnpihkdaaDoor
open Go.RowKit Dsd

set_option maxRecDepth 100000 in
set_option maxHeartbeats 2000000 in
theorem rput_no (p : Option Addr) (cap n : Nat) (m : List (List UInt8)) (h : Hd) (d : DS) (slot : Int) (r : List UInt8) (w : World) (hs : Strs w p m) (hn : m.length = n) (hm : Small m) (hrl : r.length ≤ 1000000)
    (hno : doorOf h d 2 ≠ 0 ∨ slot < 1 ∨ 65536 < slot ∨ (r.length : Int) ≠ d.length ∨ h.fin + 8 < pageS d slot ∨ (pageS d slot ≤ h.fin ∧ (loadS m d (pageS d slot)).2 ≠ 0)) :
    Calls Tryd.prog 36 #[mV p n cap, .agg #[.int .i64 h.applied, .int .i64 h.count, .int .i64 h.fin, .int .i64 h.root, .int .i64 h.height, .int .i64 h.splits, .int .i64 h.areas], .agg #[.int .i64 d.id, .int .i64 d.org, .int .i64 d.format, .int .i64 d.length, .int .i64 d.block, .int .i64 d.keyAt, .int .i64 d.keyLength, .int .i64 d.interval, .int .i64 d.area, .int .i64 d.freeInterval, .int .i64 d.freeArea, .int .i64 d.base, .int .i64 d.altAt, .int .i64 d.altLength, .bool d.unique, .int .i64 d.cls, .string ⟨d.volume.toArray⟩, .string ⟨d.owner.toArray⟩, .int .i64 d.created, .int .i64 d.expires, .bool d.archived], .int .i64 slot, .string ⟨r.toArray⟩] w (RelOut (putR m h d slot r) w) := by
  by_cases hd : doorOf h d 2 = 0
  · have hv := (door_zero hd).1
    have hpl := (door_zero hd).2.1
    obtain ⟨p1, p2, p3, p4⟩ := plain_spec hpl
    have Hop := Lib.hid (fun w => ropen_ok p n cap h d hd w)
    by_cases hr : slot < 1 ∨ 65536 < slot ∨ (r.length : Int) ≠ d.length
    · have HG : Hid (putR m h d slot r = .no 2) := Lib.hid (by unfold putR; rw [if_neg (by simp [hd]), if_pos hr])
      clear hno hd hpl hv
      by_cases h1 : slot < 1
      · have h1I : decide (slot < 1) = true := decide_eq_true h1
        clear hr
        go_enter Tryd.func36, Tryd.ntmps36
        go_upto_region 1 with (fail)
        refine wp_name (fun w0 => Ext w w0 ∧ HdAt w0 w.heap.size h ∧ DsAt w0 (w.heap.size + 1) d ∧ Blk w0 (w.heap.size + 1 + 1) (.cells #[.int .i64 0, .int .i64 0, .int .i64 0, .int .i64 0, .int .i64 0, .int .i64 0, .int .i64 0] 24)) (hd_ds_cl w h d _ _) ?_
        rintro w0 ⟨he0, hb1, hb2, hbr⟩
        go_upto_region 2 with (first
          | (refine wpList_ds rfl (.tmp 7) rfl _ rfl d hb2 ?_) | (refine wpList_hd rfl (.tmp 6) rfl _ rfl h hb1 ?_)
          | (go_at_call 67; refine (Hop.out _).mono ?_; rintro e w1 ⟨rfl, he1⟩)
          | (refine wpList_put rfl 122 (.tmp 13) (.tmp 24) rfl _ (rcCells (mV p n cap) h d) rfl rfl _ _ (Blk.new w1 _) rcSize rfl (rc_one p n cap h d) ?_; intro w3 hb3 hc3; have he3 := hc3.ext (Ext.alloc w1 _) (Nat.le_refl _)))
        have hE13 := he1.trans he3
        have hcb := Nat.lt_of_lt_of_le (Blk.lt hbr) he1.size
        have hcz : w1.heap.size < w3.heap.size := Blk.lt hb3
        refine wp_name (fun w5 => Ext w w5 ∧ HdAt w5 w.heap.size h ∧ DsAt w5 (w.heap.size + 1) d ∧ Blk w5 (w.heap.size + 1 + 1) (.cells #[.int .i64 0, .int .i64 0, .int .i64 0, .int .i64 0, .int .i64 0, .int .i64 0, .int .i64 0] 24) ∧ Blk w5 w1.heap.size (.cells (rcCells (mV p n cap) h d) 122)) ⟨he0.trans hE13, hb1.ext hE13, hb2.ext hE13, hE13.blk _ _ hbr, hb3⟩ ?_
        clear hb1 hb2 hbr hb3 he0 he1 he3 hE13 hc3 hcz
        generalize w1.heap.size = cb at *
        rintro w5 ⟨he5, hb1, hb2, hbr, hb3⟩
        go_wp2_with (first
          | (refine wpList_put rfl 24 (.tmp 10) (.tmp 43) rfl _ #[.int .i64 0, .int .i64 0, .int .i64 0, .int .i64 0, .int .i64 0, .int .i64 0, .int .i64 0] rfl rfl _ _ hbr hdSize rfl (hd_one Hd.zero) ?_; intro w6 hb6 hc6))
        exact bodyPost_ret (results_row2 Tryd.results36 _ _ _ _ _ _ rfl hb6 hdDesc rfl hdSize) rfl (relOut_no (hc6.ext he5 (by omega)) HG.out)
      · have h1I : decide (slot < 1) = false := decide_eq_false h1
        by_cases h2 : 65536 < slot
        · have h2I : decide (65536 < slot) = true := decide_eq_true h2
          clear hr h1
          go_enter Tryd.func36, Tryd.ntmps36
          go_upto_region 1 with (fail)
          refine wp_name (fun w0 => Ext w w0 ∧ HdAt w0 w.heap.size h ∧ DsAt w0 (w.heap.size + 1) d ∧ Blk w0 (w.heap.size + 1 + 1) (.cells #[.int .i64 0, .int .i64 0, .int .i64 0, .int .i64 0, .int .i64 0, .int .i64 0, .int .i64 0] 24)) (hd_ds_cl w h d _ _) ?_
          rintro w0 ⟨he0, hb1, hb2, hbr⟩
          go_upto_region 2 with (first
            | (refine wpList_ds rfl (.tmp 7) rfl _ rfl d hb2 ?_) | (refine wpList_hd rfl (.tmp 6) rfl _ rfl h hb1 ?_)
            | (go_at_call 67; refine (Hop.out _).mono ?_; rintro e w1 ⟨rfl, he1⟩)
            | (refine wpList_put rfl 122 (.tmp 13) (.tmp 24) rfl _ (rcCells (mV p n cap) h d) rfl rfl _ _ (Blk.new w1 _) rcSize rfl (rc_one p n cap h d) ?_; intro w3 hb3 hc3; have he3 := hc3.ext (Ext.alloc w1 _) (Nat.le_refl _)))
          have hE13 := he1.trans he3
          have hcb := Nat.lt_of_lt_of_le (Blk.lt hbr) he1.size
          have hcz : w1.heap.size < w3.heap.size := Blk.lt hb3
          refine wp_name (fun w5 => Ext w w5 ∧ HdAt w5 w.heap.size h ∧ DsAt w5 (w.heap.size + 1) d ∧ Blk w5 (w.heap.size + 1 + 1) (.cells #[.int .i64 0, .int .i64 0, .int .i64 0, .int .i64 0, .int .i64 0, .int .i64 0, .int .i64 0] 24) ∧ Blk w5 w1.heap.size (.cells (rcCells (mV p n cap) h d) 122)) ⟨he0.trans hE13, hb1.ext hE13, hb2.ext hE13, hE13.blk _ _ hbr, hb3⟩ ?_
          clear hb1 hb2 hbr hb3 he0 he1 he3 hE13 hc3 hcz
          generalize w1.heap.size = cb at *
          rintro w5 ⟨he5, hb1, hb2, hbr, hb3⟩
          go_wp2_with (first
            | (refine wpList_put rfl 24 (.tmp 10) (.tmp 43) rfl _ #[.int .i64 0, .int .i64 0, .int .i64 0, .int .i64 0, .int .i64 0, .int .i64 0, .int .i64 0] rfl rfl _ _ hbr hdSize rfl (hd_one Hd.zero) ?_; intro w6 hb6 hc6))
          exact bodyPost_ret (results_row2 Tryd.results36 _ _ _ _ _ _ rfl hb6 hdDesc rfl hdSize) rfl (relOut_no (hc6.ext he5 (by omega)) HG.out)
        · have h2I : decide (65536 < slot) = false := decide_eq_false h2
          have h3I : ((r.length : Int) != d.length) = true := by simp; omega
          clear hr h1 h2
          go_enter Tryd.func36, Tryd.ntmps36
          go_upto_region 1 with (fail)
          refine wp_name (fun w0 => Ext w w0 ∧ HdAt w0 w.heap.size h ∧ DsAt w0 (w.heap.size + 1) d ∧ Blk w0 (w.heap.size + 1 + 1) (.cells #[.int .i64 0, .int .i64 0, .int .i64 0, .int .i64 0, .int .i64 0, .int .i64 0, .int .i64 0] 24)) (hd_ds_cl w h d _ _) ?_
          rintro w0 ⟨he0, hb1, hb2, hbr⟩
          go_upto_region 2 with (first
            | (refine wpList_ds rfl (.tmp 7) rfl _ rfl d hb2 ?_) | (refine wpList_hd rfl (.tmp 6) rfl _ rfl h hb1 ?_)
            | (go_at_call 67; refine (Hop.out _).mono ?_; rintro e w1 ⟨rfl, he1⟩)
            | (refine wpList_put rfl 122 (.tmp 13) (.tmp 24) rfl _ (rcCells (mV p n cap) h d) rfl rfl _ _ (Blk.new w1 _) rcSize rfl (rc_one p n cap h d) ?_; intro w3 hb3 hc3; have he3 := hc3.ext (Ext.alloc w1 _) (Nat.le_refl _)))
          have hE13 := he1.trans he3
          have hcb := Nat.lt_of_lt_of_le (Blk.lt hbr) he1.size
          have hcz : w1.heap.size < w3.heap.size := Blk.lt hb3
          refine wp_name (fun w5 => Ext w w5 ∧ HdAt w5 w.heap.size h ∧ DsAt w5 (w.heap.size + 1) d ∧ Blk w5 (w.heap.size + 1 + 1) (.cells #[.int .i64 0, .int .i64 0, .int .i64 0, .int .i64 0, .int .i64 0, .int .i64 0, .int .i64 0] 24) ∧ Blk w5 w1.heap.size (.cells (rcCells (mV p n cap) h d) 122)) ⟨he0.trans hE13, hb1.ext hE13, hb2.ext hE13, hE13.blk _ _ hbr, hb3⟩ ?_
          clear hb1 hb2 hbr hb3 he0 he1 he3 hE13 hc3 hcz
          generalize w1.heap.size = cb at *
          rintro w5 ⟨he5, hb1, hb2, hbr, hb3⟩
          have c3 : w5.cell? ⟨w.heap.size + 1, 3, none⟩ = some (.int .i64 d.length) := Blk.val hb2 3 _ rfl
          go_wp2_with (first
            | (refine wpList_put rfl 24 (.tmp 10) (.tmp 43) rfl _ #[.int .i64 0, .int .i64 0, .int .i64 0, .int .i64 0, .int .i64 0, .int .i64 0, .int .i64 0] rfl rfl _ _ hbr hdSize rfl (hd_one Hd.zero) ?_; intro w6 hb6 hc6))
          exact bodyPost_ret (results_row2 Tryd.results36 _ _ _ _ _ _ rfl hb6 hdDesc rfl hdSize) rfl (relOut_no (hc6.ext he5 (by omega)) HG.out)
    · have h1 : 1 ≤ slot := by omega
      have h2 : slot ≤ 65536 := by omega
      have h1I : decide (slot < 1) = false := decide_eq_false (by omega)
      have h2I : decide (65536 < slot) = false := decide_eq_false (by omega)
      have h3I : ((r.length : Int) != d.length) = false := by simp; omega
      obtain ⟨_, _, a3, a4, a5, a6⟩ := place_go hv h1 h2
      have Hpl := Lib.hid (fun w => place_any (mV p n cap) h d hv slot h1 h2 w)
      have i8 : IntKind.i64.wrap (h.fin + 8) = h.fin + 8 := IntWalk.i64_in _ (by omega)
      by_cases hpf : h.fin + 8 < pageS d slot
      · have hpI : decide (h.fin + 8 < pageS d slot) = true := decide_eq_true hpf
        have HG : Hid (putR m h d slot r = .no 8) := Lib.hid (by unfold putR; rw [if_neg (by simp [hd]), if_neg hr, if_pos hpf])
        clear hno hd hpl hv hr h1 h2
        generalize pageS d slot = pg at *
        generalize idxS d slot = ix at *
        go_enter Tryd.func36, Tryd.ntmps36
        go_upto_region 1 with (fail)
        refine wp_name (fun w0 => Ext w w0 ∧ HdAt w0 w.heap.size h ∧ DsAt w0 (w.heap.size + 1) d ∧ Blk w0 (w.heap.size + 1 + 1) (.cells #[.int .i64 0, .int .i64 0, .int .i64 0, .int .i64 0, .int .i64 0, .int .i64 0, .int .i64 0] 24)) (hd_ds_cl w h d _ _) ?_
        rintro w0 ⟨he0, hb1, hb2, hbr⟩
        go_upto_region 2 with (first
          | (refine wpList_ds rfl (.tmp 7) rfl _ rfl d hb2 ?_) | (refine wpList_hd rfl (.tmp 6) rfl _ rfl h hb1 ?_)
          | (go_at_call 67; refine (Hop.out _).mono ?_; rintro e w1 ⟨rfl, he1⟩)
          | (refine wpList_put rfl 122 (.tmp 13) (.tmp 24) rfl _ (rcCells (mV p n cap) h d) rfl rfl _ _ (Blk.new w1 _) rcSize rfl (rc_one p n cap h d) ?_; intro w3 hb3 hc3; have he3 := hc3.ext (Ext.alloc w1 _) (Nat.le_refl _)))
        have hE13 := he1.trans he3
        have hcb := Nat.lt_of_lt_of_le (Blk.lt hbr) he1.size
        have hcz : w1.heap.size < w3.heap.size := Blk.lt hb3
        refine wp_name (fun w5 => Ext w w5 ∧ HdAt w5 w.heap.size h ∧ DsAt w5 (w.heap.size + 1) d ∧ Blk w5 (w.heap.size + 1 + 1) (.cells #[.int .i64 0, .int .i64 0, .int .i64 0, .int .i64 0, .int .i64 0, .int .i64 0, .int .i64 0] 24) ∧ Blk w5 w1.heap.size (.cells (rcCells (mV p n cap) h d) 122)) ⟨he0.trans hE13, hb1.ext hE13, hb2.ext hE13, hE13.blk _ _ hbr, hb3⟩ ?_
        clear hb1 hb2 hbr hb3 he0 he1 he3 hE13 hc3 hcz
        generalize w1.heap.size = cb at *
        rintro w5 ⟨he5, hb1, hb2, hbr, hb3⟩
        have c3 : w5.cell? ⟨w.heap.size + 1, 3, none⟩ = some (.int .i64 d.length) := Blk.val hb2 3 _ rfl
        go_wp2_with (first
          | (refine wpList_row rfl 122 (.tmp 13) rfl _ rfl _ _ _ hb3 rcDesc rfl rcSize ?_)
          | (go_at_call 68; refine (Hpl.out _).mono ?_; rintro e w6 ⟨rfl, he6⟩; have c2 := Blk.val (hb1.ext he6) 2 _ rfl; have hbr6 := he6.blk _ _ hbr)
          | (refine wpList_put rfl 24 (.tmp 10) (.tmp 55) rfl _ #[.int .i64 0, .int .i64 0, .int .i64 0, .int .i64 0, .int .i64 0, .int .i64 0, .int .i64 0] rfl rfl _ _ hbr6 hdSize rfl (hd_one Hd.zero) ?_; intro w7 hb7 hc7))
        exact bodyPost_ret (results_row2 Tryd.results36 _ _ _ _ _ _ rfl hb7 hdDesc rfl hdSize) rfl (relOut_no (hc7.ext (he5.trans he6) (by omega)) HG.out)
      · have hpI : decide (h.fin + 8 < pageS d slot) = false := decide_eq_false hpf
        have hl2 : pageS d slot ≤ h.fin ∧ (loadS m d (pageS d slot)).2 ≠ 0 := by
          rcases hno with x | x | x | x | x | x
          · exact absurd hd x
          · omega
          · omega
          · exact absurd (.inr (.inr x)) hr
          · exact absurd x hpf
          · exact x
        obtain ⟨hle, hl⟩ := hl2
        have hleI : decide (pageS d slot ≤ h.fin) = true := decide_eq_true hle
        have HG : Hid (putR m h d slot r = .no (loadS m d (pageS d slot)).2) := Lib.hid (by unfold putR; rw [if_neg (by simp [hd]), if_neg hr, if_neg hpf, if_pos hle, if_pos hl])
        have HL : Hid (∀ w', Ext w w' → Calls Tryd.prog 69 #[.agg (rcCells (mV p n cap) h d), .int .i64 (pageS d slot)] w' fun e w2 => e = .returned (.tuple #[.slice none 0 0, .int .i64 (loadS m d (pageS d slot)).2]) ∧ Ext w' w2) :=
          Lib.hid (fun w' he => (rload_any p cap n m h d (pageS d slot) w' (hs.ext he) hn hm).mono fun e w2 ⟨he2, hc⟩ => by
            rcases hc with ⟨_, x⟩ | ⟨x, _⟩
            · exact ⟨x, he2⟩
            · exact absurd x hl)
        have hlI : ((loadS m d (pageS d slot)).2 != 0) = true := by simpa using hl
        obtain ⟨n1, n2, n3⟩ := nS_pos hv
        have N3 := Lib.hid n3
        clear n3
        have hmk := fun w => run_make_slots w (nS d) (by omega)
        clear hno hd hpl hv hr h1 h2 hl hpf
        generalize (loadS m d (pageS d slot)).2 = er at *
        generalize pageS d slot = pg at *
        generalize idxS d slot = ix at *
        go_enter Tryd.func36, Tryd.ntmps36
        go_upto_region 1 with (fail)
        refine wp_name (fun w0 => Ext w w0 ∧ HdAt w0 w.heap.size h ∧ DsAt w0 (w.heap.size + 1) d ∧ Blk w0 (w.heap.size + 1 + 1) (.cells #[.int .i64 0, .int .i64 0, .int .i64 0, .int .i64 0, .int .i64 0, .int .i64 0, .int .i64 0] 24)) (hd_ds_cl w h d _ _) ?_
        rintro w0 ⟨he0, hb1, hb2, hbr⟩
        go_upto_region 2 with (first
          | (refine wpList_ds rfl (.tmp 7) rfl _ rfl d hb2 ?_) | (refine wpList_hd rfl (.tmp 6) rfl _ rfl h hb1 ?_)
          | (go_at_call 67; refine (Hop.out _).mono ?_; rintro e w1 ⟨rfl, he1⟩)
          | (refine wpList_put rfl 122 (.tmp 13) (.tmp 24) rfl _ (rcCells (mV p n cap) h d) rfl rfl _ _ (Blk.new w1 _) rcSize rfl (rc_one p n cap h d) ?_; intro w3 hb3 hc3; have he3 := hc3.ext (Ext.alloc w1 _) (Nat.le_refl _)))
        have hE13 := he1.trans he3
        have hcb := Nat.lt_of_lt_of_le (Blk.lt hbr) he1.size
        have hcz : w1.heap.size < w3.heap.size := Blk.lt hb3
        refine wp_name (fun w5 => Ext w w5 ∧ HdAt w5 w.heap.size h ∧ DsAt w5 (w.heap.size + 1) d ∧ Blk w5 (w.heap.size + 1 + 1) (.cells #[.int .i64 0, .int .i64 0, .int .i64 0, .int .i64 0, .int .i64 0, .int .i64 0, .int .i64 0] 24) ∧ Blk w5 w1.heap.size (.cells (rcCells (mV p n cap) h d) 122)) ⟨he0.trans hE13, hb1.ext hE13, hb2.ext hE13, hE13.blk _ _ hbr, hb3⟩ ?_
        clear hb1 hb2 hbr hb3 he0 he1 he3 hE13 hc3 hcz
        generalize w1.heap.size = cb at *
        rintro w5 ⟨he5, hb1, hb2, hbr, hb3⟩
        have c3 : w5.cell? ⟨w.heap.size + 1, 3, none⟩ = some (.int .i64 d.length) := Blk.val hb2 3 _ rfl
        go_upto_region 7 with (first
          | (refine wpList_row rfl 122 (.tmp 13) rfl _ rfl _ _ _ hb3 rcDesc rfl rcSize ?_)
          | (go_at_call 68; refine (Hpl.out _).mono ?_; rintro e w6 ⟨rfl, he6⟩))
        have hb16 := hb1.ext he6
        have hbr6 := he6.blk _ _ hbr
        have hb36 := he6.blk _ _ hb3
        have HE6 := Lib.hid (he5.trans he6)
        have c2 : w6.cell? ⟨w.heap.size, 2, none⟩ = some (.int .i64 h.fin) := Blk.val hb16 2 _ rfl
        have c29 : w6.cell? ⟨cb, 29, none⟩ = some (.int .i64 ((nS d : Nat) : Int)) := by rw [N3.out]; exact Blk.val hb36 29 _ rfl
        clear hb1 hb2 hbr hb3 he5 he6 c3
        go_upto_region 10 with (fail)
        have hx := Ext.alloc w6 (.cells (slotCells (List.replicate (nS d) (false, []))).toArray 131)
        generalize w6.alloc (.cells (slotCells (List.replicate (nS d) (false, []))).toArray 131) = w7 at *
        have hb17 := hb16.ext hx
        have hbr7 := hx.blk _ _ hbr6
        have hb37 := hx.blk _ _ hb36
        have c2 : w7.cell? ⟨w.heap.size, 2, none⟩ = some (.int .i64 h.fin) := Blk.val hb17 2 _ rfl
        go_wp2_with (first
          | (refine wpList_row rfl 122 (.tmp 13) rfl _ rfl _ _ _ hb37 rcDesc rfl rcSize ?_)
          | (go_at_call 69; refine (HL.out _ (HE6.out.trans hx)).mono ?_; rintro e w8 ⟨rfl, he8⟩; have hbr8 := he8.blk _ _ hbr7)
          | (refine wpList_put rfl 24 (.tmp 10) (.tmp 71) rfl _ #[.int .i64 0, .int .i64 0, .int .i64 0, .int .i64 0, .int .i64 0, .int .i64 0, .int .i64 0] rfl rfl _ _ hbr8 hdSize rfl (hd_one Hd.zero) ?_; intro w9 hb9 hc9))
        exact bodyPost_ret (results_row2 Tryd.results36 _ _ _ _ _ _ rfl hb9 hdDesc rfl hdSize) rfl (relOut_no (hc9.ext ((HE6.out.trans hx).trans he8) (by omega)) HG.out)
  · have Hop := Lib.hid (fun w => ropen_err p n cap h d hd w)
    have HG : Hid (putR m h d slot r = .no (doorOf h d 2)) := Lib.hid (by unfold putR; rw [if_pos hd])
    have hdI : (doorOf h d 2 != 0) = true := by simpa using hd
    clear hd hno
    generalize doorOf h d 2 = er at *
    go_enter Tryd.func36, Tryd.ntmps36
    go_upto_region 1 with (fail)
    refine wp_name (fun w0 => Ext w w0 ∧ HdAt w0 w.heap.size h ∧ DsAt w0 (w.heap.size + 1) d ∧ Blk w0 (w.heap.size + 1 + 1) (.cells #[.int .i64 0, .int .i64 0, .int .i64 0, .int .i64 0, .int .i64 0, .int .i64 0, .int .i64 0] 24)) (hd_ds_cl w h d _ _) ?_
    rintro w0 ⟨he0, hb1, hb2, hbr⟩
    go_upto_region 2 with (first
      | (refine wpList_ds rfl (.tmp 7) rfl _ rfl d hb2 ?_) | (refine wpList_hd rfl (.tmp 6) rfl _ rfl h hb1 ?_)
      | (go_at_call 67; refine (Hop.out _).mono ?_; rintro e w1 ⟨rfl, he1⟩)
      | (refine wpList_put rfl 122 (.tmp 13) (.tmp 24) rfl _ (rcZero) rfl rfl _ _ (Blk.new w1 _) rcSize rfl (rcZero_one) ?_; intro w3 hb3 hc3; have he3 := hc3.ext (Ext.alloc w1 _) (Nat.le_refl _)))
    have hE13 := he1.trans he3
    have hcb := Nat.lt_of_lt_of_le (Blk.lt hbr) he1.size
    have hcz : w1.heap.size < w3.heap.size := Blk.lt hb3
    refine wp_name (fun w5 => Ext w w5 ∧ HdAt w5 w.heap.size h ∧ DsAt w5 (w.heap.size + 1) d ∧ Blk w5 (w.heap.size + 1 + 1) (.cells #[.int .i64 0, .int .i64 0, .int .i64 0, .int .i64 0, .int .i64 0, .int .i64 0, .int .i64 0] 24) ∧ Blk w5 w1.heap.size (.cells (rcZero) 122)) ⟨he0.trans hE13, hb1.ext hE13, hb2.ext hE13, hE13.blk _ _ hbr, hb3⟩ ?_
    clear hb1 hb2 hbr hb3 he0 he1 he3 hE13 hc3 hcz
    generalize w1.heap.size = cb at *
    rintro w5 ⟨he5, hb1, hb2, hbr, hb3⟩
    go_wp2_with (first
      | (refine wpList_put rfl 24 (.tmp 10) (.tmp 28) rfl _ #[.int .i64 0, .int .i64 0, .int .i64 0, .int .i64 0, .int .i64 0, .int .i64 0, .int .i64 0] rfl rfl _ _ hbr hdSize rfl (hd_one Hd.zero) ?_; intro w6 hb6 hc6))
    exact bodyPost_ret (results_row2 Tryd.results36 _ _ _ _ _ _ rfl hb6 hdDesc rfl hdSize) rfl (relOut_no (hc6.ext he5 (by omega)) HG.out)
end Go.Proofs.YtjgdhlpnpihkdaaDoor
/- Rows of page writes; what Put answers where it writes. -/
namespace Go.Proofs.YtjgdhlpnpihkdaaDoor
open Go.RowKit Dsd

def wrCells (L : List (Int × List UInt8)) : List Value := L.flatMap fun x => [.int .i64 x.1, .string ⟨x.2.toArray⟩]
theorem infoWrite : (Tryd.prog.info? 72).map (fun i => (i.zero, i.size, i.bytes)) = some (some (.agg #[.int .i64 0, .string ByteArray.empty]), 2, 24) := by kernel_rfl
theorem wrCells_at (L : List (Int × List UInt8)) (i : Nat) (h : i < L.length) : (wrCells L)[i * 2]? = some (.int .i64 (L.getD i (0, [])).1) ∧ (wrCells L)[i * 2 + 1]? = some (.string ⟨(L.getD i (0, [])).2.toArray⟩) := by
  induction L generalizing i with
  | nil => simp at h
  | cons x L ih =>
    have e : wrCells (x :: L) = .int .i64 x.1 :: .string ⟨x.2.toArray⟩ :: wrCells L := by simp [wrCells]
    rw [e]
    cases i with
    | zero => simp
    | succ i =>
      have := ih i (by simpa using h)
      rw [show (i + 1) * 2 = i * 2 + 2 by omega, show i * 2 + 2 + 1 = (i * 2 + 1) + 2 by omega]
      simpa using this
theorem wrCells_len (L : List (Int × List UInt8)) : (wrCells L).length = 2 * L.length := by
  induction L with
  | nil => rfl
  | cons x L ih => simp [wrCells] at ih ⊢; omega
theorem wrCells_snoc (L : List (Int × List UInt8)) (x : Int × List UInt8) : wrCells (L ++ [x]) = wrCells L ++ [.int .i64 x.1, .string ⟨x.2.toArray⟩] := by simp [wrCells]
theorem own_wrts {w : World} {base : Nat} {v : Value} {L : List (Int × List UInt8)} {n : Nat} (h : w.ownsRow base 72 2 v n (wrCells L)) : ∃ q c, v = .slice q n c ∧ Wrts w q L ∧ L.length = n := by
  obtain ⟨hl, ⟨rfl, rfl⟩ | ⟨g, cap, cur, rfl, _, hg, h1, h2, h3, h4⟩⟩ := h
  · rw [wrCells_len] at hl
    exact ⟨none, 0, rfl, .inl (List.eq_nil_of_length_eq_zero (by omega)), by omega⟩
  · rw [wrCells_len] at hl
    have hb : Blk w g (.cells cur 72) := hg
    refine ⟨_, _, rfl, .inr ⟨g, 0, rfl, ⟨Blk.lt hb, cur, hb⟩, fun i hi => ?_⟩, by omega⟩
    obtain ⟨c1, c2⟩ := wrCells_at L i hi
    have k : ∀ j, (wrCells L)[j]? = if j < n * 2 then cur[j]? else none := fun j => by rw [← h4, List.getElem?_take]; simp
    rw [k, if_pos (by omega)] at c1 c2
    rw [Nat.zero_add]
    exact ⟨Blk.val hb _ _ c1, Blk.val hb _ _ c2⟩
theorem cutW_blk {w : World} {B b : Nat} {o : Obj} (h : Blk w b o) (hb : b < B) : Blk (cutW w B) b o := by
  unfold Blk cutW at *
  simp only
  rw [Array.getElem?_extract]
  have := Blk.lt (w := w) h
  simp
  exact ⟨by omega, h⟩

theorem cutW_of {w w9 : World} {B : Nat} (h : Ext w w9) (hB : w.heap.size ≤ B) (h9 : B ≤ w9.heap.size) : Ext w (cutW w9 B) := by
  refine ⟨h.os, h.tape, h.output, by rw [cutW_size h9]; exact hB, fun k hk => ?_⟩
  rw [← h.block k hk]
  simp only [cutW]
  rw [Array.getElem?_extract]
  simp; omega
/-- A row of older blocks stands where newer ones turn. -/
theorem own_below {w w' : World} {base B : Nat} {e : TypeId} {size g n c : Nat} {k : Nat} {xs : List Value} (h : w.ownsRow base e size (.slice (some ⟨g, 0, none⟩) n c) k xs) (hk : Below B w w') (hg : g < B) : w'.ownsRow base e size (.slice (some ⟨g, 0, none⟩) n c) k xs := by
  refine ⟨h.1, ?_⟩
  rcases h.2 with ⟨hn, _⟩ | ⟨b, cap, cur, hv, hb, hh, rest⟩
  · simp at hn
  · simp at hv
    obtain ⟨hv1, hv2, hv3⟩ := hv
    subst hv1 hv2 hv3
    exact .inr ⟨g, _, cur, rfl, hb, (hk.block g hg).trans hh, rest⟩
/-- The slots that Put works on. -/
noncomputable def putL (m : List (List UInt8)) (h : Hd) (d : DS) (slot : Int) : List Slt := if pageS d slot ≤ h.fin then (loadS m d (pageS d slot)).1 else List.replicate (nS d) (false, [])
theorem putL_len {m : List (List UInt8)} {h : Hd} {d : DS} {slot : Int} (hv : validB d = true) (h1 : 1 ≤ slot) (h2 : slot ≤ 65536) (hl : pageS d slot ≤ h.fin → (loadS m d (pageS d slot)).2 = 0) :
    (putL m h d slot).length = nS d ∧ idxS d slot < (putL m h d slot).length ∧ (putL m h d slot).length ≤ 127 := by
  obtain ⟨n1, n2, n3⟩ := nS_pos hv
  obtain ⟨_, _, a3, a4, a5, a6⟩ := place_go hv h1 h2
  have : (putL m h d slot).length = nS d := by
    unfold putL
    split
    · rename_i hp; rw [loadS_len (hl hp)]; rfl
    · simp
  omega
theorem putR_yes {m : List (List UInt8)} {h : Hd} {d : DS} {slot : Int} {r : List UInt8} (hd : doorOf h d 2 = 0) (h1 : 1 ≤ slot) (h2 : slot ≤ 65536) (h3 : (r.length : Int) = d.length) (hpf : pageS d slot ≤ h.fin + 8)
    (hl : pageS d slot ≤ h.fin → (loadS m d (pageS d slot)).2 = 0) :
    putR m h d slot r = ⟨{ h with count := if (slotAt (putL m h d slot) (idxS d slot)).1 then h.count else h.count + 1, fin := if pageS d slot ≤ h.fin then h.fin else pageS d slot },
      freshS d h.fin (pageS d slot - 1 - h.fin).toNat ++ [wrS d (pageS d slot) ((putL m h d slot).set (idxS d slot) (true, r))], 0⟩ := by
  have hv := (door_zero hd).1
  obtain ⟨b1, b2, b3⟩ := putL_len hv h1 h2 hl
  unfold putR
  rw [if_neg (by simp [hd]), if_neg (by omega), if_neg (by omega)]
  by_cases hp : pageS d slot ≤ h.fin
  · have e : putL m h d slot = (loadS m d (pageS d slot)).1 := by unfold putL; rw [if_pos hp]
    rw [e] at b1 b2 b3 ⊢
    rw [if_pos hp, if_neg (by simp [hl hp]), if_pos hp, show (pageS d slot - 1 - h.fin).toNat = 0 by omega]
    have e2 : setS (loadS m d (pageS d slot)).1 (idxS d slot) (true, r) = (loadS m d (pageS d slot)).1.set (idxS d slot) (true, r) := by unfold setS; rw [show idxS d slot + 1 - (loadS m d (pageS d slot)).1.length = 0 by omega]; simp
    rw [e2]
    rfl
  · have e : putL m h d slot = List.replicate (nS d) (false, []) := by unfold putL; rw [if_neg hp]
    rw [e] at b1 b2 b3 ⊢
    rw [if_neg hp, if_neg hp]
    have e1 : (slotAt (List.replicate (nS d) ((false, []) : Slt)) (idxS d slot)).1 = false := by
      unfold slotAt
      simp at b2
      simp [List.getD, b2]
    have e2 : wrS d (pageS d slot) ((List.replicate (nS d) (false, [])).set (idxS d slot) (true, r)) = wrS d (pageS d slot) (setS [] (idxS d slot) (true, r)) := by
      unfold wrS esStr
      rw [show nS d = (slotsN d.interval d.length).toNat from rfl, setS_fresh]
      simp at b2; exact b2
    rw [e1, e2]
    rfl
end Go.Proofs.YtjgdhlpnpihkdaaDoor
