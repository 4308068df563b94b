/- The walk of the reference's Put (chapter 19): where it changes nothing, and where the page is there. -/
import Derived.Test.YtchgjopckmjmmaaDoorR12
set_option linter.unusedSimpArgs false
set_option linter.unusedVariables false
namespace Go.Proofs.YtchgjopckmjmmaaDoor
open Go.RowKit Dsd

theorem slotSize : (Tryd.prog.info? 103).map (·.size) = some 2 := by kernel_rfl
theorem own_rw {B : Nat} {w w' : World} {base : Nat} {e : TypeId} {size : Nat} {v : Value} {n : Nat} {xs : List Value} (h : w.ownsRow base e size v n xs) (hne : e ≠ 37) (c : RW B w w') : w'.ownsRow base e size v n xs := by
  refine ⟨h.1, ?_⟩
  rcases h.2 with hn | ⟨b, cap, cur, rfl, hb, hg, rest⟩
  · exact .inl hn
  · exact .inr ⟨b, cap, cur, rfl, hb, c.2 b cur e hne hg, rest⟩

set_option maxRecDepth 100000 in
set_option maxHeartbeats 2000000 in
theorem put_no19 (p : Option Addr) (cap n : Nat) (m : List (List UInt8)) (h : Hd) (d : DS) (slot : Int) (r : List UInt8) (w : World) (hs : Strs w p m) (hn : m.length = n) (hm : Small m) (hrl : r.length ≤ 1000000)
    (hno : doorOf h d 2 ≠ 0 ∨ slot < 1 ∨ 65536 < slot ∨ (r.length : Int) ≠ d.length ∨ h.fin + 8 < pageS d slot ∨ (pageS d slot ≤ h.fin ∧ (loadS m d (pageS d slot)).2 ≠ 0)) :
    Calls Tryd.prog 18 #[.slice p n cap, .agg #[.int .i64 h.applied, .int .i64 h.count, .int .i64 h.fin, .int .i64 h.root, .int .i64 h.height, .int .i64 h.splits, .int .i64 h.areas], .agg #[.int .i64 d.id, .int .i64 d.org, .int .i64 d.format, .int .i64 d.length, .int .i64 d.block, .int .i64 d.keyAt, .int .i64 d.keyLength, .int .i64 d.interval, .int .i64 d.area, .int .i64 d.freeInterval, .int .i64 d.freeArea, .int .i64 d.base, .int .i64 d.altAt, .int .i64 d.altLength, .bool d.unique, .int .i64 d.cls, .string ⟨d.volume.toArray⟩, .string ⟨d.owner.toArray⟩, .int .i64 d.created, .int .i64 d.expires, .bool d.archived], .int .i64 slot, .string ⟨r.toArray⟩] w (RelOut (putR m h d slot r) w) := by
  have Hdo := Lib.hid (fun w => Door_any h d 2 w)
  by_cases hd : doorOf h d 2 = 0
  · have hv := (door_zero hd).1
    have hpl := (door_zero hd).2.1
    obtain ⟨p1, p2, p3, p4⟩ := plain_spec hpl
    by_cases hr : slot < 1 ∨ 65536 < slot ∨ (r.length : Int) ≠ d.length
    · have HG : Hid (putR m h d slot r = .no 2) := Lib.hid (by unfold putR; rw [if_neg (by simp [hd]), if_pos hr])
      rw [hd] at Hdo
      clear hno hd hpl hv
      by_cases h1 : slot < 1
      · have h1I : decide (slot < 1) = true := decide_eq_true h1
        clear hr
        go_enter Tryd.func18, Tryd.ntmps18
        go_upto_region 1 with (fail)
        refine wp_name (fun w0 => Ext w w0 ∧ HdAt w0 w.heap.size h ∧ DsAt w0 (w.heap.size + 1) d ∧ Blk w0 (w.heap.size + 1 + 1) (.cells #[.int .i64 0, .int .i64 0, .int .i64 0, .int .i64 0, .int .i64 0, .int .i64 0, .int .i64 0] 28)) (hd_ds_cl w h d _ _) ?_
        rintro w0 ⟨he0, hb1, hb2, hbr⟩
        go_upto_region 2 with (first
          | (refine wpList_ds rfl (.tmp 7) rfl _ rfl d hb2 ?_) | (refine wpList_hd rfl (.tmp 6) rfl _ rfl h hb1 ?_)
          | (go_at_call 53; refine (Hdo.out _).mono ?_; rintro e w1 ⟨rfl, he1⟩))
        refine wp_name (fun w5 => Ext w w5 ∧ HdAt w5 w.heap.size h ∧ DsAt w5 (w.heap.size + 1) d ∧ Blk w5 (w.heap.size + 1 + 1) (.cells #[.int .i64 0, .int .i64 0, .int .i64 0, .int .i64 0, .int .i64 0, .int .i64 0, .int .i64 0] 28)) ⟨he0.trans he1, hb1.ext he1, hb2.ext he1, he1.blk _ _ hbr⟩ ?_
        clear hb1 hb2 hbr he0 he1
        rintro w5 ⟨he5, hb1, hb2, hbr⟩
        go_wp2_with (first
          | (refine wpList_put rfl 28 (.tmp 10) (.tmp 41) rfl _ #[.int .i64 0, .int .i64 0, .int .i64 0, .int .i64 0, .int .i64 0, .int .i64 0, .int .i64 0] rfl rfl _ _ hbr hdSize rfl (hd_one Hd.zero) ?_; intro w6 hb6 hc6))
        exact bodyPost_ret (results_row2 Tryd.results18 _ _ _ _ _ _ rfl hb6 hdDesc rfl hdSize) rfl (relOut_no (hc6.ext he5 (by omega)) HG.out)
      · have h1I : decide (slot < 1) = false := decide_eq_false h1
        by_cases h2 : 65536 < slot
        · have h2I : decide (65536 < slot) = true := decide_eq_true h2
          clear hr h1
          go_enter Tryd.func18, Tryd.ntmps18
          go_upto_region 1 with (fail)
          refine wp_name (fun w0 => Ext w w0 ∧ HdAt w0 w.heap.size h ∧ DsAt w0 (w.heap.size + 1) d ∧ Blk w0 (w.heap.size + 1 + 1) (.cells #[.int .i64 0, .int .i64 0, .int .i64 0, .int .i64 0, .int .i64 0, .int .i64 0, .int .i64 0] 28)) (hd_ds_cl w h d _ _) ?_
          rintro w0 ⟨he0, hb1, hb2, hbr⟩
          go_upto_region 2 with (first
            | (refine wpList_ds rfl (.tmp 7) rfl _ rfl d hb2 ?_) | (refine wpList_hd rfl (.tmp 6) rfl _ rfl h hb1 ?_)
            | (go_at_call 53; refine (Hdo.out _).mono ?_; rintro e w1 ⟨rfl, he1⟩))
          refine wp_name (fun w5 => Ext w w5 ∧ HdAt w5 w.heap.size h ∧ DsAt w5 (w.heap.size + 1) d ∧ Blk w5 (w.heap.size + 1 + 1) (.cells #[.int .i64 0, .int .i64 0, .int .i64 0, .int .i64 0, .int .i64 0, .int .i64 0, .int .i64 0] 28)) ⟨he0.trans he1, hb1.ext he1, hb2.ext he1, he1.blk _ _ hbr⟩ ?_
          clear hb1 hb2 hbr he0 he1
          rintro w5 ⟨he5, hb1, hb2, hbr⟩
          go_wp2_with (first
            | (refine wpList_put rfl 28 (.tmp 10) (.tmp 41) rfl _ #[.int .i64 0, .int .i64 0, .int .i64 0, .int .i64 0, .int .i64 0, .int .i64 0, .int .i64 0] rfl rfl _ _ hbr hdSize rfl (hd_one Hd.zero) ?_; intro w6 hb6 hc6))
          exact bodyPost_ret (results_row2 Tryd.results18 _ _ _ _ _ _ rfl hb6 hdDesc rfl hdSize) rfl (relOut_no (hc6.ext he5 (by omega)) HG.out)
        · have h2I : decide (65536 < slot) = false := decide_eq_false h2
          have h3I : ((r.length : Int) != d.length) = true := by simp; omega
          clear hr h1 h2
          go_enter Tryd.func18, Tryd.ntmps18
          go_upto_region 1 with (fail)
          refine wp_name (fun w0 => Ext w w0 ∧ HdAt w0 w.heap.size h ∧ DsAt w0 (w.heap.size + 1) d ∧ Blk w0 (w.heap.size + 1 + 1) (.cells #[.int .i64 0, .int .i64 0, .int .i64 0, .int .i64 0, .int .i64 0, .int .i64 0, .int .i64 0] 28)) (hd_ds_cl w h d _ _) ?_
          rintro w0 ⟨he0, hb1, hb2, hbr⟩
          go_upto_region 2 with (first
            | (refine wpList_ds rfl (.tmp 7) rfl _ rfl d hb2 ?_) | (refine wpList_hd rfl (.tmp 6) rfl _ rfl h hb1 ?_)
            | (go_at_call 53; refine (Hdo.out _).mono ?_; rintro e w1 ⟨rfl, he1⟩))
          refine wp_name (fun w5 => Ext w w5 ∧ HdAt w5 w.heap.size h ∧ DsAt w5 (w.heap.size + 1) d ∧ Blk w5 (w.heap.size + 1 + 1) (.cells #[.int .i64 0, .int .i64 0, .int .i64 0, .int .i64 0, .int .i64 0, .int .i64 0, .int .i64 0] 28)) ⟨he0.trans he1, hb1.ext he1, hb2.ext he1, he1.blk _ _ hbr⟩ ?_
          clear hb1 hb2 hbr he0 he1
          rintro w5 ⟨he5, hb1, hb2, hbr⟩
          have c3 : w5.cell? ⟨w.heap.size + 1, 3, none⟩ = some (.int .i64 d.length) := Blk.val hb2 3 _ rfl
          go_wp2_with (first
            | (refine wpList_put rfl 28 (.tmp 10) (.tmp 41) rfl _ #[.int .i64 0, .int .i64 0, .int .i64 0, .int .i64 0, .int .i64 0, .int .i64 0, .int .i64 0] rfl rfl _ _ hbr hdSize rfl (hd_one Hd.zero) ?_; intro w6 hb6 hc6))
          exact bodyPost_ret (results_row2 Tryd.results18 _ _ _ _ _ _ rfl hb6 hdDesc rfl hdSize) rfl (relOut_no (hc6.ext he5 (by omega)) HG.out)
    · have h1 : 1 ≤ slot := by omega
      have h2 : slot ≤ 65536 := by omega
      have h1I : decide (slot < 1) = false := decide_eq_false (by omega)
      have h2I : decide (65536 < slot) = false := decide_eq_false (by omega)
      have h3I : ((r.length : Int) != d.length) = false := by simp; omega
      obtain ⟨_, _, a3, a4, a5, a6⟩ := place_go hv h1 h2
      have Hpl := Lib.hid (fun w => place_ref d hv slot h1 h2 w)
      have i8 : IntKind.i64.wrap (h.fin + 8) = h.fin + 8 := IntWalk.i64_in _ (by omega)
      by_cases hpf : h.fin + 8 < pageS d slot
      · have hpI : decide (h.fin + 8 < pageS d slot) = true := decide_eq_true hpf
        have HG : Hid (putR m h d slot r = .no 8) := Lib.hid (by unfold putR; rw [if_neg (by simp [hd]), if_neg hr, if_pos hpf])
        rw [hd] at Hdo
        clear hno hd hpl hv hr h1 h2
        generalize pageS d slot = pg at *
        generalize idxS d slot = ix at *
        go_enter Tryd.func18, Tryd.ntmps18
        go_upto_region 1 with (fail)
        refine wp_name (fun w0 => Ext w w0 ∧ HdAt w0 w.heap.size h ∧ DsAt w0 (w.heap.size + 1) d ∧ Blk w0 (w.heap.size + 1 + 1) (.cells #[.int .i64 0, .int .i64 0, .int .i64 0, .int .i64 0, .int .i64 0, .int .i64 0, .int .i64 0] 28)) (hd_ds_cl w h d _ _) ?_
        rintro w0 ⟨he0, hb1, hb2, hbr⟩
        go_upto_region 2 with (first
          | (refine wpList_ds rfl (.tmp 7) rfl _ rfl d hb2 ?_) | (refine wpList_hd rfl (.tmp 6) rfl _ rfl h hb1 ?_)
          | (go_at_call 53; refine (Hdo.out _).mono ?_; rintro e w1 ⟨rfl, he1⟩))
        refine wp_name (fun w5 => Ext w w5 ∧ HdAt w5 w.heap.size h ∧ DsAt w5 (w.heap.size + 1) d ∧ Blk w5 (w.heap.size + 1 + 1) (.cells #[.int .i64 0, .int .i64 0, .int .i64 0, .int .i64 0, .int .i64 0, .int .i64 0, .int .i64 0] 28)) ⟨he0.trans he1, hb1.ext he1, hb2.ext he1, he1.blk _ _ hbr⟩ ?_
        clear hb1 hb2 hbr he0 he1
        rintro w5 ⟨he5, hb1, hb2, hbr⟩
        have c3 : w5.cell? ⟨w.heap.size + 1, 3, none⟩ = some (.int .i64 d.length) := Blk.val hb2 3 _ rfl
        go_wp2_with (first
          | (refine wpList_ds rfl (.tmp 7) rfl _ rfl d hb2 ?_)
          | (go_at_call 54; refine (Hpl.out _).mono ?_; rintro e w6 ⟨rfl, he6⟩; have c2 := Blk.val (hb1.ext he6) 2 _ rfl; have hbr6 := he6.blk _ _ hbr)
          | (refine wpList_put rfl 28 (.tmp 10) (.tmp 53) rfl _ #[.int .i64 0, .int .i64 0, .int .i64 0, .int .i64 0, .int .i64 0, .int .i64 0, .int .i64 0] rfl rfl _ _ hbr6 hdSize rfl (hd_one Hd.zero) ?_; intro w7 hb7 hc7))
        exact bodyPost_ret (results_row2 Tryd.results18 _ _ _ _ _ _ rfl hb7 hdDesc rfl hdSize) rfl (relOut_no (hc7.ext (he5.trans he6) (by omega)) HG.out)
      · have hpI : decide (h.fin + 8 < pageS d slot) = false := decide_eq_false hpf
        have hl2 : pageS d slot ≤ h.fin ∧ (loadS m d (pageS d slot)).2 ≠ 0 := by
          rcases hno with x | x | x | x | x | x
          · exact absurd hd x
          · omega
          · omega
          · exact absurd (.inr (.inr x)) hr
          · exact absurd x hpf
          · exact x
        obtain ⟨hle, hl⟩ := hl2
        have hleI : decide (pageS d slot ≤ h.fin) = true := decide_eq_true hle
        have HG : Hid (putR m h d slot r = .no (loadS m d (pageS d slot)).2) := Lib.hid (by unfold putR; rw [if_neg (by simp [hd]), if_neg hr, if_neg hpf, if_pos hle, if_pos hl])
        have HL : Hid (∀ w', Ext w w' → Calls Tryd.prog 55 #[.slice p n cap, .agg #[.int .i64 d.id, .int .i64 d.org, .int .i64 d.format, .int .i64 d.length, .int .i64 d.block, .int .i64 d.keyAt, .int .i64 d.keyLength, .int .i64 d.interval, .int .i64 d.area, .int .i64 d.freeInterval, .int .i64 d.freeArea, .int .i64 d.base, .int .i64 d.altAt, .int .i64 d.altLength, .bool d.unique, .int .i64 d.cls, .string ⟨d.volume.toArray⟩, .string ⟨d.owner.toArray⟩, .int .i64 d.created, .int .i64 d.expires, .bool d.archived], .int .i64 (pageS d slot)] w' fun e w2 => e = .returned (.tuple #[.slice none 0 0, .int .i64 (loadS m d (pageS d slot)).2]) ∧ Ext w' w2) :=
          Lib.hid (fun w' he => (rload_ref p cap n m d (pageS d slot) w' (hs.ext he) hn hm).mono fun e w2 ⟨he2, hc⟩ => by
            rcases hc with ⟨_, x⟩ | ⟨x, _⟩
            · exact ⟨x, he2⟩
            · exact absurd x hl)
        have hlI : ((loadS m d (pageS d slot)).2 != 0) = true := by simpa using hl
        rw [hd] at Hdo
        clear hno hd hpl hv hr h1 h2 hl hpf
        generalize (loadS m d (pageS d slot)).2 = er at *
        generalize pageS d slot = pg at *
        generalize idxS d slot = ix at *
        go_enter Tryd.func18, Tryd.ntmps18
        go_upto_region 1 with (fail)
        refine wp_name (fun w0 => Ext w w0 ∧ HdAt w0 w.heap.size h ∧ DsAt w0 (w.heap.size + 1) d ∧ Blk w0 (w.heap.size + 1 + 1) (.cells #[.int .i64 0, .int .i64 0, .int .i64 0, .int .i64 0, .int .i64 0, .int .i64 0, .int .i64 0] 28)) (hd_ds_cl w h d _ _) ?_
        rintro w0 ⟨he0, hb1, hb2, hbr⟩
        go_upto_region 2 with (first
          | (refine wpList_ds rfl (.tmp 7) rfl _ rfl d hb2 ?_) | (refine wpList_hd rfl (.tmp 6) rfl _ rfl h hb1 ?_)
          | (go_at_call 53; refine (Hdo.out _).mono ?_; rintro e w1 ⟨rfl, he1⟩))
        refine wp_name (fun w5 => Ext w w5 ∧ HdAt w5 w.heap.size h ∧ DsAt w5 (w.heap.size + 1) d ∧ Blk w5 (w.heap.size + 1 + 1) (.cells #[.int .i64 0, .int .i64 0, .int .i64 0, .int .i64 0, .int .i64 0, .int .i64 0, .int .i64 0] 28)) ⟨he0.trans he1, hb1.ext he1, hb2.ext he1, he1.blk _ _ hbr⟩ ?_
        clear hb1 hb2 hbr he0 he1
        rintro w5 ⟨he5, hb1, hb2, hbr⟩
        have c3 : w5.cell? ⟨w.heap.size + 1, 3, none⟩ = some (.int .i64 d.length) := Blk.val hb2 3 _ rfl
        go_upto_region 9 with (first
          | (refine wpList_ds rfl (.tmp 7) rfl _ rfl d hb2 ?_)
          | (go_at_call 54; refine (Hpl.out _).mono ?_; rintro e w6 ⟨rfl, he6⟩; have c2 := Blk.val (hb1.ext he6) 2 _ rfl))
        refine wp_name (fun w6 => Ext w w6 ∧ HdAt w6 w.heap.size h ∧ DsAt w6 (w.heap.size + 1) d ∧ Blk w6 (w.heap.size + 1 + 1) (.cells #[.int .i64 0, .int .i64 0, .int .i64 0, .int .i64 0, .int .i64 0, .int .i64 0, .int .i64 0] 28)) ⟨he5.trans he6, hb1.ext he6, hb2.ext he6, he6.blk _ _ hbr⟩ ?_
        clear hb1 hb2 hbr he5 he6 c2 c3
        rintro w6 ⟨he6, hb1, hb2, hbr⟩
        go_upto_region 10 with (first
          | (refine wpList_put rfl 103 (.tmp 16) (.tmp 55) rfl _ #[.bool true, .string ⟨r.toArray⟩] rfl rfl _ _ (Blk.new w6 _) slotSize rfl (by simp [Value.oneCell']) ?_; intro w7 hbx hcx))
        have heA := hcx.ext (Ext.alloc w6 _) (Nat.le_refl _)
        have hxb := Blk.lt hbr
        refine wp_name (fun w7 => Ext w w7 ∧ HdAt w7 w.heap.size h ∧ DsAt w7 (w.heap.size + 1) d ∧ Blk w7 (w.heap.size + 1 + 1) (.cells #[.int .i64 0, .int .i64 0, .int .i64 0, .int .i64 0, .int .i64 0, .int .i64 0, .int .i64 0] 28) ∧ Blk w7 w6.heap.size (.cells #[.bool true, .string ⟨r.toArray⟩] 103)) ⟨he6.trans heA, hb1.ext heA, hb2.ext heA, heA.blk _ _ hbr, hbx⟩ ?_
        clear hb1 hb2 hbr he6 heA hbx hcx
        generalize w6.heap.size = xb at *
        rintro w7 ⟨he7, hb1, hb2, hbr, hbx⟩
        have c2 : w7.cell? ⟨w.heap.size, 2, none⟩ = some (.int .i64 h.fin) := Blk.val hb1 2 _ rfl
        go_wp2_with (first
          | (refine wpList_ds rfl (.tmp 7) rfl _ rfl d hb2 ?_)
          | (go_at_call 55; refine (HL.out _ he7).mono ?_; rintro e w8 ⟨rfl, he8⟩; have hbr8 := he8.blk _ _ hbr)
          | (refine wpList_put rfl 28 (.tmp 10) (.tmp 69) rfl _ #[.int .i64 0, .int .i64 0, .int .i64 0, .int .i64 0, .int .i64 0, .int .i64 0, .int .i64 0] rfl rfl _ _ hbr8 hdSize rfl (hd_one Hd.zero) ?_; intro w9 hb9 hc9))
        exact bodyPost_ret (results_row2 Tryd.results18 _ _ _ _ _ _ rfl hb9 hdDesc rfl hdSize) rfl (relOut_no (hc9.ext (he7.trans he8) (by omega)) HG.out)
  · have HG : Hid (putR m h d slot r = .no (doorOf h d 2)) := Lib.hid (by unfold putR; rw [if_pos hd])
    have hdI : (doorOf h d 2 != 0) = true := by simpa using hd
    clear hd hno
    generalize doorOf h d 2 = er at *
    go_enter Tryd.func18, Tryd.ntmps18
    go_upto_region 1 with (fail)
    refine wp_name (fun w0 => Ext w w0 ∧ HdAt w0 w.heap.size h ∧ DsAt w0 (w.heap.size + 1) d ∧ Blk w0 (w.heap.size + 1 + 1) (.cells #[.int .i64 0, .int .i64 0, .int .i64 0, .int .i64 0, .int .i64 0, .int .i64 0, .int .i64 0] 28)) (hd_ds_cl w h d _ _) ?_
    rintro w0 ⟨he0, hb1, hb2, hbr⟩
    go_upto_region 2 with (first
      | (refine wpList_ds rfl (.tmp 7) rfl _ rfl d hb2 ?_) | (refine wpList_hd rfl (.tmp 6) rfl _ rfl h hb1 ?_)
      | (go_at_call 53; refine (Hdo.out _).mono ?_; rintro e w1 ⟨rfl, he1⟩))
    refine wp_name (fun w5 => Ext w w5 ∧ HdAt w5 w.heap.size h ∧ DsAt w5 (w.heap.size + 1) d ∧ Blk w5 (w.heap.size + 1 + 1) (.cells #[.int .i64 0, .int .i64 0, .int .i64 0, .int .i64 0, .int .i64 0, .int .i64 0, .int .i64 0] 28)) ⟨he0.trans he1, hb1.ext he1, hb2.ext he1, he1.blk _ _ hbr⟩ ?_
    clear hb1 hb2 hbr he0 he1
    rintro w5 ⟨he5, hb1, hb2, hbr⟩
    go_wp2_with (first
      | (refine wpList_put rfl 28 (.tmp 10) (.tmp 26) rfl _ #[.int .i64 0, .int .i64 0, .int .i64 0, .int .i64 0, .int .i64 0, .int .i64 0, .int .i64 0] rfl rfl _ _ hbr hdSize rfl (hd_one Hd.zero) ?_; intro w6 hb6 hc6))
    exact bodyPost_ret (results_row2 Tryd.results18 _ _ _ _ _ _ rfl hb6 hdDesc rfl hdSize) rfl (relOut_no (hc6.ext he5 (by omega)) HG.out)

set_option maxRecDepth 100000 in
set_option maxHeartbeats 4000000 in
theorem put_old19 (p : Option Addr) (cap n : Nat) (m : List (List UInt8)) (h : Hd) (d : DS) (slot : Int) (r : List UInt8) (w : World) (hs : Strs w p m) (hn : m.length = n) (hm : Small m)
    (hd : doorOf h d 2 = 0) (h1 : 1 ≤ slot) (h2 : slot ≤ 65536) (h3 : (r.length : Int) = d.length) (hle : pageS d slot ≤ h.fin) (hl : (loadS m d (pageS d slot)).2 = 0) :
    Calls Tryd.prog 18 #[.slice p n cap, .agg #[.int .i64 h.applied, .int .i64 h.count, .int .i64 h.fin, .int .i64 h.root, .int .i64 h.height, .int .i64 h.splits, .int .i64 h.areas], .agg #[.int .i64 d.id, .int .i64 d.org, .int .i64 d.format, .int .i64 d.length, .int .i64 d.block, .int .i64 d.keyAt, .int .i64 d.keyLength, .int .i64 d.interval, .int .i64 d.area, .int .i64 d.freeInterval, .int .i64 d.freeArea, .int .i64 d.base, .int .i64 d.altAt, .int .i64 d.altLength, .bool d.unique, .int .i64 d.cls, .string ⟨d.volume.toArray⟩, .string ⟨d.owner.toArray⟩, .int .i64 d.created, .int .i64 d.expires, .bool d.archived], .int .i64 slot, .string ⟨r.toArray⟩] w (RelOut (putR m h d slot r) w) := by
  have Hdo := Lib.hid (fun w => Door_any h d 2 w)
  have hv := (door_zero hd).1
  have hpl := (door_zero hd).2.1
  obtain ⟨p1, p2, p3, p4⟩ := plain_spec hpl
  have HG : Hid (putR m h d slot r = ⟨{ h with count := if (slotAt (loadS m d (pageS d slot)).1 (idxS d slot)).1 then h.count else h.count + 1 }, [wrS d (pageS d slot) (setS (loadS m d (pageS d slot)).1 (idxS d slot) (true, r))], 0⟩) := Lib.hid (by
    unfold putR; rw [if_neg (by simp [hd]), if_neg (by omega), if_neg (by omega), if_pos hle, if_neg (by simp [hl])])
  rw [hd] at Hdo
  have h1I : decide (slot < 1) = false := decide_eq_false (by omega)
  have h2I : decide (65536 < slot) = false := decide_eq_false (by omega)
  have h3I : ((r.length : Int) != d.length) = false := by simp; omega
  obtain ⟨_, _, a3, a4, a5, a6⟩ := place_go hv h1 h2
  have Hpl := Lib.hid (fun w => place_ref d hv slot h1 h2 w)
  have i8 : IntKind.i64.wrap (h.fin + 8) = h.fin + 8 := IntWalk.i64_in _ (by omega)
  have hpI : decide (h.fin + 8 < pageS d slot) = false := decide_eq_false (by omega)
  have hleI : decide (pageS d slot ≤ h.fin) = true := decide_eq_true hle
  obtain ⟨b1, b2⟩ := rload_len hv hl a6
  have HL : Hid (∀ w', Ext w w' → Calls Tryd.prog 55 #[.slice p n cap, .agg #[.int .i64 d.id, .int .i64 d.org, .int .i64 d.format, .int .i64 d.length, .int .i64 d.block, .int .i64 d.keyAt, .int .i64 d.keyLength, .int .i64 d.interval, .int .i64 d.area, .int .i64 d.freeInterval, .int .i64 d.freeArea, .int .i64 d.base, .int .i64 d.altAt, .int .i64 d.altLength, .bool d.unique, .int .i64 d.cls, .string ⟨d.volume.toArray⟩, .string ⟨d.owner.toArray⟩, .int .i64 d.created, .int .i64 d.expires, .bool d.archived], .int .i64 (pageS d slot)] w' fun e w2 => ∃ q2 c2, e = .returned (.tuple #[.slice q2 (loadS m d (pageS d slot)).1.length c2, .int .i64 0]) ∧ Ext w' w2 ∧ w2.ownsRow w'.heap.size 103 2 (.slice q2 (loadS m d (pageS d slot)).1.length c2) (loadS m d (pageS d slot)).1.length (slotCells (loadS m d (pageS d slot)).1)) :=
    Lib.hid (fun w' he => (rload_ref p cap n m d (pageS d slot) w' (hs.ext he) hn hm).mono fun e w2 ⟨he2, hc⟩ => by
      rcases hc with ⟨x, _⟩ | ⟨_, q2, c2, x1, x2⟩
      · exact absurd hl x
      · exact ⟨q2, c2, x1, he2, x2⟩)
  clear hd hpl hl hv h1 h2 hs
  generalize (loadS m d (pageS d slot)).1 = L at *
  generalize pageS d slot = pg at *
  generalize idxS d slot = ix at *
  obtain ⟨H1, hH1⟩ : ∃ H1 : Hd, H1 = { h with count := if (slotAt L ix).1 then h.count else h.count + 1 } := ⟨_, rfl⟩
  rw [← hH1] at HG
  have HH1 := Lib.hid hH1
  clear hH1
  go_enter Tryd.func18, Tryd.ntmps18
  go_upto_region 1 with (fail)
  refine wp_name (fun w0 => Ext w w0 ∧ HdAt w0 w.heap.size h ∧ DsAt w0 (w.heap.size + 1) d ∧ Blk w0 (w.heap.size + 1 + 1) (.cells #[.int .i64 0, .int .i64 0, .int .i64 0, .int .i64 0, .int .i64 0, .int .i64 0, .int .i64 0] 28)) (hd_ds_cl w h d _ _) ?_
  rintro w0 ⟨he0, hb1, hb2, hbr⟩
  go_upto_region 2 with (first
    | (refine wpList_ds rfl (.tmp 7) rfl _ rfl d hb2 ?_) | (refine wpList_hd rfl (.tmp 6) rfl _ rfl h hb1 ?_)
    | (go_at_call 53; refine (Hdo.out _).mono ?_; rintro e w1 ⟨rfl, he1⟩))
  refine wp_name (fun w5 => Ext w w5 ∧ HdAt w5 w.heap.size h ∧ DsAt w5 (w.heap.size + 1) d ∧ Blk w5 (w.heap.size + 1 + 1) (.cells #[.int .i64 0, .int .i64 0, .int .i64 0, .int .i64 0, .int .i64 0, .int .i64 0, .int .i64 0] 28)) ⟨he0.trans he1, hb1.ext he1, hb2.ext he1, he1.blk _ _ hbr⟩ ?_
  clear hb1 hb2 hbr he0 he1
  rintro w5 ⟨he5, hb1, hb2, hbr⟩
  have c3 : w5.cell? ⟨w.heap.size + 1, 3, none⟩ = some (.int .i64 d.length) := Blk.val hb2 3 _ rfl
  go_upto_region 9 with (first
    | (refine wpList_ds rfl (.tmp 7) rfl _ rfl d hb2 ?_)
    | (go_at_call 54; refine (Hpl.out _).mono ?_; rintro e w6 ⟨rfl, he6⟩; have c2 := Blk.val (hb1.ext he6) 2 _ rfl))
  refine wp_name (fun w6 => Ext w w6 ∧ HdAt w6 w.heap.size h ∧ DsAt w6 (w.heap.size + 1) d ∧ Blk w6 (w.heap.size + 1 + 1) (.cells #[.int .i64 0, .int .i64 0, .int .i64 0, .int .i64 0, .int .i64 0, .int .i64 0, .int .i64 0] 28)) ⟨he5.trans he6, hb1.ext he6, hb2.ext he6, he6.blk _ _ hbr⟩ ?_
  clear hb1 hb2 hbr he5 he6 c2 c3
  rintro w6 ⟨he6, hb1, hb2, hbr⟩
  go_upto_region 10 with (first
    | (refine wpList_put rfl 103 (.tmp 16) (.tmp 55) rfl _ #[.bool true, .string ⟨r.toArray⟩] rfl rfl _ _ (Blk.new w6 _) slotSize rfl (by simp [Value.oneCell']) ?_; intro w7 hbx hcx))
  have heA := hcx.ext (Ext.alloc w6 _) (Nat.le_refl _)
  have hxb := Blk.lt hbr
  refine wp_name (fun w7 => Ext w w7 ∧ HdAt w7 w.heap.size h ∧ DsAt w7 (w.heap.size + 1) d ∧ Blk w7 (w.heap.size + 1 + 1) (.cells #[.int .i64 0, .int .i64 0, .int .i64 0, .int .i64 0, .int .i64 0, .int .i64 0, .int .i64 0] 28) ∧ Blk w7 w6.heap.size (.cells #[.bool true, .string ⟨r.toArray⟩] 103)) ⟨he6.trans heA, hb1.ext heA, hb2.ext heA, heA.blk _ _ hbr, hbx⟩ ?_
  clear hb1 hb2 hbr he6 heA hbx hcx
  generalize w6.heap.size = xb at *
  rintro w7 ⟨he7, hb1, hb2, hbr, hbx⟩
  have c2 : w7.cell? ⟨w.heap.size, 2, none⟩ = some (.int .i64 h.fin) := Blk.val hb1 2 _ rfl
  go_upto_region 14 with (first
    | (refine wpList_ds rfl (.tmp 7) rfl _ rfl d hb2 ?_)
    | (go_at_call 55; refine (HL.out _ he7).mono ?_; rintro e w8 ⟨q2, cq2, rfl, he8, hown⟩))
  refine wp_name (fun w8 => Ext w w8 ∧ HdAt w8 w.heap.size h ∧ DsAt w8 (w.heap.size + 1) d ∧ Blk w8 (w.heap.size + 1 + 1) (.cells #[.int .i64 0, .int .i64 0, .int .i64 0, .int .i64 0, .int .i64 0, .int .i64 0, .int .i64 0] 28) ∧ Blk w8 xb (.cells #[.bool true, .string ⟨r.toArray⟩] 103) ∧ w8.ownsRow w7.heap.size 103 2 (.slice q2 L.length cq2) L.length (slotCells L)) ⟨he7.trans he8, hb1.ext he8, hb2.ext he8, he8.blk _ _ hbr, he8.blk _ _ hbx, hown⟩ ?_
  clear hb1 hb2 hbr hbx he7 he8 hown c2
  generalize w7.heap.size = B7 at *
  rintro wq ⟨hex, hb1, hb2, hbr, hbx, hown⟩
  obtain ⟨g, rfl, hg1, hg2, hf1, hf2, hc1, hc2, _⟩ := own_setS hown ix b1
  have hixI : (ix : Int) < L.length := by omega
  have Hb1 := Lib.hid hb1
  have Hb2 := Lib.hid hb2
  have Hbr := Lib.hid hbr
  have Hbx := Lib.hid hbx
  have HEx := Lib.hid hex
  have Hown := Lib.hid hown
  have c1 : wq.cell? ⟨w.heap.size, 1, none⟩ = some (.int .i64 h.count) := Blk.val hb1 1 _ rfl
  have f1 : wq.frozen? ⟨w.heap.size, 1, none⟩ = false := Blk.free hb1 1
  have i9 : IntKind.i64.wrap (h.count + 1) = h.count + 1 := IntWalk.i64_in _ (by omega)
  have hltc : w.heap.size < wq.heap.size := Blk.lt hb1
  clear hb1 hb2 hbr hbx hex hown hf1 hf2 hc2
  go_upto_if 76 with (fail)
  go_cut [17] (fun v wx => v = .slice (some ⟨g, 0, none⟩) L.length cq2 ∧ Ext w wx ∧ HdAt wx w.heap.size H1 ∧ DsAt wx (w.heap.size + 1) d ∧ Blk wx (w.heap.size + 1 + 1) (.cells #[.int .i64 0, .int .i64 0, .int .i64 0, .int .i64 0, .int .i64 0, .int .i64 0, .int .i64 0] 28) ∧ Blk wx xb (.cells #[.bool true, .string ⟨r.toArray⟩] 103) ∧ Slts wx (some ⟨g, 0, none⟩) L)
  case first =>
    have e := HH1.out
    cases hu : (slotAt L ix).1
    · rw [hu] at hc1 e
      go_wp2_with fail
      go_meet
      have hcx : Chg w.heap.size wq (wq.setCell ⟨w.heap.size, 1, none⟩ (.int .i64 (h.count + 1))) := Chg.setCell
      refine ⟨rfl, hcx.ext HEx.out (Nat.le_refl _), by rw [e]; exact Blk.setCell Hb1.out, hcx.blk Hb2.out (by omega), hcx.blk Hbr.out (by omega), hcx.blk Hbx.out (blk_ne Hbx.out Hb1.out (by decide)), ?_⟩
      obtain ⟨p', c', hv', hsl, _⟩ := own_slts (own_chgT Hown.out (by decide) Hb1.out hcx)
      simp at hv'
      obtain ⟨rfl, _⟩ := hv'
      exact hsl
    · rw [hu] at hc1 e
      go_wp2_with fail
      go_meet
      refine ⟨rfl, HEx.out, by rw [e]; exact Hb1.out, Hb2.out, Hbr.out, Hbx.out, ?_⟩
      obtain ⟨p', c', hv', hsl, _⟩ := own_slts Hown.out
      simp at hv'
      obtain ⟨rfl, _⟩ := hv'
      exact hsl
  case rest =>
    obtain ⟨rfl, hex, hb1, hb2, hbr, hbx, hsl⟩ := hcut
    clear Hb1 Hb2 Hbr Hbx HEx Hown c1 f1 hltc hc1 hg1 hg2 i9
    obtain ⟨w6, hw6⟩ : ∃ w6, w6 = wc := ⟨_, rfl⟩
    rw [← hw6] at hex hb1 hb2 hbr hbx hsl ⊢
    clear hw6
    have hSl : (setS L ix (true, r)).length ≤ 1000 := by rw [setS_len]; omega
    have Hset := Lib.hid (fun w' (he : Ext w6 w') => set_F w.heap.size (some ⟨g, 0, none⟩) cq2 L.length L ix true r rfl (by omega) (by omega) w' (Nat.le_trans hex.size he.size) (hsl.ext he))
    have Hwr := Lib.hid (fun q1 c1 w' ho => write_row d pg q1 c1 _ (setS L ix (true, r)) rfl hSl w.heap.size w' ho)
    have HW : Hid (wrS d pg (setS L ix (true, r)) = (pg, esStr d.interval d.length (setS L ix (true, r)))) := Lib.hid rfl
    rw [HW.out] at HG
    clear hSl
    generalize esStr d.interval d.length (setS L ix (true, r)) = es at *
    generalize setS L ix (true, r) = M at *
    have HEx := Lib.hid hex
    have HbV := Lib.hid hb1
    have HbD := Lib.hid hb2
    have HbR := Lib.hid hbr
    have HbX := Lib.hid hbx
    clear hsl hex hb1 hb2 hbr hbx HW
    go_upto_region 16 with (fail)
    refine Pre.wp_region_pk 10 [(9, [(0, 81)])] (HEx.out) (by kernel_rfl) (by kernel_rfl) (by kernel_rfl) (by kernel_rfl) (by kernel_rfl) (by kernel_rfl) (gok_ret (w.heap.size + 1 + 1) w (by omega) #[.int .i64 H1.applied, .int .i64 H1.count, .int .i64 H1.fin, .int .i64 H1.root, .int .i64 H1.height, .int .i64 H1.splits, .int .i64 H1.areas] _ (.agg #[.int .i64 H1.applied, .int .i64 H1.count, .int .i64 H1.fin, .int .i64 H1.root, .int .i64 H1.height, .int .i64 H1.splits, .int .i64 H1.areas]) 9 81 (by kernel_rfl)) (fun _ => prok_ret (w3 := w6)) (fun p hp => Ext.refl w6) ?_
    simp only [List.take_succ_cons, List.take_zero, List.take_nil, List.drop_succ_cons, List.drop_zero, List.drop_nil, List.map_cons, List.map_nil]
    repeat (first
      | (refine Pre.wpPL_step (o := ⟨some 81, _, _, _, _, _⟩) (LdF (w.heap.size + 1 + 1) (.agg #[.int .i64 H1.applied, .int .i64 H1.count, .int .i64 H1.fin, .int .i64 H1.root, .int .i64 H1.height, .int .i64 H1.splits, .int .i64 H1.areas])) (LdF.stable _ _) (keepR (.inl (by kernel_rfl))) (by kernel_rfl) (by first | exact .inl rfl | exact .inr ⟨_, _, _, rfl, rfl, rfl⟩) ?_ ?_
         · intro a w' he0 hp hr K hK
           have he := hp 9 (by kernel_rfl) (by kernel_rfl)
           simp [Reads, Oper.looksAt, Op.operands, Call.operands, factAt, Is] at hr
           exact wp_load_row 28 (.tmp 6) rfl (w.heap.size) (by go_simp) _ _ _ _ (Ext.blk he _ _ HbV.out) hdDesc rfl hdSize (hK _ _ (Ext.refl _) ⟨rfl, _, Ext.blk he _ _ HbR.out, rfl⟩)
         simp only [setL, List.set_cons_succ, List.set_cons_zero])
      | (refine Pre.wpPL_det (o := ⟨some 82, _, _, _, _, _⟩) (v := .agg (#[.int .i64 d.id, .int .i64 d.org, .int .i64 d.format, .int .i64 d.length, .int .i64 d.block, .int .i64 d.keyAt, .int .i64 d.keyLength, .int .i64 d.interval, .int .i64 d.area, .int .i64 d.freeInterval, .int .i64 d.freeArea, .int .i64 d.base, .int .i64 d.altAt, .int .i64 d.altLength, .bool d.unique, .int .i64 d.cls, .string ⟨d.volume.toArray⟩, .string ⟨d.owner.toArray⟩, .int .i64 d.created, .int .i64 d.expires, .bool d.archived])) (fun k v => Pre.KeepsP.is _ _ _ _ k v) (by kernel_rfl) (by first | exact .inl rfl | exact .inr ⟨_, _, _, rfl, rfl, rfl⟩) ?_ ?_
         · intro a w' he0 hp hr K hK
           have he := hp 9 (by kernel_rfl) (by kernel_rfl)
           simp [Reads, Oper.looksAt, Op.operands, factAt, Is] at hr
           exact wp_load_row 23 (.tmp 7) rfl (w.heap.size + 1) (by go_simp) _ _ _ _ (Ext.blk he _ _ HbD.out) dsDesc rfl dsSize (hK _ (Ext.refl _))
         simp only [setL, List.set_cons_succ, List.set_cons_zero])
      | (refine Pre.wpPL_det (o := ⟨some 86, _, _, _, _, _⟩) (v := .agg (#[.bool true, .string ⟨r.toArray⟩])) (fun k v => Pre.KeepsP.is _ _ _ _ k v) (by kernel_rfl) (by first | exact .inl rfl | exact .inr ⟨_, _, _, rfl, rfl, rfl⟩) ?_ ?_
         · intro a w' he0 hp hr K hK
           have he := hp 9 (by kernel_rfl) (by kernel_rfl)
           simp [Reads, Oper.looksAt, Op.operands, factAt, Is] at hr
           exact wp_load_row 103 (.tmp 16) rfl (xb) (by go_simp) _ _ _ _ (Ext.blk he _ _ HbX.out) slotDesc rfl slotSize (hK _ (Ext.refl _))
         simp only [setL, List.set_cons_succ, List.set_cons_zero])
      | (refine Pre.wpPL_step (o := ⟨some 87, _, _, _, _, _⟩) (RowsF 103 w.heap.size 2 M.length (slotCells M)) (RowsF.stable _ _ _ _ _) (keepR (.inr fun v w w' c ⟨q, cc, h1, h2⟩ => ⟨q, cc, h1, own_rh h2 (by decide) c⟩)) (by kernel_rfl) (by first | exact .inl rfl | exact .inr ⟨_, _, _, rfl, rfl, rfl⟩) ?_ ?_
         · intro a w' he0 hp hr K hK
           have he := hp 9 (by kernel_rfl) (by kernel_rfl)
           simp [Reads, Oper.looksAt, Op.operands, Call.operands, factAt, Is] at hr
           go_simp
           refine (Hset.out w' he).mono ?_
           rintro e w'' ⟨v, rfl, he', hf⟩
           exact hK _ _ he' hf
         simp only [setL, List.set_cons_succ, List.set_cons_zero])
      | (refine Pre.wpPL_det (o := ⟨some 88, _, _, _, _, _⟩) (v := .agg #[.int .i64 pg, .string ⟨es.toArray⟩]) (fun k v => Pre.KeepsP.is _ _ _ _ k v) (by kernel_rfl) (by first | exact .inl rfl | exact .inr ⟨_, _, _, rfl, rfl, rfl⟩) ?_ ?_
         · intro a w' he0 hp hr K hK
           have he := hp 9 (by kernel_rfl) (by kernel_rfl)
           obtain ⟨q1, c1, h1, ho1⟩ := hr 87 (by simp [Oper.looksAt, Op.operands, Call.operands])
           simp [Reads, Oper.looksAt, Op.operands, Call.operands, factAt, Is] at hr
           simp at h1
           go_simp
           refine (Hwr.out q1 c1 w' ho1).mono ?_
           rintro e w'' ⟨rfl, he'⟩
           exact hK _ he'
         simp only [setL, List.set_cons_succ, List.set_cons_zero])
      | (refine Pre.wpPL_step (o := ⟨some 89, _, _, _, _, _⟩) (Fresh 1 1 (.cells #[.int .i64 pg, .string ⟨es.toArray⟩] 37)) (Fresh.stable _ _ _) (keepR (.inr fun v w w' c ⟨b, h1, h2⟩ => ⟨b, h1, rh_type c h2 (by decide)⟩)) (by kernel_rfl) (by first | exact .inl rfl | exact .inr ⟨_, _, _, rfl, rfl, rfl⟩) ?_ ?_
         · intro a w' he0 hp hr K hK
           simp [Reads, Oper.looksAt, Op.operands, Call.operands, factAt, Is] at hr
           go_simp
           exact hK _ _ (Ext.alloc _ _) (Fresh.new _ _ _ _)
         simp only [setL, List.set_cons_succ, List.set_cons_zero])
      | (refine Pre.wpPL_pivot (o := ⟨none, _, _, _, _, _⟩) Any Any.stable (fun _ _ => .inr fun _ _ _ _ h => h) (by kernel_rfl) (by first | exact .inl rfl | exact .inr ⟨_, _, _, rfl, rfl, rfl⟩) ?_ ?_
         · intro a w' he0 hp hr K hK
           have h0 := hr 10 (by simp [Oper.looksAt, Op.operands])
           obtain ⟨h1, old, hk1, hk2⟩ := hr 81 (by simp [Oper.looksAt, Op.operands])
           refine wp_store_row 28 (.tmp 10) (.tmp 81) rfl (w.heap.size + 1 + 1) #[.int .i64 H1.applied, .int .i64 H1.count, .int .i64 H1.fin, .int .i64 H1.root, .int .i64 H1.height, .int .i64 H1.splits, .int .i64 H1.areas] h0 h1 _ old hk1 hdSize (by rw [hk2]; rfl) (hd_one H1) ?_
           exact hK _ _ ⟨⟨_, hk1⟩, Chg.setRow⟩ trivial (fun x hx hxi y hy => by simp at hx; subst hx; simp at hy; subst hy; exact ⟨h1, Blk.setRow hk1⟩)
         simp only [setL, List.set_cons_succ, List.set_cons_zero])
      | (refine Pre.wpPL_move _ _ (by kernel_rfl) (by first | exact .inl rfl | exact .inr ⟨_, _, _, rfl, rfl, rfl⟩) (by first | exact .inl rfl | exact .inr rfl) rfl (by first | exact Is.stable _ | exact RowsF.stable _ _ _ _ _ | exact NoneF.stable _ _ | exact Fresh.stable _ _ _ | exact AppF.stable _ | exact WrF.stable _ | exact PtrF.stable _ _ | exact PlF.stable _ _) (by first | exact Pre.KeepsP.is _ _ _ _ _ _ ) ?_
         simp only [setL, List.set_cons_succ, List.set_cons_zero, List.getD_cons_succ, List.getD_cons_zero])
      | (apply Pre.wpPL_det (fun k v => Pre.KeepsP.is _ _ _ _ k v) (by kernel_rfl) (by first | exact .inl rfl | exact .inr ⟨_, _, _, rfl, rfl, rfl⟩)
         · intro a w' he0 hp hr K hK
           have he := hp 9 (by kernel_rfl) (by kernel_rfl)
           simp [Reads, Oper.looksAt, Op.operands, Call.operands, factAt, Is] at hr
           have hx := he.cell
           go_simp
           try go_bits
           try (rw [if_neg (by omega)]; go_simp)
           first
             | exact hK _ (Ext.refl _)
         simp only [setL, List.set_cons_succ, List.set_cons_zero]))
    intro w2 he2
    simp only [killL, killIn, List.foldl_cons, List.foldl_nil, List.set_cons_succ, List.set_cons_zero]
    repeat (first | with_reducible refine rest_is _ _ _ _ ?_ | (with_reducible refine rest_fact _ _ _ _ ?_; intro _ _) | with_reducible refine rest_end _ _ ?_)
    simp only [List.reverse_cons, List.reverse_nil, List.nil_append, List.cons_append]
    rename_i x81 h81 x87 h87 x89 h89
    obtain ⟨rfl, hbn⟩ := h81
    obtain ⟨b, rfl, hbw⟩ := h89
    clear h87
    go_wp2_with fail
    exact bodyPost_ret (results_row2 Tryd.results18 _ _ _ _ _ _ rfl hbn hdDesc rfl hdSize) rfl (relOut_yes he2 HG.out rfl (wrts_one hbw))
end Go.Proofs.YtchgjopckmjmmaaDoor
