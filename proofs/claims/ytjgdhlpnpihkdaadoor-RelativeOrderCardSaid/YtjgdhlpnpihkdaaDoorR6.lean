/- The walks of package relative's find and Get. -/
import Derived.Test.YtjgdhlpnpihkdaaDoorR4
import Derived.Test.YtjgdhlpnpihkdaaDoorPH
import Derived.Test.YtjgdhlpnpihkdaaDoorRG
set_option linter.unusedSimpArgs false
set_option linter.unusedVariables false
namespace Go.Proofs.YtjgdhlpnpihkdaaDoor
open Go.RowKit Dsd

theorem results_tmp4 {fn : Func} {t u v x : Tmp} (h : fn.results = #[.tmp t, .tmp u, .tmp v, .tmp x]) (tmps : Array Value) (P : Program) (w : World) :
    (results fn tmps).run P w = .ok (.tuple #[tmps.getD t undef, tmps.getD u undef, tmps.getD v undef, tmps.getD x undef]) w := by
  simp [results, h]
/-- What find hands back. -/
def RFindOut (m : List (List UInt8)) (h : Hd) (d : DS) (slot : Int) (w : World) (e : Ending) (w' : World) : Prop :=
  Ext w w' ∧ (((findR m h d slot).2 ≠ 0 ∧ ∃ a q k c i, e = .returned (.tuple #[.int .i64 a, .slice q k c, .int .i64 i, .int .i64 (findR m h d slot).2])) ∨
    ((findR m h d slot).2 = 0 ∧ ∃ q cq, e = .returned (.tuple #[.int .i64 (pageS d slot), .slice q (findR m h d slot).1.length cq, .int .i64 ((idxS d slot : Nat) : Int), .int .i64 0]) ∧ idxS d slot < (findR m h d slot).1.length ∧ (findR m h d slot).1.length ≤ 127 ∧
      1 ≤ pageS d slot ∧ pageS d slot ≤ 65536 ∧ w'.ownsRow w.heap.size 131 2 (.slice q (findR m h d slot).1.length cq) (findR m h d slot).1.length (slotCells (findR m h d slot).1)))
theorem rfind_no {m : List (List UInt8)} {h : Hd} {d : DS} {slot : Int} {w w' : World} {c a i : Int} {q : Option Addr} {k cq : Nat} (he : Ext w w') (hc : (findR m h d slot).2 = c) (h0 : c ≠ 0) : RFindOut m h d slot w (.returned (.tuple #[.int .i64 a, .slice q k cq, .int .i64 i, .int .i64 c])) w' :=
  ⟨he, .inl ⟨by rw [hc]; exact h0, a, q, k, cq, i, by rw [hc]⟩⟩
theorem rfind_yes {m : List (List UInt8)} {h : Hd} {d : DS} {slot : Int} {L : List Slt} {w w' : World} {q : Option Addr} {cq pg ix : Nat} {pgi : Int} (he : Ext w w') (hr : findR m h d slot = (L, 0)) (hp : pageS d slot = pgi) (hi : idxS d slot = ix) (h1 : ix < L.length) (h2 : L.length ≤ 127) (h3 : 1 ≤ pgi) (h4 : pgi ≤ 65536)
    (ho : w'.ownsRow w.heap.size 131 2 (.slice q L.length cq) L.length (slotCells L)) : RFindOut m h d slot w (.returned (.tuple #[.int .i64 pgi, .slice q L.length cq, .int .i64 (ix : Int), .int .i64 0])) w' := by
  refine ⟨he, .inr ?_⟩
  rw [hr, hp, hi]
  exact ⟨rfl, q, cq, rfl, h1, h2, h3, h4, ho⟩
theorem rload_len {m : List (List UInt8)} {d : DS} {page : Int} (hv : validB d = true) {ix : Nat} (h : (loadS m d page).2 = 0) (hi : (ix : Int) < slN d) : ix < (loadS m d page).1.length ∧ (loadS m d page).1.length ≤ 127 := by
  have := slN_pos hv
  rw [loadS_len h]; omega

set_option maxRecDepth 100000 in
set_option maxHeartbeats 1000000 in
theorem rfind_any (p : Option Addr) (cap n : Nat) (m : List (List UInt8)) (h : Hd) (d : DS) (hv : validB d = true) (slot : Int) (w : World) (hs : Strs w p m) (hn : m.length = n) (hm : Small m) :
    Calls Tryd.prog 76 #[.agg (rcCells (mV p n cap) h d), .int .i64 slot] w (RFindOut m h d slot w) := by
  have hbx := Blk.new w (.cells (rcCells (mV p n cap) h d) 122)
  have hex := Ext.alloc w (.cells (rcCells (mV p n cap) h d) 122)
  by_cases hr : slot < 1 ∨ 65536 < slot
  · have HE : Hid ((findR m h d slot).2 = 2) := Lib.hid (by unfold findR; rw [if_pos hr])
    by_cases h1 : slot < 1
    · have h1I : decide (slot < 1) = true := decide_eq_true h1
      clear hr
      go_enter Tryd.func76, Tryd.ntmps76
      go_wp2
      try simp only [Exit.inBlock, Exit.then]
      refine bodyPost_ret (results_tmp4 rfl _ _ _) rfl ?_
      exact rfind_no hex HE.out (by decide)
    · have h1I : decide (slot < 1) = false := decide_eq_false h1
      have h2I : decide (65536 < slot) = true := decide_eq_true (by omega)
      clear hr h1
      go_enter Tryd.func76, Tryd.ntmps76
      go_wp2
      try simp only [Exit.inBlock, Exit.then]
      refine bodyPost_ret (results_tmp4 rfl _ _ _) rfl ?_
      exact rfind_no hex HE.out (by decide)
  · have h1 : 1 ≤ slot := by omega
    have h2 : slot ≤ 65536 := by omega
    have h1I : decide (slot < 1) = false := decide_eq_false (by omega)
    have h2I : decide (65536 < slot) = false := decide_eq_false (by omega)
    obtain ⟨_, _, a3, a4, a5, a6⟩ := place_go hv h1 h2
    have Hpl := Lib.hid (fun w => place_any (mV p n cap) h d hv slot h1 h2 w)
    by_cases hpf : h.fin < pageS d slot
    · have hpI : decide (h.fin < pageS d slot) = true := decide_eq_true hpf
      have HE : Hid ((findR m h d slot).2 = 6) := Lib.hid (by unfold findR; rw [if_neg hr, if_pos hpf])
      clear hr h1 h2
      go_enter Tryd.func76, Tryd.ntmps76
      go_upto_region 1 with (fail)
      refine wp_name (fun w0 => Ext w w0 ∧ Blk w0 w.heap.size (.cells (rcCells (mV p n cap) h d) 122)) ⟨hex, hbx⟩ ?_
      clear hbx hex
      rintro w0 ⟨he0, hb⟩
      generalize pageS d slot = pg at *
      generalize idxS d slot = ix at *
      go_wp2_with (first | (refine wpList_row rfl 122 (.tmp 2) rfl _ rfl _ _ _ hb rcDesc rfl rcSize ?_) | (go_at_call 68; refine (Hpl.out _).mono ?_; rintro e w1 ⟨rfl, he1⟩; have hb := he1.blk _ _ hb; have c3 := Blk.val hb 3 _ rfl))
      try simp only [Exit.inBlock, Exit.then]
      refine bodyPost_ret (results_tmp4 rfl _ _ _) rfl ?_
      exact rfind_no (he0.trans he1) HE.out (by decide)
    · have hpI : decide (h.fin < pageS d slot) = false := decide_eq_false hpf
      have Hld := Lib.hid (fun w' (he : Ext w w') => rload_any p cap n m h d (pageS d slot) w' (hs.ext he) hn hm)
      by_cases hl : (loadS m d (pageS d slot)).2 = 0
      · obtain ⟨b1, b2⟩ := rload_len hv hl a6
        have hF : findR m h d slot = if (slotAt (loadS m d (pageS d slot)).1 (idxS d slot)).1 = false then ([], 6) else ((loadS m d (pageS d slot)).1, 0) := by
          unfold findR; rw [if_neg hr, if_neg hpf, if_neg (by simp [hl])]
        have HL : Hid (∀ w', Ext w w' → Calls Tryd.prog 69 #[.agg (rcCells (mV p n cap) h d), .int .i64 (pageS d slot)] w' fun e w2 => ∃ q2 c2, e = .returned (.tuple #[.slice q2 (loadS m d (pageS d slot)).1.length c2, .int .i64 0]) ∧ Ext w' w2 ∧ w2.ownsRow w'.heap.size 131 2 (.slice q2 (loadS m d (pageS d slot)).1.length c2) (loadS m d (pageS d slot)).1.length (slotCells (loadS m d (pageS d slot)).1)) :=
          Lib.hid (fun w' he => (Hld.out w' he).mono fun e w2 ⟨he2, hc⟩ => by
            rcases hc with ⟨x, _⟩ | ⟨_, q2, c2, x1, x2⟩
            · exact absurd hl x
            · exact ⟨q2, c2, x1, he2, x2⟩)
        have HP := Lib.hid (show pageS d slot = pageS d slot from rfl)
        have HI := Lib.hid (show idxS d slot = idxS d slot from rfl)
        have HF := Lib.hid hF
        clear Hld hr h1 h2 hl hF
        generalize (loadS m d (pageS d slot)).1 = L at *
        obtain ⟨pg, hpg⟩ : ∃ pg, pg = pageS d slot := ⟨_, rfl⟩
        obtain ⟨ix, hix⟩ : ∃ ix, ix = idxS d slot := ⟨_, rfl⟩
        rw [← hpg] at a3 a4 hpf hpI Hpl HL
        rw [← hix] at a5 a6 b1 HF Hpl
        have Hpg := Lib.hid hpg.symm
        have Hix := Lib.hid hix.symm
        clear hpg hix HP HI
        have hixI : (ix : Int) < L.length := by omega
        go_enter Tryd.func76, Tryd.ntmps76
        go_upto_region 1 with (fail)
        refine wp_name (fun w0 => Ext w w0 ∧ Blk w0 w.heap.size (.cells (rcCells (mV p n cap) h d) 122)) ⟨hex, hbx⟩ ?_
        clear hbx hex
        rintro w0 ⟨he0, hb⟩
        go_upto_region 7 with (first
          | (refine wpList_row (o := ⟨some 19, _, _, _, _, _⟩) rfl 122 (.tmp 2) rfl _ rfl _ _ _ hb rcDesc rfl rcSize ?_)
          | (go_at_call 68; refine (Hpl.out _).mono ?_; rintro e w1 ⟨rfl, he1⟩; have hb1 := he1.blk _ _ hb; have c3 := Blk.val hb1 3 _ rfl)
          | (refine wpList_row (o := ⟨some 30, _, _, _, _, _⟩) rfl 122 (.tmp 2) rfl _ rfl _ _ _ hb1 rcDesc rfl rcSize ?_)
          | (go_at_call 69; refine (HL.out _ (he0.trans he1)).mono ?_; rintro e w2 ⟨q2, c2, rfl, he2, hown⟩))
        obtain ⟨g, rfl, hg1, hg2, hf1, hf2, hc1, hc2, _⟩ := own_setS hown ix b1
        have Hown := Lib.hid (own_le hown (Nat.le_trans he0.size he1.size))
        have HEx := Lib.hid ((he0.trans he1).trans he2)
        clear hown hf1 hf2 hc2 he0 he1 he2 hb hb1 c3
        cases hu : (slotAt L ix).1
        · rw [hu] at hc1
          have HE : Hid ((findR m h d slot).2 = 6) := Lib.hid (by rw [HF.out, hu]; rfl)
          go_wp2
          try simp only [Exit.inBlock, Exit.then]
          refine bodyPost_ret (results_tmp4 rfl _ _ _) rfl ?_
          exact rfind_no HEx.out HE.out (by decide)
        · rw [hu] at hc1
          have HE : Hid (findR m h d slot = (L, 0)) := Lib.hid (by rw [HF.out, hu]; rfl)
          go_wp2
          try simp only [Exit.inBlock, Exit.then]
          refine bodyPost_ret (results_tmp4 rfl _ _ _) rfl ?_
          exact rfind_yes (pg := 0) HEx.out HE.out Hpg.out Hix.out b1 b2 a3 a4 Hown.out
      · have HE : Hid ((findR m h d slot).2 = (loadS m d (pageS d slot)).2) := Lib.hid (by unfold findR; rw [if_neg hr, if_neg hpf, if_pos hl])
        have HL : Hid (∀ w', Ext w w' → Calls Tryd.prog 69 #[.agg (rcCells (mV p n cap) h d), .int .i64 (pageS d slot)] w' fun e w2 => e = .returned (.tuple #[.slice none 0 0, .int .i64 (loadS m d (pageS d slot)).2]) ∧ Ext w' w2) :=
          Lib.hid (fun w' he => (Hld.out w' he).mono fun e w2 ⟨he2, hc⟩ => by
            rcases hc with ⟨_, x⟩ | ⟨x, _⟩
            · exact ⟨x, he2⟩
            · exact absurd x hl)
        have hlI : ((loadS m d (pageS d slot)).2 == 0) = false := by simpa using hl
        have Hl := Lib.hid hl
        clear Hld hr h1 h2 hl
        generalize (loadS m d (pageS d slot)).2 = er at *
        generalize pageS d slot = pg at *
        generalize idxS d slot = ix at *
        go_enter Tryd.func76, Tryd.ntmps76
        go_upto_region 1 with (fail)
        refine wp_name (fun w0 => Ext w w0 ∧ Blk w0 w.heap.size (.cells (rcCells (mV p n cap) h d) 122)) ⟨hex, hbx⟩ ?_
        clear hbx hex
        rintro w0 ⟨he0, hb⟩
        go_wp2_with (first
          | (refine wpList_row (o := ⟨some 19, _, _, _, _, _⟩) rfl 122 (.tmp 2) rfl _ rfl _ _ _ hb rcDesc rfl rcSize ?_)
          | (go_at_call 68; refine (Hpl.out _).mono ?_; rintro e w1 ⟨rfl, he1⟩; have hb1 := he1.blk _ _ hb; have c3 := Blk.val hb1 3 _ rfl)
          | (refine wpList_row (o := ⟨some 30, _, _, _, _, _⟩) rfl 122 (.tmp 2) rfl _ rfl _ _ _ hb1 rcDesc rfl rcSize ?_)
          | (go_at_call 69; refine (HL.out _ (he0.trans he1)).mono ?_; rintro e w2 ⟨rfl, he2⟩))
        try simp only [Exit.inBlock, Exit.then]
        refine bodyPost_ret (results_tmp4 rfl _ _ _) rfl ?_
        exact rfind_no ((he0.trans he1).trans he2) HE.out Hl.out
end Go.Proofs.YtjgdhlpnpihkdaaDoor
/- The walks of package relative's Get and Erase. -/
namespace Go.Proofs.YtjgdhlpnpihkdaaDoor
open Go.RowKit Dsd

theorem ropen_ok (p : Option Addr) (n cap : Nat) (h : Hd) (d : DS) (hd : doorOf h d 2 = 0) (w : World) : Calls Tryd.prog 67 #[mV p n cap, .agg #[.int .i64 h.applied, .int .i64 h.count, .int .i64 h.fin, .int .i64 h.root, .int .i64 h.height, .int .i64 h.splits, .int .i64 h.areas], .agg #[.int .i64 d.id, .int .i64 d.org, .int .i64 d.format, .int .i64 d.length, .int .i64 d.block, .int .i64 d.keyAt, .int .i64 d.keyLength, .int .i64 d.interval, .int .i64 d.area, .int .i64 d.freeInterval, .int .i64 d.freeArea, .int .i64 d.base, .int .i64 d.altAt, .int .i64 d.altLength, .bool d.unique, .int .i64 d.cls, .string ⟨d.volume.toArray⟩, .string ⟨d.owner.toArray⟩, .int .i64 d.created, .int .i64 d.expires, .bool d.archived]] w fun e w' => e = .returned (.tuple #[.agg (rcCells (mV p n cap) h d), .int .i64 0]) ∧ Ext w w' :=
  (ropen_any p n cap h d w).mono fun e w' ⟨he, hc⟩ => by
    rcases hc with ⟨_, x⟩ | ⟨x, _⟩
    · exact ⟨x, he⟩
    · exact absurd hd x
theorem ropen_err (p : Option Addr) (n cap : Nat) (h : Hd) (d : DS) (hd : doorOf h d 2 ≠ 0) (w : World) : Calls Tryd.prog 67 #[mV p n cap, .agg #[.int .i64 h.applied, .int .i64 h.count, .int .i64 h.fin, .int .i64 h.root, .int .i64 h.height, .int .i64 h.splits, .int .i64 h.areas], .agg #[.int .i64 d.id, .int .i64 d.org, .int .i64 d.format, .int .i64 d.length, .int .i64 d.block, .int .i64 d.keyAt, .int .i64 d.keyLength, .int .i64 d.interval, .int .i64 d.area, .int .i64 d.freeInterval, .int .i64 d.freeArea, .int .i64 d.base, .int .i64 d.altAt, .int .i64 d.altLength, .bool d.unique, .int .i64 d.cls, .string ⟨d.volume.toArray⟩, .string ⟨d.owner.toArray⟩, .int .i64 d.created, .int .i64 d.expires, .bool d.archived]] w fun e w' => e = .returned (.tuple #[.agg rcZero, .int .i64 (doorOf h d 2)]) ∧ Ext w w' :=
  (ropen_any p n cap h d w).mono fun e w' ⟨he, hc⟩ => by
    rcases hc with ⟨x, _⟩ | ⟨_, x⟩
    · exact absurd x hd
    · exact ⟨x, he⟩
theorem rfind_ok {m : List (List UInt8)} {h : Hd} {d : DS} {slot : Int} {w w' : World} {e : Ending} (hf : (findR m h d slot).2 = 0) (r : RFindOut m h d slot w e w') : ∃ q cq, e = .returned (.tuple #[.int .i64 (pageS d slot), .slice q (findR m h d slot).1.length cq, .int .i64 ((idxS d slot : Nat) : Int), .int .i64 0]) ∧ Ext w w' ∧ idxS d slot < (findR m h d slot).1.length ∧ (findR m h d slot).1.length ≤ 127 ∧
      1 ≤ pageS d slot ∧ pageS d slot ≤ 65536 ∧ w'.ownsRow w.heap.size 131 2 (.slice q (findR m h d slot).1.length cq) (findR m h d slot).1.length (slotCells (findR m h d slot).1) := by
  obtain ⟨he, ⟨x, _⟩ | ⟨_, q, cq, x1, x2, x3, x4, x5, x6⟩⟩ := r
  · exact absurd hf x
  · exact ⟨q, cq, x1, he, x2, x3, x4, x5, x6⟩
theorem rfind_err {m : List (List UInt8)} {h : Hd} {d : DS} {slot : Int} {w w' : World} {e : Ending} (hf : (findR m h d slot).2 ≠ 0) (r : RFindOut m h d slot w e w') : ∃ a q k c i, e = .returned (.tuple #[.int .i64 a, .slice q k c, .int .i64 i, .int .i64 (findR m h d slot).2]) ∧ Ext w w' := by
  obtain ⟨he, ⟨_, a, q, k, c, i, x⟩ | ⟨x, _⟩⟩ := r
  · exact ⟨a, q, k, c, i, x, he⟩
  · exact absurd x hf

set_option maxRecDepth 100000 in
set_option maxHeartbeats 1000000 in
theorem rget_any (p : Option Addr) (cap n : Nat) (m : List (List UInt8)) (h : Hd) (d : DS) (slot : Int) (w : World) (hs : Strs w p m) (hn : m.length = n) (hm : Small m) :
    Calls Tryd.prog 44 #[mV p n cap, .agg #[.int .i64 h.applied, .int .i64 h.count, .int .i64 h.fin, .int .i64 h.root, .int .i64 h.height, .int .i64 h.splits, .int .i64 h.areas], .agg #[.int .i64 d.id, .int .i64 d.org, .int .i64 d.format, .int .i64 d.length, .int .i64 d.block, .int .i64 d.keyAt, .int .i64 d.keyLength, .int .i64 d.interval, .int .i64 d.area, .int .i64 d.freeInterval, .int .i64 d.freeArea, .int .i64 d.base, .int .i64 d.altAt, .int .i64 d.altLength, .bool d.unique, .int .i64 d.cls, .string ⟨d.volume.toArray⟩, .string ⟨d.owner.toArray⟩, .int .i64 d.created, .int .i64 d.expires, .bool d.archived], .int .i64 slot] w fun e w' => e = .returned (.tuple #[.string ⟨(getR m h d slot).1.toArray⟩, .int .i64 (getR m h d slot).2]) ∧ Ext w w' := by
  by_cases hd : doorOf h d 2 = 0
  · have hv := (door_zero hd).1
    have Hop := Lib.hid (fun w => ropen_ok p n cap h d hd w)
    have Hfi := Lib.hid (fun w' (he : Ext w w') => rfind_any p cap n m h d hv slot w' (hs.ext he) hn hm)
    by_cases hf : (findR m h d slot).2 = 0
    · have HG : Hid (getR m h d slot = ((slotAt (findR m h d slot).1 (idxS d slot)).2, 0)) := Lib.hid (by unfold getR; rw [if_neg (by simp [hd]), if_neg (by simp [hf])])
      have Hfi2 := Lib.hid (fun w' (he : Ext w w') => (Hfi.out w' he).mono fun e w'' r => rfind_ok hf r)
      clear Hfi hd hf
      generalize (findR m h d slot).1 = L at *
      generalize pageS d slot = pg at *
      generalize idxS d slot = ix at *
      go_enter Tryd.func44, Tryd.ntmps44
      go_upto_region 1 with (fail)
      refine wp_name (fun w0 => Ext w w0 ∧ HdAt w0 w.heap.size h ∧ DsAt w0 (w.heap.size + 1) d) (hd_ds w h d) ?_
      rintro w0 ⟨he0, hb1, hb2⟩
      go_upto_region 7 with (first
        | (refine wpList_ds rfl (.tmp 6) rfl _ rfl d hb2 ?_) | (refine wpList_hd rfl (.tmp 5) rfl _ rfl h hb1 ?_)
        | (go_at_call 67; refine (Hop.out _).mono ?_; rintro e w1 ⟨rfl, he1⟩)
        | (refine wpList_put rfl 122 (.tmp 10) (.tmp 20) rfl _ (rcCells (mV p n cap) h d) rfl rfl _ _ (Blk.new w1 _) rcSize rfl (rc_one p n cap h d) ?_; intro w3 hb3 hc3; have he3 := hc3.ext (Ext.alloc w1 _) (Nat.le_refl _))
        | (refine wpList_row rfl 122 (.tmp 10) rfl _ rfl _ _ _ hb3 rcDesc rfl rcSize ?_)
        | (go_at_call 76; refine (Hfi2.out _ ((he0.trans he1).trans he3)).mono ?_; rintro e w4 ⟨q, cq, rfl, he4, hi1, hi2, hp1, hp2, hown⟩))
      obtain ⟨g, rfl, hg1, hg2, hf1, hf2, hc1, hc2, _⟩ := own_setS hown ix hi1
      have hixI : (ix : Int) < L.length := by omega
      have HEx := Lib.hid (((he0.trans he1).trans he3).trans he4)
      clear hown hf1 hf2 he0 he1 he3 he4 hb1 hb2 hb3 hc3
      go_wp2
      go_ret2
      exact ⟨by rw [HG.out]; rfl, HEx.out⟩
    · have HG : Hid (getR m h d slot = ([], (findR m h d slot).2)) := Lib.hid (by unfold getR; rw [if_neg (by simp [hd]), if_pos hf])
      have Hfi2 := Lib.hid (fun w' (he : Ext w w') => (Hfi.out w' he).mono fun e w'' r => rfind_err hf r)
      have hfI : ((findR m h d slot).2 != 0) = true := by simpa using hf
      clear Hfi hd hf
      generalize (findR m h d slot).2 = er at *
      go_enter Tryd.func44, Tryd.ntmps44
      go_upto_region 1 with (fail)
      refine wp_name (fun w0 => Ext w w0 ∧ HdAt w0 w.heap.size h ∧ DsAt w0 (w.heap.size + 1) d) (hd_ds w h d) ?_
      rintro w0 ⟨he0, hb1, hb2⟩
      go_wp2_with (first
        | (refine wpList_ds rfl (.tmp 6) rfl _ rfl d hb2 ?_) | (refine wpList_hd rfl (.tmp 5) rfl _ rfl h hb1 ?_)
        | (go_at_call 67; refine (Hop.out _).mono ?_; rintro e w1 ⟨rfl, he1⟩)
        | (refine wpList_put rfl 122 (.tmp 10) (.tmp 20) rfl _ (rcCells (mV p n cap) h d) rfl rfl _ _ (Blk.new w1 _) rcSize rfl (rc_one p n cap h d) ?_; intro w3 hb3 hc3; have he3 := hc3.ext (Ext.alloc w1 _) (Nat.le_refl _))
        | (refine wpList_row rfl 122 (.tmp 10) rfl _ rfl _ _ _ hb3 rcDesc rfl rcSize ?_)
        | (go_at_call 76; refine (Hfi2.out _ ((he0.trans he1).trans he3)).mono ?_; rintro e w4 ⟨a, q, k, cq, i, rfl, he4⟩))
      go_ret2
      exact ⟨by rw [HG.out]; rfl, ((he0.trans he1).trans he3).trans he4⟩
  · have Hop := Lib.hid (fun w => ropen_err p n cap h d hd w)
    have HG : Hid (getR m h d slot = ([], doorOf h d 2)) := Lib.hid (by unfold getR; rw [if_pos hd])
    have hdI : (doorOf h d 2 != 0) = true := by simpa using hd
    clear hd
    generalize doorOf h d 2 = er at *
    go_enter Tryd.func44, Tryd.ntmps44
    go_upto_region 1 with (fail)
    refine wp_name (fun w0 => Ext w w0 ∧ HdAt w0 w.heap.size h ∧ DsAt w0 (w.heap.size + 1) d) (hd_ds w h d) ?_
    rintro w0 ⟨he0, hb1, hb2⟩
    go_wp2_with (first
      | (refine wpList_ds rfl (.tmp 6) rfl _ rfl d hb2 ?_) | (refine wpList_hd rfl (.tmp 5) rfl _ rfl h hb1 ?_)
      | (go_at_call 67; refine (Hop.out _).mono ?_; rintro e w1 ⟨rfl, he1⟩)
      | (refine wpList_put rfl 122 (.tmp 10) (.tmp 20) rfl _ rcZero rfl rfl _ _ (Blk.new w1 _) rcSize rfl rcZero_one ?_; intro w3 hb3 hc3; have he3 := hc3.ext (Ext.alloc w1 _) (Nat.le_refl _)))
    go_ret2
    exact ⟨by rw [HG.out]; rfl, (he0.trans he1).trans he3⟩

/-- What Put and Erase hand back. -/
def RelOut (R : RelRes) (w : World) (e : Ending) (w' : World) : Prop :=
  Ext w w' ∧ ∃ q k c, e = .returned (.tuple #[.agg #[.int .i64 R.h.applied, .int .i64 R.h.count, .int .i64 R.h.fin, .int .i64 R.h.root, .int .i64 R.h.height, .int .i64 R.h.splits, .int .i64 R.h.areas], .slice q k c, .int .i64 R.e]) ∧ k = R.w.length ∧ Wrts w' q R.w
theorem relOut_no {R : RelRes} {w w' : World} {c : Int} (he : Ext w w') (hr : R = .no c) : RelOut R w (.returned (.tuple #[.agg #[.int .i64 0, .int .i64 0, .int .i64 0, .int .i64 0, .int .i64 0, .int .i64 0, .int .i64 0], .slice none 0 0, .int .i64 c])) w' := by
  subst hr; exact ⟨he, none, 0, 0, rfl, rfl, .inl rfl⟩
theorem relOut_yes {R : RelRes} {H : Hd} {L : List (Int × List UInt8)} {w w' : World} {q : Option Addr} {k c : Nat} (he : Ext w w') (hr : R = ⟨H, L, 0⟩) (hk : k = L.length) (hq : Wrts w' q L) :
    RelOut R w (.returned (.tuple #[.agg #[.int .i64 H.applied, .int .i64 H.count, .int .i64 H.fin, .int .i64 H.root, .int .i64 H.height, .int .i64 H.splits, .int .i64 H.areas], .slice q k c, .int .i64 0])) w' := by
  subst hr; exact ⟨he, q, k, c, rfl, hk, hq⟩

set_option maxRecDepth 100000 in
set_option maxHeartbeats 2000000 in
theorem rerase_any (p : Option Addr) (cap n : Nat) (m : List (List UInt8)) (h : Hd) (d : DS) (slot : Int) (w : World) (hs : Strs w p m) (hn : m.length = n) (hm : Small m) :
    Calls Tryd.prog 41 #[mV p n cap, .agg #[.int .i64 h.applied, .int .i64 h.count, .int .i64 h.fin, .int .i64 h.root, .int .i64 h.height, .int .i64 h.splits, .int .i64 h.areas], .agg #[.int .i64 d.id, .int .i64 d.org, .int .i64 d.format, .int .i64 d.length, .int .i64 d.block, .int .i64 d.keyAt, .int .i64 d.keyLength, .int .i64 d.interval, .int .i64 d.area, .int .i64 d.freeInterval, .int .i64 d.freeArea, .int .i64 d.base, .int .i64 d.altAt, .int .i64 d.altLength, .bool d.unique, .int .i64 d.cls, .string ⟨d.volume.toArray⟩, .string ⟨d.owner.toArray⟩, .int .i64 d.created, .int .i64 d.expires, .bool d.archived], .int .i64 slot] w (RelOut (eraseR m h d slot) w) := by
  by_cases hd : doorOf h d 2 = 0
  · have hv := (door_zero hd).1
    have hpl := (door_zero hd).2.1
    obtain ⟨p1, p2, p3, p4⟩ := plain_spec hpl
    have Hop := Lib.hid (fun w => ropen_ok p n cap h d hd w)
    have Hfi := Lib.hid (fun w' (he : Ext w w') => rfind_any p cap n m h d hv slot w' (hs.ext he) hn hm)
    by_cases hf : (findR m h d slot).2 = 0
    · have HG : Hid (eraseR m h d slot = ⟨{ h with count := h.count - 1 }, [wrS d (pageS d slot) (setS (findR m h d slot).1 (idxS d slot) (false, []))], 0⟩) := Lib.hid (by unfold eraseR; rw [if_neg (by simp [hd]), if_neg (by simp [hf])])
      have Hfi2 := Lib.hid (fun w' (he : Ext w w') => (Hfi.out w' he).mono fun e w'' r => rfind_ok hf r)
      have i1 : IntKind.i64.wrap (h.count - 1) = h.count - 1 := IntWalk.i64_in _ (by omega)
      clear Hfi hd hf hs hv hpl
      generalize (findR m h d slot).1 = L at *
      generalize pageS d slot = pg at *
      generalize idxS d slot = ix at *
      go_enter Tryd.func41, Tryd.ntmps41
      go_upto_region 1 with (fail)
      refine wp_name (fun w0 => Ext w w0 ∧ HdAt w0 w.heap.size h ∧ DsAt w0 (w.heap.size + 1) d ∧ Blk w0 (w.heap.size + 1 + 1) (.cells #[.int .i64 0, .int .i64 0, .int .i64 0, .int .i64 0, .int .i64 0, .int .i64 0, .int .i64 0] 24)) (hd_ds_cl w h d _ _) ?_
      rintro w0 ⟨he0, hb1, hb2, hbr⟩
      go_upto_region 7 with (first
        | (refine wpList_ds rfl (.tmp 6) rfl _ rfl d hb2 ?_) | (refine wpList_hd rfl (.tmp 5) rfl _ rfl h hb1 ?_)
        | (go_at_call 67; refine (Hop.out _).mono ?_; rintro e w1 ⟨rfl, he1⟩)
        | (refine wpList_put rfl 122 (.tmp 11) (.tmp 21) rfl _ (rcCells (mV p n cap) h d) rfl rfl _ _ (Blk.new w1 _) rcSize rfl (rc_one p n cap h d) ?_; intro w3 hb3 hc3; have he3 := hc3.ext (Ext.alloc w1 _) (Nat.le_refl _))
        | (refine wpList_row rfl 122 (.tmp 11) rfl _ rfl _ _ _ hb3 rcDesc rfl rcSize ?_)
        | (go_at_call 76; refine (Hfi2.out _ ((he0.trans he1).trans he3)).mono ?_; rintro e w4 ⟨q, cq, rfl, he4, hi1, hi2, hp1, hp2, hown⟩))
      have hE14 := (he1.trans he3).trans he4
      have hE03 := (he0.trans he1).trans he3
      have hwb := Nat.lt_of_lt_of_le (Blk.lt hb2) (he1.trans he3).size
      have hwz := hE03.size
      have hrb3 := Nat.lt_of_lt_of_le (Blk.lt hbr) (he1.trans he3).size
      refine wp_name (fun w4 => Ext w w4 ∧ HdAt w4 w.heap.size h ∧ Blk w4 (w.heap.size + 1 + 1) (.cells #[.int .i64 0, .int .i64 0, .int .i64 0, .int .i64 0, .int .i64 0, .int .i64 0, .int .i64 0] 24) ∧ Blk w4 w1.heap.size (.cells (rcCells (mV p n cap) h d) 122) ∧ w4.ownsRow w3.heap.size 131 2 (.slice q L.length cq) L.length (slotCells L)) ⟨he0.trans hE14, hb1.ext hE14, hE14.blk _ _ hbr, he4.blk _ _ hb3, hown⟩ ?_
      clear hb1 hb2 hbr hb3 hown he0 he1 he3 he4 hE14 hE03 hc3
      generalize w1.heap.size = cb at *
      generalize w3.heap.size = B3 at *
      rintro w4 ⟨he4, hb1, hbr, hb3, hown⟩
      have c1 : w4.cell? ⟨w.heap.size, 1, none⟩ = some (.int .i64 h.count) := Blk.val hb1 1 _ rfl
      have f1 : w4.frozen? ⟨w.heap.size, 1, none⟩ = false := Blk.free hb1 1
      go_upto_region 8 with (fail)
      have hcx : Chg w.heap.size w4 (w4.setCell ⟨w.heap.size, 1, none⟩ (.int .i64 (h.count - 1))) := Chg.setCell
      have hbx : HdAt (w4.setCell ⟨w.heap.size, 1, none⟩ (.int .i64 (h.count - 1))) w.heap.size { h with count := h.count - 1 } := Blk.setCell hb1
      obtain ⟨H, hH⟩ : ∃ H : Hd, H = { h with count := h.count - 1 } := ⟨_, rfl⟩
      rw [← hH] at hbx HG
      refine wp_name (fun w5 => Ext w w5 ∧ HdAt w5 w.heap.size H ∧ Blk w5 (w.heap.size + 1 + 1) (.cells #[.int .i64 0, .int .i64 0, .int .i64 0, .int .i64 0, .int .i64 0, .int .i64 0, .int .i64 0] 24) ∧ Blk w5 cb (.cells (rcCells (mV p n cap) h d) 122) ∧ w5.ownsRow B3 131 2 (.slice q L.length cq) L.length (slotCells L)) ⟨hcx.ext he4 (Nat.le_refl _), hbx, hcx.blk hbr (by omega), hcx.blk hb3 (blk_ne hb3 hb1 (by decide)), own_chgT hown (by decide) hb1 hcx⟩ ?_
      clear hb1 hbr hb3 hown he4 hcx hbx c1 f1 hH
      rintro w5 ⟨he5, hb1, hbr, hb3, hown⟩
      obtain ⟨g, rfl, hg1, hg2, hf1, hf2, hc1, hc2, hset⟩ := own_setS hown ix hi1
      obtain ⟨hown6, hcx, cs, hbg⟩ := hset false []
      have hixI : (ix : Int) < L.length := by omega
      go_upto_region 9 with (fail)
      refine wp_name (fun w6 => Ext w w6 ∧ HdAt w6 w.heap.size H ∧ Blk w6 (w.heap.size + 1 + 1) (.cells #[.int .i64 0, .int .i64 0, .int .i64 0, .int .i64 0, .int .i64 0, .int .i64 0, .int .i64 0] 24) ∧ Blk w6 cb (.cells (rcCells (mV p n cap) h d) 122) ∧ Slts w6 (some ⟨g, 0, none⟩) (L.set ix (false, []))) ⟨hcx.ext he5 (by omega), hcx.blk hb1 (blk_ne hb1 hbg (by decide)), hcx.blk hbr (blk_ne hbr hbg (by decide)), hcx.blk hb3 (blk_ne hb3 hbg (by decide)), (by
        obtain ⟨p', c', hv', hsl, _⟩ := own_slts (L := L.set ix (false, [])) (by simpa using hown6)
        simp at hv'
        obtain ⟨rfl, _⟩ := hv'
        exact hsl)⟩ ?_
      clear hb1 hbr hb3 hown he5 hcx hset hown6 hbg hf1 hf2 hc1 hc2 hg2
      rintro w6 ⟨he6, hb1, hbr, hb3, hsl⟩
      have HL : Hid (setS L ix (false, []) = L.set ix (false, [])) := Lib.hid (by unfold setS; rw [show ix + 1 - L.length = 0 by omega]; simp)
      have Hwr := Lib.hid (fun w' (he : Ext w6 w') => write_any (mV p n cap) h d pg (some ⟨g, 0, none⟩) cq L.length (L.set ix (false, [])) (by simp) (by omega) w' (hsl.ext he))
      have HW : Hid (wrS d pg (L.set ix (false, [])) = (pg, esStr d.interval d.length (L.set ix (false, [])))) := Lib.hid rfl
      rw [HL.out, HW.out] at HG
      generalize esStr d.interval d.length (L.set ix (false, [])) = es at *
      have HEx := Lib.hid he6
      have HbV := Lib.hid hb1
      have HbR := Lib.hid hbr
      have HbC := Lib.hid hb3
      clear hsl he6 hb1 hbr hb3 HW HL
      refine Pre.wp_region_pk 7 [(6, [(0, 47)])] (HEx.out) (by kernel_rfl) (by kernel_rfl) (by kernel_rfl) (by kernel_rfl) (by kernel_rfl) (by kernel_rfl) (gok_ret (w.heap.size + 1 + 1) w (by omega) #[.int .i64 H.applied, .int .i64 H.count, .int .i64 H.fin, .int .i64 H.root, .int .i64 H.height, .int .i64 H.splits, .int .i64 H.areas] _ (.agg #[.int .i64 H.applied, .int .i64 H.count, .int .i64 H.fin, .int .i64 H.root, .int .i64 H.height, .int .i64 H.splits, .int .i64 H.areas]) 6 47 (by kernel_rfl)) (fun _ => prok_ret (w3 := w6)) (fun p hp => Ext.refl w6) ?_
      simp only [List.take_succ_cons, List.take_zero, List.take_nil, List.drop_succ_cons, List.drop_zero, List.drop_nil, List.map_cons, List.map_nil]
      repeat (first
        | (refine Pre.wpPL_step (o := ⟨some 47, _, _, _, _, _⟩) (LdF (w.heap.size + 1 + 1) (.agg #[.int .i64 H.applied, .int .i64 H.count, .int .i64 H.fin, .int .i64 H.root, .int .i64 H.height, .int .i64 H.splits, .int .i64 H.areas])) (LdF.stable _ _) (keepR (.inl (by kernel_rfl))) (by kernel_rfl) (by first | exact .inl rfl | exact .inr ⟨_, _, _, rfl, rfl, rfl⟩) ?_ ?_
           · intro a w' he0 hp hr K hK
             have he := hp 6 (by kernel_rfl) (by kernel_rfl)
             simp [Reads, Oper.looksAt, Op.operands, Call.operands, factAt, Is] at hr
             exact wp_load_row 24 (.tmp 5) rfl (w.heap.size) (by go_simp) _ _ _ _ (Ext.blk he _ _ HbV.out) hdDesc rfl hdSize (hK _ _ (Ext.refl _) ⟨rfl, _, Ext.blk he _ _ HbR.out, rfl⟩)
           simp only [setL, List.set_cons_succ, List.set_cons_zero])
        | (refine Pre.wpPL_det (o := ⟨some 48, _, _, _, _, _⟩) (v := .agg (rcCells (mV p n cap) h d)) (fun k v => Pre.KeepsP.is _ _ _ _ k v) (by kernel_rfl) (by first | exact .inl rfl | exact .inr ⟨_, _, _, rfl, rfl, rfl⟩) ?_ ?_
           · intro a w' he0 hp hr K hK
             have he := hp 6 (by kernel_rfl) (by kernel_rfl)
             simp [Reads, Oper.looksAt, Op.operands, factAt, Is] at hr
             exact wp_load_row 122 (.tmp 11) rfl (cb) (by go_simp) _ _ _ _ (Ext.blk he _ _ HbC.out) rcDesc rfl rcSize (hK _ (Ext.refl _))
           simp only [setL, List.set_cons_succ, List.set_cons_zero])
        | (refine Pre.wpPL_step (o := ⟨some 52, _, _, _, _, _⟩) (Fresh 1 1 (.cells #[.int .i64 pg, .string ⟨es.toArray⟩] 72)) (Fresh.stable _ _ _) (keepR (.inr fun v w w' c ⟨b, h1, h2⟩ => ⟨b, h1, rh_type c h2 (by decide)⟩)) (by kernel_rfl) (by first | exact .inl rfl | exact .inr ⟨_, _, _, rfl, rfl, rfl⟩) ?_ ?_
           · intro a w' he0 hp hr K hK
             simp [Reads, Oper.looksAt, Op.operands, Call.operands, factAt, Is] at hr
             go_simp
             exact hK _ _ (Ext.alloc _ _) (Fresh.new _ _ _ _)
           simp only [setL, List.set_cons_succ, List.set_cons_zero])
        | (refine Pre.wpPL_pivot (o := ⟨none, _, _, _, _, _⟩) Any Any.stable (fun _ _ => .inr fun _ _ _ _ h => h) (by kernel_rfl) (by first | exact .inl rfl | exact .inr ⟨_, _, _, rfl, rfl, rfl⟩) ?_ ?_
           · intro a w' he0 hp hr K hK
             have h0 := hr 8 (by simp [Oper.looksAt, Op.operands])
             obtain ⟨h1, old, hk1, hk2⟩ := hr 47 (by simp [Oper.looksAt, Op.operands])
             refine wp_store_row 24 (.tmp 8) (.tmp 47) rfl (w.heap.size + 1 + 1) #[.int .i64 H.applied, .int .i64 H.count, .int .i64 H.fin, .int .i64 H.root, .int .i64 H.height, .int .i64 H.splits, .int .i64 H.areas] h0 h1 _ old hk1 hdSize (by rw [hk2]; rfl) (hd_one H) ?_
             exact hK _ _ ⟨⟨_, hk1⟩, Chg.setRow⟩ trivial (fun x hx hxi y hy => by simp at hx; subst hx; simp at hy; subst hy; exact ⟨h1, Blk.setRow hk1⟩)
           simp only [setL, List.set_cons_succ, List.set_cons_zero])
        | (refine Pre.wpPL_move _ _ (by kernel_rfl) (by first | exact .inl rfl | exact .inr ⟨_, _, _, rfl, rfl, rfl⟩) (by first | exact .inl rfl | exact .inr rfl) rfl (by first | exact Is.stable _ | exact RowsF.stable _ _ _ _ _ | exact NoneF.stable _ _ | exact Fresh.stable _ _ _ | exact AppF.stable _ | exact WrF.stable _ | exact PtrF.stable _ _ | exact PlF.stable _ _) (by first | exact Pre.KeepsP.is _ _ _ _ _ _ ) ?_
           simp only [setL, List.set_cons_succ, List.set_cons_zero, List.getD_cons_succ, List.getD_cons_zero])
        | (apply Pre.wpPL_det (fun k v => Pre.KeepsP.is _ _ _ _ k v) (by kernel_rfl) (by first | exact .inl rfl | exact .inr ⟨_, _, _, rfl, rfl, rfl⟩)
           · intro a w' he0 hp hr K hK
             have he := hp 6 (by kernel_rfl) (by kernel_rfl)
             simp [Reads, Oper.looksAt, Op.operands, Call.operands, factAt, Is] at hr
             have hx := he.cell
             go_simp
             try go_bits
             try (rw [if_neg (by omega)]; go_simp)
             first
               | exact hK _ (Ext.refl _)
               | (refine (Hwr.out _ he).mono ?_; rintro e w'' ⟨rfl, he'⟩; exact hK _ he')
           simp only [setL, List.set_cons_succ, List.set_cons_zero]))
      intro w2 he2
      simp only [killL, killIn, List.foldl_cons, List.foldl_nil, List.set_cons_succ, List.set_cons_zero]
      repeat (first | with_reducible refine rest_is _ _ _ _ ?_ | (with_reducible refine rest_fact _ _ _ _ ?_; intro _ _) | with_reducible refine rest_end _ _ ?_)
      simp only [List.reverse_cons, List.reverse_nil, List.nil_append, List.cons_append]
      rename_i x47 h47 x52 h52
      obtain ⟨rfl, hbn⟩ := h47
      obtain ⟨b, rfl, hbw⟩ := h52
      go_wp2_with fail
      exact bodyPost_ret (results_row2 Tryd.results41 _ _ _ _ _ _ rfl hbn hdDesc rfl hdSize) rfl (relOut_yes he2 HG.out rfl (wrts_one hbw))
    · have HG : Hid (eraseR m h d slot = .no (findR m h d slot).2) := Lib.hid (by unfold eraseR; rw [if_neg (by simp [hd]), if_pos hf])
      have Hfi2 := Lib.hid (fun w' (he : Ext w w') => (Hfi.out w' he).mono fun e w'' r => rfind_err hf r)
      have hfI : ((findR m h d slot).2 != 0) = true := by simpa using hf
      clear Hfi hd hf
      generalize (findR m h d slot).2 = er at *
      go_enter Tryd.func41, Tryd.ntmps41
      go_upto_region 1 with (fail)
      refine wp_name (fun w0 => Ext w w0 ∧ HdAt w0 w.heap.size h ∧ DsAt w0 (w.heap.size + 1) d ∧ Blk w0 (w.heap.size + 1 + 1) (.cells #[.int .i64 0, .int .i64 0, .int .i64 0, .int .i64 0, .int .i64 0, .int .i64 0, .int .i64 0] 24)) (hd_ds_cl w h d _ _) ?_
      rintro w0 ⟨he0, hb1, hb2, hbr⟩
      go_wp2_with (first
        | (refine wpList_ds rfl (.tmp 6) rfl _ rfl d hb2 ?_) | (refine wpList_hd rfl (.tmp 5) rfl _ rfl h hb1 ?_)
        | (go_at_call 67; refine (Hop.out _).mono ?_; rintro e w1 ⟨rfl, he1⟩)
        | (refine wpList_put rfl 122 (.tmp 11) (.tmp 21) rfl _ (rcCells (mV p n cap) h d) rfl rfl _ _ (Blk.new w1 _) rcSize rfl (rc_one p n cap h d) ?_; intro w3 hb3 hc3; have he3 := hc3.ext (Ext.alloc w1 _) (Nat.le_refl _))
        | (refine wpList_row rfl 122 (.tmp 11) rfl _ rfl _ _ _ hb3 rcDesc rfl rcSize ?_)
        | (go_at_call 76; refine (Hfi2.out _ ((he0.trans he1).trans he3)).mono ?_; rintro e w4 ⟨a, q, k, cq, i, rfl, he4⟩; have hbr4 := ((he1.trans he3).trans he4).blk _ _ hbr)
        | (refine wpList_put rfl 24 (.tmp 8) (.tmp 37) rfl _ #[.int .i64 0, .int .i64 0, .int .i64 0, .int .i64 0, .int .i64 0, .int .i64 0, .int .i64 0] rfl rfl _ _ hbr4 hdSize rfl (hd_one Hd.zero) ?_; intro w5 hb5 hc5))
      exact bodyPost_ret (results_row2 Tryd.results41 _ _ _ _ _ _ rfl hb5 hdDesc rfl hdSize) rfl (relOut_no (hc5.ext (((he0.trans he1).trans he3).trans he4) (by omega)) HG.out)
  · have Hop := Lib.hid (fun w => ropen_err p n cap h d hd w)
    have HG : Hid (eraseR m h d slot = .no (doorOf h d 2)) := Lib.hid (by unfold eraseR; rw [if_pos hd])
    have hdI : (doorOf h d 2 != 0) = true := by simpa using hd
    clear hd
    generalize doorOf h d 2 = er at *
    go_enter Tryd.func41, Tryd.ntmps41
    go_upto_region 1 with (fail)
    refine wp_name (fun w0 => Ext w w0 ∧ HdAt w0 w.heap.size h ∧ DsAt w0 (w.heap.size + 1) d ∧ Blk w0 (w.heap.size + 1 + 1) (.cells #[.int .i64 0, .int .i64 0, .int .i64 0, .int .i64 0, .int .i64 0, .int .i64 0, .int .i64 0] 24)) (hd_ds_cl w h d _ _) ?_
    rintro w0 ⟨he0, hb1, hb2, hbr⟩
    go_wp2_with (first
      | (refine wpList_ds rfl (.tmp 6) rfl _ rfl d hb2 ?_) | (refine wpList_hd rfl (.tmp 5) rfl _ rfl h hb1 ?_)
      | (go_at_call 67; refine (Hop.out _).mono ?_; rintro e w1 ⟨rfl, he1⟩)
      | (refine wpList_put rfl 122 (.tmp 11) (.tmp 21) rfl _ rcZero rfl rfl _ _ (Blk.new w1 _) rcSize rfl rcZero_one ?_; intro w3 hb3 hc3; have he3 := hc3.ext (Ext.alloc w1 _) (Nat.le_refl _); have hbr4 := (he1.trans he3).blk _ _ hbr)
      | (refine wpList_put rfl 24 (.tmp 8) (.tmp 25) rfl _ #[.int .i64 0, .int .i64 0, .int .i64 0, .int .i64 0, .int .i64 0, .int .i64 0, .int .i64 0] rfl rfl _ _ hbr4 hdSize rfl (hd_one Hd.zero) ?_; intro w5 hb5 hc5))
    exact bodyPost_ret (results_row2 Tryd.results41 _ _ _ _ _ _ rfl hb5 hdDesc rfl hdSize) rfl (relOut_no (hc5.ext ((he0.trans he1).trans he3) (by omega)) HG.out)
end Go.Proofs.YtjgdhlpnpihkdaaDoor
