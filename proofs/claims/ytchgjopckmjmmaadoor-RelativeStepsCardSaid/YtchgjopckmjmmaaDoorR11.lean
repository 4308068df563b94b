/- The walks of the reference's find, Get, Erase (chapter 19). -/
import Derived.Test.YtchgjopckmjmmaaDoorR10
import Derived.Test.YtchgjopckmjmmaaDoorR6
set_option linter.unusedSimpArgs false
set_option linter.unusedVariables false
namespace Go.Proofs.YtchgjopckmjmmaaDoor
open Go.RowKit Dsd

/-- The reference's find with its door. -/
noncomputable def findE (m : List (List UInt8)) (h : Hd) (d : DS) (slot : Int) : Int := if doorOf h d 2 ≠ 0 then doorOf h d 2 else (findR m h d slot).2
/-- What it hands back. -/
def FindOut19 (m : List (List UInt8)) (h : Hd) (d : DS) (slot : Int) (w : World) (e : Ending) (w' : World) : Prop :=
  Ext w w' ∧ ((findE m h d slot ≠ 0 ∧ ∃ q k c i, e = .returned (.tuple #[.slice q k c, .int .i64 i, .int .i64 (findE m h d slot)])) ∨
    (findE m h d slot = 0 ∧ ∃ q cq, e = .returned (.tuple #[.slice q (findR m h d slot).1.length cq, .int .i64 ((idxS d slot : Nat) : Int), .int .i64 0]) ∧ idxS d slot < (findR m h d slot).1.length ∧ (findR m h d slot).1.length ≤ 127 ∧
      1 ≤ slot ∧ slot ≤ 65536 ∧ w'.ownsRow w.heap.size 103 2 (.slice q (findR m h d slot).1.length cq) (findR m h d slot).1.length (slotCells (findR m h d slot).1)))
theorem find19_no {m : List (List UInt8)} {h : Hd} {d : DS} {slot : Int} {w w' : World} {c i : Int} {q : Option Addr} {k cq : Nat} (he : Ext w w') (hc : findE m h d slot = c) (h0 : c ≠ 0) : FindOut19 m h d slot w (.returned (.tuple #[.slice q k cq, .int .i64 i, .int .i64 c])) w' :=
  ⟨he, .inl ⟨by rw [hc]; exact h0, q, k, cq, i, by rw [hc]⟩⟩
theorem find19_yes {m : List (List UInt8)} {h : Hd} {d : DS} {slot : Int} {L : List Slt} {w w' : World} {q : Option Addr} {cq ix : Nat} (he : Ext w w') (h0 : findE m h d slot = 0) (hr : findR m h d slot = (L, 0)) (hi : idxS d slot = ix) (h1 : ix < L.length) (h2 : L.length ≤ 127) (h3 : 1 ≤ slot) (h4 : slot ≤ 65536)
    (ho : w'.ownsRow w.heap.size 103 2 (.slice q L.length cq) L.length (slotCells L)) : FindOut19 m h d slot w (.returned (.tuple #[.slice q L.length cq, .int .i64 (ix : Int), .int .i64 0])) w' := by
  refine ⟨he, .inr ?_⟩
  rw [hr, hi]
  exact ⟨h0, q, cq, rfl, h1, h2, h3, h4, ho⟩

set_option maxRecDepth 100000 in
set_option maxHeartbeats 1000000 in
theorem find_ref19 (p : Option Addr) (cap n : Nat) (m : List (List UInt8)) (h : Hd) (d : DS) (slot : Int) (w : World) (hs : Strs w p m) (hn : m.length = n) (hm : Small m) :
    Calls Tryd.prog 58 #[.slice p n cap, .agg #[.int .i64 h.applied, .int .i64 h.count, .int .i64 h.fin, .int .i64 h.root, .int .i64 h.height, .int .i64 h.splits, .int .i64 h.areas], .agg #[.int .i64 d.id, .int .i64 d.org, .int .i64 d.format, .int .i64 d.length, .int .i64 d.block, .int .i64 d.keyAt, .int .i64 d.keyLength, .int .i64 d.interval, .int .i64 d.area, .int .i64 d.freeInterval, .int .i64 d.freeArea, .int .i64 d.base, .int .i64 d.altAt, .int .i64 d.altLength, .bool d.unique, .int .i64 d.cls, .string ⟨d.volume.toArray⟩, .string ⟨d.owner.toArray⟩, .int .i64 d.created, .int .i64 d.expires, .bool d.archived], .int .i64 slot] w (FindOut19 m h d slot w) := by
  have Hdo := Lib.hid (fun w => Door_any h d 2 w)
  by_cases hd : doorOf h d 2 = 0
  · have hv := (door_zero hd).1
    rw [hd] at Hdo
    have HF0 : Hid (findE m h d slot = (findR m h d slot).2) := Lib.hid (by unfold findE; rw [if_neg (by simp [hd])])
    by_cases hr : slot < 1 ∨ 65536 < slot
    · have HE : Hid (findE m h d slot = 2) := Lib.hid (by rw [HF0.out]; unfold findR; rw [if_pos hr])
      clear hd hv
      by_cases h1 : slot < 1
      · have h1I : decide (slot < 1) = true := decide_eq_true h1
        clear hr
        go_enter Tryd.func58, Tryd.ntmps58
        go_upto_region 1 with (fail)
        refine wp_name (fun w0 => Ext w w0 ∧ HdAt w0 w.heap.size h ∧ DsAt w0 (w.heap.size + 1) d) (hd_ds w h d) ?_
        rintro w0 ⟨he0, hb1, hb2⟩
        go_wp2_with (first
          | (refine wpList_ds rfl (.tmp 6) rfl _ rfl d hb2 ?_) | (refine wpList_hd rfl (.tmp 5) rfl _ rfl h hb1 ?_)
          | (go_at_call 53; refine (Hdo.out _).mono ?_; rintro e w1 ⟨rfl, he1⟩))
        go_ret3
        exact find19_no (he0.trans he1) HE.out (by decide)
      · have h1I : decide (slot < 1) = false := decide_eq_false h1
        have h2I : decide (65536 < slot) = true := decide_eq_true (by omega)
        clear hr h1
        go_enter Tryd.func58, Tryd.ntmps58
        go_upto_region 1 with (fail)
        refine wp_name (fun w0 => Ext w w0 ∧ HdAt w0 w.heap.size h ∧ DsAt w0 (w.heap.size + 1) d) (hd_ds w h d) ?_
        rintro w0 ⟨he0, hb1, hb2⟩
        go_wp2_with (first
          | (refine wpList_ds rfl (.tmp 6) rfl _ rfl d hb2 ?_) | (refine wpList_hd rfl (.tmp 5) rfl _ rfl h hb1 ?_)
          | (go_at_call 53; refine (Hdo.out _).mono ?_; rintro e w1 ⟨rfl, he1⟩))
        go_ret3
        exact find19_no (he0.trans he1) HE.out (by decide)
    · have h1 : 1 ≤ slot := by omega
      have h2 : slot ≤ 65536 := by omega
      have h1I : decide (slot < 1) = false := decide_eq_false (by omega)
      have h2I : decide (65536 < slot) = false := decide_eq_false (by omega)
      obtain ⟨_, _, a3, a4, a5, a6⟩ := place_go hv h1 h2
      have Hpl := Lib.hid (fun w => place_ref d hv slot h1 h2 w)
      by_cases hpf : h.fin < pageS d slot
      · have hpI : decide (h.fin < pageS d slot) = true := decide_eq_true hpf
        have HE : Hid (findE m h d slot = 6) := Lib.hid (by rw [HF0.out]; unfold findR; rw [if_neg hr, if_pos hpf])
        clear hr h1 h2 hd hv
        generalize pageS d slot = pg at *
        generalize idxS d slot = ix at *
        go_enter Tryd.func58, Tryd.ntmps58
        go_upto_region 1 with (fail)
        refine wp_name (fun w0 => Ext w w0 ∧ HdAt w0 w.heap.size h ∧ DsAt w0 (w.heap.size + 1) d) (hd_ds w h d) ?_
        rintro w0 ⟨he0, hb1, hb2⟩
        go_wp2_with (first
          | (refine wpList_ds (o := ⟨some 17, _, _, _, _, _⟩) rfl (.tmp 6) rfl _ rfl d hb2 ?_) | (refine wpList_hd rfl (.tmp 5) rfl _ rfl h hb1 ?_)
          | (go_at_call 53; refine (Hdo.out _).mono ?_; rintro e w1 ⟨rfl, he1⟩; have hb21 := hb2.ext he1)
          | (refine wpList_ds (o := ⟨some 29, _, _, _, _, _⟩) rfl (.tmp 6) rfl _ rfl d hb21 ?_)
          | (go_at_call 54; refine (Hpl.out _).mono ?_; rintro e w2 ⟨rfl, he2⟩; have c2 := Blk.val (hb1.ext (he1.trans he2)) 2 _ rfl))
        go_ret3
        exact find19_no ((he0.trans he1).trans he2) HE.out (by decide)
      · have hpI : decide (h.fin < pageS d slot) = false := decide_eq_false hpf
        have Hld := Lib.hid (fun w' (he : Ext w w') => rload_ref p cap n m d (pageS d slot) w' (hs.ext he) hn hm)
        by_cases hl : (loadS m d (pageS d slot)).2 = 0
        · obtain ⟨b1, b2⟩ := rload_len hv hl a6
          have hF : findR m h d slot = if (slotAt (loadS m d (pageS d slot)).1 (idxS d slot)).1 = false then ([], 6) else ((loadS m d (pageS d slot)).1, 0) := by
            unfold findR; rw [if_neg hr, if_neg hpf, if_neg (by simp [hl])]
          have HL : Hid (∀ w', Ext w w' → Calls Tryd.prog 55 #[.slice p n cap, .agg #[.int .i64 d.id, .int .i64 d.org, .int .i64 d.format, .int .i64 d.length, .int .i64 d.block, .int .i64 d.keyAt, .int .i64 d.keyLength, .int .i64 d.interval, .int .i64 d.area, .int .i64 d.freeInterval, .int .i64 d.freeArea, .int .i64 d.base, .int .i64 d.altAt, .int .i64 d.altLength, .bool d.unique, .int .i64 d.cls, .string ⟨d.volume.toArray⟩, .string ⟨d.owner.toArray⟩, .int .i64 d.created, .int .i64 d.expires, .bool d.archived], .int .i64 (pageS d slot)] w' fun e w2 => ∃ q2 c2, e = .returned (.tuple #[.slice q2 (loadS m d (pageS d slot)).1.length c2, .int .i64 0]) ∧ Ext w' w2 ∧ w2.ownsRow w'.heap.size 103 2 (.slice q2 (loadS m d (pageS d slot)).1.length c2) (loadS m d (pageS d slot)).1.length (slotCells (loadS m d (pageS d slot)).1)) :=
            Lib.hid (fun w' he => (Hld.out w' he).mono fun e w2 ⟨he2, hc⟩ => by
              rcases hc with ⟨x, _⟩ | ⟨_, q2, c2, x1, x2⟩
              · exact absurd hl x
              · exact ⟨q2, c2, x1, he2, x2⟩)
          have HF := Lib.hid hF
          have HS1 := Lib.hid h1
          have HS2 := Lib.hid h2
          clear Hld hr h1 h2 hl hF hd hv
          generalize (loadS m d (pageS d slot)).1 = L at *
          obtain ⟨ix, hix⟩ : ∃ ix, ix = idxS d slot := ⟨_, rfl⟩
          rw [← hix] at a5 a6 b1 HF Hpl
          have Hix := Lib.hid hix.symm
          clear hix
          generalize pageS d slot = pg at *
          have hixI : (ix : Int) < L.length := by omega
          go_enter Tryd.func58, Tryd.ntmps58
          go_upto_region 1 with (fail)
          refine wp_name (fun w0 => Ext w w0 ∧ HdAt w0 w.heap.size h ∧ DsAt w0 (w.heap.size + 1) d) (hd_ds w h d) ?_
          rintro w0 ⟨he0, hb1, hb2⟩
          go_upto_region 10 with (first
            | (refine wpList_ds (o := ⟨some 17, _, _, _, _, _⟩) rfl (.tmp 6) rfl _ rfl d hb2 ?_) | (refine wpList_hd rfl (.tmp 5) rfl _ rfl h hb1 ?_)
            | (go_at_call 53; refine (Hdo.out _).mono ?_; rintro e w1 ⟨rfl, he1⟩; have hb21 := hb2.ext he1)
            | (refine wpList_ds (o := ⟨some 29, _, _, _, _, _⟩) rfl (.tmp 6) rfl _ rfl d hb21 ?_)
            | (go_at_call 54; refine (Hpl.out _).mono ?_; rintro e w2 ⟨rfl, he2⟩; have c2 := Blk.val (hb1.ext (he1.trans he2)) 2 _ rfl; have hb22 := hb21.ext he2)
            | (refine wpList_ds (o := ⟨some 40, _, _, _, _, _⟩) rfl (.tmp 6) rfl _ rfl d hb22 ?_)
            | (go_at_call 55; refine (HL.out _ ((he0.trans he1).trans he2)).mono ?_; rintro e w3 ⟨q2, cq2, rfl, he3, hown⟩))
          obtain ⟨g, rfl, hg1, hg2, hf1, hf2, hc1, hc2, _⟩ := own_setS hown ix b1
          have hE2 := (he0.trans he1).trans he2
          have Hown := Lib.hid (own_le hown hE2.size)
          have HEx := Lib.hid (hE2.trans he3)
          clear hown hf1 hf2 hc2 he0 he1 he2 hE2 he3 hb1 hb2 hb21 hb22 c2
          cases hu : (slotAt L ix).1
          · rw [hu] at hc1
            have HE : Hid (findE m h d slot = 6) := Lib.hid (by rw [HF0.out, HF.out, hu]; rfl)
            go_wp2
            go_ret3
            exact find19_no HEx.out HE.out (by decide)
          · rw [hu] at hc1
            have HE : Hid (findR m h d slot = (L, 0)) := Lib.hid (by rw [HF.out, hu]; rfl)
            go_wp2
            go_ret3
            exact find19_yes HEx.out (by rw [HF0.out, HE.out]) HE.out Hix.out b1 b2 HS1.out HS2.out Hown.out
        · have HE : Hid (findE m h d slot = (loadS m d (pageS d slot)).2) := Lib.hid (by rw [HF0.out]; unfold findR; rw [if_neg hr, if_neg hpf, if_pos hl])
          have HL : Hid (∀ w', Ext w w' → Calls Tryd.prog 55 #[.slice p n cap, .agg #[.int .i64 d.id, .int .i64 d.org, .int .i64 d.format, .int .i64 d.length, .int .i64 d.block, .int .i64 d.keyAt, .int .i64 d.keyLength, .int .i64 d.interval, .int .i64 d.area, .int .i64 d.freeInterval, .int .i64 d.freeArea, .int .i64 d.base, .int .i64 d.altAt, .int .i64 d.altLength, .bool d.unique, .int .i64 d.cls, .string ⟨d.volume.toArray⟩, .string ⟨d.owner.toArray⟩, .int .i64 d.created, .int .i64 d.expires, .bool d.archived], .int .i64 (pageS d slot)] w' fun e w2 => e = .returned (.tuple #[.slice none 0 0, .int .i64 (loadS m d (pageS d slot)).2]) ∧ Ext w' w2) :=
            Lib.hid (fun w' he => (Hld.out w' he).mono fun e w2 ⟨he2, hc⟩ => by
              rcases hc with ⟨_, x⟩ | ⟨x, _⟩
              · exact ⟨x, he2⟩
              · exact absurd x hl)
          have hlI : ((loadS m d (pageS d slot)).2 == 0) = false := by simpa using hl
          have Hl := Lib.hid hl
          clear Hld hr h1 h2 hl hd hv
          generalize (loadS m d (pageS d slot)).2 = er at *
          generalize pageS d slot = pg at *
          generalize idxS d slot = ix at *
          go_enter Tryd.func58, Tryd.ntmps58
          go_upto_region 1 with (fail)
          refine wp_name (fun w0 => Ext w w0 ∧ HdAt w0 w.heap.size h ∧ DsAt w0 (w.heap.size + 1) d) (hd_ds w h d) ?_
          rintro w0 ⟨he0, hb1, hb2⟩
          go_wp2_with (first
            | (refine wpList_ds (o := ⟨some 17, _, _, _, _, _⟩) rfl (.tmp 6) rfl _ rfl d hb2 ?_) | (refine wpList_hd rfl (.tmp 5) rfl _ rfl h hb1 ?_)
            | (go_at_call 53; refine (Hdo.out _).mono ?_; rintro e w1 ⟨rfl, he1⟩; have hb21 := hb2.ext he1)
            | (refine wpList_ds (o := ⟨some 29, _, _, _, _, _⟩) rfl (.tmp 6) rfl _ rfl d hb21 ?_)
            | (go_at_call 54; refine (Hpl.out _).mono ?_; rintro e w2 ⟨rfl, he2⟩; have c2 := Blk.val (hb1.ext (he1.trans he2)) 2 _ rfl; have hb22 := hb21.ext he2)
            | (refine wpList_ds (o := ⟨some 40, _, _, _, _, _⟩) rfl (.tmp 6) rfl _ rfl d hb22 ?_)
            | (go_at_call 55; refine (HL.out _ ((he0.trans he1).trans he2)).mono ?_; rintro e w3 ⟨rfl, he3⟩))
          go_ret3
          exact find19_no (((he0.trans he1).trans he2).trans he3) HE.out Hl.out
  · have HE : Hid (findE m h d slot = doorOf h d 2) := Lib.hid (by unfold findE; rw [if_pos hd])
    have hdI : (doorOf h d 2 != 0) = true := by simpa using hd
    have Hd0 := Lib.hid hd
    clear hd
    generalize doorOf h d 2 = er at *
    go_enter Tryd.func58, Tryd.ntmps58
    go_upto_region 1 with (fail)
    refine wp_name (fun w0 => Ext w w0 ∧ HdAt w0 w.heap.size h ∧ DsAt w0 (w.heap.size + 1) d) (hd_ds w h d) ?_
    rintro w0 ⟨he0, hb1, hb2⟩
    go_wp2_with (first
      | (refine wpList_ds rfl (.tmp 6) rfl _ rfl d hb2 ?_) | (refine wpList_hd rfl (.tmp 5) rfl _ rfl h hb1 ?_)
      | (go_at_call 53; refine (Hdo.out _).mono ?_; rintro e w1 ⟨rfl, he1⟩))
    go_ret3
    exact find19_no (he0.trans he1) HE.out Hd0.out
end Go.Proofs.YtchgjopckmjmmaaDoor
