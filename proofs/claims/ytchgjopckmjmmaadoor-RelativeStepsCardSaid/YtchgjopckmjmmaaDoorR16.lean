/- The walk of the law RelativeWrites. -/
import Derived.Test.YtchgjopckmjmmaaDoorR15
import Derived.Test.YtchgjopckmjmmaaDoorR14
set_option linter.unusedSimpArgs false
set_option linter.unusedVariables false
namespace Go.Proofs.YtchgjopckmjmmaaDoor
open Go.RowKit Dsd

theorem putR_few (m : List (List UInt8)) (h : Hd) (d : DS) (slot : Int) (r : List UInt8) (hs : 0 ≤ h.fin ∨ True) : (putR m h d slot r).w.length ≤ 1000 := by
  unfold putR
  split
  · simp [RelRes.no]
  · split
    · simp [RelRes.no]
    · split
      · simp [RelRes.no]
      · split
        · split
          · simp [RelRes.no]
          · simp
        · simp [freshS_len]; omega
theorem eraseR_few (m : List (List UInt8)) (h : Hd) (d : DS) (slot : Int) : (eraseR m h d slot).w.length ≤ 1000 := by
  unfold eraseR
  split
  · simp [RelRes.no]
  · split
    · simp [RelRes.no]
    · simp
/-- What Put and Erase hand back, its parts named. -/
theorem relOut_parts {H : Hd} {L : List (Int × List UInt8)} {c : Int} {w w' : World} {e : Ending} (h : RelOut ⟨H, L, c⟩ w e w') : ∃ q cc, e = .returned (.tuple #[.agg #[.int .i64 H.applied, .int .i64 H.count, .int .i64 H.fin, .int .i64 H.root, .int .i64 H.height, .int .i64 H.splits, .int .i64 H.areas], .slice q L.length cc, .int .i64 c]) ∧ Ext w w' ∧ Wrts w' q L := relOut_val rfl h

set_option maxRecDepth 100000 in
set_option maxHeartbeats 4000000 in
theorem RelativeWrites_any (p : Option Addr) (cap n : Nat) (m : List (List UInt8)) (h : Hd) (d : DS) (slot : Int) (r : List UInt8) (w : World) (hs : Strs w p m) (hn : m.length = n) (hcap : n ≤ cap) (hcm : cap ≤ maxLen) (hrm : r.length ≤ maxLen) :
    Calls Tryd.prog 5 #[.slice p n cap, .agg #[.int .i64 h.applied, .int .i64 h.count, .int .i64 h.fin, .int .i64 h.root, .int .i64 h.height, .int .i64 h.splits, .int .i64 h.areas], .agg #[.int .i64 d.id, .int .i64 d.org, .int .i64 d.format, .int .i64 d.length, .int .i64 d.block, .int .i64 d.keyAt, .int .i64 d.keyLength, .int .i64 d.interval, .int .i64 d.area, .int .i64 d.freeInterval, .int .i64 d.freeArea, .int .i64 d.base, .int .i64 d.altAt, .int .i64 d.altLength, .bool d.unique, .int .i64 d.cls, .string ⟨d.volume.toArray⟩, .string ⟨d.owner.toArray⟩, .int .i64 d.created, .int .i64 d.expires, .bool d.archived], .int .i64 slot, .string ⟨r.toArray⟩] w fun e w' => e = .returned (.bool true) ∧ Ext w w' := by
  unfold maxLen at hrm
  have Hsm := Lib.hid (fun w h => Small_any p cap n m 12 w h hn (by have := hcm; omega))
  have Hs := Lib.hid hs
  clear hs
  cases hsh : shortB m 12 600
  · rw [hsh] at Hsm
    go_enter Tryd.func5, Tryd.ntmps5
    go_upto_region 1 with (fail)
    refine wp_name (fun w0 => Ext w w0) ((Ext.alloc _ _).trans (Ext.alloc _ _)) ?_
    intro w0 he0
    go_wp2_with (first
      | (go_at_call 12; refine (awake19_any _).mono ?_; rintro e w1 ⟨rfl, he1⟩)
      | (go_at_call 22; refine (Hsm.out _ (Hs.out.ext (he0.trans he1))).mono ?_; rintro e w2 ⟨rfl, rfl⟩))
    go_ret
    exact ⟨rfl, he0.trans he1⟩
  · have hm := short_small hsh (by omega)
    rw [hsh] at Hsm
    by_cases hrl : 300 < r.length
    · have hrI : decide ((300 : Int) < r.length) = true := decide_eq_true (by omega)
      have hrN : decide (300 < r.length) = true := decide_eq_true hrl
      go_enter Tryd.func5, Tryd.ntmps5
      go_upto_region 1 with (fail)
      refine wp_name (fun w0 => Ext w w0) ((Ext.alloc _ _).trans (Ext.alloc _ _)) ?_
      intro w0 he0
      go_wp2_with (first
        | (go_at_call 12; refine (awake19_any _).mono ?_; rintro e w1 ⟨rfl, he1⟩)
        | (go_at_call 22; refine (Hsm.out _ (Hs.out.ext (he0.trans he1))).mono ?_; rintro e w2 ⟨rfl, rfl⟩))
      go_ret
      exact ⟨rfl, he0.trans he1⟩
    · have hrI : decide ((300 : Int) < r.length) = false := decide_eq_false (by omega)
      have hrN : decide (300 < r.length) = false := decide_eq_false hrl
      have hf1 := putR_few m h d slot r (.inr trivial)
      have hf2 := eraseR_few m h d slot
      have HA1 := Lib.hid (fun w' (e : Ext w w') => rput_any p cap n m h d slot r w' (Hs.out.ext e) hn hm (by omega))
      have HA2 := Lib.hid (fun w' (e : Ext w w') => put_ref19 p cap n m h d slot r w' (Hs.out.ext e) hn hm (by omega))
      have HR1 := Lib.hid (fun w' (e : Ext w w') => rerase_any p cap n m h d slot w' (Hs.out.ext e) hn hm)
      have HR2 := Lib.hid (fun w' (e : Ext w w') => erase_ref19 p cap n m h d slot w' (Hs.out.ext e) hn hm)
      generalize putR m h d slot r = RA at *
      generalize eraseR m h d slot = RB at *
      obtain ⟨G, WA, EA⟩ := RA
      obtain ⟨G2, WR, ER⟩ := RB
      simp only at hf1 hf2
      have hE : ∀ W, (Op.equalIn 10000 28 (.agg #[.int .i64 G.applied, .int .i64 G.count, .int .i64 G.fin, .int .i64 G.root, .int .i64 G.height, .int .i64 G.splits, .int .i64 G.areas]) (.agg #[.int .i64 G.applied, .int .i64 G.count, .int .i64 G.fin, .int .i64 G.root, .int .i64 G.height, .int .i64 G.splits, .int .i64 G.areas])).run Tryd.prog W = .ok true W := fun W => by rw [hd_equal]; simp
      have hE2 : ∀ W, (Op.equalIn 10000 28 (.agg #[.int .i64 G2.applied, .int .i64 G2.count, .int .i64 G2.fin, .int .i64 G2.root, .int .i64 G2.height, .int .i64 G2.splits, .int .i64 G2.areas]) (.agg #[.int .i64 G2.applied, .int .i64 G2.count, .int .i64 G2.fin, .int .i64 G2.root, .int .i64 G2.height, .int .i64 G2.splits, .int .i64 G2.areas])).run Tryd.prog W = .ok true W := fun W => by rw [hd_equal]; simp
      have hGd := hdGuard
      go_enter Tryd.func5, Tryd.ntmps5
      go_upto_region 1 with (fail)
      refine wp_name (fun w0 => Ext w w0 ∧ HdAt w0 w.heap.size h ∧ DsAt w0 (w.heap.size + 1) d) (hd_ds w h d) ?_
      rintro w0 ⟨he0, hb1, hb2⟩
      go_upto_region 6 with (first
        | (go_at_call 12; refine (awake19_any _).mono ?_; rintro e w1 ⟨rfl, he1⟩)
        | (go_at_call 22; refine (Hsm.out _ (Hs.out.ext (he0.trans he1))).mono ?_; rintro e w2 ⟨rfl, rfl⟩))
      refine wp_name (fun w2 => Ext w w2 ∧ HdAt w2 w.heap.size h ∧ DsAt w2 (w.heap.size + 1) d) ⟨he0.trans he1, hb1.ext he1, hb2.ext he1⟩ ?_
      clear hb1 hb2 he0 he1
      rintro w2 ⟨he2, hb1, hb2⟩
      go_upto_region 7 with (first
        | (refine wpList_ds rfl (.tmp 7) rfl _ rfl d hb2 ?_) | (refine wpList_hd rfl (.tmp 6) rfl _ rfl h hb1 ?_)
        | (go_at_call 15; refine (HA1.out _ he2).mono ?_; rintro e w3 h3; obtain ⟨q1, c1, rfl, he3, hw1⟩ := relOut_parts h3; clear h3)
        | (refine wpList_put rfl 28 (.tmp 12) (.tmp 43) rfl _ #[.int .i64 G.applied, .int .i64 G.count, .int .i64 G.fin, .int .i64 G.root, .int .i64 G.height, .int .i64 G.splits, .int .i64 G.areas] rfl rfl _ _ (Blk.new w3 _) hdSize rfl (hd_one G) ?_; intro w4 hb4 hc4))
      have he4 : Ext w3 w4 := hc4.ext (Ext.alloc _ _) (Nat.le_refl _)
      refine wp_name (fun w5 => Ext w w5 ∧ HdAt w5 w.heap.size h ∧ DsAt w5 (w.heap.size + 1) d ∧ HdAt w5 w3.heap.size G ∧ Wrts w5 q1 WA) ⟨(he2.trans he3).trans he4, hb1.ext (he3.trans he4), hb2.ext (he3.trans he4), hb4, hw1.ext he4⟩ ?_
      generalize w3.heap.size = g1 at *
      clear hb1 hb2 he2 he3 he4 hb4 hc4 hw1
      rintro w5 ⟨he5, hb1, hb2, hb4, hw1⟩
      go_upto_region 8 with (first
        | (refine wpList_ds rfl (.tmp 7) rfl _ rfl d hb2 ?_) | (refine wpList_hd rfl (.tmp 6) rfl _ rfl h hb1 ?_)
        | (go_at_call 18; refine (HA2.out _ he5).mono ?_; rintro e w3 h3; obtain ⟨q2, c2, rfl, he3, hw2⟩ := relOut_parts h3; clear h3)
        | (refine wpList_put rfl 28 (.tmp 15) (.tmp 53) rfl _ #[.int .i64 G.applied, .int .i64 G.count, .int .i64 G.fin, .int .i64 G.root, .int .i64 G.height, .int .i64 G.splits, .int .i64 G.areas] rfl rfl _ _ (Blk.new w3 _) hdSize rfl (hd_one G) ?_; intro w4 hb6 hc4))
      have he4 : Ext w3 w4 := hc4.ext (Ext.alloc _ _) (Nat.le_refl _)
      refine wp_name (fun w6 => Ext w w6 ∧ HdAt w6 w.heap.size h ∧ DsAt w6 (w.heap.size + 1) d ∧ HdAt w6 g1 G ∧ Wrts w6 q1 WA ∧ HdAt w6 w3.heap.size G ∧ Wrts w6 q2 WA) ⟨(he5.trans he3).trans he4, hb1.ext (he3.trans he4), hb2.ext (he3.trans he4), hb4.ext (he3.trans he4), hw1.ext (he3.trans he4), hb6, hw2.ext he4⟩ ?_
      generalize w3.heap.size = g2 at *
      clear hb1 hb2 he5 he3 he4 hb4 hc4 hw1 hw2 hb6
      rintro w6 ⟨he6, hb1, hb2, hb4, hw1, hb6, hw2⟩
      go_upto_region 9 with (first
        | (refine wpList_ds rfl (.tmp 7) rfl _ rfl d hb2 ?_) | (refine wpList_hd rfl (.tmp 6) rfl _ rfl h hb1 ?_)
        | (go_at_call 23; refine (HR1.out _ he6).mono ?_; rintro e w3 h3; obtain ⟨q3, c3, rfl, he3, hw3⟩ := relOut_parts h3; clear h3)
        | (refine wpList_put rfl 28 (.tmp 18) (.tmp 63) rfl _ #[.int .i64 G2.applied, .int .i64 G2.count, .int .i64 G2.fin, .int .i64 G2.root, .int .i64 G2.height, .int .i64 G2.splits, .int .i64 G2.areas] rfl rfl _ _ (Blk.new w3 _) hdSize rfl (hd_one G2) ?_; intro w4 hb7 hc4))
      have he4 : Ext w3 w4 := hc4.ext (Ext.alloc _ _) (Nat.le_refl _)
      refine wp_name (fun w7 => Ext w w7 ∧ HdAt w7 w.heap.size h ∧ DsAt w7 (w.heap.size + 1) d ∧ HdAt w7 g1 G ∧ Wrts w7 q1 WA ∧ HdAt w7 g2 G ∧ Wrts w7 q2 WA ∧ HdAt w7 w3.heap.size G2 ∧ Wrts w7 q3 WR) ⟨(he6.trans he3).trans he4, hb1.ext (he3.trans he4), hb2.ext (he3.trans he4), hb4.ext (he3.trans he4), hw1.ext (he3.trans he4), hb6.ext (he3.trans he4), hw2.ext (he3.trans he4), hb7, hw3.ext he4⟩ ?_
      generalize w3.heap.size = g3 at *
      clear hb1 hb2 he6 he3 he4 hb4 hc4 hw1 hw2 hb6 hw3 hb7
      rintro w7 ⟨he7, hb1, hb2, hb4, hw1, hb6, hw2, hb7, hw3⟩
      go_upto_region 10 with (first
        | (refine wpList_ds rfl (.tmp 7) rfl _ rfl d hb2 ?_) | (refine wpList_hd rfl (.tmp 6) rfl _ rfl h hb1 ?_)
        | (go_at_call 19; refine (HR2.out _ he7).mono ?_; rintro e w3 h3; obtain ⟨q4, c4, rfl, he3, hw4⟩ := relOut_parts h3; clear h3)
        | (refine wpList_put rfl 28 (.tmp 21) (.tmp 72) rfl _ #[.int .i64 G2.applied, .int .i64 G2.count, .int .i64 G2.fin, .int .i64 G2.root, .int .i64 G2.height, .int .i64 G2.splits, .int .i64 G2.areas] rfl rfl _ _ (Blk.new w3 _) hdSize rfl (hd_one G2) ?_; intro w4 hb8 hc4))
      have he4 : Ext w3 w4 := hc4.ext (Ext.alloc _ _) (Nat.le_refl _)
      have he34 := he3.trans he4
      refine wp_name (fun wx => Ext w wx ∧ HdAt wx g1 G ∧ HdAt wx g2 G ∧ HdAt wx g3 G2 ∧ HdAt wx w3.heap.size G2 ∧ Wrts wx q1 WA ∧ Wrts wx q2 WA ∧ Wrts wx q3 WR ∧ Wrts wx q4 WR) ⟨he7.trans he34, hb4.ext he34, hb6.ext he34, hb7.ext he34, hb8, hw1.ext he34, hw2.ext he34, hw3.ext he34, hw4.ext he4⟩ ?_
      generalize w3.heap.size = g4 at *
      clear hb1 hb2 hb4 hb6 hb7 hb8 he7 he3 he4 he34 hc4 hw1 hw2 hw3 hw4
      rintro wx ⟨hex, hb4, hb6, hb7, hb8, hw1, hw2, hw3, hw4⟩
      have HC1 := Lib.hid (fun w' (e : Ext wx w') => sameW_same q1 q2 c1 _ c2 _ WA w' (hw1.ext e) (hw2.ext e) rfl rfl (by omega))
      have HC2 := Lib.hid (fun w' (e : Ext wx w') => sameW_same q3 q4 c3 _ c4 _ WR w' (hw3.ext e) (hw4.ext e) rfl rfl (by omega))
      clear hw1 hw2 hw3 hw4
      go_wp2_with (first
        | (refine wpList_hd (o := ⟨some 75, _, _, _, _, _⟩) rfl (.tmp 12) rfl _ rfl G hb4 ?_) | (refine wpList_hd (o := ⟨some 76, _, _, _, _, _⟩) rfl (.tmp 15) rfl _ rfl G hb6 ?_)
        | (go_at_call 20; ((with_reducible refine (HC1.out wx (Ext.refl _)).mono ?_); rintro e wy ⟨rfl, hey⟩; have hb7y := hb7.ext hey; have hb8y := hb8.ext hey))
        | (refine wpList_hd (o := ⟨some 89, _, _, _, _, _⟩) rfl (.tmp 18) rfl _ rfl G2 hb7y ?_) | (refine wpList_hd (o := ⟨some 90, _, _, _, _, _⟩) rfl (.tmp 21) rfl _ rfl G2 hb8y ?_)
        | (go_at_call 20; ((with_reducible refine (HC2.out wy hey).mono ?_); rintro e wz ⟨rfl, hez⟩)))
      go_ret
      exact ⟨rfl, (hex.trans hey).trans hez⟩
end Go.Proofs.YtchgjopckmjmmaaDoor
