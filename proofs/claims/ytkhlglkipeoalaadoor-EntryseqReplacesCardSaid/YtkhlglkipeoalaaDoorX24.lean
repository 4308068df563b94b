/- The walk of the law EntryseqWrites. -/
import Derived.Test.YtkhlglkipeoalaaDoorX23
set_option linter.unusedSimpArgs false
set_option linter.unusedVariables false
namespace Go.Proofs.YtkhlglkipeoalaaDoor
open Go.RowKit Dsd

theorem short_small {L : List (List UInt8)} {k : Nat} (h : shortB L k 600 = true) (hk : k ≤ 1000) : Small L := by
  unfold shortB at h
  simp at h
  exact ⟨by omega, fun s hs => by have := h.2 s hs; omega⟩
theorem sameW_same (p q : Option Addr) (c n c' n' : Nat) (A : List (Int × List UInt8)) (w : World) (hA : Wrts w p A) (hB : Wrts w q A) (hn : n = A.length) (hn' : n' = A.length) (hl : A.length ≤ 1000000) :
    Calls Tryd.prog 14 #[.slice p n c, .slice q n' c'] w fun e w' => e = .returned (.bool true) ∧ Ext w w' :=
  (SameWrites_any p q c n c' n' A A w hA hB hn.symm hn'.symm hl hl).mono fun e w' ⟨h, hw⟩ => ⟨by rw [h]; simp, Ext.of_drawn hw⟩
theorem ints_same (p q : Option Addr) (c n c' n' : Nat) (A : List Int) (w : World) (hA : Ints w p A) (hB : Ints w q A) (hn : n = A.length) (hn' : n' = A.length) (hl : A.length ≤ 1000000) :
    Calls Tryd.prog 24 #[.slice p n c, .slice q n' c'] w fun e w' => e = .returned (.bool true) ∧ Ext w w' :=
  (Ints_any p q c n c' n' A A w hA hB hn.symm hn'.symm hl hl).mono fun e w' ⟨h, hw⟩ => ⟨by rw [h]; simp, Ext.of_drawn hw⟩
theorem append_few (m : List (List UInt8)) (h : Hd) (d : DS) (r : List UInt8) : (appendOf m h d r).w.length ≤ 1000000 := by
  unfold appendOf
  split
  · simp [AppRes.err]
  · split
    · simp [AppRes.err]
    · split
      · simp [AppRes.err]
      · simp
theorem replace_few (m : List (List UInt8)) (h : Hd) (d : DS) (a : Int) (r : List UInt8) : (replaceOf m h d a r).1.length ≤ 1000000 := by
  unfold replaceOf
  split
  · simp
  · split
    · simp
    · split
      · simp
      · split <;> simp
theorem places_few (m : List (List UInt8)) (h : Hd) (d : DS) (ns : List Int) (hn : ns.length ≤ 1000000) : (placesOf m h d ns).1.length ≤ 1000000 := by
  unfold placesOf
  split
  · simp
  · split
    · simp
    · split
      · simp
      · split
        · simp
        · simpa [plFrom_len] using hn

set_option maxRecDepth 100000 in
set_option maxHeartbeats 4000000 in
theorem EntryseqWrites_any (p : Option Addr) (cap n : Nat) (m : List (List UInt8)) (ql : Option Addr) (c k : Nat) (ns : List Int) (h : Hd) (d : DS) (a : Int) (hwr : ∀ s : Int, 0 < s → IntKind.i64.wrap (a.tdiv s) = a.tdiv s) (r : List UInt8) (w : World) (hs : Strs w p m) (hn : m.length = n) (hcap : n ≤ cap) (hcm : cap ≤ maxLen) (hl : Ints w ql ns) (hk : ns.length = k) (hkm : k ≤ maxLen) (hrm : r.length ≤ maxLen) :
    Calls Tryd.prog 5 #[.slice p n cap, .agg #[.int .i64 h.applied, .int .i64 h.count, .int .i64 h.fin, .int .i64 h.root, .int .i64 h.height, .int .i64 h.splits, .int .i64 h.areas], .agg #[.int .i64 d.id, .int .i64 d.org, .int .i64 d.format, .int .i64 d.length, .int .i64 d.block, .int .i64 d.keyAt, .int .i64 d.keyLength, .int .i64 d.interval, .int .i64 d.area, .int .i64 d.freeInterval, .int .i64 d.freeArea, .int .i64 d.base, .int .i64 d.altAt, .int .i64 d.altLength, .bool d.unique, .int .i64 d.cls, .string ⟨d.volume.toArray⟩, .string ⟨d.owner.toArray⟩, .int .i64 d.created, .int .i64 d.expires, .bool d.archived], .int .i64 a, .string ⟨r.toArray⟩, .slice ql k c] w fun e w' => e = .returned (.bool true) ∧ Ext w w' := by
  unfold maxLen at hkm hrm
  have Hsm := Lib.hid (fun w h => Small_any p cap n m 12 w h hn (by have := hcm; omega))
  have Hs := Lib.hid hs
  have Hl := Lib.hid hl
  clear hs hl
  cases hsh : shortB m 12 600
  · rw [hsh] at Hsm
    go_enter Tryd.func5, Tryd.ntmps5
    go_upto_region 1 with (fail)
    refine wp_name (fun w0 => Ext w w0) ((Ext.alloc _ _).trans (Ext.alloc _ _)) ?_
    intro w0 he0
    go_wp2_with (first | (go_at_call 10; refine (awake_any _).mono ?_; rintro e w1 ⟨rfl, he1⟩) | (go_at_call 20; refine (Hsm.out _ (Hs.out.ext (he0.trans he1))).mono ?_; rintro e w2 ⟨rfl, rfl⟩))
    go_ret
    exact ⟨rfl, he0.trans he1⟩
  · have hm := short_small hsh (by omega)
    rw [hsh] at Hsm
    by_cases hrl : 300 < r.length
    · have hrI : decide ((300 : Int) < r.length) = true := decide_eq_true (by omega)
      have hrN : decide (300 < r.length) = true := decide_eq_true hrl
      go_enter Tryd.func5, Tryd.ntmps5
      go_upto_region 1 with (fail)
      refine wp_name (fun w0 => Ext w w0) ((Ext.alloc _ _).trans (Ext.alloc _ _)) ?_
      intro w0 he0
      go_wp2_with (first | (go_at_call 10; refine (awake_any _).mono ?_; rintro e w1 ⟨rfl, he1⟩) | (go_at_call 20; refine (Hsm.out _ (Hs.out.ext (he0.trans he1))).mono ?_; rintro e w2 ⟨rfl, rfl⟩))
      go_ret
      exact ⟨rfl, he0.trans he1⟩
    · have hrI : decide ((300 : Int) < r.length) = false := decide_eq_false (by omega)
      have hrN : decide (300 < r.length) = false := decide_eq_false hrl
      by_cases hkl : 20 < k
      · have hkI : decide ((20 : Int) < k) = true := decide_eq_true (by omega)
        have hkN : decide (20 < k) = true := decide_eq_true hkl
        go_enter Tryd.func5, Tryd.ntmps5
        go_upto_region 1 with (fail)
        refine wp_name (fun w0 => Ext w w0) ((Ext.alloc _ _).trans (Ext.alloc _ _)) ?_
        intro w0 he0
        go_wp2_with (first | (go_at_call 10; refine (awake_any _).mono ?_; rintro e w1 ⟨rfl, he1⟩) | (go_at_call 20; refine (Hsm.out _ (Hs.out.ext (he0.trans he1))).mono ?_; rintro e w2 ⟨rfl, rfl⟩))
        go_ret
        exact ⟨rfl, he0.trans he1⟩
      · have hkI : decide ((20 : Int) < k) = false := decide_eq_false (by omega)
        have hkN : decide (20 < k) = false := decide_eq_false hkl
        have HA1 := Lib.hid (fun w' (e : Ext w w') => (Append_any p n cap m h d r w' (Hs.out.ext e) hn hm (by omega)).mono (fun e w'' a => appOut_F a))
        have HA2 := Lib.hid (fun w' (e : Ext w w') => (Append_ref p n cap m h d r w' (Hs.out.ext e) hn hm (by omega)).mono (fun e w'' a => appOut_F a))
        have HR1 := Lib.hid (fun w' (e : Ext w w') => Replace_any p n cap m h d a r hwr w' (Hs.out.ext e) hn hm (by omega))
        have HR2 := Lib.hid (fun w' (e : Ext w w') => Replace_ref p n cap m h d a r hwr w' (Hs.out.ext e) hn hm (by omega))
        have HP1 := Lib.hid (fun w' (e : Ext w w') => Places_any p ql n cap k c m h d ns w' (Hs.out.ext e) hn hm (Hl.out.ext e) hk (by omega))
        have HP2 := Lib.hid (fun w' (e : Ext w w') => Places_ref p ql n cap k c m h d ns w' (Hs.out.ext e) hn hm (Hl.out.ext e) hk (by omega))
        have hf1 := append_few m h d r
        have hf2 := replace_few m h d a r
        have hf3 := places_few m h d ns (by omega)
        generalize appendOf m h d r = RA at *
        generalize replaceOf m h d a r = RR at *
        generalize placesOf m h d ns = RP at *
        clear hwr
        obtain ⟨G, WA, AT, EA⟩ := RA
        obtain ⟨WR, ER⟩ := RR
        obtain ⟨AP, EP⟩ := RP
        simp only at hf1 hf2 hf3
        have hE : ∀ W, (Op.equalIn 10000 28 (.agg #[.int .i64 G.applied, .int .i64 G.count, .int .i64 G.fin, .int .i64 G.root, .int .i64 G.height, .int .i64 G.splits, .int .i64 G.areas]) (.agg #[.int .i64 G.applied, .int .i64 G.count, .int .i64 G.fin, .int .i64 G.root, .int .i64 G.height, .int .i64 G.splits, .int .i64 G.areas])).run Tryd.prog W = .ok true W := fun W => by rw [hd_equal]; simp
        have hGd := hdGuard
        go_enter Tryd.func5, Tryd.ntmps5
        go_upto_region 1 with (fail)
        refine wp_name (fun w0 => Ext w w0 ∧ HdAt w0 w.heap.size h ∧ DsAt w0 (w.heap.size + 1) d) (hd_ds w h d) ?_
        rintro w0 ⟨he0, hb1, hb2⟩
        go_upto_region 6 with (first | (go_at_call 10; refine (awake_any _).mono ?_; rintro e w1 ⟨rfl, he1⟩) | (go_at_call 20; refine (Hsm.out _ (Hs.out.ext (he0.trans he1))).mono ?_; rintro e w2 ⟨rfl, rfl⟩))
        refine wp_name (fun w2 => Ext w w2 ∧ HdAt w2 w.heap.size h ∧ DsAt w2 (w.heap.size + 1) d) ⟨he0.trans he1, hb1.ext he1, hb2.ext he1⟩ ?_
        clear hb1 hb2 he0 he1
        rintro w2 ⟨he2, hb1, hb2⟩
        go_upto_region 7 with (first | (refine wpList_ds rfl (.tmp 8) rfl _ rfl d hb2 ?_) | (refine wpList_hd rfl (.tmp 7) rfl _ rfl h hb1 ?_) | (go_at_call 12; refine (HA1.out _ he2).mono ?_; rintro e w3 ⟨v3, rfl, he3, q1, k1, c1, rfl, rfl, hw1⟩) | (refine wpList_put rfl 28 (.tmp 14) (.tmp 53) rfl _ #[.int .i64 G.applied, .int .i64 G.count, .int .i64 G.fin, .int .i64 G.root, .int .i64 G.height, .int .i64 G.splits, .int .i64 G.areas] rfl rfl _ _ (Blk.new w3 _) hdSize rfl (hd_one G) ?_; intro w4 hb4 hc4))
        have he4 : Ext w3 w4 := hc4.ext (Ext.alloc _ _) (Nat.le_refl _)
        refine wp_name (fun w5 => Ext w w5 ∧ HdAt w5 w.heap.size h ∧ DsAt w5 (w.heap.size + 1) d ∧ HdAt w5 w3.heap.size G ∧ Wrts w5 q1 WA) ⟨(he2.trans he3).trans he4, hb1.ext (he3.trans he4), hb2.ext (he3.trans he4), hb4, hw1.ext he4⟩ ?_
        generalize w3.heap.size = g1 at *
        clear hb1 hb2 he2 he3 he4 hb4 hc4 hw1
        rintro w5 ⟨he5, hb1, hb2, hb4, hw1⟩
        go_upto_region 8 with (first | (refine wpList_ds rfl (.tmp 8) rfl _ rfl d hb2 ?_) | (refine wpList_hd rfl (.tmp 7) rfl _ rfl h hb1 ?_) | (go_at_call 13; refine (HA2.out _ he5).mono ?_; rintro e w3 ⟨v3, rfl, he3, q2, k2, c2, rfl, rfl, hw2⟩) | (refine wpList_put rfl 28 (.tmp 18) (.tmp 63) rfl _ #[.int .i64 G.applied, .int .i64 G.count, .int .i64 G.fin, .int .i64 G.root, .int .i64 G.height, .int .i64 G.splits, .int .i64 G.areas] rfl rfl _ _ (Blk.new w3 _) hdSize rfl (hd_one G) ?_; intro w4 hb6 hc4))
        have he4 : Ext w3 w4 := hc4.ext (Ext.alloc _ _) (Nat.le_refl _)
        refine wp_name (fun w6 => Ext w w6 ∧ HdAt w6 w.heap.size h ∧ DsAt w6 (w.heap.size + 1) d ∧ HdAt w6 g1 G ∧ Wrts w6 q1 WA ∧ HdAt w6 w3.heap.size G ∧ Wrts w6 q2 WA) ⟨(he5.trans he3).trans he4, hb1.ext (he3.trans he4), hb2.ext (he3.trans he4), hb4.ext (he3.trans he4), hw1.ext (he3.trans he4), hb6, hw2.ext he4⟩ ?_
        generalize w3.heap.size = g2 at *
        clear hb1 hb2 he5 he3 he4 hb4 hc4 hw1 hw2 hb6
        rintro w6 ⟨he6, hb1, hb2, hb4, hw1, hb6, hw2⟩
        go_upto_region 12 with (first
          | (refine wpList_ds (o := ⟨some 71, _, _, _, _, _⟩) rfl (.tmp 8) rfl _ rfl d hb2 ?_) | (refine wpList_hd (o := ⟨some 70, _, _, _, _, _⟩) rfl (.tmp 7) rfl _ rfl h hb1 ?_)
          | (go_at_call 21; refine (HR1.out _ he6).mono ?_; rintro e w7 ⟨he7, q3, k3, c3, rfl, rfl, hw3⟩; have hb17 := hb1.ext he7; have hb27 := hb2.ext he7; have hE7 := he6.trans he7)
          | (refine wpList_ds (o := ⟨some 80, _, _, _, _, _⟩) rfl (.tmp 8) rfl _ rfl d hb27 ?_) | (refine wpList_hd (o := ⟨some 79, _, _, _, _, _⟩) rfl (.tmp 7) rfl _ rfl h hb17 ?_)
          | (go_at_call 22; refine (HR2.out _ hE7).mono ?_; rintro e w8 ⟨he8, q4, k4, c4, rfl, rfl, hw4⟩; have hb18 := hb17.ext he8; have hb28 := hb27.ext he8; have hE8 := hE7.trans he8)
          | (refine wpList_ds (o := ⟨some 90, _, _, _, _, _⟩) rfl (.tmp 8) rfl _ rfl d hb28 ?_) | (refine wpList_hd (o := ⟨some 89, _, _, _, _, _⟩) rfl (.tmp 7) rfl _ rfl h hb18 ?_)
          | (go_at_call 19; refine (HP1.out _ hE8).mono ?_; rintro e w9 ⟨he9, q5, k5, c5, rfl, rfl, hw5⟩; have hb19 := hb18.ext he9; have hb29 := hb28.ext he9; have hE9 := hE8.trans he9)
          | (refine wpList_ds (o := ⟨some 98, _, _, _, _, _⟩) rfl (.tmp 8) rfl _ rfl d hb29 ?_) | (refine wpList_hd (o := ⟨some 97, _, _, _, _, _⟩) rfl (.tmp 7) rfl _ rfl h hb19 ?_)
          | (go_at_call 23; refine (HP2.out _ hE9).mono ?_; rintro e w10 ⟨he10, q6, k6, c6, rfl, rfl, hw6⟩))
        have e810 := (he8.trans he9).trans he10
        have e710 := he7.trans e810
        refine wp_name (fun wx => Ext w wx ∧ HdAt wx g1 G ∧ HdAt wx g2 G ∧ Wrts wx q1 WA ∧ Wrts wx q2 WA ∧ Wrts wx q3 WR ∧ Wrts wx q4 WR ∧ Ints wx q5 AP ∧ Ints wx q6 AP) ⟨hE9.trans he10, hb4.ext e710, hb6.ext e710, hw1.ext e710, hw2.ext e710, hw3.ext e810, hw4.ext (he9.trans he10), hw5.ext he10, hw6⟩ ?_
        clear hb1 hb2 hb4 hb6 hb17 hb27 hb18 hb28 hb19 hb29 he6 he7 he8 he9 he10 hE7 hE8 hE9 hw1 hw2 hw3 hw4 hw5 hw6 e810 e710
        rintro wx ⟨hex, hb4, hb6, hw1, hw2, hw3, hw4, hw5, hw6⟩
        have HC1 := Lib.hid (fun w' (e : Ext wx w') => sameW_same q1 q2 c1 _ c2 _ WA w' (hw1.ext e) (hw2.ext e) rfl rfl hf1)
        have HC2 := Lib.hid (fun w' (e : Ext wx w') => sameW_same q3 q4 c3 _ c4 _ WR w' (hw3.ext e) (hw4.ext e) rfl rfl hf2)
        have HC3 := Lib.hid (fun w' (e : Ext wx w') => ints_same q5 q6 c5 _ c6 _ AP w' (hw5.ext e) (hw6.ext e) rfl rfl hf3)
        clear hw1 hw2 hw3 hw4 hw5 hw6
        go_wp2_with (first
          | (refine wpList_hd (o := ⟨some 103, _, _, _, _, _⟩) rfl (.tmp 14) rfl _ rfl G hb4 ?_) | (refine wpList_hd (o := ⟨some 104, _, _, _, _, _⟩) rfl (.tmp 18) rfl _ rfl G hb6 ?_)
          | (go_at_call 14; ((with_reducible refine (HC1.out wx (Ext.refl _)).mono ?_); rintro e wy ⟨rfl, hey⟩)) | (go_at_call 14; ((with_reducible refine (HC2.out wy hey).mono ?_); rintro e wz ⟨rfl, hez⟩; have heyz := hey.trans hez)) | (go_at_call 24; ((with_reducible refine (HC3.out wz heyz).mono ?_); rintro e wu ⟨rfl, heu⟩)))
        go_ret
        exact ⟨rfl, (hex.trans heyz).trans heu⟩
end Go.Proofs.YtkhlglkipeoalaaDoor
