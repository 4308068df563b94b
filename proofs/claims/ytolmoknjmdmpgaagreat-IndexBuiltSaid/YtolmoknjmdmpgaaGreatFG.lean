/- The example of chapter 22. No program in sight. -/
import Derived.Test.YtolmoknjmdmpgaaGreatFB
import Derived.Test.YtolmoknjmdmpgaaGreatPB
import Derived.Test.YtolmoknjmdmpgaaGreatFF
import Derived.Test.YtolmoknjmdmpgaaGreatDR
import Derived.BigQuiet
set_option linter.unusedSimpArgs false
set_option linter.unusedVariables false
namespace Dsd
open Go.Proofs.YtolmoknjmdmpgaaGreat (encNE encNS)
/-- The example's description, header, pages. -/
def exB : DS := ⟨0, 3, 0, 50, 0, 0, 1, 128, 2, 0, 0, 0, 0, 0, false, 0, [], [], 0, 0, false⟩
def exH0 : Hd := ⟨0, 0, 6, 1, 0, 0, 0⟩
def exH1 : Hd := ⟨0, 0, 7, 7, 1, 0, 0⟩
def exE : List UInt8 := encNS 128 (rootN exH0 [109] 4)
def exM : List (List UInt8) := putsP [[]] [(7, exE)]
theorem exB_door : door22 exH0 exB = 0 := by decide
set_option maxRecDepth 100000 in
theorem exE_ok : encNE 128 (rootN exH0 [109] 4) = 0 := by decide
set_option maxRecDepth 100000 in
theorem exAdd : addGo exB [] exH0 [] [109] 4 = (exH1, [(7, exE)], 0) := by
  unfold addGo
  rw [if_neg (by decide)]
  show (_, _, encNE 128 (rootN exH0 [109] 4)) = _
  rw [exE_ok]; rfl
set_option maxRecDepth 100000 in
theorem exA_loc : locE exM exH1 exB [97] = 0 ∧ locL exM exH1 exB [97] = [7, 1] := by decide +kernel
set_option maxRecDepth 100000 in
theorem exM_loc : locE exM exH1 exB [109] = 0 ∧ locL exM exH1 exB [109] = [7, 4] := by decide +kernel
end Dsd
/- The walks of package index's steps (none), add (none), twice, Add at height 0. -/
namespace Go.Proofs.YtolmoknjmdmpgaaGreat
open Go.RowKit Dsd
set_option maxRecDepth 100000 in
theorem isBase_any (x : Int) (w : World) : Calls Tryz.prog 45 #[.int .i64 x] w fun e w' => e = .returned (.bool (decide (1 ≤ x) && decide (x ≤ 16777208))) ∧ w' = w := by
  go_enter Tryz.func45, Tryz.ntmps45
  go_wp2
  all_goals go_ret
  all_goals exact ⟨ret_bool (by first | (simp_all; done) | (simp_all; omega)), rfl⟩
set_option maxRecDepth 100000 in
theorem isBound_any (s : List UInt8) (w : World) : Calls Tryz.prog 47 #[.string ⟨s.toArray⟩] w fun e w' => e = .returned (.bool (!s.isEmpty && decide ((s.length : Int) ≤ 32))) ∧ w' = w := by
  go_enter Tryz.func47, Tryz.ntmps47
  go_wp2
  all_goals go_ret
  all_goals exact ⟨ret_bool (by first | (simp_all; done) | (simp_all; omega)), rfl⟩
set_option maxRecDepth 100000 in
theorem steps0_any (p : Option Addr) (cap n : Nat) (h : Hd) (d : DS) (q : Option Addr) (k c : Nat) (w : World) (h0 : h.height = 0) :
    Calls Tryz.prog 46 #[.agg (trC (.slice p n cap) h d), .slice q k c] w fun e w' => e = .returned (.tuple #[.slice none 0 0, .int .i64 0]) ∧ Ext w w' := by
  have hb := Blk.alloc (Blk.new w (.cells (trC (.slice p n cap) h d) 70)) (.cells #[.slice q k c] 30)
  have hx := (Ext.alloc w (.cells (trC (.slice p n cap) h d) 70)).trans (Ext.alloc _ (.cells #[.slice q k c] 30))
  have H0 := Lib.hid h0
  clear h0
  go_enter Tryz.func46, Tryz.ntmps46
  go_upto_region 1 with (fail)
  refine wp_name (fun w1 => Ext w w1 ∧ Blk w1 w.heap.size (.cells (trC (.slice p n cap) h d) 70)) ⟨hx, hb⟩ ?_
  clear hx hb
  rintro w1 ⟨hx, hb⟩
  have c5 : w1.cell? ⟨w.heap.size, 5, none⟩ = some (.int .i64 h.height) := Blk.val hb 5 _ rfl
  rw [H0.out] at c5
  have lb := Blk.lt hb
  have Hx := Lib.hid hx
  clear hb hx
  go_upto_region 3 with (fail)
  obtain ⟨wo, rfl⟩ : ∃ wo : World, wo = w1 := ⟨_, rfl⟩
  go_loopw [6, 14] (fun o i wr => wr = wo ∧ o = .slice none 0 0 ∧ i = .int .i64 0) (fun _ i _ => 0)
  case atStart => exact ⟨rfl, rfl, rfl⟩
  case round =>
    obtain ⟨rfl, rfl, rfl⟩ := hrel
    go_wp2
    go_ret2
    exact ⟨rfl, Hx.out⟩
set_option maxRecDepth 100000 in
theorem add0_any (B wb : Nat) (h : Hd) (d : DS) (L : List Wr) (b : List UInt8) (p : Int) (w : World) (hs : WrS B wb h d L w) (hf : 0 ≤ h.fin ∧ h.fin ≤ 100000000) (hh : 0 ≤ h.height ∧ h.height ≤ 6) (hL : L.length ≤ 900) :
    Calls Tryz.prog 48 #[.pointer (some ⟨wb, 0, none⟩), .slice none 0 0, .string ⟨b.toArray⟩, .int .i64 p] w fun e w' => e = .returned (.int .i64 (addGo d [] h L b p).2.2) ∧ WrS B wb (addGo d [] h L b p).1 d (addGo d [] h L b p).2.1 w' ∧ TWr B w w' := by
  have HR := Lib.hid (root_any B wb h d L b p w hs hf hh hL)
  clear hs hf hh hL
  generalize addGo d [] h L b p = r at *
  go_enter Tryz.func48, Tryz.ntmps48
  go_wp2_with (go_at_call 68; refine HR.out.mono ?_; rintro e w1 ⟨rfl, h1, h2⟩)
  go_ret
  exact ⟨rfl, h1, h2⟩
set_option maxRecDepth 100000 in
set_option maxHeartbeats 1000000 in
theorem twice_no (B wb : Nat) (h : Hd) (d : DS) (L : List Wr) (w : World) (hs : WrS B wb h d L w) (h1 : 1 ≤ L.length) (h12 : L.length ≤ 12) (hk : ∀ x ∈ L, 0 ≤ x.1 ∧ x.1 ≤ 20000000) (hd : ∀ L', L'.Perm L → ordTo L' L'.length → ∀ k, k + 1 < L'.length → (wrAt L' (k + 1)).1 ≠ (wrAt L' k).1) :
    Calls Tryz.prog 49 #[.pointer (some ⟨wb, 0, none⟩)] w fun e w' => e = .returned (.bool false) ∧ (∃ L', L'.Perm L ∧ WrS B wb h d L' w') ∧ TWr B w w' := by
  have HS := Lib.hid (sorted_any B wb h d L w hs h1 h12 hk)
  have Hd := Lib.hid hd
  have H1 := Lib.hid h1
  have H12 := Lib.hid h12
  have hBw : Hid (B ≤ w.heap.size) := Lib.hid (by obtain ⟨_, _, hb, _, hB⟩ := hs; have := Blk.lt hb; omega)
  clear hs hk hd h1 h12
  go_enter Tryz.func49, Tryz.ntmps49
  go_upto_region 2 with (go_at_call 44; refine HS.out.mono ?_; rintro e w1 ⟨L', q, c, hp, hord, rfl, ho1, hs1, ht1⟩)
  have hl := hp.length_eq
  have hpos : 0 < L'.length := by have := H1.out; omega
  have h13 : L'.length ≤ 12 := by have := H12.out; omega
  obtain ⟨g, cur, rfl, hBg, hg, hnc, hcm, hsz, htk⟩ := own_parts ho1 hpos
  have HCl : Hid (Calls Tryz.prog 72 #[.slice (some ⟨g, 0, none⟩) L'.length c] w1 fun e w' => ∃ g2 k2, e = .returned (.slice (some ⟨g2, 0, none⟩) L'.length k2) ∧ (∃ z, RowW w' g2 z L') ∧ Ext w1 w') := Lib.hid ((CloneW_any g cur.size L'.length c L' w1 ⟨cur, hg, rfl, htk⟩ rfl hpos (by omega)).mono (by
    rintro e w' ⟨q2, k2, a1, a2, a3⟩
    obtain ⟨g2, cur2, rfl, _, b2, _, _, _, b6⟩ := own_parts a2 hpos
    exact ⟨g2, k2, a1, ⟨cur2.size, cur2, b2, rfl, b6⟩, a3⟩))
  have HCo : Hid (∀ g2 k2 w2, (∃ z, RowW w2 g2 z L') → Calls Tryz.prog 71 #[.slice (some ⟨g2, 0, none⟩) L'.length k2, .func (.func 73) #[] #[]] w2 fun e w' => e = .returned (.slice (some ⟨g2, 0, none⟩) L'.length k2) ∧ Ext w2 w') := Lib.hid (fun g2 k2 w2 ⟨z, hz⟩ => CompactW_any g2 z L'.length k2 L' w2 hz rfl (by omega) (Hd.out L' hp hord))
  have HR := Lib.hid (And.intro hp (And.intro hs1 ht1))
  clear hp hord ho1 hs1 ht1 hl hpos h13 hBg hg hnc hcm hsz htk Hd HS
  generalize L'.length = N at *
  go_wp2_with (first
    | (go_at_call 72; refine HCl.out.mono ?_; rintro e w2 ⟨g2, k2, rfl, hz2, he2⟩)
    | (go_at_call 71; refine (HCo.out _ _ _ hz2).mono ?_; rintro e w3 ⟨rfl, he3⟩))
  go_ret
  obtain ⟨hp, hs1, ht1⟩ := HR.out
  exact ⟨rfl, ⟨L', hp, hs1.ext (he2.trans he3)⟩, ht1.trans (TWr.ofExt (he2.trans he3) (Nat.le_trans hBw.out ht1.1.size))⟩
end Go.Proofs.YtolmoknjmdmpgaaGreat
/- The walk of package index's Add at height 0. -/
namespace Go.Proofs.YtolmoknjmdmpgaaGreat
open Go.RowKit Dsd
theorem wtBuilt (h : Hd) (d : DS) : Tryz.prog.built 93 [(0, .agg #[.int .i64 h.applied, .int .i64 h.count, .int .i64 h.fin, .int .i64 h.root, .int .i64 h.height, .int .i64 h.splits, .int .i64 h.areas]), (1, .agg #[.int .i64 d.id, .int .i64 d.org, .int .i64 d.format, .int .i64 d.length, .int .i64 d.block, .int .i64 d.keyAt, .int .i64 d.keyLength, .int .i64 d.interval, .int .i64 d.area, .int .i64 d.freeInterval, .int .i64 d.freeArea, .int .i64 d.base, .int .i64 d.altAt, .int .i64 d.altLength, .bool d.unique, .int .i64 d.cls, .string ⟨d.volume.toArray⟩, .string ⟨d.owner.toArray⟩, .int .i64 d.created, .int .i64 d.expires, .bool d.archived])] = some (wtC h d (.slice none 0 0)) := by kernel_rfl
theorem perm_one {α : Type} {x : α} {L : List α} (h : L.Perm [x]) : L = [x] := List.perm_singleton.1 h
set_option maxRecDepth 100000 in
set_option maxHeartbeats 4000000 in
theorem Add0_any (p : Option Addr) (cap n : Nat) (h h1 : Hd) (d : DS) (qb : Nat) (b es : List UInt8) (base : Int) (w : World) (hz : door22 h d = 0) (h0 : h.height = 0) (hh1 : h1 = { h with height := h.height + 1, fin := h.fin + 1, root := h.fin + 1 })
    (hpath : w.cell? ⟨qb, 0, none⟩ = some (.int .i64 h.root)) (hqb : qb < w.heap.size) (hb0 : b ≠ []) (hb32 : b.length ≤ 32) (hbase : 1 ≤ base ∧ base ≤ 16777208) (he : encNE d.interval (rootN h b base) = 0) (hes : es = encNS d.interval (rootN h b base)) :
    Calls Tryz.prog 24 #[.iface 29 (.slice p n cap), .agg #[.int .i64 h.applied, .int .i64 h.count, .int .i64 h.fin, .int .i64 h.root, .int .i64 h.height, .int .i64 h.splits, .int .i64 h.areas], .agg #[.int .i64 d.id, .int .i64 d.org, .int .i64 d.format, .int .i64 d.length, .int .i64 d.block, .int .i64 d.keyAt, .int .i64 d.keyLength, .int .i64 d.interval, .int .i64 d.area, .int .i64 d.freeInterval, .int .i64 d.freeArea, .int .i64 d.base, .int .i64 d.altAt, .int .i64 d.altLength, .bool d.unique, .int .i64 d.cls, .string ⟨d.volume.toArray⟩, .string ⟨d.owner.toArray⟩, .int .i64 d.created, .int .i64 d.expires, .bool d.archived], .slice (some ⟨qb, 0, none⟩) 1 1, .string ⟨b.toArray⟩, .int .i64 base] w fun e w' => Ext w w' ∧ ∃ q c, e = .returned (.tuple #[.agg #[.int .i64 h1.applied, .int .i64 h1.count, .int .i64 h1.fin, .int .i64 h1.root, .int .i64 h1.height, .int .i64 h1.splits, .int .i64 h1.areas], .slice q 1 c, .int .i64 0]) ∧ w'.ownsRow w.heap.size 65 2 (.slice q 1 c) 1 (wrC [(h.fin + 1, es)]) := by
  have hdd := hd_ds_cl w h d #[.int .i64 0, .int .i64 0, .int .i64 0, .int .i64 0, .int .i64 0, .int .i64 0, .int .i64 0] 24
  obtain ⟨k1, k2, k3, k4, k5, k6, k7⟩ := door22_zero hz
  have hadd : addGo d [] h [] b base = (h1, [(h.fin + 1, es)], 0) := by
    unfold addGo
    rw [if_neg (by omega), hh1, hes, he]; rfl
  have HOp : Hid (∀ W, Calls Tryz.prog 26 #[.iface 29 (.slice p n cap), .agg #[.int .i64 h.applied, .int .i64 h.count, .int .i64 h.fin, .int .i64 h.root, .int .i64 h.height, .int .i64 h.splits, .int .i64 h.areas], .agg #[.int .i64 d.id, .int .i64 d.org, .int .i64 d.format, .int .i64 d.length, .int .i64 d.block, .int .i64 d.keyAt, .int .i64 d.keyLength, .int .i64 d.interval, .int .i64 d.area, .int .i64 d.freeInterval, .int .i64 d.freeArea, .int .i64 d.base, .int .i64 d.altAt, .int .i64 d.altLength, .bool d.unique, .int .i64 d.cls, .string ⟨d.volume.toArray⟩, .string ⟨d.owner.toArray⟩, .int .i64 d.created, .int .i64 d.expires, .bool d.archived]] W fun e w' => e = .returned (.tuple #[.agg (trC (.slice p n cap) h d), .int .i64 0]) ∧ Ext W w') := Lib.hid (fun W => (open22_any p n cap h d W).mono (fun e w' ⟨h1, h2⟩ => by
    rcases h2 with ⟨_, h3⟩ | ⟨h3, _⟩
    · exact ⟨h3, h1⟩
    · rw [hz] at h3; cases h3))
  have HSt := Lib.hid (fun q k c W => steps0_any p cap n h d q k c W h0)
  have HAd : Hid (∀ wb W, WrS w.heap.size wb h d [] W → Calls Tryz.prog 48 #[.pointer (some ⟨wb, 0, none⟩), .slice none 0 0, .string ⟨b.toArray⟩, .int .i64 base] W fun e w' => e = .returned (.int .i64 0) ∧ WrS w.heap.size wb h1 d [(h.fin + 1, es)] w' ∧ TWr w.heap.size W w') := Lib.hid (fun wb W hs => by
    have := add0_any w.heap.size wb h d [] b base W hs (by omega) (by omega) (by simp)
    rw [hadd] at this
    exact this)
  have HTw : Hid (∀ wb W, WrS w.heap.size wb h1 d [(h.fin + 1, es)] W → Calls Tryz.prog 49 #[.pointer (some ⟨wb, 0, none⟩)] W fun e w' => e = .returned (.bool false) ∧ WrS w.heap.size wb h1 d [(h.fin + 1, es)] w' ∧ TWr w.heap.size W w') := Lib.hid (fun wb W hs => (twice_no w.heap.size wb h1 d _ W hs (by simp) (by simp) (by intro x hx; simp at hx; subst hx; simp only; omega) (by intro L' hp _ k hk; rw [perm_one hp] at hk; simp at hk)).mono (by
    rintro e w' ⟨a1, ⟨L', hp, hs'⟩, a3⟩
    rw [perm_one hp] at hs'
    exact ⟨a1, hs', a3⟩))
  have HSo : Hid (∀ wb W, WrS w.heap.size wb h1 d [(h.fin + 1, es)] W → Calls Tryz.prog 44 #[.pointer (some ⟨wb, 0, none⟩)] W fun e w' => ∃ q c, e = .returned (.slice q 1 c) ∧ w'.ownsRow w.heap.size 65 2 (.slice q 1 c) 1 (wrC [(h.fin + 1, es)]) ∧ WrS w.heap.size wb h1 d [(h.fin + 1, es)] w' ∧ TWr w.heap.size W w') := Lib.hid (fun wb W hs => (sorted_any w.heap.size wb h1 d _ W hs (by simp) (by simp) (by intro x hx; simp at hx; subst hx; simp only; omega)).mono (by
    rintro e w' ⟨L', q, c, hp, _, a1, a2, a3, a4⟩
    obtain rfl := perm_one hp
    exact ⟨q, c, a1, a2, a3, a4⟩))
  have HBa : Hid (∀ W, Calls Tryz.prog 45 #[.int .i64 base] W fun e w' => e = .returned (.bool true) ∧ w' = W) := Lib.hid (fun W => by
    have := isBase_any base W
    rw [decide_eq_true hbase.1, decide_eq_true hbase.2] at this
    exact this)
  have HBo : Hid (∀ W, Calls Tryz.prog 47 #[.string ⟨b.toArray⟩] W fun e w' => e = .returned (.bool true) ∧ Ext W w') := Lib.hid (fun W => by
    have := isBound_any b W
    rw [decide_eq_true (show (b.length : Int) ≤ 32 by omega), show b.isEmpty = false by simpa using hb0] at this
    exact this.mono (fun e w' ⟨a1, a2⟩ => ⟨a1, by rw [a2]; exact Ext.refl _⟩))
  have H0 := Lib.hid h0
  have hpx : w.cell? ⟨qb, 0, none⟩ = some (.int .i64 h.root) := hpath
  have Hpx := Lib.hid hpx
  have hne : (h.root != h.root) = false := by simp
  clear hz h0 hh1 hpath hb0 hb32 hbase he hes k1 k2 k3 k4 k5 k6 k7 hadd hpx
  go_enter Tryz.func24, Tryz.ntmps24
  go_upto_region 1 with (fail)
  refine wp_name (fun w0 => Ext w w0 ∧ HdAt w0 w.heap.size h ∧ DsAt w0 (w.heap.size + 1) d ∧ Blk w0 (w.heap.size + 1 + 1) (.cells #[.int .i64 0, .int .i64 0, .int .i64 0, .int .i64 0, .int .i64 0, .int .i64 0, .int .i64 0] 24)) hdd ?_
  clear hdd
  rintro w0 ⟨he0, hb1, hb2, hb3⟩
  go_upto_region 4 with (first
    | ((with_reducible (show wpList _ _ _ (⟨some 21, _, _, _, _, _⟩ :: _) _ _)); refine wpList_hd (o := ⟨some 21, _, _, _, _, _⟩) rfl (.tmp 7) rfl _ rfl h hb1 ?_)
    | ((with_reducible (show wpList _ _ _ (⟨some 22, _, _, _, _, _⟩ :: _) _ _)); refine wpList_ds (o := ⟨some 22, _, _, _, _, _⟩) rfl (.tmp 8) rfl _ rfl d hb2 ?_)
    | (go_at_call 26; refine (HOp.out _).mono ?_; rintro e w1 ⟨rfl, he1⟩)
    | (refine wpList_put rfl 70 (.tmp 15) (.tmp 24) rfl _ (trC (.slice p n cap) h d) rfl rfl _ _ (Blk.new w1 _) trSize rfl (tr_one p n cap h d) ?_; intro w3 ht3 hc3; have hx3 := hc3.ext (Ext.alloc _ _) (Nat.le_refl _)))
  refine wp_name (fun w4 => Ext w w4 ∧ HdAt w4 w.heap.size h ∧ DsAt w4 (w.heap.size + 1) d ∧ Blk w4 (w.heap.size + 1 + 1) (.cells #[.int .i64 0, .int .i64 0, .int .i64 0, .int .i64 0, .int .i64 0, .int .i64 0, .int .i64 0] 24) ∧ Blk w4 w1.heap.size (.cells (trC (.slice p n cap) h d) 70)) ⟨(he0.trans he1).trans hx3, (hb1.ext he1).ext hx3, (hb2.ext he1).ext hx3, hx3.blk _ _ (he1.blk _ _ hb3), ht3⟩ ?_
  clear he0 hb1 hb2 hb3 he1 ht3 hc3 hx3
  generalize w1.heap.size = tb at *
  rintro w4 ⟨hx4, hh4, hd4, hz4, ht4⟩
  have c4 : w4.cell? ⟨w.heap.size, 4, none⟩ = some (.int .i64 h.height) := Blk.val hh4 4 _ rfl
  rw [H0.out] at c4
  have c3 : w4.cell? ⟨w.heap.size, 3, none⟩ = some (.int .i64 h.root) := Blk.val hh4 3 _ rfl
  have l4 := Blk.lt hh4
  have cq := (hx4.cell qb 0 hqb).trans Hpx.out
  have lq := Nat.lt_of_lt_of_le hqb hx4.size
  go_quiet ((go_at_call 45; exact Calls.quiet_of_same (HBa.out _)))
  go_upto_region 6 with (fail)
  refine wp_name (fun w5 => Ext w4 w5) (by first | exact Ext.drewN _ _ | exact Ext.drew _ | exact Ext.refl _) ?_
  intro w5 he5
  have hx5 := hx4.trans he5
  have hh5 := hh4.ext he5
  have hd5 := hd4.ext he5
  have hz5 := he5.blk _ _ hz4
  have ht5 := he5.blk _ _ ht4
  clear hx4 hh4 hd4 hz4 ht4 he5 c4 c3 l4 cq lq
  go_upto_region 9 with (first
    | ((with_reducible (show wpList _ _ _ (⟨some 51, _, _, _, _, _⟩ :: _) _ _)); refine wpList_row (o := ⟨some 51, _, _, _, _, _⟩) rfl 70 (.tmp 15) rfl _ rfl _ _ _ ht5 trDesc rfl trSize ?_)
    | (go_at_call 46; refine (HSt.out _ _ _ _).mono ?_; rintro e w6 ⟨rfl, he6⟩)
    | (go_at_call 47; refine (HBo.out _).mono ?_; rintro e w7 ⟨rfl, he7⟩))
  have he67 := he6.trans he7
  have hx6 := hx5.trans he67
  have hh6 := hh5.ext he67
  have hd6 := hd5.ext he67
  have hz6 := he67.blk _ _ hz5
  clear hx5 hh5 hd5 hz5 ht5 he6 he7 he67
  go_upto_region 10 with (first
    | ((with_reducible (show wpList _ _ _ (⟨some 63, _, _, _, _, _⟩ :: _) _ _)); refine wpList_hd (o := ⟨some 63, _, _, _, _, _⟩) rfl (.tmp 7) rfl _ rfl h hh6 ?_)
    | ((with_reducible (show wpList _ _ _ (⟨some 64, _, _, _, _, _⟩ :: _) _ _)); refine wpList_ds (o := ⟨some 64, _, _, _, _, _⟩) rfl (.tmp 8) rfl _ rfl d hd6 ?_)
    | ((with_reducible (show wpList _ _ _ (⟨some 65, _, _, _, _, _⟩ :: _) _ _)); refine wpList_bld (o := ⟨some 65, _, _, _, _, _⟩) rfl 93 #[(0, .tmp 63), (1, .tmp 64)] rfl [(0, .agg #[.int .i64 h.applied, .int .i64 h.count, .int .i64 h.fin, .int .i64 h.root, .int .i64 h.height, .int .i64 h.splits, .int .i64 h.areas]), (1, .agg #[.int .i64 d.id, .int .i64 d.org, .int .i64 d.format, .int .i64 d.length, .int .i64 d.block, .int .i64 d.keyAt, .int .i64 d.keyLength, .int .i64 d.interval, .int .i64 d.area, .int .i64 d.freeInterval, .int .i64 d.freeArea, .int .i64 d.base, .int .i64 d.altAt, .int .i64 d.altLength, .bool d.unique, .int .i64 d.cls, .string ⟨d.volume.toArray⟩, .string ⟨d.owner.toArray⟩, .int .i64 d.created, .int .i64 d.expires, .bool d.archived])] rfl _ (wtBuilt h d) ?_))
  refine wp_name (fun w8 => Ext w w8 ∧ WrS w.heap.size w7.heap.size h d [] w8 ∧ Blk w8 (w.heap.size + 1 + 1) (.cells #[.int .i64 0, .int .i64 0, .int .i64 0, .int .i64 0, .int .i64 0, .int .i64 0, .int .i64 0] 24)) ⟨hx6.trans (Ext.alloc _ _), ⟨none, 0, Blk.new w7 _, World.ownsRow_nil _ _ _ _, hx6.size⟩, (Ext.alloc _ _).blk _ _ hz6⟩ ?_
  clear hh6 hd6 hz6 hx6
  generalize w7.heap.size = wb at *
  clear w7
  rintro w7 ⟨hx7, hs7, hz7⟩
  have Hx7 := Lib.hid hx7
  have Hs7 := Lib.hid hs7
  have Hz7 := Lib.hid hz7
  clear hx7 hs7 hz7
  go_upto_region 16 with (first
    | (go_at_call 48; refine (HAd.out wb _ Hs7.out).mono ?_; rintro e w8 ⟨rfl, hs8, ht8⟩)
    | (go_at_call 49; refine (HTw.out wb _ hs8).mono ?_; rintro e w9 ⟨rfl, hs9, ht9⟩))
  have hT := ht8.trans ht9
  have hz9 := hT.2 _ _ _ (by decide) (by decide) Hz7.out
  have hx9 := Ext.trans' Hx7.out hT.1
  have HS9 := Lib.hid hs9
  obtain ⟨q9, c9, hb9, _, _⟩ := hs9
  have k0 : w9.cell? ⟨wb, 0, none⟩ = some (.int .i64 h1.applied) := Blk.val hb9 0 _ rfl
  have k1 : w9.cell? ⟨wb, 1, none⟩ = some (.int .i64 h1.count) := Blk.val hb9 1 _ rfl
  have k2 : w9.cell? ⟨wb, 2, none⟩ = some (.int .i64 h1.fin) := Blk.val hb9 2 _ rfl
  have k3 : w9.cell? ⟨wb, 3, none⟩ = some (.int .i64 h1.root) := Blk.val hb9 3 _ rfl
  have k4 : w9.cell? ⟨wb, 4, none⟩ = some (.int .i64 h1.height) := Blk.val hb9 4 _ rfl
  have k5 : w9.cell? ⟨wb, 5, none⟩ = some (.int .i64 h1.splits) := Blk.val hb9 5 _ rfl
  have k6 : w9.cell? ⟨wb, 6, none⟩ = some (.int .i64 h1.areas) := Blk.val hb9 6 _ rfl
  have l9 := Blk.lt hb9
  have hzd := (Ext.drew w9).blk _ _ hz9
  have Hzd := Lib.hid hzd
  have Hx9 := Lib.hid (hx9.trans (Ext.drew w9))
  clear hs8 ht8 ht9 hT hb9 hz9 hzd hx9
  go_region_with (go_at_call 44; refine (HSo.out wb _ (by first | exact HS9.out.ext (Ext.drew _) | exact HS9.out)).mono ?_; rintro e w10 ⟨q10, c10, rfl, ho10, hs10, ht10⟩; obtain ⟨q11, c11, hb10, _, _⟩ := hs10; have j0 : w10.cell? ⟨wb, 0, none⟩ = some (.int .i64 h1.applied) := Blk.val hb10 0 _ rfl; have j1 : w10.cell? ⟨wb, 1, none⟩ = some (.int .i64 h1.count) := Blk.val hb10 1 _ rfl; have j2 : w10.cell? ⟨wb, 2, none⟩ = some (.int .i64 h1.fin) := Blk.val hb10 2 _ rfl; have j3 : w10.cell? ⟨wb, 3, none⟩ = some (.int .i64 h1.root) := Blk.val hb10 3 _ rfl; have j4 : w10.cell? ⟨wb, 4, none⟩ = some (.int .i64 h1.height) := Blk.val hb10 4 _ rfl; have j5 : w10.cell? ⟨wb, 5, none⟩ = some (.int .i64 h1.splits) := Blk.val hb10 5 _ rfl; have j6 : w10.cell? ⟨wb, 6, none⟩ = some (.int .i64 h1.areas) := Blk.val hb10 6 _ rfl; have l10 := Blk.lt hb10; have hz10 := ht10.2 _ _ _ (by decide) (by decide) Hzd.out; have z0 : w10.cell? ⟨w.heap.size + 1 + 1, 0, none⟩ = some (.int .i64 0) := Blk.val hz10 0 _ rfl; have f0 := Blk.free hz10 0; have z1 : w10.cell? ⟨w.heap.size + 1 + 1, 1, none⟩ = some (.int .i64 0) := Blk.val hz10 1 _ rfl; have f1 := Blk.free hz10 1; have z2 : w10.cell? ⟨w.heap.size + 1 + 1, 2, none⟩ = some (.int .i64 0) := Blk.val hz10 2 _ rfl; have f2 := Blk.free hz10 2; have z3 : w10.cell? ⟨w.heap.size + 1 + 1, 3, none⟩ = some (.int .i64 0) := Blk.val hz10 3 _ rfl; have f3 := Blk.free hz10 3; have z4 : w10.cell? ⟨w.heap.size + 1 + 1, 4, none⟩ = some (.int .i64 0) := Blk.val hz10 4 _ rfl; have f4 := Blk.free hz10 4; have z5 : w10.cell? ⟨w.heap.size + 1 + 1, 5, none⟩ = some (.int .i64 0) := Blk.val hz10 5 _ rfl; have f5 := Blk.free hz10 5; have z6 : w10.cell? ⟨w.heap.size + 1 + 1, 6, none⟩ = some (.int .i64 0) := Blk.val hz10 6 _ rfl; have f6 := Blk.free hz10 6; have lz10 := Blk.lt hz10; have Hz10 := Lib.hid hz10; have Ho10 := Lib.hid ho10; have Hx10 := Lib.hid (Ext.trans' Hx9.out ht10.1); clear hz10 ho10 ht10 hb10)
  all_goals
    have Hq := Lib.hid hqb
    clear z0 z1 z2 z3 z4 z5 z6 f0 f1 f2 f3 f4 f5 f6 j0 j1 j2 j3 j4 j5 j6 k0 k1 k2 k3 k4 k5 k6 hqb
    go_wp2_with fail
    refine bodyPost_ret (results_row2 Tryz.results24 _ _ (w.heap.size + 1 + 1) 24 #[.int .i64 h1.applied, .int .i64 h1.count, .int .i64 h1.fin, .int .i64 h1.root, .int .i64 h1.height, .int .i64 h1.splits, .int .i64 h1.areas] _ rfl ?_ hdDesc rfl hdSize) rfl ?_
    · first
        | exact Blk.setCell (Blk.setCell (Blk.setCell (Blk.setCell (Blk.setCell (Blk.setCell (Blk.setCell Hz10.out))))))
        | exact (Ext.drew _).blk _ _ (Blk.setCell (Blk.setCell (Blk.setCell (Blk.setCell (Blk.setCell (Blk.setCell (Blk.setCell Hz10.out)))))))
        | trace_state
    · refine ⟨?_, q10, c10, rfl, ?_⟩
      · first
          | exact ((((((Chg.setCell.trans Chg.setCell).trans Chg.setCell).trans Chg.setCell).trans Chg.setCell).trans Chg.setCell).trans Chg.setCell).ext Hx10.out (by omega)
          | exact (((((((Chg.setCell.trans Chg.setCell).trans Chg.setCell).trans Chg.setCell).trans Chg.setCell).trans Chg.setCell).trans Chg.setCell).ext Hx10.out (by omega)).trans (Ext.drew _)
      · first
          | exact own_chgT Ho10.out (by decide) Hz10.out ((((((Chg.setCell.trans Chg.setCell).trans Chg.setCell).trans Chg.setCell).trans Chg.setCell).trans Chg.setCell).trans Chg.setCell)
          | exact own_ext (own_chgT Ho10.out (by decide) Hz10.out ((((((Chg.setCell.trans Chg.setCell).trans Chg.setCell).trans Chg.setCell).trans Chg.setCell).trans Chg.setCell).trans Chg.setCell)) (Ext.drew _)
end Go.Proofs.YtolmoknjmdmpgaaGreat
