/- The walk of package index's Bases (under way). -/
import Derived.Test.YtolmoknjmdmpgaaGreatFQ
import Derived.Test.YtolmoknjmdmpgaaGreatFO
import Derived.Test.YtolmoknjmdmpgaaGreatFH
set_option linter.unusedSimpArgs false
set_option linter.unusedVariables false
namespace Dsd
theorem acyc_walk {m : List (List UInt8)} {h : Hd} {d : DS} (h1 : Go.Proofs.YtolmoknjmdmpgaaGreat.acycB m h d = true) (hz : door22 h d = 0) : (walkD m d h.height.toNat h.root).1.length ≤ 4096 ∧ (walkD m d h.height.toNat h.root).2 = basesE m h d ∧ (basesE m h d = 0 → (walkD m d h.height.toNat h.root).1 = basesL m h d) := by
  unfold Go.Proofs.YtolmoknjmdmpgaaGreat.acycB at h1
  rw [Bool.and_eq_true, decide_eq_true_eq] at h1
  obtain ⟨a1, a2⟩ := h1
  have a1 : basesE m h d ≠ 8 := by simpa using a1
  have eE : basesE m h d = (belowD m d h.height.toNat h.root 4096).2 := by unfold basesE; rw [if_neg (by rw [hz]; simp)]
  have eL : basesL m h d = (belowD m d h.height.toNat h.root 4096).1 := by unfold basesL; rw [if_neg (by rw [hz]; simp)]
  rw [eL] at a2
  rw [eE] at a1
  have k := below_agrees m d h.height.toNat h.root 4096 (by omega) a1
  rw [eE, eL]
  by_cases h0 : (belowD m d h.height.toNat h.root 4096).2 = 0
  · have e := k.1 h0
    rw [e]
    exact ⟨by simp only; omega, h0.symm, fun _ => rfl⟩
  · obtain ⟨e1, e2⟩ := k.2 h0
    exact ⟨by omega, e1, fun e => absurd e h0⟩
end Dsd
namespace Go.Proofs.YtolmoknjmdmpgaaGreat
open Go.RowKit Dsd
theorem loadVar_ints (w : World) (g : Nat) (v : Value) (h : w.cell? ⟨g, 0, none⟩ = some v) : (loadVar 30 ⟨g, 0, none⟩).run Tryz.prog w = .ok v w := by
  simp [loadVar, run_underlying Tryz.underlying30, go_sem, h]
theorem loadVar_errno (w : World) (g : Nat) (v : Value) (h : w.cell? ⟨g, 0, none⟩ = some v) : (loadVar 31 ⟨g, 0, none⟩).run Tryz.prog w = .ok v w := by
  simp [loadVar, run_underlying Tryz.underlying31, go_sem, h]
theorem results_bases (tmps : Array Value) (w : World) (g g2 : Nat) (v v2 : Value) (hp : tmps.getD 6 undef = .pointer (some ⟨g, 0, none⟩)) (hp2 : tmps.getD 7 undef = .pointer (some ⟨g2, 0, none⟩)) (h : w.cell? ⟨g, 0, none⟩ = some v) (h2 : w.cell? ⟨g2, 0, none⟩ = some v2) :
    (results Tryz.f15 tmps).run Tryz.prog w = .ok (.tuple #[v, v2]) w := by
  have hp' : tmps[6]?.getD undef = .pointer (some ⟨g, 0, none⟩) := by simpa using hp
  have hp2' : tmps[7]?.getD undef = .pointer (some ⟨g2, 0, none⟩) := by simpa using hp2
  simp [results, Tryz.results15, hp', hp2', asAddr, loadVar_ints w g v h, loadVar_errno w g2 v2 h2, Sem.run_bind]
/-- The variables of the two results. -/
structure RcAt (b : Nat) (v : Value) (e : Int) (W : World) : Prop where
  c1 : Blk W b (.cells #[v] 30)
  c2 : Blk W (b + 1) (.cells #[.int .i64 e] 31)
theorem rc_set {b : Nat} {v0 : Value} {e0 : Int} {W : World} (n : RcAt b v0 e0 W) (v : Value) (e : Int) : RcAt b v e ((W.setCell ⟨b, 0, none⟩ v).setCell ⟨b + 1, 0, none⟩ (.int .i64 e)) ∧
    (∀ w, Ext w W → w.heap.size ≤ b → Ext w ((W.setCell ⟨b, 0, none⟩ v).setCell ⟨b + 1, 0, none⟩ (.int .i64 e))) ∧ ∀ B, KeepsFrom B W ((W.setCell ⟨b, 0, none⟩ v).setCell ⟨b + 1, 0, none⟩ (.int .i64 e)) := by
  have k1 := Chg.setCell (w := W) (g := b) (i := 0) (v := v)
  have a1 : Blk (W.setCell ⟨b, 0, none⟩ v) b (.cells #[v] 30) := Blk.setCell n.c1
  have a2 := k1.blk n.c2 (by omega)
  have q1 := fun B => KeepsFrom.of_chg (B := B) k1 n.c1
  generalize W.setCell ⟨b, 0, none⟩ v = W1 at *
  have k2 := Chg.setCell (w := W1) (g := b + 1) (i := 0) (v := .int .i64 e)
  have b1 := k2.blk a1 (by omega)
  have b2 : Blk (W1.setCell ⟨b + 1, 0, none⟩ (.int .i64 e)) (b + 1) (.cells #[.int .i64 e] 31) := Blk.setCell a2
  have q2 := fun B => KeepsFrom.of_chg (B := B) k2 a2
  generalize W1.setCell ⟨b + 1, 0, none⟩ (.int .i64 e) = W2 at *
  exact ⟨⟨b1, b2⟩, fun w he hb => k2.ext (k1.ext he hb) (by omega), fun B => (q1 B).trans (q2 B)⟩
theorem rc_own {b : Nat} {v0 : Value} {e0 : Int} {W : World} (n : RcAt b v0 e0 W) (v : Value) (e : Int) {B k : Nat} {u : Value} {xs : List Value} (h : W.ownsRow B 3 1 u k xs) : ((W.setCell ⟨b, 0, none⟩ v).setCell ⟨b + 1, 0, none⟩ (.int .i64 e)).ownsRow B 3 1 u k xs := by
  have k1 := Chg.setCell (w := W) (g := b) (i := 0) (v := v)
  have a2 := k1.blk n.c2 (by omega)
  have o1 := own_chgT h (by decide) n.c1 k1
  generalize W.setCell ⟨b, 0, none⟩ v = W1 at *
  have k2 := Chg.setCell (w := W1) (g := b + 1) (i := 0) (v := .int .i64 e)
  exact own_chgT o1 (by decide) a2 k2
attribute [local go_sem] Oper.semAt_some
set_option maxRecDepth 100000 in
set_option maxHeartbeats 4000000 in
theorem Bases22_any (p : Option Addr) (cap n : Nat) (m : List (List UInt8)) (h : Hd) (d : DS) (w : World) (hs : Strs w p m) (hn : m.length = n) (hm : Small m) (hac : acycB m h d = true) :
    Calls Tryz.prog 15 #[.iface 29 (.slice p n cap), .agg #[.int .i64 h.applied, .int .i64 h.count, .int .i64 h.fin, .int .i64 h.root, .int .i64 h.height, .int .i64 h.splits, .int .i64 h.areas], .agg #[.int .i64 d.id, .int .i64 d.org, .int .i64 d.format, .int .i64 d.length, .int .i64 d.block, .int .i64 d.keyAt, .int .i64 d.keyLength, .int .i64 d.interval, .int .i64 d.area, .int .i64 d.freeInterval, .int .i64 d.freeArea, .int .i64 d.base, .int .i64 d.altAt, .int .i64 d.altLength, .bool d.unique, .int .i64 d.cls, .string ⟨d.volume.toArray⟩, .string ⟨d.owner.toArray⟩, .int .i64 d.created, .int .i64 d.expires, .bool d.archived]] w (BelOut (if basesE m h d = 0 then basesL m h d else []) (basesE m h d) w) := by
  have hdd := hd_ds w h d
  by_cases hz : door22 h d = 0
  · obtain ⟨k1, k2, k3, k4, k5, k6, k7⟩ := door22_zero hz
    obtain ⟨H, hH⟩ : ∃ H : Nat, h.height = H := ⟨h.height.toNat, by omega⟩
    have HH := Lib.hid hH
    have hH6 : H ≤ 6 := by omega
    have Hs := Lib.hid hs
    have hac2 := acyc_walk hac hz
    rw [hH, Int.toNat_natCast] at hac2
    have HLen := Lib.hid hac2.1
    have HYes : Hid (∀ e w' q c, (walkD m d H h.root).2 = 0 → Ext w w' → e = .returned (.tuple #[.slice q (walkD m d H h.root).1.length c, .int .i64 0]) → w'.ownsRow w.heap.size 3 1 (.slice q (walkD m d H h.root).1.length c) (walkD m d H h.root).1.length (intC (walkD m d H h.root).1) → BelOut (if basesE m h d = 0 then basesL m h d else []) (basesE m h d) w e w') := Lib.hid (fun e w' q c h0 h1 h2 h3 => by
      rw [hac2.2.1] at h0
      rw [if_pos h0, h0, ← hac2.2.2 h0]
      exact ⟨h1, q, c, h2, h3⟩)
    have HNo : Hid (∀ e w', (walkD m d H h.root).2 ≠ 0 → Ext w w' → e = .returned (.tuple #[.slice none 0 0, .int .i64 (walkD m d H h.root).2]) → BelOut (if basesE m h d = 0 then basesL m h d else []) (basesE m h d) w e w') := Lib.hid (fun e w' h0 h1 h2 => by
      rw [hac2.2.1] at h0 h2
      rw [if_neg h0]
      exact bel_no h1 h2)
    have HOp : Hid (∀ W, Calls Tryz.prog 26 #[.iface 29 (.slice p n cap), .agg #[.int .i64 h.applied, .int .i64 h.count, .int .i64 h.fin, .int .i64 h.root, .int .i64 h.height, .int .i64 h.splits, .int .i64 h.areas], .agg #[.int .i64 d.id, .int .i64 d.org, .int .i64 d.format, .int .i64 d.length, .int .i64 d.block, .int .i64 d.keyAt, .int .i64 d.keyLength, .int .i64 d.interval, .int .i64 d.area, .int .i64 d.freeInterval, .int .i64 d.freeArea, .int .i64 d.base, .int .i64 d.altAt, .int .i64 d.altLength, .bool d.unique, .int .i64 d.cls, .string ⟨d.volume.toArray⟩, .string ⟨d.owner.toArray⟩, .int .i64 d.created, .int .i64 d.expires, .bool d.archived]] W fun e w' => e = .returned (.tuple #[.agg (trC (.slice p n cap) h d), .int .i64 0]) ∧ Ext W w') := Lib.hid (fun W => (open22_any p n cap h d W).mono (fun e w' ⟨h1, h2⟩ => by
      rcases h2 with ⟨_, h3⟩ | ⟨h3, _⟩
      · exact ⟨h3, h1⟩
      · rw [hz] at h3; cases h3))
    clear hac2 hac
    clear hs hz k1 k2 k3 k4 k5 k6 k7 hH
    generalize BelOut (if basesE m h d = 0 then basesL m h d else []) (basesE m h d) w = OUT at *
    refine calls_of_wp_marks Tryz.func15 rfl ?_
    simp only [Tryz.ntmps15, List.size_toArray, List.length_cons, List.length_nil, Nat.reduceAdd, Nat.reduceSub, Array.replicate_succ, Array.replicate_zero, List.push_toArray, List.append_toArray, List.nil_append, List.cons_append]
    go_upto_region 1 with (fail)
    obtain ⟨x1, b1, b2⟩ := hdd
    have x2 := Ext.alloc ((w.alloc (.cells #[.int .i64 h.applied, .int .i64 h.count, .int .i64 h.fin, .int .i64 h.root, .int .i64 h.height, .int .i64 h.splits, .int .i64 h.areas] 24)).alloc (.cells #[.int .i64 d.id, .int .i64 d.org, .int .i64 d.format, .int .i64 d.length, .int .i64 d.block, .int .i64 d.keyAt, .int .i64 d.keyLength, .int .i64 d.interval, .int .i64 d.area, .int .i64 d.freeInterval, .int .i64 d.freeArea, .int .i64 d.base, .int .i64 d.altAt, .int .i64 d.altLength, .bool d.unique, .int .i64 d.cls, .string ⟨d.volume.toArray⟩, .string ⟨d.owner.toArray⟩, .int .i64 d.created, .int .i64 d.expires, .bool d.archived] 26)) (.cells #[.slice none 0 0] 30)
    have b3 := Blk.new ((w.alloc (.cells #[.int .i64 h.applied, .int .i64 h.count, .int .i64 h.fin, .int .i64 h.root, .int .i64 h.height, .int .i64 h.splits, .int .i64 h.areas] 24)).alloc (.cells #[.int .i64 d.id, .int .i64 d.org, .int .i64 d.format, .int .i64 d.length, .int .i64 d.block, .int .i64 d.keyAt, .int .i64 d.keyLength, .int .i64 d.interval, .int .i64 d.area, .int .i64 d.freeInterval, .int .i64 d.freeArea, .int .i64 d.base, .int .i64 d.altAt, .int .i64 d.altLength, .bool d.unique, .int .i64 d.cls, .string ⟨d.volume.toArray⟩, .string ⟨d.owner.toArray⟩, .int .i64 d.created, .int .i64 d.expires, .bool d.archived] 26)) (.cells #[.slice none 0 0] 30)
    have x3 := Ext.alloc (((w.alloc (.cells #[.int .i64 h.applied, .int .i64 h.count, .int .i64 h.fin, .int .i64 h.root, .int .i64 h.height, .int .i64 h.splits, .int .i64 h.areas] 24)).alloc (.cells #[.int .i64 d.id, .int .i64 d.org, .int .i64 d.format, .int .i64 d.length, .int .i64 d.block, .int .i64 d.keyAt, .int .i64 d.keyLength, .int .i64 d.interval, .int .i64 d.area, .int .i64 d.freeInterval, .int .i64 d.freeArea, .int .i64 d.base, .int .i64 d.altAt, .int .i64 d.altLength, .bool d.unique, .int .i64 d.cls, .string ⟨d.volume.toArray⟩, .string ⟨d.owner.toArray⟩, .int .i64 d.created, .int .i64 d.expires, .bool d.archived] 26)).alloc (.cells #[.slice none 0 0] 30)) (.cells #[.int .i64 0] 31)
    have b4 := Blk.new (((w.alloc (.cells #[.int .i64 h.applied, .int .i64 h.count, .int .i64 h.fin, .int .i64 h.root, .int .i64 h.height, .int .i64 h.splits, .int .i64 h.areas] 24)).alloc (.cells #[.int .i64 d.id, .int .i64 d.org, .int .i64 d.format, .int .i64 d.length, .int .i64 d.block, .int .i64 d.keyAt, .int .i64 d.keyLength, .int .i64 d.interval, .int .i64 d.area, .int .i64 d.freeInterval, .int .i64 d.freeArea, .int .i64 d.base, .int .i64 d.altAt, .int .i64 d.altLength, .bool d.unique, .int .i64 d.cls, .string ⟨d.volume.toArray⟩, .string ⟨d.owner.toArray⟩, .int .i64 d.created, .int .i64 d.expires, .bool d.archived] 26)).alloc (.cells #[.slice none 0 0] 30)) (.cells #[.int .i64 0] 31)
    simp only [World.size_alloc] at b3 b4
    refine wp_name (fun w0 => Ext w w0 ∧ HdAt w0 w.heap.size h ∧ DsAt w0 (w.heap.size + 1) d ∧ Blk w0 (w.heap.size + 1 + 1) (.cells #[.slice none 0 0] 30) ∧ Blk w0 (w.heap.size + 1 + 1 + 1) (.cells #[.int .i64 0] 31)) ⟨(x1.trans x2).trans x3, (b1.ext x2).ext x3, (b2.ext x2).ext x3, x3.blk _ _ b3, b4⟩ ?_
    clear x1 b1 b2 x2 b3 x3 b4
    rintro w0 ⟨he0, hb1, hb2, hb3, hb4⟩
    go_upto_region 4 with (first
      | ((with_reducible (show wpList _ _ _ (⟨some 14, _, _, _, _, _⟩ :: _) _ _)); refine wpList_hd (o := ⟨some 14, _, _, _, _, _⟩) rfl (.tmp 4) rfl _ rfl h hb1 ?_)
      | ((with_reducible (show wpList _ _ _ (⟨some 15, _, _, _, _, _⟩ :: _) _ _)); refine wpList_ds (o := ⟨some 15, _, _, _, _, _⟩) rfl (.tmp 5) rfl _ rfl d hb2 ?_)
      | (go_at_call 26; refine (HOp.out _).mono ?_; rintro e w1 ⟨rfl, he1⟩)
      | (refine wpList_put rfl 70 (.tmp 8) (.tmp 17) rfl _ (trC (.slice p n cap) h d) rfl rfl _ _ (Blk.alloc (Blk.new w1 _) _) trSize rfl (tr_one p n cap h d) ?_; intro w3 ht3 hc3; have he3 := hc3.blk (Blk.new1 (w1.alloc (.cells trZ 70)) (.cells #[.int .i64 0] 31) (w1.heap.size + 1) (by simp)) (by omega); have ce3 : w3.cell? ⟨w1.heap.size + 1, 0, none⟩ = some (.int .i64 0) := Blk.val he3 0 _ rfl; have fe3 := Blk.free he3 0; have le3 := Blk.lt he3))
    have hE3 : Ext w0 w3 := hc3.ext (he1.trans ((Ext.alloc w1 _).trans (Ext.alloc _ _))) he1.size
    have hcE := Chg.setCell (w := w3) (g := w1.heap.size + 1) (i := 0) (v := .int .i64 0)
    have hE4 : Ext w0 (w3.setCell ⟨w1.heap.size + 1, 0, none⟩ (.int .i64 0)) := hcE.ext hE3 (by have := he1.size; omega)
    have hsz0 := he0.size
    have hsz1 := he1.size
    refine wp_name (fun w4 => Ext w w4 ∧ HdAt w4 w.heap.size h ∧ Blk w4 (w.heap.size + 1 + 1) (.cells #[.slice none 0 0] 30) ∧ Blk w4 (w.heap.size + 1 + 1 + 1) (.cells #[.int .i64 0] 31) ∧ Blk w4 w1.heap.size (.cells (trC (.slice p n cap) h d) 70) ∧ Blk w4 (w1.heap.size + 1) (.cells #[.int .i64 0] 31) ∧ w.heap.size + 1 + 1 + 1 < w1.heap.size) ⟨he0.trans hE4, hb1.ext hE4, hE4.blk _ _ hb3, hE4.blk _ _ hb4, hcE.blk ht3 (by omega), Blk.setCell he3, by have := Blk.lt hb4; omega⟩ ?_
    clear hE3 hcE hE4 he0 he1 hb1 hb2 hb3 hb4 ht3 hc3 he3 ce3 fe3 le3 hsz0 hsz1
    generalize w1.heap.size = tb at *
    rintro w4 ⟨hx4, hh4, hr4, hq4, ht4, he4, htb⟩
    have c3 : w4.cell? ⟨w.heap.size, 3, none⟩ = some (.int .i64 h.root) := Blk.val hh4 3 _ rfl
    have c4 : w4.cell? ⟨w.heap.size, 4, none⟩ = some (.int .i64 h.height) := Blk.val hh4 4 _ rfl
    rw [HH.out] at c4
    have l4 := Blk.lt hh4
    go_wp2_with (first
      | ((with_reducible (show wpList _ _ _ (⟨some 22, _, _, _, _, _⟩ :: _) _ _)); refine wpList_row (o := ⟨some 22, _, _, _, _, _⟩) rfl 70 (.tmp 8) rfl _ rfl _ _ _ (Blk.alloc ht4 _) trDesc rfl trSize ?_)
      | (go_at_call 33; refine (bases_any _ h d h.root ((H : Nat) : Int) (tb + 1) _ (Blk.alloc he4 _)).mono ?_; rintro e w5 ⟨he5, g0, g1, g2, g3, rfl, hit⟩))
    have hE45 : Ext w4 w5 := (Ext.alloc w4 (.cells #[.slice none 0 0] 30)).trans he5
    have hob : Blk w5 w4.heap.size (.cells #[.slice none 0 0] 30) := he5.blk _ _ (Blk.new w4 _)
    have hE5 : Ext w w5 := hx4.trans hE45
    have hr5 := hE45.blk _ _ hr4
    have hq5 := hE45.blk _ _ hq4
    have hwo : w.heap.size ≤ w4.heap.size := hx4.size
    have hrl := Blk.lt hr4
    have hql := Blk.lt hq4
    generalize w4.heap.size = ob at *
    have HIt := bases_iter p cap n m h d h.root H g0 g1 g2 g3 (tb + 1) w w5 Hs.out hn hm hH6 hE5 (by omega) hit (fun _ t => t = 30 ∨ t = 3) (by rintro b t ht hb; rcases ht with rfl | rfl | rfl | rfl <;> rcases hb with hb | hb <;> exact absurd hb (by decide))
    generalize hRR : walkD m d H h.root = R at *
    have HI0 : Hid (Ext w w5 ∧ Blk w5 (w.heap.size + 1 + 1) (.cells #[.slice none 0 0] 30) ∧ Blk w5 (w.heap.size + 1 + 1 + 1) (.cells #[.int .i64 0] 31) ∧ ∃ v, Blk w5 ob (.cells #[v] 30) ∧ w5.ownsRow w.heap.size 3 1 v ([] : List Int).length (intC [])) := Lib.hid ⟨hE5, hr5, hq5, _, hob, World.ownsRow_nil _ _ _ _⟩
    have Hit := Lib.hid HIt
    have HRR := Lib.hid hRR
    clear hob hit HIt he5 hx4 hh4 hr4 hq4 ht4 he4 c3 c4 l4 hE45 hr5 hq5 hRR
    refine wp_rangeFunc_kc (n0 := w.heap.size) hE5.size (tI := tWk (tb + 1)) rfl (enters_of Tryz.func54 (by kernel_rfl) rfl) (encs := encI) (fun x => rfl) (fun xs A B k hS => ⟨hS.1, k.blk hS.2 (fun h => h)⟩) (fun xs A B k hS => hS) Hit.out
      (fun pre W => Ext w W ∧ Blk W (w.heap.size + 1 + 1) (.cells #[.slice none 0 0] 30) ∧ Blk W (w.heap.size + 1 + 1 + 1) (.cells #[.int .i64 0] 31) ∧ ∃ v, Blk W ob (.cells #[v] 30) ∧ W.ownsRow w.heap.size 3 1 v pre.length (intC pre)) (fun _ _ _ => False)
      (fun pre A B k ⟨he, h1, h2, v, hb, ho⟩ => ⟨Ext.trans' he k.below, k.blk h1 (by rintro ⟨_, h⟩; exact absurd h (by decide)), k.blk h2 (by rintro ⟨h, _⟩; omega), v, k.blk hb (by rintro ⟨_, h⟩; exact absurd h (by decide)), own_kc ho k (by rintro b ⟨_, h⟩; exact absurd h (by decide))⟩) (fun _ _ _ _ _ h => h) HI0.out ?round ?done (fun _ _ _ _ _ _ h => h.elim)
    case round =>
      rintro l pre x W hz ⟨hex, h1, h2, v, hbo, hown⟩ hnx
      dsimp only [encI]
      gi_wp2
      refine ⟨KeepsFrom.of_ext (Ext.refl _), ?_⟩
      intro W2 hk2 hz2
      have hlx : pre.length + 1 ≤ 4096 := by
        have h3 := List.IsPrefix.length_le hnx
        simp only [List.length_append, List.length_cons, List.length_nil] at h3
        have := HLen.out
        omega
      have hne : (((pre.length : Nat) : Int) == 4096) = false := by simp; omega
      have hnn : ¬ pre.length = 4096 := by omega
      have hex2 : Ext w W2 := Ext.trans' hex hk2.below
      have Hk : Hid (Kc w.heap.size (fun _ t => t = 30 ∨ t = 3) W W2) := Lib.hid (hk2.mono (fun _ _ h => h.elim))
      have Hown := Lib.hid (own_kc hown hk2 (fun _ h => h))
      obtain ⟨qo, co, rfl⟩ := own_slice hown
      have hbo2 := hk2.blk hbo (fun h => h)
      have HC2 := Lib.hid (And.intro (hk2.blk h1 (fun h => h)) (And.intro (hk2.blk h2 (fun h => h)) (And.intro hex2 hbo2)))
      have c0 : W2.cell? ⟨ob, 0, none⟩ = some (.slice qo pre.length co) := Blk.val hbo2 0 _ rfl
      have f0 : W2.frozen? ⟨ob, 0, none⟩ = false := Blk.free hbo2 0
      have l0 := Blk.lt hbo2
      have Hpre : Hid (intC (pre ++ [x]) = intC pre ++ [.int .i64 x]) := Lib.hid (by simp [intC])
      clear hex h1 h2 hbo hbo2 hex2 hown hk2 hz2 hnx
      refine wpIn_block ?_
      refine wpIn_seq_k (fun K7 hK7 => ?_)
      have HK7 := Lib.hid hK7
      clear hK7
      gi_wp2
      refine HK7.out _ _ ?_
      refine region_in (.inr ⟨l, rfl⟩) (fun ⟨_, _, h⟩ => h) (by rfl) ?_
      have He2 := Lib.hid (Ext.alloc W2 (.cells #[.int .i64 x] 3))
      have hbo3 := He2.out.blk _ _ HC2.out.2.2.2
      have HB3 := Lib.hid hbo3
      have hzw := HC2.out.2.2.1.size
      clear hbo3
      go_wp2_with (at_builtin; go_must (refine wpList_app rfl (.tmp 32) (.tmp 34) 30 3 rfl w.heap.size (.int .i64 0) 1 8 Tryz.underlying30 infoInt rfl (by decide) _ pre.length _ rfl (own_ext Hown.out He2.out) _ [.int .i64 x] rfl (Blk.new W2 _) rfl (by intro u hu; simp at hu; subst hu; rfl) (by omega) (by decide) (by simp; omega) ?_; intro v8 w8 hout8 hgr8; obtain ⟨q8, k8, rfl⟩ := own_slice hout8; have ho3 := own_ext Hown.out He2.out; have hk8 := Kc.of_grown (n0 := w.heap.size) (tc := fun _ t => t = 3) hgr8 ho3 (Nat.le_refl _) (by simp; omega) (fun _ => rfl); have hf8 := KeepsFrom.of_grown (B := w5.heap.size) hgr8 ho3; have hb8 := hk8.blk HB3.out (by decide); have c8 := (show w8.cell? ⟨ob, 0, none⟩ = some (.slice qo pre.length co) from Blk.val hb8 0 _ rfl); have f8 := (show w8.frozen? ⟨ob, 0, none⟩ = false from Blk.free hb8 0); have Hout8 := Lib.hid hout8; have Hk8 := Lib.hid hk8; have Hf8 := Lib.hid hf8; have Hb8 := Lib.hid hb8; clear hout8 hgr8 hk8 hf8 hb8 ho3))
      have hc := Chg.setCell (w := w8) (g := ob) (i := 0) (v := .slice q8 (pre.length + 1) k8)
      exact ⟨((KeepsFrom.of_ext He2.out).trans Hf8.out).trans (KeepsFrom.of_chg hc Hb8.out), Hk.out.trans ((Kc.of_ext He2.out hzw).trans ((Hk8.out.mono (fun _ _ h => .inr h)).trans (Kc.of_chg hc hwo Hb8.out (.inl rfl)))),
        hc.ext (Ext.trans' (HC2.out.2.2.1.trans He2.out) Hk8.out.below) hwo, hc.blk (Hk8.out.blk (He2.out.blk _ _ HC2.out.1) (by decide)) (by omega), hc.blk (Hk8.out.blk (He2.out.blk _ _ HC2.out.2.1) (by decide)) (by omega), _, Blk.setCell Hb8.out, by rw [Hpre.out, List.length_append]; exact own_chgT Hout8.out (by decide) Hb8.out hc⟩
    case done =>
      rintro D xs W hD ⟨rfl, heb⟩ ⟨hex, h1, h2, v, hbo, hown⟩ hK
      have hz5 := hE5.size
      obtain ⟨qv, cv, rfl⟩ := own_slice hown
      have c0 : W.cell? ⟨ob, 0, none⟩ = some (.slice qv R.1.length cv) := Blk.val hbo 0 _ rfl
      have ce : W.cell? ⟨tb + 1, 0, none⟩ = some (.int .i64 R.2) := Blk.val heb 0 _ rfl
      have d1 : W.cell? ⟨w.heap.size + 1 + 1, 0, none⟩ = some (.slice none 0 0) := Blk.val h1 0 _ rfl
      have d2 : W.cell? ⟨w.heap.size + 1 + 1 + 1, 0, none⟩ = some (.int .i64 0) := Blk.val h2 0 _ rfl
      have f1 : W.frozen? ⟨w.heap.size + 1 + 1, 0, none⟩ = false := Blk.free h1 0
      have f2 : W.frozen? ⟨w.heap.size + 1 + 1 + 1, 0, none⟩ = false := Blk.free h2 0
      have l0 := Blk.lt hbo
      have le := Blk.lt heb
      have l1 := Blk.lt h1
      have l2 := Blk.lt h2
      have hne1 : ob ≠ w.heap.size + 1 + 1 := by omega
      have hne2 : tb + 1 ≠ w.heap.size + 1 + 1 := by omega
      have HRs : Hid (RcAt (w.heap.size + 1 + 1) (.slice none 0 0) 0 W) := Lib.hid ⟨h1, h2⟩
      have Hown := Lib.hid hown
      have HK := Lib.hid hK
      have Hex := Lib.hid hex
      clear hown hK hex hbo heb h1 h2
      obtain ⟨RL, RE⟩ := R
      simp only at c0 ce HYes HNo Hown
      dsimp only
      by_cases hre : RE = 0
      · subst hre
        go_wp2_with fail
        have hns := rc_set HRs.out (.slice qv RL.length cv) 0
        have hK2 := (hns.2.2 0).same _ _ (Nat.zero_le _) HK.out rfl
        have hkp := Kc.of_put (n0 := w.heap.size) (tc := fun _ _ => False) (.deferred none) hK2 rfl (by omega)
        exact postM_mark hK2 (results_bases _ _ _ _ _ _ rfl rfl (Blk.val (hkp.blk hns.1.c1 (fun h => h)) 0 _ rfl) (Blk.val (hkp.blk hns.1.c2 (fun h => h)) 0 _ rfl)) (HYes.out _ _ _ _ (by first | trivial | rfl) (Ext.trans' (hns.2.1 w Hex.out (by omega)) hkp.below) rfl (own_kc (rc_own HRs.out _ _ Hown.out) hkp (fun _ h => h)))
      · have hreI : (RE != 0) = true := by simpa using hre
        have HN2 := Lib.hid (fun e w' => HNo.out e w' hre)
        clear hre
        go_upto_region 11 with fail
        go_region
        all_goals
          go_wp2_with fail
          have hns := rc_set HRs.out (.slice none 0 0) RE
          have hns3 := (hns.2.2 0).trans (KeepsFrom.of_ext (Ext.drew _))
          have hK2 := hns3.same _ _ (Nat.zero_le _) HK.out rfl
          have hkp := Kc.of_put (n0 := w.heap.size) (tc := fun _ _ => False) (.deferred none) hK2 rfl (by omega)
          exact postM_mark hK2 (results_bases _ _ _ _ _ _ rfl rfl (Blk.val (hkp.blk ((Ext.drew _).blk _ _ hns.1.c1) (fun h => h)) 0 _ rfl) (Blk.val (hkp.blk ((Ext.drew _).blk _ _ hns.1.c2) (fun h => h)) 0 _ rfl)) (HN2.out _ _ (Ext.trans' ((hns.2.1 w Hex.out (by omega)).trans (Ext.drew _)) hkp.below) rfl)
  · have hz1 : door22 h d = 1 := by unfold door22 at hz ⊢; split at hz <;> rename_i hq; exact absurd rfl hz; rw [if_neg hq]
    have HOp : Hid (∀ W, Calls Tryz.prog 26 #[.iface 29 (.slice p n cap), .agg #[.int .i64 h.applied, .int .i64 h.count, .int .i64 h.fin, .int .i64 h.root, .int .i64 h.height, .int .i64 h.splits, .int .i64 h.areas], .agg #[.int .i64 d.id, .int .i64 d.org, .int .i64 d.format, .int .i64 d.length, .int .i64 d.block, .int .i64 d.keyAt, .int .i64 d.keyLength, .int .i64 d.interval, .int .i64 d.area, .int .i64 d.freeInterval, .int .i64 d.freeArea, .int .i64 d.base, .int .i64 d.altAt, .int .i64 d.altLength, .bool d.unique, .int .i64 d.cls, .string ⟨d.volume.toArray⟩, .string ⟨d.owner.toArray⟩, .int .i64 d.created, .int .i64 d.expires, .bool d.archived]] W fun e w' => e = .returned (.tuple #[.agg trZ, .int .i64 1]) ∧ Ext W w') := Lib.hid (fun W => (open22_any p n cap h d W).mono (fun e w' ⟨h1, h2⟩ => by
      rcases h2 with ⟨h3, _⟩ | ⟨_, h3⟩
      · exact absurd h3 hz
      · exact ⟨h3, h1⟩))
    have eE : basesE m h d = 1 := by unfold basesE; rw [if_pos hz]
    rw [eE, if_neg (by decide)]
    have HO : Hid (∀ e w', Ext w w' → e = .returned (.tuple #[.slice none 0 0, .int .i64 1]) → BelOut [] 1 w e w') := Lib.hid (fun e w' h1 h2 => bel_no h1 h2)
    clear hz hz1 eE hac hs
    generalize BelOut [] 1 w = OUT at *
    refine calls_of_wp_marks Tryz.func15 rfl ?_
    simp only [Tryz.ntmps15, List.size_toArray, List.length_cons, List.length_nil, Nat.reduceAdd, Nat.reduceSub, Array.replicate_succ, Array.replicate_zero, List.push_toArray, List.append_toArray, List.nil_append, List.cons_append]
    go_upto_region 1 with (fail)
    obtain ⟨x1, b1, b2⟩ := hdd
    have x2 := Ext.alloc ((w.alloc (.cells #[.int .i64 h.applied, .int .i64 h.count, .int .i64 h.fin, .int .i64 h.root, .int .i64 h.height, .int .i64 h.splits, .int .i64 h.areas] 24)).alloc (.cells #[.int .i64 d.id, .int .i64 d.org, .int .i64 d.format, .int .i64 d.length, .int .i64 d.block, .int .i64 d.keyAt, .int .i64 d.keyLength, .int .i64 d.interval, .int .i64 d.area, .int .i64 d.freeInterval, .int .i64 d.freeArea, .int .i64 d.base, .int .i64 d.altAt, .int .i64 d.altLength, .bool d.unique, .int .i64 d.cls, .string ⟨d.volume.toArray⟩, .string ⟨d.owner.toArray⟩, .int .i64 d.created, .int .i64 d.expires, .bool d.archived] 26)) (.cells #[.slice none 0 0] 30)
    have b3 := Blk.new ((w.alloc (.cells #[.int .i64 h.applied, .int .i64 h.count, .int .i64 h.fin, .int .i64 h.root, .int .i64 h.height, .int .i64 h.splits, .int .i64 h.areas] 24)).alloc (.cells #[.int .i64 d.id, .int .i64 d.org, .int .i64 d.format, .int .i64 d.length, .int .i64 d.block, .int .i64 d.keyAt, .int .i64 d.keyLength, .int .i64 d.interval, .int .i64 d.area, .int .i64 d.freeInterval, .int .i64 d.freeArea, .int .i64 d.base, .int .i64 d.altAt, .int .i64 d.altLength, .bool d.unique, .int .i64 d.cls, .string ⟨d.volume.toArray⟩, .string ⟨d.owner.toArray⟩, .int .i64 d.created, .int .i64 d.expires, .bool d.archived] 26)) (.cells #[.slice none 0 0] 30)
    have x3 := Ext.alloc (((w.alloc (.cells #[.int .i64 h.applied, .int .i64 h.count, .int .i64 h.fin, .int .i64 h.root, .int .i64 h.height, .int .i64 h.splits, .int .i64 h.areas] 24)).alloc (.cells #[.int .i64 d.id, .int .i64 d.org, .int .i64 d.format, .int .i64 d.length, .int .i64 d.block, .int .i64 d.keyAt, .int .i64 d.keyLength, .int .i64 d.interval, .int .i64 d.area, .int .i64 d.freeInterval, .int .i64 d.freeArea, .int .i64 d.base, .int .i64 d.altAt, .int .i64 d.altLength, .bool d.unique, .int .i64 d.cls, .string ⟨d.volume.toArray⟩, .string ⟨d.owner.toArray⟩, .int .i64 d.created, .int .i64 d.expires, .bool d.archived] 26)).alloc (.cells #[.slice none 0 0] 30)) (.cells #[.int .i64 0] 31)
    have b4 := Blk.new (((w.alloc (.cells #[.int .i64 h.applied, .int .i64 h.count, .int .i64 h.fin, .int .i64 h.root, .int .i64 h.height, .int .i64 h.splits, .int .i64 h.areas] 24)).alloc (.cells #[.int .i64 d.id, .int .i64 d.org, .int .i64 d.format, .int .i64 d.length, .int .i64 d.block, .int .i64 d.keyAt, .int .i64 d.keyLength, .int .i64 d.interval, .int .i64 d.area, .int .i64 d.freeInterval, .int .i64 d.freeArea, .int .i64 d.base, .int .i64 d.altAt, .int .i64 d.altLength, .bool d.unique, .int .i64 d.cls, .string ⟨d.volume.toArray⟩, .string ⟨d.owner.toArray⟩, .int .i64 d.created, .int .i64 d.expires, .bool d.archived] 26)).alloc (.cells #[.slice none 0 0] 30)) (.cells #[.int .i64 0] 31)
    simp only [World.size_alloc] at b3 b4
    refine wp_name (fun w0 => Ext w w0 ∧ HdAt w0 w.heap.size h ∧ DsAt w0 (w.heap.size + 1) d ∧ Blk w0 (w.heap.size + 1 + 1) (.cells #[.slice none 0 0] 30) ∧ Blk w0 (w.heap.size + 1 + 1 + 1) (.cells #[.int .i64 0] 31)) ⟨(x1.trans x2).trans x3, (b1.ext x2).ext x3, (b2.ext x2).ext x3, x3.blk _ _ b3, b4⟩ ?_
    clear x1 b1 b2 x2 b3 x3 b4
    rintro w0 ⟨he0, hb1, hb2, hb3, hb4⟩
    go_upto_region 3 with (first
      | ((with_reducible (show wpList _ _ _ (⟨some 14, _, _, _, _, _⟩ :: _) _ _)); refine wpList_hd (o := ⟨some 14, _, _, _, _, _⟩) rfl (.tmp 4) rfl _ rfl h hb1 ?_)
      | ((with_reducible (show wpList _ _ _ (⟨some 15, _, _, _, _, _⟩ :: _) _ _)); refine wpList_ds (o := ⟨some 15, _, _, _, _, _⟩) rfl (.tmp 5) rfl _ rfl d hb2 ?_)
      | (go_at_call 26; refine (HOp.out _).mono ?_; rintro e w1 ⟨rfl, he1⟩)
      | (refine wpList_put rfl 70 (.tmp 8) (.tmp 17) rfl _ trZ rfl rfl _ _ (Blk.alloc (Blk.new w1 _) _) trSize rfl trZ_one ?_; intro w3 ht3 hc3; have he3 := hc3.blk (Blk.new1 (w1.alloc (.cells trZ 70)) (.cells #[.int .i64 0] 31) (w1.heap.size + 1) (by simp)) (by omega); have ce3 : w3.cell? ⟨w1.heap.size + 1, 0, none⟩ = some (.int .i64 0) := Blk.val he3 0 _ rfl; have fe3 := Blk.free he3 0; have le3 := Blk.lt he3))
    have hE3 : Ext w0 w3 := hc3.ext (he1.trans ((Ext.alloc w1 _).trans (Ext.alloc _ _))) he1.size
    have hcE := Chg.setCell (w := w3) (g := w1.heap.size + 1) (i := 0) (v := .int .i64 1)
    have hE4 : Ext w0 (w3.setCell ⟨w1.heap.size + 1, 0, none⟩ (.int .i64 1)) := hcE.ext hE3 (by have := he1.size; omega)
    have hsz0 := he0.size
    have hsz1 := he1.size
    refine wp_name (fun w4 => Ext w w4 ∧ Blk w4 (w.heap.size + 1 + 1) (.cells #[.slice none 0 0] 30) ∧ Blk w4 (w.heap.size + 1 + 1 + 1) (.cells #[.int .i64 0] 31) ∧ Blk w4 (w1.heap.size + 1) (.cells #[.int .i64 1] 31) ∧ w.heap.size + 1 + 1 + 1 < w1.heap.size) ⟨he0.trans hE4, hE4.blk _ _ hb3, hE4.blk _ _ hb4, Blk.setCell he3, by have := Blk.lt hb4; omega⟩ ?_
    clear hE3 hcE hE4 he0 he1 hb1 hb2 hb3 hb4 ht3 hc3 he3 ce3 fe3 le3 hsz0 hsz1
    generalize w1.heap.size = tb at *
    rintro W ⟨hex, h1, h2, heb, htb⟩
    have ce : W.cell? ⟨tb + 1, 0, none⟩ = some (.int .i64 1) := Blk.val heb 0 _ rfl
    have d1 : W.cell? ⟨w.heap.size + 1 + 1, 0, none⟩ = some (.slice none 0 0) := Blk.val h1 0 _ rfl
    have d2 : W.cell? ⟨w.heap.size + 1 + 1 + 1, 0, none⟩ = some (.int .i64 0) := Blk.val h2 0 _ rfl
    have f1 : W.frozen? ⟨w.heap.size + 1 + 1, 0, none⟩ = false := Blk.free h1 0
    have f2 : W.frozen? ⟨w.heap.size + 1 + 1 + 1, 0, none⟩ = false := Blk.free h2 0
    have le := Blk.lt heb
    have l1 := Blk.lt h1
    have l2 := Blk.lt h2
    have hne2 : tb + 1 ≠ w.heap.size + 1 + 1 := by omega
    have HRs : Hid (RcAt (w.heap.size + 1 + 1) (.slice none 0 0) 0 W) := Lib.hid ⟨h1, h2⟩
    have Hex := Lib.hid hex
    clear hex heb h1 h2
    go_region
    all_goals
      go_wp2_with fail
      have hns := rc_set HRs.out (.slice none 0 0) 1
      exact postM_ret (results_bases _ _ _ _ _ _ rfl rfl (Blk.val ((Ext.drew _).blk _ _ hns.1.c1) 0 _ rfl) (Blk.val ((Ext.drew _).blk _ _ hns.1.c2) 0 _ rfl)) (HO.out _ _ ((hns.2.1 w Hex.out (by omega)).trans (Ext.drew _)) rfl)
end Go.Proofs.YtolmoknjmdmpgaaGreat
/- The walk of the law IndexBases. -/
namespace Dsd
theorem belowGo_no (f : Int → Int → List Int × Int) (most : Int) : ∀ (L : List Ent) (out : List Int), (belowGo f most out L).2 ≠ 0 → (belowGo f most out L).1 = []
  | [], out, h => absurd rfl h
  | x :: L, out, h => by
    unfold belowGo at h ⊢
    split
    · rfl
    · rename_i h1
      rw [if_neg h1] at h
      split
      · rfl
      · rename_i h2
        rw [if_neg h2] at h
        exact belowGo_no f most L _ h
theorem basesL_no {m : List (List UInt8)} {h : Hd} {d : DS} (h0 : basesE m h d ≠ 0) : basesL m h d = [] := by
  unfold basesE at h0
  unfold basesL
  split
  · rfl
  · rename_i h1
    rw [if_neg h1] at h0
    cases hl : h.height.toNat with
    | zero => rw [hl] at h0; exact absurd rfl h0
    | succ l =>
      rw [hl] at h0
      unfold belowD at h0 ⊢
      split
      · rfl
      · rename_i h2
        rw [if_neg h2] at h0
        exact belowGo_no _ _ _ _ h0
end Dsd
namespace Go.Proofs.YtolmoknjmdmpgaaGreat
open Go.RowKit Dsd
set_option maxRecDepth 100000 in
set_option maxHeartbeats 2000000 in
theorem IndexBases_any (p : Option Addr) (cap n : Nat) (m : List (List UInt8)) (h : Hd) (d : DS) (w : World) (hs : Strs w p m) (hn : m.length = n) (hcap : n ≤ cap) (hcm : cap ≤ maxLen) :
    Calls Tryz.prog 4 #[.slice p n cap, .agg #[.int .i64 h.applied, .int .i64 h.count, .int .i64 h.fin, .int .i64 h.root, .int .i64 h.height, .int .i64 h.splits, .int .i64 h.areas], .agg #[.int .i64 d.id, .int .i64 d.org, .int .i64 d.format, .int .i64 d.length, .int .i64 d.block, .int .i64 d.keyAt, .int .i64 d.keyLength, .int .i64 d.interval, .int .i64 d.area, .int .i64 d.freeInterval, .int .i64 d.freeArea, .int .i64 d.base, .int .i64 d.altAt, .int .i64 d.altLength, .bool d.unique, .int .i64 d.cls, .string ⟨d.volume.toArray⟩, .string ⟨d.owner.toArray⟩, .int .i64 d.created, .int .i64 d.expires, .bool d.archived]] w fun e w' => e = .returned (.bool true) ∧ Ext w w' := by
  have hL : n ≤ maxLen := Nat.le_trans hcap hcm
  clear hcap hcm
  have hdd := hd_ds w h d
  have HSm := Lib.hid (fun W (hh : Strs W p m) => small22_any p cap n m W hh hn (by omega))
  have Hs := Lib.hid hs
  have HAw := Lib.hid (fun W => awake22_any W)
  cases hsh : shortB m 60 600
  · rw [hsh] at HSm
    clear hs hn hL hsh
    go_enter Tryz.func4, Tryz.ntmps4
    go_upto_region 1 with (fail)
    refine wp_name (fun w0 => Ext w w0 ∧ HdAt w0 w.heap.size h ∧ DsAt w0 (w.heap.size + 1) d) hdd ?_
    clear hdd
    rintro w0 ⟨he0, hb1, hb2⟩
    go_wp2_with (first
      | (go_at_call 7; refine (HAw.out _).mono ?_; rintro e w1 ⟨rfl, he1⟩)
      | (go_at_call 8; refine (HSm.out _ (Hs.out.ext (he0.trans he1))).mono ?_; rintro e w2 ⟨rfl, rfl⟩))
    go_ret
    exact ⟨rfl, he0.trans he1⟩
  · have hsm := short_small hsh (by omega)
    rw [hsh] at HSm
    have HAc := Lib.hid (fun W (hh : Strs W p m) => acyclic_any p cap n m h d W hh hn hsm)
    cases hac : acycB m h d
    · rw [hac] at HAc
      clear hs hn hL hsh hsm hac
      go_enter Tryz.func4, Tryz.ntmps4
      go_upto_region 1 with (fail)
      refine wp_name (fun w0 => Ext w w0 ∧ HdAt w0 w.heap.size h ∧ DsAt w0 (w.heap.size + 1) d) hdd ?_
      clear hdd
      rintro w0 ⟨he0, hb1, hb2⟩
      go_upto_region 3 with (go_at_call 7; refine (HAw.out _).mono ?_; rintro e w1 ⟨rfl, he1⟩)
      have hx1 := he0.trans he1
      have hb11 := hb1.ext he1
      have hb21 := hb2.ext he1
      clear he0 he1 hb1 hb2
      go_wp2_with (first
        | (go_at_call 8; refine (HSm.out _ (Hs.out.ext hx1)).mono ?_; rintro e w2 ⟨rfl, rfl⟩)
        | ((with_reducible (show wpList _ _ _ (⟨some 18, _, _, _, _, _⟩ :: _) _ _)); refine wpList_hd (o := ⟨some 18, _, _, _, _, _⟩) rfl (.tmp 4) rfl _ rfl h hb11 ?_)
        | ((with_reducible (show wpList _ _ _ (⟨some 19, _, _, _, _, _⟩ :: _) _ _)); refine wpList_ds (o := ⟨some 19, _, _, _, _, _⟩) rfl (.tmp 5) rfl _ rfl d hb21 ?_)
        | (go_at_call 14; refine (HAc.out _ (Hs.out.ext hx1)).mono ?_; rintro e w2 ⟨rfl, he2⟩))
      go_ret
      exact ⟨rfl, hx1.trans he2⟩
    · rw [hac] at HAc
      have HB1 := Lib.hid (fun W (hh : Strs W p m) => Bases22_any p cap n m h d W hh hn hsm hac)
      have HB2 := Lib.hid (fun W (hh : Strs W p m) => BasesR_any p cap n m h d W hh hn hsm)
      have hln : (basesL m h d).length ≤ 1000 := by
        unfold acycB at hac
        rw [Bool.and_eq_true, decide_eq_true_eq] at hac
        exact hac.2
      have eL : (if basesE m h d = 0 then basesL m h d else []) = basesL m h d := by
        split
        · rfl
        · rename_i h0; rw [basesL_no h0]
      rw [eL] at HB1
      have HI : Hid (∀ q q' c c' W, Ints W q (basesL m h d) → Ints W q' (basesL m h d) → Calls Tryz.prog 13 #[.slice q (basesL m h d).length c, .slice q' (basesL m h d).length c'] W fun e w' => e = .returned (.bool true) ∧ Ext W w') := Lib.hid (fun q q' c c' W h1 h2 => ints_same q q' c _ c' _ (basesL m h d) W h1 h2 rfl rfl (by omega))
      unfold BelOut at HB1 HB2
      clear hs hn hL hsh hsm hln hac eL
      generalize basesL m h d = LL at *
      generalize basesE m h d = LE at *
      have e1 : (LE == LE) = true := by simp
      go_enter Tryz.func4, Tryz.ntmps4
      go_upto_region 1 with (fail)
      refine wp_name (fun w0 => Ext w w0 ∧ HdAt w0 w.heap.size h ∧ DsAt w0 (w.heap.size + 1) d) hdd ?_
      clear hdd
      rintro w0 ⟨he0, hb1, hb2⟩
      go_upto_region 3 with (go_at_call 7; refine (HAw.out _).mono ?_; rintro e w1 ⟨rfl, he1⟩)
      have hx1 := he0.trans he1
      have hb11 := hb1.ext he1
      have hb21 := hb2.ext he1
      clear he0 he1 hb1 hb2
      go_upto_region 5 with (first
        | (go_at_call 8; refine (HSm.out _ (Hs.out.ext hx1)).mono ?_; rintro e w2 ⟨rfl, rfl⟩)
        | ((with_reducible (show wpList _ _ _ (⟨some 18, _, _, _, _, _⟩ :: _) _ _)); refine wpList_hd (o := ⟨some 18, _, _, _, _, _⟩) rfl (.tmp 4) rfl _ rfl h hb11 ?_)
        | ((with_reducible (show wpList _ _ _ (⟨some 19, _, _, _, _, _⟩ :: _) _ _)); refine wpList_ds (o := ⟨some 19, _, _, _, _, _⟩) rfl (.tmp 5) rfl _ rfl d hb21 ?_)
        | (go_at_call 14; refine (HAc.out _ (Hs.out.ext hx1)).mono ?_; rintro e w2 ⟨rfl, he2⟩))
      have hx2 := hx1.trans he2
      have hb12 := hb11.ext he2
      have hb22 := hb21.ext he2
      clear hx1 he2 hb11 hb21
      go_upto_region 6 with (first
        | ((with_reducible (show wpList _ _ _ (⟨some 26, _, _, _, _, _⟩ :: _) _ _)); refine wpList_hd (o := ⟨some 26, _, _, _, _, _⟩) rfl (.tmp 4) rfl _ rfl h hb12 ?_)
        | ((with_reducible (show wpList _ _ _ (⟨some 27, _, _, _, _, _⟩ :: _) _ _)); refine wpList_ds (o := ⟨some 27, _, _, _, _, _⟩) rfl (.tmp 5) rfl _ rfl d hb22 ?_)
        | (go_at_call 15; refine (HB1.out _ (Hs.out.ext hx2)).mono ?_; rintro e w3 ⟨he3, q2, c2, rfl, ho2⟩))
      have hx3 := hx2.trans he3
      have hb13 := hb12.ext he3
      have hb23 := hb22.ext he3
      have HQ2 := Lib.hid (path_ints ho2)
      clear hx2 he3 hb12 hb22 ho2
      go_upto_region 7 with (first
        | ((with_reducible (show wpList _ _ _ (⟨some 33, _, _, _, _, _⟩ :: _) _ _)); refine wpList_hd (o := ⟨some 33, _, _, _, _, _⟩) rfl (.tmp 4) rfl _ rfl h hb13 ?_)
        | ((with_reducible (show wpList _ _ _ (⟨some 34, _, _, _, _, _⟩ :: _) _ _)); refine wpList_ds (o := ⟨some 34, _, _, _, _, _⟩) rfl (.tmp 5) rfl _ rfl d hb23 ?_)
        | (go_at_call 16; refine (HB2.out _ (Hs.out.ext hx3)).mono ?_; rintro e w4 ⟨he4, q3, c3, rfl, ho3⟩))
      have Hx4 := Lib.hid (hx3.trans he4)
      have HI4 := Lib.hid (HI.out q2 q3 c2 c3 w4 (Ints.ext HQ2.out he4) (path_ints ho3))
      clear hx3 he4 hb13 hb23 HQ2 ho3 HB1 HB2 HI HSm HAw HAc
      go_wp2_with (go_at_call 13; refine HI4.out.mono ?_; rintro e w5 ⟨rfl, he5⟩)
      go_ret
      exact ⟨rfl, Hx4.out.trans he5⟩
end Go.Proofs.YtolmoknjmdmpgaaGreat
