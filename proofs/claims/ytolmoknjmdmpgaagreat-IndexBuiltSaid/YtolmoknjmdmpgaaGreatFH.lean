/- The walk of chapter 22's awake. -/
import Derived.Test.YtolmoknjmdmpgaaGreatFG
import Derived.Test.YtolmoknjmdmpgaaGreatX18
set_option linter.unusedSimpArgs false
set_option linter.unusedVariables false
namespace Go.Proofs.YtolmoknjmdmpgaaGreat
open Go.RowKit Dsd
theorem dsBuiltB : Tryz.prog.built 26 [(1, .int .i64 3), (7, .int .i64 128), (3, .int .i64 50), (6, .int .i64 1), (8, .int .i64 2)] = some #[.int .i64 exB.id, .int .i64 exB.org, .int .i64 exB.format, .int .i64 exB.length, .int .i64 exB.block, .int .i64 exB.keyAt, .int .i64 exB.keyLength, .int .i64 exB.interval, .int .i64 exB.area, .int .i64 exB.freeInterval, .int .i64 exB.freeArea, .int .i64 exB.base, .int .i64 exB.altAt, .int .i64 exB.altLength, .bool exB.unique, .int .i64 exB.cls, .string ⟨exB.volume.toArray⟩, .string ⟨exB.owner.toArray⟩, .int .i64 exB.created, .int .i64 exB.expires, .bool exB.archived] := by kernel_rfl
theorem hdBuiltB : Tryz.prog.built 24 [(3, .int .i64 1), (2, .int .i64 6)] = some #[.int .i64 exH0.applied, .int .i64 exH0.count, .int .i64 exH0.fin, .int .i64 exH0.root, .int .i64 exH0.height, .int .i64 exH0.splits, .int .i64 exH0.areas] := by kernel_rfl
theorem hdBuiltC : Tryz.prog.built 24 [(3, .int .i64 7), (4, .int .i64 1), (2, .int .i64 7)] = some #[.int .i64 exH1.applied, .int .i64 exH1.count, .int .i64 exH1.fin, .int .i64 exH1.root, .int .i64 exH1.height, .int .i64 exH1.splits, .int .i64 exH1.areas] := by kernel_rfl
theorem ds_oneB (d : DS) : (#[.int .i64 d.id, .int .i64 d.org, .int .i64 d.format, .int .i64 d.length, .int .i64 d.block, .int .i64 d.keyAt, .int .i64 d.keyLength, .int .i64 d.interval, .int .i64 d.area, .int .i64 d.freeInterval, .int .i64 d.freeArea, .int .i64 d.base, .int .i64 d.altAt, .int .i64 d.altLength, .bool d.unique, .int .i64 d.cls, .string ⟨d.volume.toArray⟩, .string ⟨d.owner.toArray⟩, .int .i64 d.created, .int .i64 d.expires, .bool d.archived] : Array Value).all (·.oneCell') = true := by simp [Value.oneCell']
theorem own_wrts {w : World} {B n c : Nat} {q : Option Addr} {L : List Wr} (h : w.ownsRow B 65 2 (.slice q n c) n (wrC L)) : Wrts w q L := by
  obtain ⟨hl, ⟨hv, h0⟩ | ⟨g', cap, cur, hv, h1, h2, h3, h4, h5, h6⟩⟩ := h
  · rw [wrC_len] at hl
    exact .inl (List.eq_nil_of_length_eq_zero (by omega))
  · simp only [Value.slice.injEq] at hv
    obtain ⟨rfl, _, rfl⟩ := hv
    have hn : n = L.length := by rw [wrC_len] at hl; omega
    refine .inr ⟨g', 0, rfl, ⟨Blk.lt h2, cur, h2⟩, fun i hi => ?_⟩
    have hr : RowW w g' cur.size L := ⟨cur, h2, rfl, by rw [← hn]; exact h6⟩
    obtain ⟨a0, a1, _⟩ := hr.at i hi
    rw [Nat.zero_add]
    exact ⟨a0, a1⟩
theorem own_strsX {w : World} {B n c : Nat} {q : Option Addr} {L : List (List UInt8)} (h : w.ownsRow B 9 1 (.slice q n c) n (L.map fun s : List UInt8 => Value.string ⟨s.toArray⟩)) : Strs w q L := by
  obtain ⟨hl, ⟨hv, h0⟩ | ⟨g', cap, cur, hv, h1, h2, h3, h4, h5, h6⟩⟩ := h
  · rw [List.length_map] at hl
    exact .inl (by rw [List.eq_nil_of_length_eq_zero (by omega : L.length = 0)]; rfl)
  · simp only [Value.slice.injEq] at hv
    obtain ⟨rfl, _, rfl⟩ := hv
    exact cells_take h2 h6
theorem exM_len : exM.length = 8 := by decide +kernel
theorem exM_small : Small exM := by
  refine ⟨by rw [exM_len]; omega, fun s hs => ?_⟩
  have : ∀ s ∈ exM, s.length ≤ 1000000 := by decide +kernel
  exact this s hs
theorem exH1_eq : exH1 = { exH0 with height := exH0.height + 1, fin := exH0.fin + 1, root := exH0.fin + 1 } := by decide
theorem exPut : putsP [[]] [(7, exE)] = exM := rfl
set_option maxRecDepth 100000 in
set_option maxHeartbeats 4000000 in
theorem awake22_any (w : World) : Calls Tryz.prog 7 #[] w fun e w' => e = .returned (.bool true) ∧ Ext w w' := by
  have HAd : Hid (∀ mb qb W, W.cell? ⟨qb, 0, none⟩ = some (.int .i64 1) → qb < W.heap.size → Calls Tryz.prog 24 #[.iface 29 (.slice (some ⟨mb, 0, none⟩) 1 1), .agg #[.int .i64 0, .int .i64 0, .int .i64 6, .int .i64 1, .int .i64 0, .int .i64 0, .int .i64 0], .agg #[.int .i64 exB.id, .int .i64 exB.org, .int .i64 exB.format, .int .i64 exB.length, .int .i64 exB.block, .int .i64 exB.keyAt, .int .i64 exB.keyLength, .int .i64 exB.interval, .int .i64 exB.area, .int .i64 exB.freeInterval, .int .i64 exB.freeArea, .int .i64 exB.base, .int .i64 exB.altAt, .int .i64 exB.altLength, .bool exB.unique, .int .i64 exB.cls, .string ⟨exB.volume.toArray⟩, .string ⟨exB.owner.toArray⟩, .int .i64 exB.created, .int .i64 exB.expires, .bool exB.archived], .slice (some ⟨qb, 0, none⟩) 1 1, .string ⟨#[109]⟩, .int .i64 4] W fun e w' => Ext W w' ∧ ∃ q c, e = .returned (.tuple #[.agg #[.int .i64 exH1.applied, .int .i64 exH1.count, .int .i64 exH1.fin, .int .i64 exH1.root, .int .i64 exH1.height, .int .i64 exH1.splits, .int .i64 exH1.areas], .slice q 1 c, .int .i64 0]) ∧ w'.ownsRow 0 65 2 (.slice q 1 c) 1 (wrC [(7, exE)])) := Lib.hid (fun mb qb W h1 h2 =>
    (Add0_any (some ⟨mb, 0, none⟩) 1 1 exH0 exH1 exB qb [109] exE 4 W exB_door rfl exH1_eq h1 h2 (by simp) (by decide) (by omega) exE_ok rfl).mono (fun e w' ⟨a1, q, c, a2, a3⟩ => ⟨a1, q, c, a2, own_le a3 (Nat.zero_le _)⟩))
  have HPu : Hid (∀ mb q c W, Strs W (some ⟨mb, 0, none⟩) [[]] → Wrts W q [(7, exE)] → Calls Tryz.prog 22 #[.slice (some ⟨mb, 0, none⟩) 1 1, .slice q 1 c] W fun e w' => Ext W w' ∧ ∃ q2 c2, e = .returned (.slice q2 8 c2) ∧ Strs w' q2 exM) := Lib.hid (fun mb q c W h1 h2 =>
    (Put_any ⟨mb, 0, none⟩ q 1 1 1 c [[]] [(7, exE)] W h1 rfl h2 rfl (by omega) (by omega)).mono (by
      rintro e w' ⟨a1, v, rfl, a2⟩
      rw [exPut, exM_len] at a2
      obtain ⟨q2, c2, rfl⟩ := own_slice a2
      exact ⟨a1, q2, c2, rfl, own_strsX a2⟩))
  have HLa : Hid (∀ q c W, Strs W q exM → Calls Tryz.prog 9 #[.iface 29 (.slice q 8 c), .agg #[.int .i64 exH1.applied, .int .i64 exH1.count, .int .i64 exH1.fin, .int .i64 exH1.root, .int .i64 exH1.height, .int .i64 exH1.splits, .int .i64 exH1.areas], .agg #[.int .i64 exB.id, .int .i64 exB.org, .int .i64 exB.format, .int .i64 exB.length, .int .i64 exB.block, .int .i64 exB.keyAt, .int .i64 exB.keyLength, .int .i64 exB.interval, .int .i64 exB.area, .int .i64 exB.freeInterval, .int .i64 exB.freeArea, .int .i64 exB.base, .int .i64 exB.altAt, .int .i64 exB.altLength, .bool exB.unique, .int .i64 exB.cls, .string ⟨exB.volume.toArray⟩, .string ⟨exB.owner.toArray⟩, .int .i64 exB.created, .int .i64 exB.expires, .bool exB.archived], .string ⟨#[97]⟩] W fun e w' => Ext W w' ∧ ∃ q2 c2, e = .returned (.tuple #[.slice q2 2 c2, .int .i64 0]) ∧ Ints w' q2 [7, 1]) := Lib.hid (fun q c W h1 =>
    (Locate22_any q c 8 exM exH1 exB [97] W h1 exM_len exM_small).mono (by
      rintro e w' ⟨a1, q2, c2, a2, a3⟩
      rw [exA_loc.1, exA_loc.2] at a2
      rw [exA_loc.2] at a3
      exact ⟨a1, q2, c2, a2, path_ints a3⟩))
  have HLm : Hid (∀ q c W, Strs W q exM → Calls Tryz.prog 9 #[.iface 29 (.slice q 8 c), .agg #[.int .i64 exH1.applied, .int .i64 exH1.count, .int .i64 exH1.fin, .int .i64 exH1.root, .int .i64 exH1.height, .int .i64 exH1.splits, .int .i64 exH1.areas], .agg #[.int .i64 exB.id, .int .i64 exB.org, .int .i64 exB.format, .int .i64 exB.length, .int .i64 exB.block, .int .i64 exB.keyAt, .int .i64 exB.keyLength, .int .i64 exB.interval, .int .i64 exB.area, .int .i64 exB.freeInterval, .int .i64 exB.freeArea, .int .i64 exB.base, .int .i64 exB.altAt, .int .i64 exB.altLength, .bool exB.unique, .int .i64 exB.cls, .string ⟨exB.volume.toArray⟩, .string ⟨exB.owner.toArray⟩, .int .i64 exB.created, .int .i64 exB.expires, .bool exB.archived], .string ⟨#[109]⟩] W fun e w' => Ext W w' ∧ ∃ q2 c2, e = .returned (.tuple #[.slice q2 2 c2, .int .i64 0]) ∧ Ints w' q2 [7, 4]) := Lib.hid (fun q c W h1 =>
    (Locate22_any q c 8 exM exH1 exB [109] W h1 exM_len exM_small).mono (by
      rintro e w' ⟨a1, q2, c2, a2, a3⟩
      rw [exM_loc.1, exM_loc.2] at a2
      rw [exM_loc.2] at a3
      exact ⟨a1, q2, c2, a2, path_ints a3⟩))
  have HI : Hid (∀ (x y : Int) (q : Option Addr) (c gb : Nat) W, Ints W q [x, y] → Ints W (some ⟨gb, 0, none⟩) [x, y] → Calls Tryz.prog 13 #[.slice q 2 c, .slice (some ⟨gb, 0, none⟩) 2 2] W fun e w' => e = .returned (.bool true) ∧ Ext W w') := Lib.hid (fun x y q c gb W h1 h2 => ints_same q (some ⟨gb, 0, none⟩) c 2 2 2 [x, y] W h1 h2 rfl rfl (by simp))
  have hE : ∀ W, (Op.equalIn 10000 24 (.agg #[.int .i64 exH1.applied, .int .i64 exH1.count, .int .i64 exH1.fin, .int .i64 exH1.root, .int .i64 exH1.height, .int .i64 exH1.splits, .int .i64 exH1.areas]) (.agg #[.int .i64 0, .int .i64 0, .int .i64 7, .int .i64 7, .int .i64 1, .int .i64 0, .int .i64 0])).run Tryz.prog W = .ok true W := fun W => (hd_equal exH1 exH1 W).trans (by simp)
  have hE2 : ∀ W, (Op.equalIn 10000 24 (.agg #[.int .i64 exH1.applied, .int .i64 exH1.count, .int .i64 exH1.fin, .int .i64 exH1.root, .int .i64 exH1.height, .int .i64 exH1.splits, .int .i64 exH1.areas]) (.agg #[.int .i64 exH1.applied, .int .i64 exH1.count, .int .i64 exH1.fin, .int .i64 exH1.root, .int .i64 exH1.height, .int .i64 exH1.splits, .int .i64 exH1.areas])).run Tryz.prog W = .ok true W := fun W => (hd_equal exH1 exH1 W).trans (by simp)
  have hE3 : ∀ W, (Op.equalIn 10000 24 (.agg #[.int .i64 0, .int .i64 0, .int .i64 7, .int .i64 7, .int .i64 1, .int .i64 0, .int .i64 0]) (.agg #[.int .i64 0, .int .i64 0, .int .i64 7, .int .i64 7, .int .i64 1, .int .i64 0, .int .i64 0])).run Tryz.prog W = .ok true W := fun W => (hd_equal exH1 exH1 W).trans (by simp)
  have hG := hdGuard
  go_enter Tryz.func7, Tryz.ntmps7
  go_upto_region 2 with (first
    | (refine wpList_bld (o := ⟨some 10, _, _, _, _, _⟩) rfl 26 #[(1, .const (.int .i64 3)), (7, .const (.int .i64 128)), (3, .const (.int .i64 50)), (6, .const (.int .i64 1)), (8, .const (.int .i64 2))] rfl [(1, .int .i64 3), (7, .int .i64 128), (3, .int .i64 50), (6, .int .i64 1), (8, .int .i64 2)] rfl _ dsBuiltB ?_)
    | (refine wpList_put rfl 26 (.tmp 1) (.tmp 10) rfl _ #[.int .i64 exB.id, .int .i64 exB.org, .int .i64 exB.format, .int .i64 exB.length, .int .i64 exB.block, .int .i64 exB.keyAt, .int .i64 exB.keyLength, .int .i64 exB.interval, .int .i64 exB.area, .int .i64 exB.freeInterval, .int .i64 exB.freeArea, .int .i64 exB.base, .int .i64 exB.altAt, .int .i64 exB.altLength, .bool exB.unique, .int .i64 exB.cls, .string ⟨exB.volume.toArray⟩, .string ⟨exB.owner.toArray⟩, .int .i64 exB.created, .int .i64 exB.expires, .bool exB.archived] rfl rfl _ _ (Blk.new w _) dsSize rfl (ds_oneB exB) ?_; intro w1 hd1 hc1))
  have hx1 := hc1.ext (Ext.alloc w _) (Nat.le_refl _)
  have Hx1 := Lib.hid hx1
  have Hd1 := Lib.hid hd1
  clear hx1 hc1
  generalize w.heap.size = db at *
  go_upto_region 3 with (first
    | ((with_reducible (show wpList _ _ _ (⟨some 15, _, _, _, _, _⟩ :: _) _ _)); refine wpList_ds (o := ⟨some 15, _, _, _, _, _⟩) rfl (.tmp 1) rfl _ rfl exB (by first | exact hd1 | exact DsAt.ext hd1 (Ext.alloc _ _)) ?_)
    | (go_at_call 24; refine (HAd.out _ _ _ (by exact Blk.val (Blk.new1 _ _ _ (by simp)) 0 _ rfl) (by simp)).mono ?_; rintro e w2 ⟨he2, q2, c2, rfl, ho2⟩)
    | (refine wpList_put rfl 24 (.tmp 2) (.tmp 18) rfl _ #[.int .i64 exH1.applied, .int .i64 exH1.count, .int .i64 exH1.fin, .int .i64 exH1.root, .int .i64 exH1.height, .int .i64 exH1.splits, .int .i64 exH1.areas] rfl rfl _ _ (Blk.new w2 _) hdSize rfl (by simp [Value.oneCell']) ?_; intro w3 hh3 hc3))
  have hx2 := ((Ext.alloc w1 (.cells #[.string ⟨#[]⟩] 9)).trans (Ext.alloc _ (.cells #[.int .i64 1] 3))).trans he2
  have hx3 := hc3.ext (Ext.alloc w2 _) (Nat.le_refl _)
  refine wp_name (fun w4 => Ext w w4 ∧ DsAt w4 db exB ∧ Blk w4 w2.heap.size (.cells #[.int .i64 exH1.applied, .int .i64 exH1.count, .int .i64 exH1.fin, .int .i64 exH1.root, .int .i64 exH1.height, .int .i64 exH1.splits, .int .i64 exH1.areas] 24) ∧ w4.ownsRow 0 65 2 (.slice q2 1 c2) 1 (wrC [(7, exE)])) ⟨(Hx1.out.trans hx2).trans hx3, hx3.blk _ _ (hx2.blk _ _ Hd1.out), hh3, own_chgT (own_ext ho2 (Ext.alloc _ _)) (by decide) (Blk.new w2 _) hc3⟩ ?_
  clear hx2 hx3 he2 ho2 hh3 hc3 hd1 Hd1 Hx1
  generalize w2.heap.size = hb at *
  clear w2
  rintro w4 ⟨hx4, hd4, hh4, ho4⟩
  have HO4 := Lib.hid ho4
  go_upto_region 4 with (go_at_call 22; refine (HPu.out _ _ _ _ (by exact cells_blk (Blk.new w4 _)) (own_wrts (own_ext ho4 (Ext.alloc _ _)))).mono ?_; rintro e w5 ⟨he5, q5, c5, rfl, hs5⟩)
  have hx5 := (Ext.alloc w4 (.cells #[.string ⟨#[]⟩] 9)).trans he5
  refine wp_name (fun w6 => Ext w w6 ∧ DsAt w6 db exB ∧ HdAt w6 hb exH1 ∧ w6.ownsRow 0 65 2 (.slice q2 1 c2) 1 (wrC [(7, exE)]) ∧ Strs w6 q5 exM) ⟨hx4.trans hx5, hd4.ext hx5, hx5.blk _ _ hh4, own_ext ho4 hx5, hs5⟩ ?_
  clear hx4 hd4 hh4 ho4 he5 hs5 hx5 HO4
  rintro w6 ⟨hx6, hd6, hh6, ho6, hs6⟩
  go_upto_region 5 with (first
    | ((with_reducible (show wpList _ _ _ (⟨some 27, _, _, _, _, _⟩ :: _) _ _)); refine wpList_hd (o := ⟨some 27, _, _, _, _, _⟩) rfl (.tmp 2) rfl _ rfl exH1 hh6 ?_)
    | ((with_reducible (show wpList _ _ _ (⟨some 28, _, _, _, _, _⟩ :: _) _ _)); refine wpList_ds (o := ⟨some 28, _, _, _, _, _⟩) rfl (.tmp 1) rfl _ rfl exB hd6 ?_)
    | (go_at_call 9; refine (HLa.out _ _ _ hs6).mono ?_; rintro e w7 ⟨he7, q7, c7, rfl, hi7⟩))
  have hx7 := hx6.trans he7
  have hd7 := hd6.ext he7
  have hh7 := hh6.ext he7
  have ho7 := own_ext ho6 he7
  have hs7 := hs6.ext he7
  clear hx6 hd6 hh6 ho6 hs6 he7
  go_upto_region 6 with (first
    | ((with_reducible (show wpList _ _ _ (⟨some 35, _, _, _, _, _⟩ :: _) _ _)); refine wpList_hd (o := ⟨some 35, _, _, _, _, _⟩) rfl (.tmp 2) rfl _ rfl exH1 hh7 ?_)
    | ((with_reducible (show wpList _ _ _ (⟨some 36, _, _, _, _, _⟩ :: _) _ _)); refine wpList_ds (o := ⟨some 36, _, _, _, _, _⟩) rfl (.tmp 1) rfl _ rfl exB hd7 ?_)
    | (go_at_call 9; refine (HLm.out _ _ _ hs7).mono ?_; rintro e w8 ⟨he8, q8, c8, rfl, hi8⟩))
  have hx8 := hx7.trans he8
  have hh8 := hh7.ext he8
  have hi78 := Ints.ext hi7 he8
  obtain ⟨g9, cur9, rfl, _, hg9, _, _, _, ht9⟩ := own_parts (own_ext ho7 he8) (by omega)
  have k9 : w8.cell? ⟨g9, 0, none⟩ = some (.int .i64 7) := ((show RowW w8 g9 cur9.size [(7, exE)] from ⟨cur9, hg9, rfl, ht9⟩).at 0 (by simp)).1
  have l9 := Blk.lt hg9
  have HI1 : Hid (Calls Tryz.prog 13 #[.slice q7 2 c7, .slice (some ⟨w8.heap.size, 0, none⟩) 2 2] (w8.alloc (.cells #[.int .i64 7, .int .i64 1] 3)) fun e w' => e = .returned (.bool true) ∧ Ext w8 w') := Lib.hid ((HI.out 7 1 q7 c7 _ _ (Ints.ext hi78 (Ext.alloc w8 _)) (cells_blk (Blk.new w8 (.cells #[.int .i64 7, .int .i64 1] 3)))).mono (fun e w' ⟨a1, a2⟩ => ⟨a1, (Ext.alloc w8 _).trans a2⟩))
  have HI2 : Hid (∀ W, Ext w8 W → Calls Tryz.prog 13 #[.slice q8 2 c8, .slice (some ⟨W.heap.size, 0, none⟩) 2 2] (W.alloc (.cells #[.int .i64 7, .int .i64 4] 3)) fun e w' => e = .returned (.bool true) ∧ Ext w8 w') := Lib.hid (fun W hW => (HI.out 7 4 q8 c8 _ _ (Ints.ext hi8 (hW.trans (Ext.alloc W _))) (cells_blk (Blk.new W (.cells #[.int .i64 7, .int .i64 4] 3)))).mono (fun e w' ⟨a1, a2⟩ => ⟨a1, hW.trans ((Ext.alloc W _).trans a2)⟩))
  have Hx8 := Lib.hid hx8
  have Hh8 := Lib.hid hh8
  clear hx7 hd7 hh7 ho7 hs7 he8 hi7 hg9 ht9 HAd HPu HLa HLm hi78 hi8 hx8 hh8 HI
  go_wp2_with (first
    | ((with_reducible (show wpList _ _ _ (⟨some 43, _, _, _, _, _⟩ :: _) _ _)); refine wpList_hd (o := ⟨some 43, _, _, _, _, _⟩) rfl (.tmp 2) rfl _ rfl exH1 Hh8.out ?_)
    | ((with_reducible (show wpList _ _ _ (⟨some 44, _, _, _, _, _⟩ :: _) _ _)); refine wpList_bld (o := ⟨some 44, _, _, _, _, _⟩) rfl 24 #[(3, .const (.int .i64 7)), (4, .const (.int .i64 1)), (2, .const (.int .i64 7))] rfl [(3, .int .i64 7), (4, .int .i64 1), (2, .int .i64 7)] rfl _ hdBuiltC ?_)
    | (go_at_call 13; (with_reducible refine HI1.out.mono ?_); rintro e w9 ⟨rfl, he9⟩)
    | (go_at_call 13; (with_reducible refine (HI2.out _ he9).mono ?_); rintro e w10 ⟨rfl, he10⟩))
  go_ret
  exact ⟨rfl, Hx8.out.trans he10⟩
end Go.Proofs.YtolmoknjmdmpgaaGreat
