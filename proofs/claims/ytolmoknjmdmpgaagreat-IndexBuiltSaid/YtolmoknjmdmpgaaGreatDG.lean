/- The walk of package index's open. -/
import Derived.Test.YtolmoknjmdmpgaaGreatDF
set_option linter.unusedSimpArgs false
set_option linter.unusedVariables false
namespace Go.Proofs.YtolmoknjmdmpgaaGreat
open Go.RowKit Dsd
def trZ : Array Value := #[.nilIface, .int .i64 0, .int .i64 0, .int .i64 0, .int .i64 0, .int .i64 0, .int .i64 0, .int .i64 0, .int .i64 0, .int .i64 0, .int .i64 0, .int .i64 0, .int .i64 0, .int .i64 0, .int .i64 0, .int .i64 0, .int .i64 0, .int .i64 0, .int .i64 0, .int .i64 0, .int .i64 0, .int .i64 0, .bool false, .int .i64 0, .string ⟨#[]⟩, .string ⟨#[]⟩, .int .i64 0, .int .i64 0, .bool false]
theorem trZ_one : trZ.all (·.oneCell') = true := by kernel_rfl
theorem trZ_built : Tryz.prog.built 70 [] = some trZ := by kernel_rfl
theorem tr_one (p : Option Addr) (n cap : Nat) (h : Hd) (d : DS) : (trC (.slice p n cap) h d).all (·.oneCell') = true := by simp [trC, Value.oneCell']
theorem tr_built (p : Option Addr) (n cap : Nat) (h : Hd) (d : DS) : Tryz.prog.built 70 [(0, .iface 29 (.slice p n cap)), (1, .agg #[.int .i64 h.applied, .int .i64 h.count, .int .i64 h.fin, .int .i64 h.root, .int .i64 h.height, .int .i64 h.splits, .int .i64 h.areas]), (2, .agg #[.int .i64 d.id, .int .i64 d.org, .int .i64 d.format, .int .i64 d.length, .int .i64 d.block, .int .i64 d.keyAt, .int .i64 d.keyLength, .int .i64 d.interval, .int .i64 d.area, .int .i64 d.freeInterval, .int .i64 d.freeArea, .int .i64 d.base, .int .i64 d.altAt, .int .i64 d.altLength, .bool d.unique, .int .i64 d.cls, .string ⟨d.volume.toArray⟩, .string ⟨d.owner.toArray⟩, .int .i64 d.created, .int .i64 d.expires, .bool d.archived])] = some (trC (.slice p n cap) h d) := by kernel_rfl
/-- What open hands back. -/
def Open22 (p : Option Addr) (n cap : Nat) (h : Hd) (d : DS) (w : World) (e : Ending) (w' : World) : Prop :=
  Ext w w' ∧ ((door22 h d = 0 ∧ e = .returned (.tuple #[.agg (trC (.slice p n cap) h d), .int .i64 0])) ∨ (door22 h d = 1 ∧ e = .returned (.tuple #[.agg trZ, .int .i64 1])))
set_option maxRecDepth 100000 in
set_option maxHeartbeats 2000000 in
theorem open22_any (p : Option Addr) (n cap : Nat) (h : Hd) (d : DS) (w : World) :
    Calls Tryz.prog 26 #[.iface 29 (.slice p n cap), .agg #[.int .i64 h.applied, .int .i64 h.count, .int .i64 h.fin, .int .i64 h.root, .int .i64 h.height, .int .i64 h.splits, .int .i64 h.areas], .agg #[.int .i64 d.id, .int .i64 d.org, .int .i64 d.format, .int .i64 d.length, .int .i64 d.block, .int .i64 d.keyAt, .int .i64 d.keyLength, .int .i64 d.interval, .int .i64 d.area, .int .i64 d.freeInterval, .int .i64 d.freeArea, .int .i64 d.base, .int .i64 d.altAt, .int .i64 d.altLength, .bool d.unique, .int .i64 d.cls, .string ⟨d.volume.toArray⟩, .string ⟨d.owner.toArray⟩, .int .i64 d.created, .int .i64 d.expires, .bool d.archived]] w (Open22 p n cap h d w) := by
  have Hv := Lib.hid (fun W => described22_any h d W)
  have hdd := hd_ds_cl w h d trZ 70
  by_cases hz : door22 h d = 0
  · obtain ⟨k1, k2, k3, k4, k5, k6, k7⟩ := door22_zero hz
    have HO : Hid (∀ e w', (Ext w w' ∧ e = .returned (.tuple #[.agg (trC (.slice p n cap) h d), .int .i64 0])) → Open22 p n cap h d w e w') := Lib.hid (fun e w' ⟨h1, h2⟩ => ⟨h1, .inl ⟨hz, h2⟩⟩)
    rw [k1, decide_eq_true k6, decide_eq_true k7] at Hv
    clear hz k1
    generalize Open22 p n cap h d w = OUT at *
    go_enter Tryz.func26, Tryz.ntmps26
    go_upto_region 1 with (fail)
    refine wp_name (fun w0 => Ext w w0 ∧ HdAt w0 w.heap.size h ∧ DsAt w0 (w.heap.size + 1) d ∧ Blk w0 (w.heap.size + 1 + 1) (.cells trZ 70)) hdd ?_
    clear hdd
    rintro w0 ⟨he0, hb1, hb2, hb3⟩
    go_wp2_with (first
      | ((with_reducible (show wpList _ _ _ (⟨some 8, _, _, _, _, _⟩ :: _) _ _)); refine wpList_hd (o := ⟨some 8, _, _, _, _, _⟩) rfl (.tmp 4) rfl _ rfl h hb1 ?_)
      | ((with_reducible (show wpList _ _ _ (⟨some 9, _, _, _, _, _⟩ :: _) _ _)); refine wpList_ds (o := ⟨some 9, _, _, _, _, _⟩) rfl (.tmp 5) rfl _ rfl d hb2 ?_)
      | (go_at_call 50; refine (Hv.out _).mono ?_; rintro e w1 ⟨rfl, he1⟩; have hb1' := hb1.ext he1; have hb2' := hb2.ext he1; have hb3' := he1.blk _ _ hb3; have c3 := Blk.val hb1' 3 _ rfl; have c4 := Blk.val hb1' 4 _ rfl; have l1 := Blk.lt hb1')
      | ((with_reducible (show wpList _ _ _ (⟨some 34, _, _, _, _, _⟩ :: _) _ _)); refine wpList_hd (o := ⟨some 34, _, _, _, _, _⟩) rfl (.tmp 4) rfl _ rfl h hb1' ?_)
      | ((with_reducible (show wpList _ _ _ (⟨some 35, _, _, _, _, _⟩ :: _) _ _)); refine wpList_ds (o := ⟨some 35, _, _, _, _, _⟩) rfl (.tmp 5) rfl _ rfl d hb2' ?_)
      | (refine wpList_bld (o := ⟨some 36, _, _, _, _, _⟩) rfl 70 #[(0, .tmp 33), (1, .tmp 34), (2, .tmp 35)] rfl [(0, .iface 29 (.slice p n cap)), (1, .agg #[.int .i64 h.applied, .int .i64 h.count, .int .i64 h.fin, .int .i64 h.root, .int .i64 h.height, .int .i64 h.splits, .int .i64 h.areas]), (2, .agg #[.int .i64 d.id, .int .i64 d.org, .int .i64 d.format, .int .i64 d.length, .int .i64 d.block, .int .i64 d.keyAt, .int .i64 d.keyLength, .int .i64 d.interval, .int .i64 d.area, .int .i64 d.freeInterval, .int .i64 d.freeArea, .int .i64 d.base, .int .i64 d.altAt, .int .i64 d.altLength, .bool d.unique, .int .i64 d.cls, .string ⟨d.volume.toArray⟩, .string ⟨d.owner.toArray⟩, .int .i64 d.created, .int .i64 d.expires, .bool d.archived])] rfl _ (tr_built p n cap h d) ?_)
      | (refine wpList_put rfl 70 (.tmp 6) (.tmp 36) rfl _ (trC (.slice p n cap) h d) rfl rfl _ _ hb3' trSize rfl (tr_one p n cap h d) ?_; intro w3 hb4 hc4))
    exact bodyPost_ret (results_row1 Tryz.results26 _ _ _ _ _ _ rfl hb4 trDesc rfl trSize) rfl (HO.out _ _ ⟨hc4.ext (he0.trans he1) (by omega), rfl⟩)
  · have hz1 : door22 h d = 1 := by unfold door22 at hz ⊢; split at hz <;> rename_i hq; exact absurd rfl hz; rw [if_neg hq]
    have HO : Hid (∀ e w', (Ext w w' ∧ e = .returned (.tuple #[.agg trZ, .int .i64 1])) → Open22 p n cap h d w e w') := Lib.hid (fun e w' ⟨h1, h2⟩ => ⟨h1, .inr ⟨hz1, h2⟩⟩)
    have HN : Hid ((keyedB d && decide (0 ≤ h.fin) && decide (h.fin ≤ 16777152)) = true → ¬ (1 ≤ h.root ∧ h.root ≤ 16777216 ∧ 0 ≤ h.height ∧ h.height ≤ 6)) := Lib.hid (fun hq ⟨a1, a2, a3, a4⟩ => by
      apply hz
      unfold door22
      simp only [Bool.and_eq_true, decide_eq_true_eq] at hq
      rw [if_pos]
      simp only [Bool.and_eq_true, decide_eq_true_eq]
      exact ⟨⟨⟨⟨⟨⟨hq.1.1, a1⟩, a2⟩, a3⟩, a4⟩, hq.1.2⟩, hq.2⟩)
    clear hz hz1
    generalize Open22 p n cap h d w = OUT at *
    generalize hbb : (keyedB d && decide (0 ≤ h.fin) && decide (h.fin ≤ 16777152)) = bb at *
    clear hbb
    go_enter Tryz.func26, Tryz.ntmps26
    go_upto_region 1 with (fail)
    refine wp_name (fun w0 => Ext w w0 ∧ HdAt w0 w.heap.size h ∧ DsAt w0 (w.heap.size + 1) d ∧ Blk w0 (w.heap.size + 1 + 1) (.cells trZ 70)) hdd ?_
    clear hdd
    rintro w0 ⟨he0, hb1, hb2, hb3⟩
    cases bb
    · go_wp2_with (first
        | ((with_reducible (show wpList _ _ _ (⟨some 8, _, _, _, _, _⟩ :: _) _ _)); refine wpList_hd (o := ⟨some 8, _, _, _, _, _⟩) rfl (.tmp 4) rfl _ rfl h hb1 ?_)
        | ((with_reducible (show wpList _ _ _ (⟨some 9, _, _, _, _, _⟩ :: _) _ _)); refine wpList_ds (o := ⟨some 9, _, _, _, _, _⟩) rfl (.tmp 5) rfl _ rfl d hb2 ?_)
        | (go_at_call 50; refine (Hv.out _).mono ?_; rintro e w1 ⟨rfl, he1⟩; have hb3' := he1.blk _ _ hb3)
        | (refine wpList_bld (o := ⟨some 32, _, _, _, _, _⟩) rfl 70 #[] rfl [] rfl _ trZ_built ?_)
        | (refine wpList_put rfl 70 (.tmp 6) (.tmp 32) rfl _ trZ rfl rfl _ _ hb3' trSize rfl trZ_one ?_; intro w3 hb4 hc4))
      exact bodyPost_ret (results_row1 Tryz.results26 _ _ _ _ _ _ rfl hb4 trDesc rfl trSize) rfl (HO.out _ _ ⟨hc4.ext (he0.trans he1) (by omega), rfl⟩)
    · go_wp2_with (first
        | ((with_reducible (show wpList _ _ _ (⟨some 8, _, _, _, _, _⟩ :: _) _ _)); refine wpList_hd (o := ⟨some 8, _, _, _, _, _⟩) rfl (.tmp 4) rfl _ rfl h hb1 ?_)
        | ((with_reducible (show wpList _ _ _ (⟨some 9, _, _, _, _, _⟩ :: _) _ _)); refine wpList_ds (o := ⟨some 9, _, _, _, _, _⟩) rfl (.tmp 5) rfl _ rfl d hb2 ?_)
        | (go_at_call 50; refine (Hv.out _).mono ?_; rintro e w1 ⟨rfl, he1⟩; have hb1' := hb1.ext he1; have hb2' := hb2.ext he1; have hb3' := he1.blk _ _ hb3; have c3 := Blk.val hb1' 3 _ rfl; have c4 := Blk.val hb1' 4 _ rfl; have l1 := Blk.lt hb1')
        | (refine wpList_bld (o := ⟨some 32, _, _, _, _, _⟩) rfl 70 #[] rfl [] rfl _ trZ_built ?_)
        | (refine wpList_put rfl 70 (.tmp 6) (.tmp 32) rfl _ trZ rfl rfl _ _ hb3' trSize rfl trZ_one ?_; intro w3 hb4 hc4))
      all_goals first
        | (exfalso; have := HN.out trivial; omega)
        | exact bodyPost_ret (results_row1 Tryz.results26 _ _ _ _ _ _ rfl hb4 trDesc rfl trSize) rfl (HO.out _ _ ⟨hc4.ext (he0.trans he1) (by omega), rfl⟩)
end Go.Proofs.YtolmoknjmdmpgaaGreat
