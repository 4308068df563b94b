/- The walk of the program's open. -/
import Derived.Test.YtkhlglkipeoalaaDoorX4
set_option linter.unusedSimpArgs false
set_option linter.unusedVariables false
namespace Go.Proofs.YtkhlglkipeoalaaDoor
open Go.RowKit Dsd

/-- The cells of a cluster that was not opened. -/
def clZero : Array Value := #[.nilIface, .int .i64 0, .int .i64 0, .int .i64 0, .int .i64 0, .int .i64 0, .int .i64 0, .int .i64 0, .int .i64 0, .int .i64 0, .int .i64 0, .int .i64 0, .int .i64 0, .int .i64 0, .int .i64 0, .int .i64 0, .int .i64 0, .int .i64 0, .int .i64 0, .int .i64 0, .int .i64 0, .int .i64 0, .bool false, .int .i64 0, .string ⟨#[]⟩, .string ⟨#[]⟩, .int .i64 0, .int .i64 0, .bool false]
theorem clZero_one : clZero.all (·.oneCell') = true := by kernel_rfl
theorem cl_one (q : Value) (hq : q.oneCell' = true) (h : Hd) (d : DS) : (#[q, .int .i64 h.applied, .int .i64 h.count, .int .i64 h.fin, .int .i64 h.root, .int .i64 h.height, .int .i64 h.splits, .int .i64 h.areas, .int .i64 d.id, .int .i64 d.org, .int .i64 d.format, .int .i64 d.length, .int .i64 d.block, .int .i64 d.keyAt, .int .i64 d.keyLength, .int .i64 d.interval, .int .i64 d.area, .int .i64 d.freeInterval, .int .i64 d.freeArea, .int .i64 d.base, .int .i64 d.altAt, .int .i64 d.altLength, .bool d.unique, .int .i64 d.cls, .string ⟨d.volume.toArray⟩, .string ⟨d.owner.toArray⟩, .int .i64 d.created, .int .i64 d.expires, .bool d.archived] : Array Value).all (·.oneCell') = true := by cases q <;> first | (simp [Value.oneCell'] at hq; done) | simp [Value.oneCell']
theorem cl_built (p : Option Addr) (n cap : Nat) (h : Hd) (d : DS) : Tryd.prog.built 77 [(0, .iface 29 (.slice p n cap)), (1, .agg #[.int .i64 h.applied, .int .i64 h.count, .int .i64 h.fin, .int .i64 h.root, .int .i64 h.height, .int .i64 h.splits, .int .i64 h.areas]), (2, .agg #[.int .i64 d.id, .int .i64 d.org, .int .i64 d.format, .int .i64 d.length, .int .i64 d.block, .int .i64 d.keyAt, .int .i64 d.keyLength, .int .i64 d.interval, .int .i64 d.area, .int .i64 d.freeInterval, .int .i64 d.freeArea, .int .i64 d.base, .int .i64 d.altAt, .int .i64 d.altLength, .bool d.unique, .int .i64 d.cls, .string ⟨d.volume.toArray⟩, .string ⟨d.owner.toArray⟩, .int .i64 d.created, .int .i64 d.expires, .bool d.archived])] = some #[.iface 29 (.slice p n cap), .int .i64 h.applied, .int .i64 h.count, .int .i64 h.fin, .int .i64 h.root, .int .i64 h.height, .int .i64 h.splits, .int .i64 h.areas, .int .i64 d.id, .int .i64 d.org, .int .i64 d.format, .int .i64 d.length, .int .i64 d.block, .int .i64 d.keyAt, .int .i64 d.keyLength, .int .i64 d.interval, .int .i64 d.area, .int .i64 d.freeInterval, .int .i64 d.freeArea, .int .i64 d.base, .int .i64 d.altAt, .int .i64 d.altLength, .bool d.unique, .int .i64 d.cls, .string ⟨d.volume.toArray⟩, .string ⟨d.owner.toArray⟩, .int .i64 d.created, .int .i64 d.expires, .bool d.archived] := by kernel_rfl
/-- What open hands back. -/
def OpenOut (q : Value) (h : Hd) (d : DS) (w : World) (e : Ending) (w' : World) : Prop :=
  Ext w w' ∧ ((doorOf h d 1 = 0 ∧ e = .returned (.tuple #[.agg #[q, .int .i64 h.applied, .int .i64 h.count, .int .i64 h.fin, .int .i64 h.root, .int .i64 h.height, .int .i64 h.splits, .int .i64 h.areas, .int .i64 d.id, .int .i64 d.org, .int .i64 d.format, .int .i64 d.length, .int .i64 d.block, .int .i64 d.keyAt, .int .i64 d.keyLength, .int .i64 d.interval, .int .i64 d.area, .int .i64 d.freeInterval, .int .i64 d.freeArea, .int .i64 d.base, .int .i64 d.altAt, .int .i64 d.altLength, .bool d.unique, .int .i64 d.cls, .string ⟨d.volume.toArray⟩, .string ⟨d.owner.toArray⟩, .int .i64 d.created, .int .i64 d.expires, .bool d.archived], .int .i64 0])) ∨ (doorOf h d 1 ≠ 0 ∧ e = .returned (.tuple #[.agg clZero, .int .i64 (doorOf h d 1)])))
theorem openOut_no {q : Value} {h : Hd} {d : DS} {w w' : World} {c : Int} (he : Ext w w') (hc : doorOf h d 1 = c) (h0 : c ≠ 0) : OpenOut q h d w (.returned (.tuple #[.agg clZero, .int .i64 c])) w' := ⟨he, .inr ⟨by rw [hc]; exact h0, by rw [hc]⟩⟩
theorem openOut_yes {q : Value} {h : Hd} {d : DS} {w w' : World} (he : Ext w w') (hc : doorOf h d 1 = 0) : OpenOut q h d w (.returned (.tuple #[.agg #[q, .int .i64 h.applied, .int .i64 h.count, .int .i64 h.fin, .int .i64 h.root, .int .i64 h.height, .int .i64 h.splits, .int .i64 h.areas, .int .i64 d.id, .int .i64 d.org, .int .i64 d.format, .int .i64 d.length, .int .i64 d.block, .int .i64 d.keyAt, .int .i64 d.keyLength, .int .i64 d.interval, .int .i64 d.area, .int .i64 d.freeInterval, .int .i64 d.freeArea, .int .i64 d.base, .int .i64 d.altAt, .int .i64 d.altLength, .bool d.unique, .int .i64 d.cls, .string ⟨d.volume.toArray⟩, .string ⟨d.owner.toArray⟩, .int .i64 d.created, .int .i64 d.expires, .bool d.archived], .int .i64 0])) w' := ⟨he, .inl ⟨hc, rfl⟩⟩
/-- What stands behind the boxes of a header and a description, and a new cluster. -/
theorem hd_ds_cl (w : World) (h : Hd) (d : DS) (cs : Array Value) (t : TypeId) :
    Ext w (((w.alloc (.cells #[.int .i64 h.applied, .int .i64 h.count, .int .i64 h.fin, .int .i64 h.root, .int .i64 h.height, .int .i64 h.splits, .int .i64 h.areas] 28)).alloc (.cells #[.int .i64 d.id, .int .i64 d.org, .int .i64 d.format, .int .i64 d.length, .int .i64 d.block, .int .i64 d.keyAt, .int .i64 d.keyLength, .int .i64 d.interval, .int .i64 d.area, .int .i64 d.freeInterval, .int .i64 d.freeArea, .int .i64 d.base, .int .i64 d.altAt, .int .i64 d.altLength, .bool d.unique, .int .i64 d.cls, .string ⟨d.volume.toArray⟩, .string ⟨d.owner.toArray⟩, .int .i64 d.created, .int .i64 d.expires, .bool d.archived] 23)).alloc (.cells cs t)) ∧
    HdAt (((w.alloc (.cells #[.int .i64 h.applied, .int .i64 h.count, .int .i64 h.fin, .int .i64 h.root, .int .i64 h.height, .int .i64 h.splits, .int .i64 h.areas] 28)).alloc (.cells #[.int .i64 d.id, .int .i64 d.org, .int .i64 d.format, .int .i64 d.length, .int .i64 d.block, .int .i64 d.keyAt, .int .i64 d.keyLength, .int .i64 d.interval, .int .i64 d.area, .int .i64 d.freeInterval, .int .i64 d.freeArea, .int .i64 d.base, .int .i64 d.altAt, .int .i64 d.altLength, .bool d.unique, .int .i64 d.cls, .string ⟨d.volume.toArray⟩, .string ⟨d.owner.toArray⟩, .int .i64 d.created, .int .i64 d.expires, .bool d.archived] 23)).alloc (.cells cs t)) w.heap.size h ∧
    DsAt (((w.alloc (.cells #[.int .i64 h.applied, .int .i64 h.count, .int .i64 h.fin, .int .i64 h.root, .int .i64 h.height, .int .i64 h.splits, .int .i64 h.areas] 28)).alloc (.cells #[.int .i64 d.id, .int .i64 d.org, .int .i64 d.format, .int .i64 d.length, .int .i64 d.block, .int .i64 d.keyAt, .int .i64 d.keyLength, .int .i64 d.interval, .int .i64 d.area, .int .i64 d.freeInterval, .int .i64 d.freeArea, .int .i64 d.base, .int .i64 d.altAt, .int .i64 d.altLength, .bool d.unique, .int .i64 d.cls, .string ⟨d.volume.toArray⟩, .string ⟨d.owner.toArray⟩, .int .i64 d.created, .int .i64 d.expires, .bool d.archived] 23)).alloc (.cells cs t)) (w.heap.size + 1) d ∧
    Blk (((w.alloc (.cells #[.int .i64 h.applied, .int .i64 h.count, .int .i64 h.fin, .int .i64 h.root, .int .i64 h.height, .int .i64 h.splits, .int .i64 h.areas] 28)).alloc (.cells #[.int .i64 d.id, .int .i64 d.org, .int .i64 d.format, .int .i64 d.length, .int .i64 d.block, .int .i64 d.keyAt, .int .i64 d.keyLength, .int .i64 d.interval, .int .i64 d.area, .int .i64 d.freeInterval, .int .i64 d.freeArea, .int .i64 d.base, .int .i64 d.altAt, .int .i64 d.altLength, .bool d.unique, .int .i64 d.cls, .string ⟨d.volume.toArray⟩, .string ⟨d.owner.toArray⟩, .int .i64 d.created, .int .i64 d.expires, .bool d.archived] 23)).alloc (.cells cs t)) (w.heap.size + 1 + 1) (.cells cs t) := by
  obtain ⟨h1, h2, h3⟩ := hd_ds w h d
  exact ⟨h1.trans (Ext.alloc _ _), h2.alloc _, h3.alloc _, Blk.new1 _ _ _ (by simp)⟩

set_option maxRecDepth 100000 in
set_option maxHeartbeats 1000000 in
theorem open_any (p : Option Addr) (n cap : Nat) (h : Hd) (d : DS) (w : World) :
    Calls Tryd.prog 35 #[.iface 29 (.slice p n cap), .agg #[.int .i64 h.applied, .int .i64 h.count, .int .i64 h.fin, .int .i64 h.root, .int .i64 h.height, .int .i64 h.splits, .int .i64 h.areas], .agg #[.int .i64 d.id, .int .i64 d.org, .int .i64 d.format, .int .i64 d.length, .int .i64 d.block, .int .i64 d.keyAt, .int .i64 d.keyLength, .int .i64 d.interval, .int .i64 d.area, .int .i64 d.freeInterval, .int .i64 d.freeArea, .int .i64 d.base, .int .i64 d.altAt, .int .i64 d.altLength, .bool d.unique, .int .i64 d.cls, .string ⟨d.volume.toArray⟩, .string ⟨d.owner.toArray⟩, .int .i64 d.created, .int .i64 d.expires, .bool d.archived]] w (OpenOut (.iface 29 (.slice p n cap)) h d w) := by
  have Hv := Lib.hid (Valid_any d)
  cases hv : validB d
  · have HE : Hid (doorOf h d 1 = 1) := Lib.hid (by unfold doorOf; rw [hv]; rfl)
    have HV := Lib.hid hv
    clear hv
    go_enter Tryd.func35, Tryd.ntmps35
    go_upto_region 1 with (fail)
    refine wp_name (fun w0 => Ext w w0 ∧ HdAt w0 w.heap.size h ∧ DsAt w0 (w.heap.size + 1) d ∧ Blk w0 (w.heap.size + 1 + 1) (.cells clZero 77)) (hd_ds_cl w h d _ _) ?_
    rintro w0 ⟨he0, hb1, hb2, hb3⟩
    go_wp2_with (first | (refine wpList_ds rfl (.tmp 5) rfl _ rfl d hb2 ?_) | (go_at_call 51; refine (Hv.out _).mono ?_; rw [HV.out]; rintro e w1 ⟨rfl, he1⟩; have hb1 := hb1.ext he1; have hb2 := hb2.ext he1; have hb3 := he1.blk _ _ hb3; have c1 := Blk.val hb1 1 _ rfl; have c2 := Blk.val hb1 2 _ rfl; have c3 := Blk.val hb2 1 _ rfl) | (refine wpList_put rfl 77 (.tmp 6) (.tmp 32) rfl _ clZero rfl rfl _ _ hb3 clSize rfl clZero_one ?_; intro w3 hb4 hc4))
    exact bodyPost_ret (results_row1 Tryd.results35 _ _ _ _ _ _ rfl hb4 clDesc rfl clSize) rfl (openOut_no (hc4.ext (he0.trans he1) (by omega)) HE.out (by decide))
  · cases hp : plainB h
    · have HE : Hid (doorOf h d 1 = 1) := Lib.hid (by unfold doorOf; rw [hv, hp]; rfl)
      have HP : Hid (¬ (0 ≤ h.count ∧ h.count ≤ 16777216 ∧ 0 ≤ h.fin ∧ h.fin ≤ 16777216)) := Lib.hid (by simp [plainB] at hp; omega)
      have HV := Lib.hid hv
      clear hv hp
      go_enter Tryd.func35, Tryd.ntmps35
      go_upto_region 1 with (fail)
      refine wp_name (fun w0 => Ext w w0 ∧ HdAt w0 w.heap.size h ∧ DsAt w0 (w.heap.size + 1) d ∧ Blk w0 (w.heap.size + 1 + 1) (.cells clZero 77)) (hd_ds_cl w h d _ _) ?_
      rintro w0 ⟨he0, hb1, hb2, hb3⟩
      go_wp2_with (first | (refine wpList_ds rfl (.tmp 5) rfl _ rfl d hb2 ?_) | (go_at_call 51; refine (Hv.out _).mono ?_; rw [HV.out]; rintro e w1 ⟨rfl, he1⟩; have hb1 := hb1.ext he1; have hb2 := hb2.ext he1; have hb3 := he1.blk _ _ hb3; have c1 := Blk.val hb1 1 _ rfl; have c2 := Blk.val hb1 2 _ rfl; have c3 := Blk.val hb2 1 _ rfl) | (refine wpList_put rfl 77 (.tmp 6) (.tmp 32) rfl _ clZero rfl rfl _ _ hb3 clSize rfl clZero_one ?_; intro w3 hb4 hc4))
      all_goals first | (exact bodyPost_ret (results_row1 Tryd.results35 _ _ _ _ _ _ rfl hb4 clDesc rfl clSize) rfl (openOut_no (hc4.ext (he0.trans he1) (by omega)) HE.out (by decide))) | (exfalso; have := HP.out; omega)
    · have hpl := plain_spec hp
      obtain ⟨p1, p2, p3, p4⟩ := hpl
      have HE : Hid (doorOf h d 1 = if d.org ≠ 1 then 7 else 0) := Lib.hid (by unfold doorOf; rw [hv, hp]; rfl)
      have HV := Lib.hid hv
      clear hv hp
      by_cases ho : d.org = 1
      · have hoI : (d.org != 1) = false := by simp [ho]
        have HO := Lib.hid ho
        clear ho
        go_enter Tryd.func35, Tryd.ntmps35
        go_upto_region 1 with (fail)
        refine wp_name (fun w0 => Ext w w0 ∧ HdAt w0 w.heap.size h ∧ DsAt w0 (w.heap.size + 1) d ∧ Blk w0 (w.heap.size + 1 + 1) (.cells clZero 77)) (hd_ds_cl w h d _ _) ?_
        rintro w0 ⟨he0, hb1, hb2, hb3⟩
        go_wp2_with (first | (refine wpList_ds rfl (.tmp 5) rfl _ rfl d hb2 ?_) | (refine wpList_hd rfl (.tmp 4) rfl _ rfl h hb1 ?_) | (go_at_call 51; refine (Hv.out _).mono ?_; rw [HV.out]; rintro e w1 ⟨rfl, he1⟩; have hb1 := hb1.ext he1; have hb2 := hb2.ext he1; have hb3 := he1.blk _ _ hb3; have c1 := Blk.val hb1 1 _ rfl; have c2 := Blk.val hb1 2 _ rfl; have c3 := Blk.val hb2 1 _ rfl) | (refine wpList_bld rfl 77 #[(0, .tmp 38), (1, .tmp 39), (2, .tmp 40)] rfl [(0, .iface 29 (.slice p n cap)), (1, .agg #[.int .i64 h.applied, .int .i64 h.count, .int .i64 h.fin, .int .i64 h.root, .int .i64 h.height, .int .i64 h.splits, .int .i64 h.areas]), (2, .agg #[.int .i64 d.id, .int .i64 d.org, .int .i64 d.format, .int .i64 d.length, .int .i64 d.block, .int .i64 d.keyAt, .int .i64 d.keyLength, .int .i64 d.interval, .int .i64 d.area, .int .i64 d.freeInterval, .int .i64 d.freeArea, .int .i64 d.base, .int .i64 d.altAt, .int .i64 d.altLength, .bool d.unique, .int .i64 d.cls, .string ⟨d.volume.toArray⟩, .string ⟨d.owner.toArray⟩, .int .i64 d.created, .int .i64 d.expires, .bool d.archived])] rfl _ (cl_built p n cap h d) ?_) | (refine wpList_put rfl 77 (.tmp 6) (.tmp 41) rfl _ #[.iface 29 (.slice p n cap), .int .i64 h.applied, .int .i64 h.count, .int .i64 h.fin, .int .i64 h.root, .int .i64 h.height, .int .i64 h.splits, .int .i64 h.areas, .int .i64 d.id, .int .i64 d.org, .int .i64 d.format, .int .i64 d.length, .int .i64 d.block, .int .i64 d.keyAt, .int .i64 d.keyLength, .int .i64 d.interval, .int .i64 d.area, .int .i64 d.freeInterval, .int .i64 d.freeArea, .int .i64 d.base, .int .i64 d.altAt, .int .i64 d.altLength, .bool d.unique, .int .i64 d.cls, .string ⟨d.volume.toArray⟩, .string ⟨d.owner.toArray⟩, .int .i64 d.created, .int .i64 d.expires, .bool d.archived] rfl rfl _ _ hb3 clSize rfl (cl_one _ rfl h d) ?_; intro w3 hb4 hc4))
        exact bodyPost_ret (results_row1 Tryd.results35 _ _ _ _ _ _ rfl hb4 clDesc rfl clSize) rfl (openOut_yes (hc4.ext (he0.trans he1) (by omega)) (by rw [HE.out, if_neg (by simp [HO.out])]))
      · have hoI : (d.org != 1) = true := by simpa using ho
        have HO := Lib.hid ho
        clear ho
        go_enter Tryd.func35, Tryd.ntmps35
        go_upto_region 1 with (fail)
        refine wp_name (fun w0 => Ext w w0 ∧ HdAt w0 w.heap.size h ∧ DsAt w0 (w.heap.size + 1) d ∧ Blk w0 (w.heap.size + 1 + 1) (.cells clZero 77)) (hd_ds_cl w h d _ _) ?_
        rintro w0 ⟨he0, hb1, hb2, hb3⟩
        go_wp2_with (first | (refine wpList_ds rfl (.tmp 5) rfl _ rfl d hb2 ?_) | (go_at_call 51; refine (Hv.out _).mono ?_; rw [HV.out]; rintro e w1 ⟨rfl, he1⟩; have hb1 := hb1.ext he1; have hb2 := hb2.ext he1; have hb3 := he1.blk _ _ hb3; have c1 := Blk.val hb1 1 _ rfl; have c2 := Blk.val hb1 2 _ rfl; have c3 := Blk.val hb2 1 _ rfl) | (refine wpList_put rfl 77 (.tmp 6) (.tmp 37) rfl _ clZero rfl rfl _ _ hb3 clSize rfl clZero_one ?_; intro w3 hb4 hc4))
        exact bodyPost_ret (results_row1 Tryd.results35 _ _ _ _ _ _ rfl hb4 clDesc rfl clSize) rfl (openOut_no (hc4.ext (he0.trans he1) (by omega)) (by rw [HE.out, if_pos HO.out]) (by decide))
end Go.Proofs.YtkhlglkipeoalaaDoor
