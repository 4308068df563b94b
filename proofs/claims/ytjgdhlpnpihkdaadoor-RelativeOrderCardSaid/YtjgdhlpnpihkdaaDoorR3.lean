/- The walks of package relative's small functions: open, place, load, write. -/
import Derived.Test.YtjgdhlpnpihkdaaDoorR2
import Derived.Test.YtjgdhlpnpihkdaaDoorXF
import Derived.Deep.RegionWith
set_option linter.unusedSimpArgs false
set_option linter.unusedVariables false
namespace Go.Proofs.YtjgdhlpnpihkdaaDoor
open Go.RowKit Dsd

theorem rcDesc : Tryd.prog.underlying 122 = some (.struct (Tryd.prog.fieldsOf 122)) := by kernel_rfl
theorem rcSize : (Tryd.prog.info? 122).map (·.size) = some 30 := by kernel_rfl
/-- The cells of a cluster that was not opened. -/
def rcZero : Array Value := #[.nilIface, .int .i64 0, .int .i64 0, .int .i64 0, .int .i64 0, .int .i64 0, .int .i64 0, .int .i64 0, .int .i64 0, .int .i64 0, .int .i64 0, .int .i64 0, .int .i64 0, .int .i64 0, .int .i64 0, .int .i64 0, .int .i64 0, .int .i64 0, .int .i64 0, .int .i64 0, .int .i64 0, .int .i64 0, .bool false, .int .i64 0, .string ⟨#[]⟩, .string ⟨#[]⟩, .int .i64 0, .int .i64 0, .bool false, .int .i64 0]
theorem rcZero_one : rcZero.all (·.oneCell') = true := by kernel_rfl
/-- The cells of one that was. -/
abbrev rcCells (q : Value) (h : Hd) (d : DS) : Array Value := #[q, .int .i64 h.applied, .int .i64 h.count, .int .i64 h.fin, .int .i64 h.root, .int .i64 h.height, .int .i64 h.splits, .int .i64 h.areas, .int .i64 d.id, .int .i64 d.org, .int .i64 d.format, .int .i64 d.length, .int .i64 d.block, .int .i64 d.keyAt, .int .i64 d.keyLength, .int .i64 d.interval, .int .i64 d.area, .int .i64 d.freeInterval, .int .i64 d.freeArea, .int .i64 d.base, .int .i64 d.altAt, .int .i64 d.altLength, .bool d.unique, .int .i64 d.cls, .string ⟨d.volume.toArray⟩, .string ⟨d.owner.toArray⟩, .int .i64 d.created, .int .i64 d.expires, .bool d.archived, .int .i64 (slN d)]
abbrev mV (p : Option Addr) (n cap : Nat) : Value := .iface 30 (.slice p n cap)
theorem rc_one (p : Option Addr) (n cap : Nat) (h : Hd) (d : DS) : (rcCells (mV p n cap) h d).all (·.oneCell') = true := by simp [Value.oneCell']
theorem rc_built (p : Option Addr) (n cap : Nat) (h : Hd) (d : DS) : Tryd.prog.built 122 [(0, mV p n cap), (1, .agg #[.int .i64 h.applied, .int .i64 h.count, .int .i64 h.fin, .int .i64 h.root, .int .i64 h.height, .int .i64 h.splits, .int .i64 h.areas]), (2, .agg #[.int .i64 d.id, .int .i64 d.org, .int .i64 d.format, .int .i64 d.length, .int .i64 d.block, .int .i64 d.keyAt, .int .i64 d.keyLength, .int .i64 d.interval, .int .i64 d.area, .int .i64 d.freeInterval, .int .i64 d.freeArea, .int .i64 d.base, .int .i64 d.altAt, .int .i64 d.altLength, .bool d.unique, .int .i64 d.cls, .string ⟨d.volume.toArray⟩, .string ⟨d.owner.toArray⟩, .int .i64 d.created, .int .i64 d.expires, .bool d.archived]), (3, .int .i64 (slN d))] = some (rcCells (mV p n cap) h d) := by kernel_rfl
/-- What open hands back. -/
def ROpenOut (q : Value) (h : Hd) (d : DS) (w : World) (e : Ending) (w' : World) : Prop :=
  Ext w w' ∧ ((doorOf h d 2 = 0 ∧ e = .returned (.tuple #[.agg (rcCells q h d), .int .i64 0])) ∨ (doorOf h d 2 ≠ 0 ∧ e = .returned (.tuple #[.agg rcZero, .int .i64 (doorOf h d 2)])))
theorem ropen_no {q : Value} {h : Hd} {d : DS} {w w' : World} {c : Int} (he : Ext w w') (hc : doorOf h d 2 = c) (h0 : c ≠ 0) : ROpenOut q h d w (.returned (.tuple #[.agg rcZero, .int .i64 c])) w' := ⟨he, .inr ⟨by rw [hc]; exact h0, by rw [hc]⟩⟩
theorem ropen_yes {q : Value} {h : Hd} {d : DS} {w w' : World} (he : Ext w w') (hc : doorOf h d 2 = 0) : ROpenOut q h d w (.returned (.tuple #[.agg (rcCells q h d), .int .i64 0])) w' := ⟨he, .inl ⟨hc, rfl⟩⟩

set_option maxRecDepth 100000 in
set_option maxHeartbeats 1000000 in
theorem ropen_any (p : Option Addr) (n cap : Nat) (h : Hd) (d : DS) (w : World) :
    Calls Tryd.prog 67 #[mV p n cap, .agg #[.int .i64 h.applied, .int .i64 h.count, .int .i64 h.fin, .int .i64 h.root, .int .i64 h.height, .int .i64 h.splits, .int .i64 h.areas], .agg #[.int .i64 d.id, .int .i64 d.org, .int .i64 d.format, .int .i64 d.length, .int .i64 d.block, .int .i64 d.keyAt, .int .i64 d.keyLength, .int .i64 d.interval, .int .i64 d.area, .int .i64 d.freeInterval, .int .i64 d.freeArea, .int .i64 d.base, .int .i64 d.altAt, .int .i64 d.altLength, .bool d.unique, .int .i64 d.cls, .string ⟨d.volume.toArray⟩, .string ⟨d.owner.toArray⟩, .int .i64 d.created, .int .i64 d.expires, .bool d.archived]] w (ROpenOut (mV p n cap) h d w) := by
  have Hv := Lib.hid (Valid_any d)
  cases hv : validB d
  · have HE : Hid (doorOf h d 2 = 1) := Lib.hid (by unfold doorOf; rw [hv]; rfl)
    have HV := Lib.hid hv
    clear hv
    go_enter Tryd.func67, Tryd.ntmps67
    go_upto_region 1 with (fail)
    refine wp_name (fun w0 => Ext w w0 ∧ HdAt w0 w.heap.size h ∧ DsAt w0 (w.heap.size + 1) d ∧ Blk w0 (w.heap.size + 1 + 1) (.cells rcZero 122)) (hd_ds_cl w h d _ _) ?_
    rintro w0 ⟨he0, hb1, hb2, hb3⟩
    go_wp2_with (first | (refine wpList_ds rfl (.tmp 5) rfl _ rfl d hb2 ?_) | (go_at_call 78; refine (Hv.out _).mono ?_; rw [HV.out]; rintro e w1 ⟨rfl, he1⟩; have hb1 := hb1.ext he1; have hb2 := hb2.ext he1; have hb3 := he1.blk _ _ hb3; have c1 := Blk.val hb1 1 _ rfl; have c2 := Blk.val hb1 2 _ rfl; have c3 := Blk.val hb2 1 _ rfl) | (refine wpList_put rfl 122 (.tmp 6) (.tmp 32) rfl _ rcZero rfl rfl _ _ hb3 rcSize rfl rcZero_one ?_; intro w3 hb4 hc4))
    exact bodyPost_ret (results_row1 Tryd.results67 _ _ _ _ _ _ rfl hb4 rcDesc rfl rcSize) rfl (ropen_no (hc4.ext (he0.trans he1) (by omega)) HE.out (by decide))
  · cases hp : plainB h
    · have HE : Hid (doorOf h d 2 = 1) := Lib.hid (by unfold doorOf; rw [hv, hp]; rfl)
      have HP : Hid (¬ (0 ≤ h.count ∧ h.count ≤ 16777216 ∧ 0 ≤ h.fin ∧ h.fin ≤ 16777216)) := Lib.hid (by simp [plainB] at hp; omega)
      have HV := Lib.hid hv
      clear hv hp
      go_enter Tryd.func67, Tryd.ntmps67
      go_upto_region 1 with (fail)
      refine wp_name (fun w0 => Ext w w0 ∧ HdAt w0 w.heap.size h ∧ DsAt w0 (w.heap.size + 1) d ∧ Blk w0 (w.heap.size + 1 + 1) (.cells rcZero 122)) (hd_ds_cl w h d _ _) ?_
      rintro w0 ⟨he0, hb1, hb2, hb3⟩
      go_wp2_with (first | (refine wpList_ds rfl (.tmp 5) rfl _ rfl d hb2 ?_) | (go_at_call 78; refine (Hv.out _).mono ?_; rw [HV.out]; rintro e w1 ⟨rfl, he1⟩; have hb1 := hb1.ext he1; have hb2 := hb2.ext he1; have hb3 := he1.blk _ _ hb3; have c1 := Blk.val hb1 1 _ rfl; have c2 := Blk.val hb1 2 _ rfl; have c3 := Blk.val hb2 1 _ rfl) | (refine wpList_put rfl 122 (.tmp 6) (.tmp 32) rfl _ rcZero rfl rfl _ _ hb3 rcSize rfl rcZero_one ?_; intro w3 hb4 hc4))
      all_goals first | (exact bodyPost_ret (results_row1 Tryd.results67 _ _ _ _ _ _ rfl hb4 rcDesc rfl rcSize) rfl (ropen_no (hc4.ext (he0.trans he1) (by omega)) HE.out (by decide))) | (exfalso; have := HP.out; omega)
    · have hpl := plain_spec hp
      obtain ⟨p1, p2, p3, p4⟩ := hpl
      have HE : Hid (doorOf h d 2 = if d.org ≠ 2 then 7 else 0) := Lib.hid (by unfold doorOf; rw [hv, hp]; rfl)
      have HV := Lib.hid hv
      clear hv hp
      by_cases ho : d.org = 2
      · have hoI : (d.org != 2) = false := by simp [ho]
        have HO := Lib.hid ho
        clear ho
        go_enter Tryd.func67, Tryd.ntmps67
        go_upto_region 1 with (fail)
        refine wp_name (fun w0 => Ext w w0 ∧ HdAt w0 w.heap.size h ∧ DsAt w0 (w.heap.size + 1) d ∧ Blk w0 (w.heap.size + 1 + 1) (.cells rcZero 122)) (hd_ds_cl w h d _ _) ?_
        rintro w0 ⟨he0, hb1, hb2, hb3⟩
        go_upto_region 5 with (first | (refine wpList_ds rfl (.tmp 5) rfl _ rfl d hb2 ?_) | (go_at_call 78; refine (Hv.out _).mono ?_; rw [HV.out]; rintro e w1 ⟨rfl, he1⟩; have hb1 := hb1.ext he1; have hb2 := hb2.ext he1; have hb3 := he1.blk _ _ hb3; have c1 := Blk.val hb1 1 _ rfl; have c2 := Blk.val hb1 2 _ rfl; have c3 := Blk.val hb2 1 _ rfl))
        have HB1 := Lib.hid hb1
        have HB2 := Lib.hid hb2
        have HB3 := Lib.hid hb3
        have HE1 := Lib.hid (he0.trans he1)
        have hz := Blk.lt hb2
        have d7 : w1.cell? ⟨w.heap.size + 1, 7, none⟩ = some (.int .i64 d.interval) := Blk.val hb2 7 _ rfl
        have d3 : w1.cell? ⟨w.heap.size + 1, 3, none⟩ = some (.int .i64 d.length) := Blk.val hb2 3 _ rfl
        clear hb1 hb2 hb3 he0 he1 c1 c2 c3
        refine wp_region_mk 9 (Ext.refl w1) (by kernel_rfl) (by kernel_rfl) (by kernel_rfl) ?_
        simp only [List.take_succ_cons, List.take_zero, List.take_nil, List.drop_succ_cons, List.drop_zero, List.drop_nil, List.map_cons, List.map_nil]
        repeat (first
          | (refine wpML_move _ _ rfl (by first | exact .inl rfl | exact .inr rfl) rfl (by first | exact Is.stable _ | exact Fresh.stable _ _ _) ?_
             simp only [setL, List.set_cons_succ, List.set_cons_zero, List.getD_cons_succ, List.getD_cons_zero])
          | (refine wpML_moveC _ rfl (by first | exact .inl rfl | exact .inr rfl) ?_
             simp only [setL, List.set_cons_succ, List.set_cons_zero])
          | (apply wpML_det rfl
             · intro a w' he hr K hK
               simp [Reads, Oper.looksAt, Op.operands, Call.operands, factAt, Is] at hr
               have hx := he.cell
               go_simp
               try go_bits
               try (rw [if_neg (by omega)]; go_simp)
               first
                 | exact hK _ (Ext.refl _)
                 | (refine (SlotCount_any _ _ _).mono ?_; rintro e w'' ⟨rfl, rfl⟩; exact hK _ (Ext.refl _))
             simp only [setL, List.set_cons_succ, List.set_cons_zero])
          | (refine wpML_det (o := ⟨some 39, _, _, _, _, _⟩) (v := .agg #[.int .i64 h.applied, .int .i64 h.count, .int .i64 h.fin, .int .i64 h.root, .int .i64 h.height, .int .i64 h.splits, .int .i64 h.areas]) rfl ?_ ?_
             · intro a w' he hr K hK
               simp [Reads, Oper.looksAt, Op.operands, factAt, Is] at hr
               exact wp_load_row 24 (.tmp 4) rfl (w.heap.size) (by go_simp) _ _ _ _ (he.blk _ _ HB1.out) hdDesc rfl hdSize (hK _ (Ext.refl _))
             simp only [setL, List.set_cons_succ, List.set_cons_zero])
          | (refine wpML_det (o := ⟨some 40, _, _, _, _, _⟩) (v := .agg #[.int .i64 d.id, .int .i64 d.org, .int .i64 d.format, .int .i64 d.length, .int .i64 d.block, .int .i64 d.keyAt, .int .i64 d.keyLength, .int .i64 d.interval, .int .i64 d.area, .int .i64 d.freeInterval, .int .i64 d.freeArea, .int .i64 d.base, .int .i64 d.altAt, .int .i64 d.altLength, .bool d.unique, .int .i64 d.cls, .string ⟨d.volume.toArray⟩, .string ⟨d.owner.toArray⟩, .int .i64 d.created, .int .i64 d.expires, .bool d.archived]) rfl ?_ ?_
             · intro a w' he hr K hK
               simp [Reads, Oper.looksAt, Op.operands, factAt, Is] at hr
               exact wp_load_row 26 (.tmp 5) rfl (w.heap.size + 1) (by go_simp) _ _ _ _ (he.blk _ _ HB2.out) dsDesc rfl dsSize (hK _ (Ext.refl _))
             simp only [setL, List.set_cons_succ, List.set_cons_zero])
          | (refine wpML_det (o := ⟨some 46, _, _, _, _, _⟩) (v := .agg (rcCells (mV p n cap) h d)) rfl ?_ ?_
             · intro a w' he hr K hK
               simp [Reads, Oper.looksAt, Op.operands, factAt, Is] at hr
               have hpv : ((#[(0, .tmp 38), (1, .tmp 39), (2, .tmp 40), (3, .tmp 45)] : Array (Nat × Operand)).map fun (i, x) => (i, a.eval x)).toList = [(0, mV p n cap), (1, .agg #[.int .i64 h.applied, .int .i64 h.count, .int .i64 h.fin, .int .i64 h.root, .int .i64 h.height, .int .i64 h.splits, .int .i64 h.areas]), (2, .agg #[.int .i64 d.id, .int .i64 d.org, .int .i64 d.format, .int .i64 d.length, .int .i64 d.block, .int .i64 d.keyAt, .int .i64 d.keyLength, .int .i64 d.interval, .int .i64 d.area, .int .i64 d.freeInterval, .int .i64 d.freeArea, .int .i64 d.base, .int .i64 d.altAt, .int .i64 d.altLength, .bool d.unique, .int .i64 d.cls, .string ⟨d.volume.toArray⟩, .string ⟨d.owner.toArray⟩, .int .i64 d.created, .int .i64 d.expires, .bool d.archived]), (3, .int .i64 (slN d))] := by go_simp
               refine wp_build 122 #[(0, .tmp 38), (1, .tmp 39), (2, .tmp 40), (3, .tmp 45)] rfl ?_ ?_
               · rw [hpv, rc_built p n cap h d]; rfl
               · rw [hpv, rc_built p n cap h d]; exact hK _ (Ext.refl _)
             simp only [setL, List.set_cons_succ, List.set_cons_zero])
          | (apply wpML_det rfl
             · intro a w' he hr K hK
               simp [Reads, Oper.looksAt, Op.operands, Call.operands, factAt, Fresh] at hr
               obtain ⟨b, hr1, hr2⟩ := hr
               go_simp
               exact hK _ (Ext.refl _)
             simp only [setL, List.set_cons_succ, List.set_cons_zero]))
        intro w2 he2
        repeat (first | with_reducible refine rest_is _ _ _ _ ?_ | (with_reducible refine rest_fact _ _ _ _ ?_; intro _ _) | with_reducible refine rest_end _ _ ?_)
        simp only [List.reverse_cons, List.reverse_nil, List.nil_append, List.cons_append]
        have hb3 := he2.blk _ _ HB3.out
        go_wp2_with (first | (refine wpList_put rfl 122 (.tmp 6) (.tmp 46) rfl _ (rcCells (mV p n cap) h d) rfl rfl _ _ hb3 rcSize rfl (rc_one p n cap h d) ?_; intro w3 hb4 hc4))
        exact bodyPost_ret (results_row1 Tryd.results67 _ _ _ _ _ _ rfl hb4 rcDesc rfl rcSize) rfl (ropen_yes (hc4.ext (HE1.out.trans he2) (by omega)) (by rw [HE.out, if_neg (by simp [HO.out])]))
      · have hoI : (d.org != 2) = true := by simpa using ho
        have HO := Lib.hid ho
        clear ho
        go_enter Tryd.func67, Tryd.ntmps67
        go_upto_region 1 with (fail)
        refine wp_name (fun w0 => Ext w w0 ∧ HdAt w0 w.heap.size h ∧ DsAt w0 (w.heap.size + 1) d ∧ Blk w0 (w.heap.size + 1 + 1) (.cells rcZero 122)) (hd_ds_cl w h d _ _) ?_
        rintro w0 ⟨he0, hb1, hb2, hb3⟩
        go_wp2_with (first | (refine wpList_ds rfl (.tmp 5) rfl _ rfl d hb2 ?_) | (go_at_call 78; refine (Hv.out _).mono ?_; rw [HV.out]; rintro e w1 ⟨rfl, he1⟩; have hb1 := hb1.ext he1; have hb2 := hb2.ext he1; have hb3 := he1.blk _ _ hb3; have c1 := Blk.val hb1 1 _ rfl; have c2 := Blk.val hb1 2 _ rfl; have c3 := Blk.val hb2 1 _ rfl) | (refine wpList_put rfl 122 (.tmp 6) (.tmp 37) rfl _ rcZero rfl rfl _ _ hb3 rcSize rfl rcZero_one ?_; intro w3 hb4 hc4))
        exact bodyPost_ret (results_row1 Tryd.results67 _ _ _ _ _ _ rfl hb4 rcDesc rfl rcSize) rfl (ropen_no (hc4.ext (he0.trans he1) (by omega)) (by rw [HE.out, if_pos HO.out]) (by decide))
end Go.Proofs.YtjgdhlpnpihkdaaDoor
