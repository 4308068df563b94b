/- The walk of chapter 19's example. -/
import Derived.Test.YtjgdhlpnpihkdaaDoorR9
import Derived.Test.YtjgdhlpnpihkdaaDoorX18
import Derived.Test.YtjgdhlpnpihkdaaDoorP19
set_option linter.unusedSimpArgs false
set_option linter.unusedVariables false
namespace Go.Proofs.YtjgdhlpnpihkdaaDoor
open Go.RowKit Dsd

theorem dsBuilt9 : Tryd.prog.built 26 [(1, .int .i64 2), (7, .int .i64 128), (3, .int .i64 40)] = some #[.int .i64 exD9.id, .int .i64 exD9.org, .int .i64 exD9.format, .int .i64 exD9.length, .int .i64 exD9.block, .int .i64 exD9.keyAt, .int .i64 exD9.keyLength, .int .i64 exD9.interval, .int .i64 exD9.area, .int .i64 exD9.freeInterval, .int .i64 exD9.freeArea, .int .i64 exD9.base, .int .i64 exD9.altAt, .int .i64 exD9.altLength, .bool exD9.unique, .int .i64 exD9.cls, .string ⟨exD9.volume.toArray⟩, .string ⟨exD9.owner.toArray⟩, .int .i64 exD9.created, .int .i64 exD9.expires, .bool exD9.archived] := by kernel_rfl
theorem hdBuilt9z : Tryd.prog.built 24 [] = some #[.int .i64 0, .int .i64 0, .int .i64 0, .int .i64 0, .int .i64 0, .int .i64 0, .int .i64 0] := by kernel_rfl
theorem hdBuilt9 : Tryd.prog.built 24 [(1, .int .i64 1), (2, .int .i64 3)] = some #[.int .i64 exH9.applied, .int .i64 exH9.count, .int .i64 exH9.fin, .int .i64 exH9.root, .int .i64 exH9.height, .int .i64 exH9.splits, .int .i64 exH9.areas] := by kernel_rfl
theorem ds_one9 (d : DS) : (#[.int .i64 d.id, .int .i64 d.org, .int .i64 d.format, .int .i64 d.length, .int .i64 d.block, .int .i64 d.keyAt, .int .i64 d.keyLength, .int .i64 d.interval, .int .i64 d.area, .int .i64 d.freeInterval, .int .i64 d.freeArea, .int .i64 d.base, .int .i64 d.altAt, .int .i64 d.altLength, .bool d.unique, .int .i64 d.cls, .string ⟨d.volume.toArray⟩, .string ⟨d.owner.toArray⟩, .int .i64 d.created, .int .i64 d.expires, .bool d.archived] : Array Value).all (·.oneCell') = true := by simp [Value.oneCell']
theorem infoByte9 : (Tryd.prog.info? 5).map (fun i => (i.zero, i.size, i.bytes)) = some (some (.int .u8 0), 1, 1) := by kernel_rfl
theorem make_zeros (n : Nat) (hn : n ≤ 1000) (w : World) : (Instr.makeSlice 70 (.int .i64 n) (.int .i64 n)).run Tryd.prog w = .ok (.slice (some ⟨w.heap.size, 0, none⟩) n n) (w.alloc (.cells (byteCells (List.replicate n 0)) 5)) := by
  obtain ⟨i0, hi, hz0, hz1, hz2⟩ := info_parts infoByte9
  exact run_make_bytes (P := Tryd.prog) w 70 5 i0 n Tryd.underlying70 hi hz0 hz1 hz2 (by omega)
theorem conv_zeros (n : Nat) (w : World) : (convert 70 9 (.slice (some ⟨w.heap.size, 0, none⟩) n n)).run Tryd.prog (w.alloc (.cells (byteCells (List.replicate n 0)) 5)) = .ok (.string ⟨(List.replicate n (0 : UInt8)).toArray⟩) (w.alloc (.cells (byteCells (List.replicate n 0)) 5)) :=
  run_new_string (P := Tryd.prog) w 70 9 5 n n (List.replicate n 0) 5 Tryd.underlying70 Tryd.underlying5 Tryd.underlying9 (by simp)
/-- RelOut, where it writes. -/
theorem relOut_val {R : RelRes} {H : Hd} {L : List (Int × List UInt8)} {c : Int} {w w' : World} {e : Ending} (hr : R = ⟨H, L, c⟩) (h : RelOut R w e w') : ∃ q cc, e = .returned (.tuple #[.agg #[.int .i64 H.applied, .int .i64 H.count, .int .i64 H.fin, .int .i64 H.root, .int .i64 H.height, .int .i64 H.splits, .int .i64 H.areas], .slice q L.length cc, .int .i64 c]) ∧ Ext w w' ∧ Wrts w' q L := by
  subst hr
  obtain ⟨he, q, k, cc, h1, h2, h3⟩ := h
  subst h2
  exact ⟨q, cc, h1, he, h3⟩
theorem exM9_small : Small (putsP [[]] exW9) := by
  obtain ⟨_, _, h3, h4⟩ := (rmade_nil exD9).put exV9 exDo9 (s := 4) (rec := zs40) (by omega) (by rw [zs40_len]; rfl) (by rw [exN9]; omega) (by omega)
  rw [show ((4 : Nat) : Int) + 1 = 5 from rfl, exPut9, exN9] at h3
  have hl := h3.mlen
  refine ⟨by rw [hl]; decide, fun s hs => ?_⟩
  have h5 : ∀ (l : List (Int × List UInt8)), (∀ x ∈ l, x.2.length ≤ 1000000) → ∀ (m : List (List UInt8)), (∀ s ∈ m, s.length ≤ 1000000) → ∀ s ∈ putsP m l, s.length ≤ 1000000 := by
    intro l
    induction l with
    | nil => intro _ m hm; exact hm
    | cons x l ih => intro hx m hm; exact ih (fun y hy => hx y (by simp [hy])) _ (putP_mem m x (fun s => s.length ≤ 1000000) hm (by simp) (hx x (by simp)))
  refine h5 exW9 ?_ [[]] (by simp) s hs
  have he : ∀ L, (esStr exD9.interval exD9.length L).length ≤ 1000000 := fun L => by
    unfold esStr sStr
    split
    · rename_i h0
      obtain ⟨g1, g2, g3⟩ := sErr_zero h0
      rw [length_wholeL]
      · decide
      · rw [length_sCont g3, length_sMarks]; decide
    · simp
  intro x hx
  unfold exW9 freshS at hx
  simp [wrS, List.range_succ] at hx
  rcases hx with rfl | rfl | rfl <;> exact he _

set_option maxRecDepth 100000 in
set_option maxHeartbeats 2000000 in
theorem awake19_any (w : World) : Calls Tryd.prog 34 #[] w fun e w' => e = .returned (.bool true) ∧ Ext w w' := by
  have hmk : ∀ w : World, (Instr.makeSlice 70 (.int .i64 40) (.int .i64 40)).run Tryd.prog w = .ok (.slice (some ⟨w.heap.size, 0, none⟩) 40 40) (w.alloc (.cells (byteCells zs40) 5)) := fun w => make_zeros 40 (by omega) w
  have hcv : ∀ w : World, (convert 70 9 (.slice (some ⟨w.heap.size, 0, none⟩) 40 40)).run Tryd.prog (w.alloc (.cells (byteCells zs40) 5)) = .ok (.string ⟨zs40.toArray⟩) (w.alloc (.cells (byteCells zs40) 5)) := fun w => conv_zeros 40 w
  have Hput := Lib.hid (fun b w' (hs : Strs w' (some ⟨b, 0, none⟩) [[]]) => (rput_any (some ⟨b, 0, none⟩) 1 1 [[]] Hd.zero exD9 5 zs40 w' hs rfl ⟨by simp, by simp⟩ (by rw [zs40_len]; omega)).mono (fun e w'' h => relOut_val exPut9 h))
  have hms := exM9_small
  have hmn := (putsP_len [[]] exW9).2
  obtain ⟨wl1, wl2, wl3⟩ := exW9_at
  have hml : (putsP [[]] exW9).length ≤ 40000 := by rw [wl1] at hmn; simp at hmn; omega
  have Hget := Lib.hid (fun q1 c1 B w' (ho : w'.ownsRow B 9 1 (.slice q1 (putsP [[]] exW9).length c1) (putsP [[]] exW9).length ((putsP [[]] exW9).map fun s => .string ⟨s.toArray⟩)) => (rget_any q1 c1 (putsP [[]] exW9).length (putsP [[]] exW9) exH9 exD9 5 w' (own_strs3 ho) rfl hms))
  rw [exGet9] at Hget
  have HPu := Lib.hid (fun b q c w' (hs : Strs w' (some ⟨b, 0, none⟩) [[]]) (hw : Wrts w' q exW9) => Put_any ⟨b, 0, none⟩ q 1 1 exW9.length c [[]] exW9 w' hs rfl hw rfl (by omega) (by omega))
  have WL1 := Lib.hid wl1
  clear hmn hml hms wl1
  generalize putsP [[]] exW9 = M at *
  generalize exW9 = W at *
  generalize zs40 = zs at *
  go_enter Tryd.func34, Tryd.ntmps34
  go_upto_region 2 with (first
    | (refine wpList_bld rfl 26 #[(1, .const (.int .i64 2)), (7, .const (.int .i64 128)), (3, .const (.int .i64 40))] rfl [(1, .int .i64 2), (7, .int .i64 128), (3, .int .i64 40)] rfl _ dsBuilt9 ?_)
    | (refine wpList_put rfl 26 (.tmp 1) (.tmp 8) rfl _ #[.int .i64 exD9.id, .int .i64 exD9.org, .int .i64 exD9.format, .int .i64 exD9.length, .int .i64 exD9.block, .int .i64 exD9.keyAt, .int .i64 exD9.keyLength, .int .i64 exD9.interval, .int .i64 exD9.area, .int .i64 exD9.freeInterval, .int .i64 exD9.freeArea, .int .i64 exD9.base, .int .i64 exD9.altAt, .int .i64 exD9.altLength, .bool exD9.unique, .int .i64 exD9.cls, .string ⟨exD9.volume.toArray⟩, .string ⟨exD9.owner.toArray⟩, .int .i64 exD9.created, .int .i64 exD9.expires, .bool exD9.archived] rfl rfl _ _ (Blk.new w _) dsSize rfl (ds_one9 exD9) ?_; intro w1 hb1 hc1))
  refine wp_name (fun w1 => Ext w w1 ∧ DsAt w1 w.heap.size exD9) ⟨hc1.ext (Ext.alloc _ _) (Nat.le_refl _), hb1⟩ ?_
  clear hb1 hc1
  rintro w2 ⟨he2, hb2⟩
  go_upto_region 3 with (fail)
  refine wp_name (fun w3 => Ext w w3 ∧ DsAt w3 w.heap.size exD9) ⟨he2.trans (Ext.alloc _ _), hb2.alloc _⟩ ?_
  clear hb2 he2
  rintro w3 ⟨he3, hb3⟩
  go_upto_region 4 with (first
    | (refine wpList_bld (o := ⟨some 14, _, _, _, _, _⟩) rfl 24 #[] rfl [] rfl _ hdBuilt9z ?_)
    | (refine wpList_ds rfl (.tmp 1) rfl _ rfl exD9 (hb3.alloc _) ?_)
    | (go_at_call 36; refine (Hput.out w3.heap.size _ (cells_blk (Blk.new w3 _))).mono ?_; rintro e w4 ⟨q, c, rfl, he4, hw4⟩)
    | (refine wpList_put rfl 24 (.tmp 3) (.tmp 18) rfl _ #[.int .i64 exH9.applied, .int .i64 exH9.count, .int .i64 exH9.fin, .int .i64 exH9.root, .int .i64 exH9.height, .int .i64 exH9.splits, .int .i64 exH9.areas] rfl rfl _ _ (Blk.new w4 _) hdSize rfl (hd_one exH9) ?_; intro w5 hb5 hc5))
  have heA : Ext w4 w5 := hc5.ext (Ext.alloc _ _) (Nat.le_refl _)
  have heB : Ext w3 w5 := ((Ext.alloc _ _).trans he4).trans heA
  refine wp_name (fun w5 => Ext w w5 ∧ DsAt w5 w.heap.size exD9 ∧ HdAt w5 w4.heap.size exH9 ∧ Wrts w5 q W) ⟨he3.trans heB, hb3.ext heB, hb5, hw4.ext heA⟩ ?_
  clear hb3 he3 he4 hw4 hb5 hc5 heA heB
  generalize w4.heap.size = hb at *
  rintro w5 ⟨he5, hb5, hh5, hw5⟩
  have Hb5 := Lib.hid hb5
  have Hh5 := Lib.hid hh5
  have Hw5 := Lib.hid hw5
  have He5 := Lib.hid he5
  clear hb5 hh5 he5
  refine wp_region_mk 200 (Ext.refl w5) (by kernel_rfl) (by kernel_rfl) (by kernel_rfl) ?_
  simp only [List.take_succ_cons, List.take_zero, List.take_nil, List.drop_succ_cons, List.drop_zero, List.drop_nil, List.map_cons, List.map_nil]
  repeat (first
    | (refine wpML_fact (o := ⟨some 22, _, _, _, _, _⟩) (Fresh 1 1 (.cells #[.string ⟨#[]⟩] 9)) (Fresh.stable _ _ _) rfl ?_ ?_
       · intro a w' he hr K hK
         simp [Reads, Oper.looksAt, Op.operands, Call.operands, factAt, Is] at hr
         go_simp
         exact hK _ _ (Ext.alloc _ _) (Fresh.new _ _ _ _)
       simp only [setL, List.set_cons_succ, List.set_cons_zero])
    | (refine wpML_fact (o := ⟨some 24, _, _, _, _, _⟩) (RowsF 9 w5.heap.size 1 M.length (M.map fun s => .string ⟨s.toArray⟩)) (RowsF.stable _ _ _ _ _) rfl ?_ ?_
       · intro a w' he hr K hK
         obtain ⟨b, h1, h2⟩ := hr 22 (by simp [Oper.looksAt, Op.operands, Call.operands])
         simp [Reads, Oper.looksAt, Op.operands, Call.operands, factAt, Is] at hr
         simp at h1
         go_simp
         refine (HPu.out b q c w' (cells_blk h2) (Hw5.out.ext he)).mono ?_
         rintro e w'' ⟨he', v, rfl, ho⟩
         obtain ⟨q', c', rfl⟩ := own_slice ho
         exact hK _ _ he' ⟨q', c', rfl, own_le ho he.size⟩
       simp only [setL, List.set_cons_succ, List.set_cons_zero])
    | (refine wpML_fact (o := ⟨some 25, _, _, _, _, _⟩) (IfcF (RowsF 9 w5.heap.size 1 M.length (M.map fun s => .string ⟨s.toArray⟩)) 30) (IfcF.stable (RowsF.stable _ _ _ _ _) _) rfl ?_ ?_
       · intro a w' he hr K hK
         obtain ⟨q1, c1, h1, h3⟩ := hr 24 (by simp [Oper.looksAt, Op.operands])
         simp at h1
         go_simp
         exact hK _ _ (Ext.refl _) ⟨_, rfl, q1, c1, rfl, h3⟩
       simp only [setL, List.set_cons_succ, List.set_cons_zero])
    | (refine wpML_det (o := ⟨some 26, _, _, _, _, _⟩) (v := .agg #[.int .i64 exH9.applied, .int .i64 exH9.count, .int .i64 exH9.fin, .int .i64 exH9.root, .int .i64 exH9.height, .int .i64 exH9.splits, .int .i64 exH9.areas]) rfl ?_ ?_
       · intro a w' he hr K hK
         simp [Reads, Oper.looksAt, Op.operands, factAt, Is] at hr
         exact wp_load_row 24 (.tmp 3) rfl (hb) (by go_simp) _ _ _ _ (he.blk _ _ Hh5.out) hdDesc rfl hdSize (hK _ (Ext.refl _))
       simp only [setL, List.set_cons_succ, List.set_cons_zero])
    | (refine wpML_det (o := ⟨some 27, _, _, _, _, _⟩) (v := .agg #[.int .i64 exD9.id, .int .i64 exD9.org, .int .i64 exD9.format, .int .i64 exD9.length, .int .i64 exD9.block, .int .i64 exD9.keyAt, .int .i64 exD9.keyLength, .int .i64 exD9.interval, .int .i64 exD9.area, .int .i64 exD9.freeInterval, .int .i64 exD9.freeArea, .int .i64 exD9.base, .int .i64 exD9.altAt, .int .i64 exD9.altLength, .bool exD9.unique, .int .i64 exD9.cls, .string ⟨exD9.volume.toArray⟩, .string ⟨exD9.owner.toArray⟩, .int .i64 exD9.created, .int .i64 exD9.expires, .bool exD9.archived]) rfl ?_ ?_
       · intro a w' he hr K hK
         simp [Reads, Oper.looksAt, Op.operands, factAt, Is] at hr
         exact wp_load_row 26 (.tmp 1) rfl (w.heap.size) (by go_simp) _ _ _ _ (he.blk _ _ Hb5.out) dsDesc rfl dsSize (hK _ (Ext.refl _))
       simp only [setL, List.set_cons_succ, List.set_cons_zero])
    | (refine wpML_det (o := ⟨some 28, _, _, _, _, _⟩) (v := .tuple #[.string ⟨zs.toArray⟩, .int .i64 0]) rfl ?_ ?_
       · intro a w' he hr K hK
         obtain ⟨y, h1, q1, c1, h2, h3⟩ := hr 25 (by simp [Oper.looksAt, Op.operands, Call.operands])
         simp [Reads, Oper.looksAt, Op.operands, Call.operands, factAt, Is] at hr
         subst h2
         simp at h1
         go_simp
         refine (Hget.out q1 c1 _ w' h3).mono ?_
         rintro e w'' ⟨rfl, he'⟩
         exact hK _ he'
       simp only [setL, List.set_cons_succ, List.set_cons_zero])
    | (refine wpML_move _ _ rfl (by first | exact .inl rfl | exact .inr rfl) rfl (by first | exact Is.stable _ | exact AppF.stable _ | exact WrF.stable _ | exact PtrF.stable _ _ | exact IfcF.stable (Fresh.stable _ _ _) _ | exact PairF.stable (RowF.stable _ _ _ _) _ | exact RowF.stable _ _ _ _ | exact Fresh.stable _ _ _) ?_
       simp only [setL, List.set_cons_succ, List.set_cons_zero, List.getD_cons_succ, List.getD_cons_zero])
    | (refine wpML_moveC _ rfl (by first | exact .inl rfl | exact .inr rfl) ?_
       simp only [setL, List.set_cons_succ, List.set_cons_zero])
    | (apply wpML_det rfl
       · intro a w' he hr K hK
         simp [Reads, Oper.looksAt, Op.operands, Call.operands, factAt, Is] at hr
         have hx := he.cell
         go_simp
         try go_bits
         try (rw [if_neg (by omega)]; go_simp)
         first
           | exact hK _ (Ext.refl _)
       simp only [setL, List.set_cons_succ, List.set_cons_zero])
    | (apply wpML_det rfl
       · intro a w' he hr K hK
         simp [Reads, Oper.looksAt, Op.operands, Call.operands, factAt, Fresh] at hr
         obtain ⟨b, hr1, hr2⟩ := hr
         go_simp
         exact hK _ (Ext.refl _)
       simp only [setL, List.set_cons_succ, List.set_cons_zero]))
  intro w2 he2
  repeat (first | with_reducible refine rest_is _ _ _ _ ?_ | (with_reducible refine rest_fact _ _ _ _ ?_; intro _ _) | with_reducible refine rest_end _ _ ?_)
  simp only [List.reverse_cons, List.reverse_nil, List.nil_append, List.cons_append]
  rename_i x22 h22 x24 h24 x25 h25
  clear h22 h24 h25
  have wl1 := WL1.out
  obtain ⟨b', off, rfl, hb', hc⟩ := hw5.at 0 (by rw [wl1]; omega)
  have hc0 := (he2.cell _ _ hb').trans (hc 0 (by rw [wl1]; omega)).1
  have hc2 := (he2.cell _ _ hb').trans (hc 2 (by rw [wl1]; omega)).1
  rw [wl2, show off + 0 * 2 = off by omega] at hc0
  rw [wl3, show off + 2 * 2 = off + 4 by omega] at hc2
  have hb2 := Nat.lt_of_lt_of_le hb' he2.size
  have hh2 := Hh5.out.ext he2
  have hE : ∀ W, (Op.equalIn 10000 24 (.agg #[.int .i64 exH9.applied, .int .i64 exH9.count, .int .i64 exH9.fin, .int .i64 exH9.root, .int .i64 exH9.height, .int .i64 exH9.splits, .int .i64 exH9.areas]) (.agg #[.int .i64 exH9.applied, .int .i64 exH9.count, .int .i64 exH9.fin, .int .i64 exH9.root, .int .i64 exH9.height, .int .i64 exH9.splits, .int .i64 exH9.areas])).run Tryd.prog W = .ok true W := fun W => by rw [hd_equal]; simp
  have hG := hdGuard
  have HE2 := Lib.hid (He5.out.trans he2)
  have hwlI : ((W.length : Int) == 3) = true := by simp [wl1]
  have hwl3 : (W.length : Int) = 3 := by omega
  clear hc hw5 he2 wl2 wl3
  go_wp2_with (first
    | (refine wpList_hd rfl (.tmp 3) rfl _ rfl exH9 hh2 ?_)
    | (refine wpList_bld (o := ⟨some 35, _, _, _, _, _⟩) rfl 24 #[(1, .const (.int .i64 1)), (2, .const (.int .i64 3))] rfl [(1, .int .i64 1), (2, .int .i64 3)] rfl _ hdBuilt9 ?_))
  go_ret
  exact ⟨rfl, HE2.out⟩
end Go.Proofs.YtjgdhlpnpihkdaaDoor
