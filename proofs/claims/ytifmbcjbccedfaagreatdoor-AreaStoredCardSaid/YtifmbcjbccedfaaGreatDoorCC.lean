/- A part of the proof. -/
import Derived.Test.YtifmbcjbccedfaaGreatDoorCC0

set_option linter.unusedSimpArgs false
set_option linter.unusedVariables false
namespace Go.Proofs.YtifmbcjbccedfaaGreatDoor
open Go.RowKit Dsd
set_option maxRecDepth 100000 in
theorem Cmp_any (x y : Int) (s t : List UInt8) (w : World) (hx : 0 ≤ x ∧ x ≤ 20000000) (hy : 0 ≤ y ∧ y ≤ 20000000) :
   Calls Tryz.prog 52 #[.agg #[.int .i64 x, .string ⟨s.toArray⟩], .agg #[.int .i64 y, .string ⟨t.toArray⟩]] w fun e w' => e = .returned (.int .i64 (x - y)) ∧ Ext w w' := by
 have hw : IntKind.i64.wrap (x - y) = x - y := IntWalk.i64_in _ (by omega)
 go_enter Tryz.func52, Tryz.ntmps52
 go_wp2
 go_ret
 exact ⟨rfl, (Ext.alloc _ _).trans (Ext.alloc _ _)⟩
set_option maxRecDepth 100000 in
set_option maxHeartbeats 2000000 in
theorem Insertion_any (g z n cap : Nat) (L : List Wr) (w : World) (hn : L.length = n) (h12 : n ≤ 12) (hr : RowW w g z L) (hk : ∀ x ∈ L, 0 ≤ x.1 ∧ x.1 ≤ 20000000) :
   Calls Tryz.prog 138 #[.slice (some ⟨g, 0, none⟩) n cap, .int .i64 0, .int .i64 n, .func (.func 52) #[] #[]] w fun e w' => e = .returned (.tuple #[]) ∧ w.grownBy w' (some g) ∧ ∃ L', L'.Perm L ∧ ordTo L' L'.length ∧ RowW w' g z L' := by
 have Hn := Lib.hid hn
 have Hr := Lib.hid hr
 have HK := Lib.hid hk
 have hgl : g < w.heap.size := by obtain ⟨_, h, _⟩ := hr; exact Blk.lt h
 have Hgl := Lib.hid hgl
 clear hn hr hk hgl
 obtain ⟨wo, rfl⟩ : ∃ wo : World, wo = w := ⟨_, rfl⟩
 go_enter Tryz.func138, Tryz.ntmps138
 go_upto_region 1 with (fail)
 go_loopw [8] (fun i wr => ∃ k : Nat, 1 ≤ k ∧ (k ≤ n ∨ n = 0) ∧ i = .int .i64 k ∧ wo.grownBy wr (some g) ∧ ∃ M, M.Perm L ∧ ordTo M k ∧ RowW wr g z M) (fun i _ => n - (intOf i).toNat)
 case atStart => exact ⟨1, Nat.le_refl _, by omega, rfl, grown_of_ext g (Ext.refl _), L, List.Perm.refl _, fun p q h1 h2 => by omega, Hr.out⟩
 case round =>
   obtain ⟨k, hk1, hkn, rfl, hgr, M, hpM, hoM, hrM⟩ := hrel
   by_cases hlt : k < n
   · have hltI : (k : Int) < n := by omega
     clear hkn
     go_upto_region 4 with (fail)
     go_loopw [9] (fun jv wj => ∃ j : Nat, j ≤ k ∧ jv = .int .i64 j ∧ wo.grownBy wj (some g) ∧ ∃ M', M'.Perm L ∧ holed M' k j ∧ RowW wj g z M') (fun jv _ => (intOf jv).toNat)
     case atStart => exact ⟨k, Nat.le_refl _, rfl, hgr, M, hpM, holed_start hoM, hrM⟩
     case round =>
       obtain ⟨j, hj, rfl, hgr, M', hpM, hoM, hrM⟩ := hrel
       have hlen : M'.length = n := by rw [hpM.length_eq]; exact Hn.out
       have Hlen := Lib.hid hlen
       have hglw : g < wr.heap.size := Nat.lt_of_lt_of_le Hgl.out hgr.size
       rcases j with _ | j
       · have Hfin := Lib.hid (holed_end hoM (Nat.zero_le _) (.inl rfl))
         have Hr2 := Lib.hid hrM
         have Hg2 := Lib.hid hgr
         have Hp2 := Lib.hid hpM
         clear hlen hoM hrM hgr hpM
         go_upto_region 4 with (fail)
         refine wp_region_mk 200 (Ext.refl wr) (by kernel_rfl) (by kernel_rfl) (by kernel_rfl) ?_
         simp only [List.take_succ_cons, List.take_zero, List.take_nil, List.drop_succ_cons, List.drop_zero, List.drop_nil, List.map_cons, List.map_nil]
         repeat (first
           | (refine wpML_skip rfl rfl rfl rfl ?_
              simp only [setL, List.set_cons_succ, List.set_cons_zero])
           | (apply wpML_detg rfl rfl rfl rfl
              · intro a w' he hr K hK
                simp [Reads, Oper.looksAt, Op.operands, Call.operands, factAt, Is] at hr
                have hx := he.cell
                go_simp
                try go_bits
                try (rw [if_neg (by omega)]; go_simp)
                first
                  | exact hK _ (Ext.refl _)
              simp only [setL, List.set_cons_succ, List.set_cons_zero])
           | (refine wpML_move _ _ rfl (by first | exact .inl rfl | exact .inr rfl) rfl (by first | exact Is.stable _ | exact AppF.stable _ | exact WrF.stable _ | exact PtrF.stable _ _ | exact IfcF.stable (Fresh.stable _ _ _) _ | exact PairF.stable (RowF.stable _ _ _ _) _ | exact RowF.stable _ _ _ _ | exact Fresh.stable _ _ _) ?_
              simp only [setL, List.set_cons_succ, List.set_cons_zero, List.getD_cons_succ, List.getD_cons_zero])
           | (refine wpML_moveC _ rfl (by first | exact .inl rfl | exact .inr rfl) ?_
              simp only [setL, List.set_cons_succ, List.set_cons_zero])
           | (apply wpML_det rfl
              · intro a w' he hr K hK
                simp [Reads, Oper.looksAt, Op.operands, Call.operands, factAt, Is] at hr
                have hx := he.cell
                go_simp
                try go_bits
                try (rw [if_neg (by omega)]; go_simp)
                first
                  | exact hK _ (Ext.refl _)
              simp only [setL, List.set_cons_succ, List.set_cons_zero])
           | (apply wpML_det rfl
              · intro a w' he hr K hK
                simp [Reads, Oper.looksAt, Op.operands, Call.operands, factAt, Fresh] at hr
                obtain ⟨b, hr1, hr2⟩ := hr
                go_simp
                exact hK _ (Ext.refl _)
              simp only [setL, List.set_cons_succ, List.set_cons_zero]))
         intro w2 he2
         repeat (first | with_reducible refine rest_is _ _ _ _ ?_ | (with_reducible refine rest_fact _ _ _ _ ?_; intro _ _) | with_reducible refine rest_end _ _ ?_)
         simp only [List.reverse_cons, List.reverse_nil, List.nil_append, List.cons_append]
         have HG := Lib.hid (And.intro (grownTrans Hg2.out (grown_of_ext g he2) Hgl.out) (Hr2.out.ext he2))
         clear he2
         go_wp2
         go_roundw
         case rel => exact ⟨k + 1, by omega, .inl (by omega), by go_num, HG.out.1, M', Hp2.out, Hfin.out, HG.out.2⟩
         case measure => simp [intOf]; omega
       · obtain ⟨a0, a1, _⟩ := hrM.at (j + 1) (by omega)
         obtain ⟨b0, b1, _⟩ := hrM.at j (by omega)
         have hkA : 0 ≤ (wrAt M' (j + 1)).1 ∧ (wrAt M' (j + 1)).1 ≤ 20000000 := HK.out _ (hpM.mem_iff.1 (by rw [wrAt_get (show j + 1 < M'.length by omega)]; exact List.getElem_mem _))
         have hkB : 0 ≤ (wrAt M' j).1 ∧ (wrAt M' j).1 ≤ 20000000 := HK.out _ (hpM.mem_iff.1 (by rw [wrAt_get (show j < M'.length by omega)]; exact List.getElem_mem _))
         have Hr2 := Lib.hid hrM
         have Hg2 := Lib.hid hgr
         have Hp2 := Lib.hid hpM
         have Ho2 := Lib.hid hoM
         have HSt : Hid ((wrAt M' (j + 1)).1 < (wrAt M' j).1 → holed (swapW M' (j + 1)) k j) := Lib.hid (fun h => holed_step hoM (by omega) hj (by omega) h)
         have HEn : Hid ((wrAt M' j).1 ≤ (wrAt M' (j + 1)).1 → ordTo M' (k + 1)) := Lib.hid (fun h => holed_end hoM hj (.inr h))
         have HSw : Hid (swapW M' (j + 1) = (M'.set (j + 1) (wrAt M' j)).set j (wrAt M' (j + 1))) := Lib.hid rfl
         clear hlen hoM hrM hgr hpM
         generalize wrAt M' (j + 1) = y at *
         generalize wrAt M' j = x at *
         obtain ⟨ky, sy⟩ := y
         obtain ⟨kx, sx⟩ := x
         simp only at a0 a1 b0 b1 hkA hkB HSt HEn
         obtain ⟨i, hi⟩ : ∃ i, i = j + 1 := ⟨_, rfl⟩
         rw [← hi] at a0 a1 HSt HSw hj Ho2 ⊢
         have hji : (i : Int) - 1 = (j : Int) := by omega
         have hiI : (i : Int) < n := by omega
         have hjI : (j : Int) < n := by omega
         have hi0 : decide (0 < (i : Int)) = true := decide_eq_true (by omega)
         have hi1 : 0 < i := by omega
         have Hi := Lib.hid hi
         clear hi
         by_cases hlt2 : ky < kx
         · have hd : decide (ky - kx < 0) = true := decide_eq_true (by omega)
           go_upto_region 4 with (fail)
           refine wp_region_mk 200 (Ext.refl wr) (by kernel_rfl) (by kernel_rfl) (by kernel_rfl) ?_
           simp only [List.take_succ_cons, List.take_zero, List.take_nil, List.drop_succ_cons, List.drop_zero, List.drop_nil, List.map_cons, List.map_nil]
           repeat (first
             | (refine wpML_detg (o := ⟨some 32, _, _, _, _, _⟩) (x := .int .i64 (ky - kx)) rfl rfl rfl rfl ?_ ?_
                · intro a w' he hr K hK
                  simp [Reads, Oper.looksAt, Op.operands, Call.operands, factAt, Is] at hr
                  go_simp
                  refine (Cmp_any ky kx sy sx _ hkA hkB).mono ?_
                  rintro e w'' ⟨rfl, he''⟩
                  exact hK _ he''
                simp only [setL, List.set_cons_succ, List.set_cons_zero])
             | (refine wpML_skip rfl rfl rfl rfl ?_
                simp only [setL, List.set_cons_succ, List.set_cons_zero])
             | (apply wpML_detg rfl rfl rfl rfl
                · intro a w' he hr K hK
                  simp [Reads, Oper.looksAt, Op.operands, Call.operands, factAt, Is] at hr
                  have hx := he.cell
                  go_simp
                  try go_bits
                  try (rw [if_neg (by omega)]; go_simp)
                  first
                    | exact hK _ (Ext.refl _)
                simp only [setL, List.set_cons_succ, List.set_cons_zero])
             | (refine wpML_move _ _ rfl (by first | exact .inl rfl | exact .inr rfl) rfl (by first | exact Is.stable _ | exact AppF.stable _ | exact WrF.stable _ | exact PtrF.stable _ _ | exact IfcF.stable (Fresh.stable _ _ _) _ | exact PairF.stable (RowF.stable _ _ _ _) _ | exact RowF.stable _ _ _ _ | exact Fresh.stable _ _ _) ?_
                simp only [setL, List.set_cons_succ, List.set_cons_zero, List.getD_cons_succ, List.getD_cons_zero])
             | (refine wpML_moveC _ rfl (by first | exact .inl rfl | exact .inr rfl) ?_
                simp only [setL, List.set_cons_succ, List.set_cons_zero])
             | (apply wpML_det rfl
                · intro a w' he hr K hK
                  simp [Reads, Oper.looksAt, Op.operands, Call.operands, factAt, Is] at hr
                  have hx := he.cell
                  go_simp
                  try go_bits
                  try (rw [if_neg (by omega)]; go_simp)
                  first
                    | exact hK _ (Ext.refl _)
                simp only [setL, List.set_cons_succ, List.set_cons_zero])
             | (apply wpML_det rfl
                · intro a w' he hr K hK
                  simp [Reads, Oper.looksAt, Op.operands, Call.operands, factAt, Fresh] at hr
                  obtain ⟨b, hr1, hr2⟩ := hr
                  go_simp
                  exact hK _ (Ext.refl _)
                simp only [setL, List.set_cons_succ, List.set_cons_zero]))
           intro w2 he2
           repeat (first | with_reducible refine rest_is _ _ _ _ ?_ | (with_reducible refine rest_fact _ _ _ _ ?_; intro _ _) | with_reducible refine rest_end _ _ ?_)
           simp only [List.reverse_cons, List.reverse_nil, List.nil_append, List.cons_append]
           have HG := Lib.hid (And.intro (grownTrans Hg2.out (grown_of_ext g he2) Hgl.out) (Hr2.out.ext he2))
           have f0 := HG.out.2.free (i * 2)
           have f1 := HG.out.2.free (i * 2 + 1)
           have f2 := HG.out.2.free (j * 2)
           have f3 := HG.out.2.free (j * 2 + 1)
           have c0 := (Ext.cell he2 g _ hglw).trans a0
           have c1 := (Ext.cell he2 g _ hglw).trans a1
           have c2 := (Ext.cell he2 g _ hglw).trans b0
           have c3 := (Ext.cell he2 g _ hglw).trans b1
           have hgl2 := Nat.lt_of_lt_of_le hglw he2.size
           have n1 : ¬ i = j := by have := Hi.out; omega
           have n2 : ¬ j = i := by have := Hi.out; omega
           have n3 : ¬ i * 2 = j * 2 := by omega
           have n4 : ¬ j * 2 = i * 2 := by omega
           have n5 : ¬ i * 2 = j * 2 + 1 := by omega
           have n6 : ¬ j * 2 = i * 2 + 1 := by omega
           have n7 : ¬ i * 2 + 1 = j * 2 := by omega
           have n8 : ¬ j * 2 + 1 = i * 2 := by omega
           clear he2 a0 a1 b0 b1 hglw
           go_upto_region 6 with (fail)
           go_region
           all_goals
             go_wp2
             go_roundw
             case rel =>
               have hs1 : Chg g w2 (((((w2.setCell ⟨g, i * 2, none⟩ (.int .i64 kx)).setCell ⟨g, i * 2 + 1, none⟩ (.string ⟨sx.toArray⟩)).setCell ⟨g, j * 2, none⟩ (.int .i64 ky)).setCell ⟨g, j * 2 + 1, none⟩ (.string ⟨sy.toArray⟩))) := ((Chg.setCell.trans Chg.setCell).trans Chg.setCell).trans Chg.setCell
               have hiL : i < M'.length := by have := Hlen.out; omega
               have hs2 := (HG.out.2.set i hiL (kx, sx)).set j (by rw [List.length_set]; omega) (ky, sy)
               have hin := Hi.out
               refine ⟨j, by omega, by go_num, grownTrans (grownTrans HG.out.1 (grown_of_chg hs1) Hgl.out) (grown_of_ext g (Ext.drew _)) Hgl.out, swapW M' i, (swapW_perm M' i hi1 hiL).trans Hp2.out, HSt.out hlt2, ?_⟩
               rw [HSw.out]
               exact hs2.ext (Ext.drew _)
             case measure => simp [intOf]; have := Hi.out; omega
         · have hd : decide (ky - kx < 0) = false := decide_eq_false (by omega)
           have Hfin := Lib.hid (HEn.out (by omega))
           go_upto_region 4 with (fail)
           refine wp_region_mk 200 (Ext.refl wr) (by kernel_rfl) (by kernel_rfl) (by kernel_rfl) ?_
           simp only [List.take_succ_cons, List.take_zero, List.take_nil, List.drop_succ_cons, List.drop_zero, List.drop_nil, List.map_cons, List.map_nil]
           repeat (first
             | (refine wpML_detg (o := ⟨some 32, _, _, _, _, _⟩) (x := .int .i64 (ky - kx)) rfl rfl rfl rfl ?_ ?_
                · intro a w' he hr K hK
                  simp [Reads, Oper.looksAt, Op.operands, Call.operands, factAt, Is] at hr
                  go_simp
                  refine (Cmp_any ky kx sy sx _ hkA hkB).mono ?_
                  rintro e w'' ⟨rfl, he''⟩
                  exact hK _ he''
                simp only [setL, List.set_cons_succ, List.set_cons_zero])
             | (refine wpML_skip rfl rfl rfl rfl ?_
                simp only [setL, List.set_cons_succ, List.set_cons_zero])
             | (apply wpML_detg rfl rfl rfl rfl
                · intro a w' he hr K hK
                  simp [Reads, Oper.looksAt, Op.operands, Call.operands, factAt, Is] at hr
                  have hx := he.cell
                  go_simp
                  try go_bits
                  try (rw [if_neg (by omega)]; go_simp)
                  first
                    | exact hK _ (Ext.refl _)
                simp only [setL, List.set_cons_succ, List.set_cons_zero])
             | (refine wpML_move _ _ rfl (by first | exact .inl rfl | exact .inr rfl) rfl (by first | exact Is.stable _ | exact AppF.stable _ | exact WrF.stable _ | exact PtrF.stable _ _ | exact IfcF.stable (Fresh.stable _ _ _) _ | exact PairF.stable (RowF.stable _ _ _ _) _ | exact RowF.stable _ _ _ _ | exact Fresh.stable _ _ _) ?_
                simp only [setL, List.set_cons_succ, List.set_cons_zero, List.getD_cons_succ, List.getD_cons_zero])
             | (refine wpML_moveC _ rfl (by first | exact .inl rfl | exact .inr rfl) ?_
                simp only [setL, List.set_cons_succ, List.set_cons_zero])
             | (apply wpML_det rfl
                · intro a w' he hr K hK
                  simp [Reads, Oper.looksAt, Op.operands, Call.operands, factAt, Is] at hr
                  have hx := he.cell
                  go_simp
                  try go_bits
                  try (rw [if_neg (by omega)]; go_simp)
                  first
                    | exact hK _ (Ext.refl _)
                simp only [setL, List.set_cons_succ, List.set_cons_zero])
             | (apply wpML_det rfl
                · intro a w' he hr K hK
                  simp [Reads, Oper.looksAt, Op.operands, Call.operands, factAt, Fresh] at hr
                  obtain ⟨b, hr1, hr2⟩ := hr
                  go_simp
                  exact hK _ (Ext.refl _)
                simp only [setL, List.set_cons_succ, List.set_cons_zero]))
           intro w2 he2
           repeat (first | with_reducible refine rest_is _ _ _ _ ?_ | (with_reducible refine rest_fact _ _ _ _ ?_; intro _ _) | with_reducible refine rest_end _ _ ?_)
           simp only [List.reverse_cons, List.reverse_nil, List.nil_append, List.cons_append]
           have HG := Lib.hid (And.intro (grownTrans Hg2.out (grown_of_ext g he2) Hgl.out) (Hr2.out.ext he2))
           clear he2
           go_wp2
           go_roundw
           case rel => exact ⟨k + 1, by omega, .inl (by omega), by go_num, HG.out.1, M', Hp2.out, Hfin.out, HG.out.2⟩
           case measure => simp [intOf]; omega
   · have hltI : decide ((k : Int) < n) = false := decide_eq_false (by omega)
     have hfin : Hid (ordTo M M.length) := Lib.hid (by
       have := hpM.length_eq
       have := Hn.out
       have e : M.length ≤ k := by omega
       exact fun p q h1 h2 => hoM p q h1 (by omega))
     go_wp2
     go_end0
     exact ⟨rfl, hgr, M, hpM, hfin.out, hrM⟩
set_option maxRecDepth 100000 in
theorem Pdq_any (g z n cap : Nat) (lim : Int) (L : List Wr) (w : World) (hn : L.length = n) (h12 : n ≤ 12) (hr : RowW w g z L) (hk : ∀ x ∈ L, 0 ≤ x.1 ∧ x.1 ≤ 20000000) :
   Calls Tryz.prog 101 #[.slice (some ⟨g, 0, none⟩) n cap, .int .i64 0, .int .i64 n, .int .i64 lim, .func (.func 52) #[] #[]] w fun e w' => e = .returned (.tuple #[]) ∧ w.grownBy w' (some g) ∧ ∃ L', L'.Perm L ∧ ordTo L' L'.length ∧ RowW w' g z L' := by
 have HI := Lib.hid (Insertion_any g z n cap L w hn h12 hr hk)
 clear hn hr hk
 go_enter Tryz.func101, Tryz.ntmps101
 go_upto_region 2 with (fail)
 obtain ⟨wo, rfl⟩ : ∃ wo : World, wo = w := ⟨_, rfl⟩
 have hI1 : (n : Int) ≤ 12 := by omega
 go_loopw [1, 2] (fun x y wr => x = .int .i64 0 ∧ y = .int .i64 n ∧ wr = wo) (fun _ _ _ => 0)
 case atStart => exact ⟨rfl, rfl, rfl⟩
 case round =>
   obtain ⟨rfl, rfl, rfl⟩ := hrel
   go_wp2_with (go_at_call 138; refine HI.out.mono ?_; rintro e w1 ⟨rfl, h1, h2⟩)
   first | go_end0 | ((try simp only [Exit.inBlock, Exit.then]); refine bodyPost_ret (results_none rfl _ _ _) rfl ?_)
   exact ⟨rfl, h1, h2⟩
set_option maxRecDepth 100000 in
theorem SortFunc_any (g z n cap : Nat) (L : List Wr) (w : World) (hn : L.length = n) (h12 : n ≤ 12) (hr : RowW w g z L) (hk : ∀ x ∈ L, 0 ≤ x.1 ∧ x.1 ≤ 20000000) :
   Calls Tryz.prog 51 #[.slice (some ⟨g, 0, none⟩) n cap, .func (.func 52) #[] #[]] w fun e w' => e = .returned (.tuple #[]) ∧ w.grownBy w' (some g) ∧ ∃ L', L'.Perm L ∧ ordTo L' L'.length ∧ RowW w' g z L' := by
 have HP := Lib.hid (fun lim => Pdq_any g z n cap lim L w hn h12 hr hk)
 clear hn hr hk
 go_enter Tryz.func51, Tryz.ntmps51
 go_wp2_with (first
   | (go_at_call 102; refine (Len_any n (by omega) _).mono ?_; rintro e w1 ⟨lm, rfl, rfl⟩)
   | (go_at_call 101; refine (HP.out _).mono ?_; rintro e w1 ⟨rfl, h1, h2⟩))
 go_end0
 exact ⟨rfl, h1, h2⟩
end Go.Proofs.YtifmbcjbccedfaaGreatDoor
