/- A part of the proof. -/
import Derived.Test.YtifmbcjbccedfaaGreatDoorXH
import Derived.Test.YtifmbcjbccedfaaGreatDoorApp0

set_option linter.unusedSimpArgs false
set_option linter.unusedVariables false
namespace Go.Proofs.YtifmbcjbccedfaaGreatDoor
open Go.RowKit Dsd
theorem rep_snoc (O : List (List UInt8)) (j : Nat) : ((O ++ List.replicate j []).map fun s : List UInt8 => Value.string ⟨s.toArray⟩) ++ [.string ⟨#[]⟩] = (O ++ List.replicate (j + 1) []).map fun s : List UInt8 => Value.string ⟨s.toArray⟩ := by
 rw [List.replicate_succ']
 simp
theorem grow_end {O : List (List UInt8)} {j : Nat} {pg : Int} (h : j = 0 ∨ ((O.length : Int) + j ≤ pg + 1 ∧ pg < 10000)) (h2 : ¬ ((O.length : Int) + j ≤ pg ∧ pg < 10000)) : O ++ List.replicate j [] = growP O pg := by
 unfold growP
 by_cases h3 : pg < 10000
 · rw [if_pos h3]
   have : (pg + 1 - (O.length : Int)).toNat = j := by omega
   rw [this]
 · rw [if_neg h3]
   have : j = 0 := by omega
   subst this; simp
def sliceLen : Value → Nat
 | .slice _ n _ => n
 | _ => 0
set_option maxRecDepth 100000 in
set_option maxHeartbeats 2000000 in
theorem PutO_any (ad : Option Addr) (q : Option Addr) (n cap k c : Nat) (m : List (List UInt8)) (L : List (Int × List UInt8)) (w : World) (hs : Strs w ad m) (hn : m.length = n) (hw : Wrts w q L) (hk : L.length = k) (hm : n ≤ 100000) (hL : k ≤ 100) :
   Calls Tryz.prog 21 #[.slice ad n cap, .slice q k c] w fun e w' => Ext w w' ∧ ∃ v, e = .returned v ∧ w'.ownsRow w.heap.size 9 1 v (putsP m L).length ((putsP m L).map fun s => .string ⟨s.toArray⟩) := by
 subst hk
 have Hs := Lib.hid hs
 have Hn := Lib.hid hn
 have Hw := Lib.hid hw
 clear hs hw hn
 go_enter Tryz.func21, Tryz.ntmps21
 go_wp2_with (first | (at_builtin; go_must (refine wpList_plain rfl (fun K hK => wp_append0 (.tmp 7) (.tmp 8) 37 9 rfl w.heap.size (.string ByteArray.empty) 1 16 Tryz.underlying37 infoStr rfl w.heap.size rfl (Blk.new w _) (Nat.le_refl _) ad n cap (m.map fun s : List UInt8 => Value.string ⟨s.toArray⟩) rfl (by simpa using Hn.out) (fun h0 => strs_src (Strs.ext Hs.out (Ext.alloc _ _)) (by rw [Hn.out]; exact h0)) (by omega) (by decide) (by simp) (fun v' w1 hown1 hE0 => hK _ _ ?_)))))
 have hE1 : Ext w w1 := (Ext.alloc _ _).trans hE0
 have Hown1 := Lib.hid hown1
 have HE1 := Lib.hid hE1
 clear hown1 hE0 hE1
 go_loopw [5, 6] (fun v i wr => ∃ j : Nat, j ≤ L.length ∧ i = .int .i64 j ∧ Ext w wr ∧ wr.ownsRow w.heap.size 9 1 v (putsP m (L.take j)).length ((putsP m (L.take j)).map fun s => .string ⟨s.toArray⟩)) (fun _ i _ => L.length - (intOf i).toNat)
 case atStart => exact ⟨0, Nat.zero_le _, rfl, HE1.out, by have := Hown1.out; rw [← Hn.out] at this; simpa [putsP] using this⟩
 case round =>
   obtain ⟨j, hj, rfl, hext, hown⟩ := hrel
   have hlen := (putsP_len m (L.take j)).2
   have hlen : (putsP m (L.take j)).length ≤ 1200000 := by have h1 : (L.take j).length ≤ 100 := by simp; omega
                                                           have h2 := Nat.mul_le_mul_right 10000 h1
                                                           have := Hn.out; omega
   by_cases hlt : j < L.length
   · have HT := Lib.hid (putsP_take m L j hlt)
     obtain ⟨b, off, rfl, hb, hc⟩ := Hw.out.at j hlt
     obtain ⟨hc1, hc2⟩ := hc j hlt
     have hltI : (j : Int) < L.length := by omega
     generalize putsP m (L.take j) = O at *
     generalize L.getD j (0, []) = x at *
     obtain ⟨pg, s⟩ := x
     simp only at hc1 hc2
     have Hc1 := Lib.hid hc1
     have Hc2 := Lib.hid hc2
     have Hb := Lib.hid hb
     have Hown := Lib.hid hown
     have Hext := Lib.hid hext
     clear hc hc1 hc2 hown hext hb
     obtain ⟨qv, cv, rfl, _, _, _, _⟩ := own_strs_p Hown.out
     go_wp2_with fail
     obtain ⟨wo, rfl⟩ : ∃ wo : World, wo = wr := ⟨_, rfl⟩
     go_loopw [5] (fun v wr => ∃ i : Nat, Ext w wr ∧ wr.ownsRow w.heap.size 9 1 v (O.length + i) ((O ++ List.replicate i []).map fun s : List UInt8 => .string ⟨s.toArray⟩) ∧ (i = 0 ∨ ((O.length : Int) + i ≤ pg + 1 ∧ pg < 10000))) (fun v _ => (pg + 1).toNat - sliceLen v)
     case atStart => exact ⟨0, Hext.out, by simpa using Hown.out, .inl rfl⟩
     case round =>
       obtain ⟨i, hext, hown, hij⟩ := hrel
       have hij2 : O.length + i ≤ 1300000 := by omega
       obtain ⟨q2, c2, rfl, hsq, _, _, _⟩ := own_strs_p hown
       have hc1 := (hext.cell b _ Hb.out).trans Hc1.out
       have hc2 := (hext.cell b _ Hb.out).trans Hc2.out
       have hbw := Nat.lt_of_lt_of_le Hb.out hext.size
       have Hown2 := Lib.hid hown
       have Hext2 := Lib.hid hext
       have Hij := Lib.hid hij
       have hws := hext.size
       clear hsq hown hext hij
       by_cases hgo : (O.length : Int) + i ≤ pg ∧ pg < 10000
       · obtain ⟨hg1, hg2⟩ := hgo
         have hg1I : decide (((O.length + i : Nat) : Int) ≤ pg) = true := decide_eq_true (by omega)
         have hg2I : decide (pg < 10000) = true := decide_eq_true hg2
         go_wp2_with (first | (at_builtin; go_must (refine wpList_app rfl (.tmp 32) (.tmp 33) 37 9 rfl w.heap.size (.string ByteArray.empty) 1 16 Tryz.underlying37 infoStr rfl (by decide) _ _ _ rfl (Hown2.out.alloc _) _ [.string ⟨#[]⟩] rfl (Blk.new _ _) rfl (by intro u hu; simp at hu; subst hu; rfl) (by omega) (by decide) (by simp; omega) ?_; intro v2 w2 hown2 hgr2; have hb2 := Below.of_grown (B := w.heap.size) hgr2 (Hown2.out.alloc _) (Nat.le_refl _) (by simp; omega); clear hgr2)))
         rw [rep_snoc] at hown2
         obtain ⟨q3, c3, rfl, _, _, _, _⟩ := own_strs_p hown2
         go_roundw
         case rel => exact ⟨i + 1, Ext.trans' (Hext2.out.trans (Ext.alloc _ _)) hb2, hown2, .inr ⟨by omega, hg2⟩⟩
         case measure => simp [sliceLen]; omega
       · have hG := grow_end Hij.out hgo
         have hGl : (growP O pg).length = O.length + i := by rw [← hG]; simp
         have hown3 := Hown2.out
         rw [hG] at hown3
         have HP := Lib.hid (show putP O (pg, s) = if 0 ≤ pg ∧ pg < (growP O pg).length then (growP O pg).set pg.toNat s else growP O pg from rfl)
         generalize growP O pg = G at *
         have HGl := Lib.hid hGl
         have Hown3 := Lib.hid hown3
         clear hG hGl hown3
         by_cases h23 : ((O.length + i : Nat) : Int) ≤ pg
         · have h23I : decide (((O.length + i : Nat) : Int) ≤ pg) = true := decide_eq_true h23
           have h10 : decide (pg < 10000) = false := decide_eq_false (by omega)
           have h0I : decide (0 ≤ pg) = true := decide_eq_true (by omega)
           have hlI : decide (pg < ((O.length + i : Nat) : Int)) = false := decide_eq_false (by omega)
           have HP2 : Hid (putP O (pg, s) = G) := Lib.hid (by rw [HP.out, if_neg (by rw [HGl.out]; omega)])
           clear hgo
           go_wp2_with fail
           go_roundw
           case rel => exact ⟨j + 1, by omega, by go_num, Hext2.out, by rw [HT.out, HP2.out, HGl.out]; exact Hown3.out⟩
           case measure => simp [intOf]; omega
         · have h23I : decide (((O.length + i : Nat) : Int) ≤ pg) = false := decide_eq_false h23
           have hlI : decide (pg < ((O.length + i : Nat) : Int)) = true := decide_eq_true (by omega)
           by_cases h0 : 0 ≤ pg
           · have h0I : decide (0 ≤ pg) = true := decide_eq_true h0
             have HP2 : Hid (putP O (pg, s) = G.set pg.toNat s) := Lib.hid (by rw [HP.out, if_pos ⟨h0, by rw [HGl.out]; omega⟩])
             obtain ⟨P, rfl⟩ := Int.eq_ofNat_of_zero_le h0
             rw [Int.toNat_natCast] at HP2
             have hPl : P < O.length + i := by omega
             obtain ⟨g, rfl, hg1, hg2, hg3, hg4, hset⟩ := own_set Hown3.out P hPl
             have hPI : (P : Int) < ((O.length + i : Nat) : Int) := by omega
             clear hgo hset hg4 hg3 h23
             go_upto_region 8 with (fail)
             refine wp_region_mk 12 (Ext.refl wr) (by kernel_rfl) (by kernel_rfl) (by kernel_rfl) ?_
             simp only [List.take_succ_cons, List.take_zero, List.take_nil, List.drop_succ_cons, List.drop_zero, List.drop_nil, List.map_cons, List.map_nil]
             repeat (first
               | (refine wpML_move _ _ rfl (by first | exact .inl rfl | exact .inr rfl) rfl (by first | exact Is.stable _ | exact Fresh.stable _ _ _) ?_
                  simp only [setL, List.set_cons_succ, List.set_cons_zero, List.getD_cons_succ, List.getD_cons_zero])
               | (refine wpML_moveC _ rfl (by first | exact .inl rfl | exact .inr rfl) ?_
                  simp only [setL, List.set_cons_succ, List.set_cons_zero])
               | (apply wpML_det rfl
                  · intro a w' he hr K hK
                    simp [Reads, Oper.looksAt, Op.operands, Call.operands, factAt, Is] at hr
                    have hx := he.cell
                    go_simp
                    try go_bits
                    try (rw [if_neg (by omega)]; go_simp)
                    first
                      | exact hK _ (Ext.refl _)
                  simp only [setL, List.set_cons_succ, List.set_cons_zero])
               | (apply wpML_det rfl
                  · intro a w' he hr K hK
                    simp [Reads, Oper.looksAt, Op.operands, Call.operands, factAt, Fresh] at hr
                    obtain ⟨b, hr1, hr2⟩ := hr
                    go_simp
                    exact hK _ (Ext.refl _)
                  simp only [setL, List.set_cons_succ, List.set_cons_zero]))
             intro w2 he2
             repeat (first | with_reducible refine rest_is _ _ _ _ ?_ | (with_reducible refine rest_fact _ _ _ _ ?_; intro _ _) | with_reducible refine rest_end _ _ ?_)
             simp only [List.reverse_cons, List.reverse_nil, List.nil_append, List.cons_append]
             have hgb := Nat.lt_of_lt_of_le hg2 he2.size
             obtain ⟨g', hgg, hg1', hg2', hg3', hg4', hset⟩ := own_set (own_ext Hown3.out he2) P hPl
             simp at hgg
             obtain rfl := hgg
             have hset := hset (.string ⟨s.toArray⟩)
             rw [set_strs] at hset
             have Hset := Lib.hid hset
             have HE2 := Lib.hid (Hext2.out.trans he2)
             clear hset
             go_wp2_with fail
             go_roundw
             case rel => exact ⟨j + 1, by omega, by go_num, Ext.trans' HE2.out Hset.out.2, by rw [HT.out, HP2.out, List.length_set, HGl.out]; exact Hset.out.1⟩
             case measure => simp [intOf]; omega
           · have h0I : decide (0 ≤ pg) = false := decide_eq_false h0
             have HP2 : Hid (putP O (pg, s) = G) := Lib.hid (by rw [HP.out, if_neg (by omega)])
             clear hgo
             go_wp2_with fail
             go_roundw
             case rel => exact ⟨j + 1, by omega, by go_num, Hext2.out, by rw [HT.out, HP2.out, HGl.out]; exact Hown3.out⟩
             case measure => simp [intOf]; omega
   · have hltI : decide ((j : Int) < L.length) = false := by simp; omega
     obtain rfl : j = L.length := by omega
     rw [List.take_length] at hown hlen
     obtain ⟨qv, cv, rfl, _, _, _, _⟩ := own_strs_p hown
     have Hown := Lib.hid hown
     clear hown
     go_wp2_with fail
     go_ret
     exact ⟨hext, _, rfl, Hown.out⟩
end Go.Proofs.YtifmbcjbccedfaaGreatDoor
