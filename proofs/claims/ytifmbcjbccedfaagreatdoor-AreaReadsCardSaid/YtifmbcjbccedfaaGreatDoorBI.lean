/- A part of the proof. -/
import Derived.Test.YtifmbcjbccedfaaGreatDoorBH
import Derived.Test.YtifmbcjbccedfaaGreatDoorAL

set_option linter.unusedSimpArgs false
set_option linter.unusedVariables false
namespace Dsd
theorem formGo_drop {L : List Ent} {k : Nat} {b : List UInt8} (h : k < L.length) : formGo b (L.drop k) = [UInt8.ofNat (frontL b (entAt L k).1), UInt8.ofNat ((entAt L k).1.length - frontL b (entAt L k).1)] ++ (entAt L k).1.drop (frontL b (entAt L k).1) ++ fourL (entAt L k).2.toNat ++ formGo (entAt L k).1 (L.drop (k + 1)) := by
 have e : entAt L k = L[k] := by simp [entAt, List.getD, h]
 rw [List.drop_eq_getElem_cons h, formGo, e]
theorem ents_small : ∀ {b : List UInt8} {L : List Ent}, entsB b L = true → ∀ k, k < L.length → 1 ≤ (entAt L k).2 ∧ (entAt L k).2 ≤ 16777216 ∧ (entAt L k).1.length ≤ 32
 | _, [], _, k, h => by simp at h
 | b, x :: L, he, k, h => by
   obtain ⟨h1, _, h3, _, h5⟩ := ents_cons he
   cases k with
   | zero =>
     unfold pageB at h1
     simp only [Bool.and_eq_true, decide_eq_true_eq] at h1
     exact ⟨h1.1, h1.2, h3⟩
   | succ k => exact ents_small h5 k (by simpa using h)
end Dsd
namespace Go.Proofs.YtifmbcjbccedfaaGreatDoor
open Go.RowKit Dsd
theorem conv1 (x : Nat) (hx : x < 256) (W : World) (b : Nat) (h : Blk W b (.cells #[.int .u8 (x : Int)] 5)) : (convert 109 9 (.slice (some ⟨b, 0, none⟩) 1 1)).run Tryz.prog W = .ok (.string ⟨[UInt8.ofNat x].toArray⟩) W := by
 refine run_bytes_string W _ _ 5 b 0 1 [UInt8.ofNat x] Tryz.underlying109 Tryz.underlying5 Tryz.underlying9 fun i hi => ?_
 have hi0 : i = 0 := by simpa using hi
 subst hi0
 have := Blk.val h 0 _ rfl
 rw [this]
 simp [byt, Nat.mod_eq_of_lt hx]
theorem conv2 (x y : Nat) (hx : x < 256) (hy : y < 256) (W : World) (b : Nat) (h : Blk W b (.cells #[.int .u8 (x : Int), .int .u8 (y : Int)] 5)) : (convert 109 9 (.slice (some ⟨b, 0, none⟩) 2 2)).run Tryz.prog W = .ok (.string ⟨[UInt8.ofNat x, UInt8.ofNat y].toArray⟩) W := by
 refine run_bytes_string W _ _ 5 b 0 2 [UInt8.ofNat x, UInt8.ofNat y] Tryz.underlying109 Tryz.underlying5 Tryz.underlying9 fun i hi => ?_
 have hi2 : i < 2 := by simpa using hi
 rcases (show i = 0 ∨ i = 1 by omega) with rfl | rfl
 · have := Blk.val h 0 _ rfl
   rw [this]
   simp [byt, Nat.mod_eq_of_lt hx]
 · have := Blk.val h 1 _ rfl
   rw [this]
   simp [byt, Nat.mod_eq_of_lt hy]
set_option maxRecDepth 100000 in
set_option maxHeartbeats 4000000 in
theorem form_any (q : Option Addr) (c : Nat) (n : Nd) (w : World) (h : Nents w q n.ents) (hv : nodeB n = true) :
   Calls Tryz.prog 123 #[ndV n q c] w fun e w' => e = .returned (.string ⟨(formL n).toArray⟩) ∧ Ext w w' := by
 have Hn := Lib.hid h
 have hs := node_iff.1 hv
 obtain ⟨lv, rfl⟩ : ∃ x, x = n.level.toNat := ⟨_, rfl⟩
 have hlv : n.level = (n.level.toNat : Int) := by have := hs.v1; omega
 have hnx : n.next = (n.next.toNat : Int) := by have := hs.x1; omega
 have F1 := Lib.hid (four_nat n.next.toNat (by have := hs.x2; omega))
 have hl6 : n.level.toNat ≤ 6 := by have := hs.v2; omega
 have hl1 := hs.l1
 have hl2 := hs.l2
 have HF : Hid (formL n = [UInt8.ofNat n.level.toNat] ++ fourL n.next.toNat ++ [UInt8.ofNat n.ents.length] ++ formGo [] n.ents) := Lib.hid rfl
 have HE : Hid (∀ k, k < n.ents.length → 1 ≤ (entAt n.ents k).2 ∧ (entAt n.ents k).2 ≤ 16777216 ∧ (entAt n.ents k).1.length ≤ 32) := Lib.hid (ents_small hs.ents)
 unfold ndV
 rw [hlv, hnx]
 clear h hv hs hlv hnx
 generalize n.level.toNat = lv at *
 generalize n.next.toNat = nx at *
 generalize formL n = fm at *
 generalize n.ents = L at *
 have lf : (fourL nx).length ≤ 4 := Nat.le_refl _
 generalize fourL nx = fx at *
 have W1 : IntKind.u8.wrap (lv : Int) = lv := IntWalk.u8_in _ (by omega)
 have W2 : IntKind.u8.wrap (L.length : Int) = L.length := IntWalk.u8_in _ (by omega)
 have C1 := Lib.hid (conv1 lv (by omega))
 have C2 := Lib.hid (conv1 L.length (by omega))
 generalize hz1 : [UInt8.ofNat lv] = z1 at *
 generalize hz2 : [UInt8.ofNat L.length] = z2 at *
 have l1 : z1.length ≤ 1 := by rw [← hz1]; simp
 have l2 : z2.length ≤ 1 := by rw [← hz2]; simp
 clear hz1 hz2
 go_enter Tryz.func123, Tryz.ntmps123
 go_upto_region 1 with (fail)
 refine wp_name (fun w0 => Ext w w0 ∧ Blk w0 w.heap.size (.cells #[.int .i64 lv, .int .i64 nx, .slice q L.length c] 26)) ⟨Ext.alloc _ _, Blk.new w _⟩ ?_
 rintro w0 ⟨he0, hb0⟩
 have c0 := Blk.val hb0 0 _ rfl
 have c1 := Blk.val hb0 1 _ rfl
 have c2 := Blk.val hb0 2 _ rfl
 have hlt0 := Blk.lt hb0
 have Hn0 := Lib.hid (Hn.out.ext he0)
 clear hb0
 refine wp_region_mk 200 (Ext.refl w0) (by kernel_rfl) (by kernel_rfl) (by kernel_rfl) ?_
 simp only [List.take_succ_cons, List.take_zero, List.take_nil, List.drop_succ_cons, List.drop_zero, List.drop_nil, List.map_cons, List.map_nil]
 repeat (first
   | (refine wpML_move _ _ rfl (by first | exact .inl rfl | exact .inr rfl) rfl (by first | exact Is.stable _ | exact AllF.stable _ _ | exact RowsF.stable _ _ _ _ _ | exact AppF.stable _ | exact WrF.stable _ | exact PtrF.stable _ _ | exact IfcF.stable (Fresh.stable _ _ _) _ | exact PairF.stable (RowF.stable _ _ _ _) _ | exact RowF.stable _ _ _ _ | exact Fresh.stable _ _ _) ?_
      simp only [setL, List.set_cons_succ, List.set_cons_zero, List.getD_cons_succ, List.getD_cons_zero])
   | (refine wpML_moveC _ rfl (by first | exact .inl rfl | exact .inr rfl) ?_
      simp only [setL, List.set_cons_succ, List.set_cons_zero])
   | (apply wpML_det rfl
      · intro a w' he hr K hK
        simp [Reads, Oper.looksAt, Op.operands, Call.operands, factAt, Is] at hr
        have hx := he.cell
        go_simp
        try go_bits
        try (rw [if_neg (by omega)]; go_simp)
        first
          | exact hK _ (Ext.refl _)
      simp only [setL, List.set_cons_succ, List.set_cons_zero])
   | (refine wpML_fact (o := ⟨some 11, _, _, _, _, _⟩) (Fresh 1 1 (.cells #[.int .u8 (lv : Int)] 5)) (Fresh.stable _ _ _) rfl ?_ ?_
      · intro a w' he hr K hK
        simp [Reads, Oper.looksAt, Op.operands, Call.operands, factAt, Is] at hr
        go_simp
        exact hK _ _ (Ext.alloc _ _) (Fresh.new _ _ _ _)
      simp only [setL, List.set_cons_succ, List.set_cons_zero])
   | (refine wpML_det (o := ⟨some 12, _, _, _, _, _⟩) (v := .string ⟨z1.toArray⟩) rfl ?_ ?_
      · intro a w' he hr K hK
        obtain ⟨b, h1, h2⟩ := hr 11 (by simp [Oper.looksAt, Op.operands, Call.operands])
        simp at h1
        have hcvb := C1.out w' b h2
        go_simp
        exact hK _ (Ext.refl _)
      simp only [setL, List.set_cons_succ, List.set_cons_zero])
   | (refine wpML_det (o := ⟨some 15, _, _, _, _, _⟩) (v := .string ⟨fx.toArray⟩) rfl ?_ ?_
      · intro a w' he hr K hK
        simp [Reads, Oper.looksAt, Op.operands, Call.operands, factAt, Is] at hr
        go_simp
        refine (F1.out _).mono ?_
        rintro e w'' ⟨rfl, he''⟩
        exact hK _ he''
      simp only [setL, List.set_cons_succ, List.set_cons_zero])
   | (refine wpML_fact (o := ⟨some 21, _, _, _, _, _⟩) (Fresh 1 1 (.cells #[.int .u8 (L.length : Int)] 5)) (Fresh.stable _ _ _) rfl ?_ ?_
      · intro a w' he hr K hK
        simp [Reads, Oper.looksAt, Op.operands, Call.operands, factAt, Is] at hr
        go_simp
        exact hK _ _ (Ext.alloc _ _) (Fresh.new _ _ _ _)
      simp only [setL, List.set_cons_succ, List.set_cons_zero])
   | (refine wpML_det (o := ⟨some 22, _, _, _, _, _⟩) (v := .string ⟨z2.toArray⟩) rfl ?_ ?_
      · intro a w' he hr K hK
        obtain ⟨b, h1, h2⟩ := hr 21 (by simp [Oper.looksAt, Op.operands, Call.operands])
        simp at h1
        have hcvb := C2.out w' b h2
        go_simp
        exact hK _ (Ext.refl _)
      simp only [setL, List.set_cons_succ, List.set_cons_zero])
   | (apply wpML_det rfl
      · intro a w' he hr K hK
        simp [Reads, Oper.looksAt, Op.operands, Call.operands, factAt, Fresh] at hr
        obtain ⟨b, hr1, hr2⟩ := hr
        go_simp
        exact hK _ (Ext.refl _)
      simp only [setL, List.set_cons_succ, List.set_cons_zero]))
 intro w2 he2
 repeat (first | with_reducible refine rest_is _ _ _ _ ?_ | (with_reducible refine rest_fact _ _ _ _ ?_; intro _ _) | with_reducible refine rest_end _ _ ?_)
 simp only [List.reverse_cons, List.reverse_nil, List.nil_append, List.cons_append]
 clear C1 C2 F1 W1 W2
 have HX := Lib.hid he2
 have Hn2 := Lib.hid (Hn0.out.ext he2)
 have e0 := Ext.cell he2 w.heap.size 0 hlt0
 have e1 := Ext.cell he2 w.heap.size 1 hlt0
 have e2 := Ext.cell he2 w.heap.size 2 hlt0
 rw [c0] at e0
 rw [c1] at e1
 rw [c2] at e2
 have hlt2 := Nat.lt_of_lt_of_le hlt0 he2.size
 clear c0 c1 c2 hlt0 he2
 go_upto_region 4 with (fail)
 go_loopw [3, 4, 5] (fun so sb i wr => ∃ (k : Nat) (b o : List UInt8), k ≤ L.length ∧ i = .int .i64 k ∧ sb = .string ⟨b.toArray⟩ ∧ so = .string ⟨o.toArray⟩ ∧ fm = o ++ formGo b (L.drop k) ∧ b.length ≤ 32 ∧ o.length ≤ 6 + 100 * k ∧ Ext w2 wr) (fun _ _ i _ => L.length - (intOf i).toNat)
 case atStart => exact ⟨0, [], z1 ++ (fx ++ z2), Nat.zero_le _, rfl, rfl, rfl, by rw [HF.out]; simp only [List.append_assoc, List.drop_zero], by simp, by simp; omega, Ext.refl _⟩
 case round =>
   obtain ⟨k, b, o, hk, rfl, rfl, rfl, hfm, hb, ho, hex⟩ := hrel
   have Hfm := Lib.hid hfm
   have d0 := Ext.cell hex w.heap.size 0 hlt2
   have d1 := Ext.cell hex w.heap.size 1 hlt2
   have d2 := Ext.cell hex w.heap.size 2 hlt2
   rw [e0] at d0
   rw [e1] at d1
   rw [e2] at d2
   have hltr : w.heap.size < wr.heap.size := Nat.lt_of_lt_of_le hlt2 hex.size
   clear hfm
   by_cases hlt : k < L.length
   · have hltI : (k : Int) < L.length := by omega
     obtain ⟨g, off, rfl, hgb, hcc⟩ := (Hn2.out.ext hex).at k hlt
     obtain ⟨hck0, hck1⟩ := hcc k hlt
     have HD := Lib.hid (formGo_drop (b := b) hlt)
     obtain ⟨p1, p2, p3⟩ := HE.out k hlt
     generalize entAt L k = x at *
     obtain ⟨bel, pg⟩ := x
     simp only at hck0 hck1 HD p1 p2 p3
     have Hex := Lib.hid hex
     clear hcc hex
     have HFr := Lib.hid (FrontR_any b bel (by unfold maxLen; omega))
     obtain ⟨f1, f2⟩ := frontL_le b bel
     generalize frontL b bel = f at *
     go_upto_region 8 with (go_at_call 157; refine (HFr.out _).mono ?_; rintro e w3 ⟨rfl, he3⟩)
     have V1 : IntKind.u8.wrap (f : Int) = f := IntWalk.u8_in _ (by omega)
     have V2 : IntKind.i64.wrap ((bel.length : Int) - f) = ((bel.length - f : Nat) : Int) := by rw [IntWalk.i64_in _ (by omega)]; omega
     have V3 : IntKind.u8.wrap (((bel.length - f : Nat) : Int)) = ((bel.length - f : Nat) : Int) := IntWalk.u8_in _ (by omega)
     have C1 := Lib.hid (conv2 f (bel.length - f) (by omega) (by omega))
     obtain ⟨pn, rfl⟩ := Int.eq_ofNat_of_zero_le (show 0 ≤ pg by omega)
     have F1 := Lib.hid (four_nat pn (by omega))
     have lf : (fourL pn).length ≤ 4 := Nat.le_refl _
     have HX3 := Lib.hid (Hex.out.trans ((Ext.alloc wr (.cells #[.string ⟨bel.toArray⟩, .int .i64 (pn : Int)] 63)).trans he3))
     have hvb := he3.blk _ _ (Blk.new wr (.cells #[.string ⟨bel.toArray⟩, .int .i64 (pn : Int)] 63))
     have v0 := Blk.val hvb 0 _ rfl
     have v1 := Blk.val hvb 1 _ rfl
     have lv3 := Blk.lt hvb
     have hlw3 : w.heap.size < w3.heap.size := Nat.lt_trans hltr lv3
     rw [Int.toNat_natCast] at HD
     generalize hz3 : [UInt8.ofNat f, UInt8.ofNat (bel.length - f)] = z3 at *
     have l3 : z3.length ≤ 2 := by rw [← hz3]; simp
     generalize fourL pn = f4 at *
     clear hz3 hck0 hck1 d0 d1 d2 he3 hvb hltr hgb
     generalize wr.heap.size = vb at *
     refine wp_region_mk 200 (Ext.refl w3) (by kernel_rfl) (by kernel_rfl) (by kernel_rfl) ?_
     simp only [List.take_succ_cons, List.take_zero, List.take_nil, List.drop_succ_cons, List.drop_zero, List.drop_nil, List.map_cons, List.map_nil]
     repeat (first
       | (refine wpML_move _ _ rfl (by first | exact .inl rfl | exact .inr rfl) rfl (by first | exact Is.stable _ | exact AllF.stable _ _ | exact RowsF.stable _ _ _ _ _ | exact AppF.stable _ | exact WrF.stable _ | exact PtrF.stable _ _ | exact IfcF.stable (Fresh.stable _ _ _) _ | exact PairF.stable (RowF.stable _ _ _ _) _ | exact RowF.stable _ _ _ _ | exact Fresh.stable _ _ _) ?_
          simp only [setL, List.set_cons_succ, List.set_cons_zero, List.getD_cons_succ, List.getD_cons_zero])
       | (refine wpML_moveC _ rfl (by first | exact .inl rfl | exact .inr rfl) ?_
          simp only [setL, List.set_cons_succ, List.set_cons_zero])
       | (apply wpML_det rfl
          · intro a w' he hr K hK
            simp [Reads, Oper.looksAt, Op.operands, Call.operands, factAt, Is] at hr
            have hx := he.cell
            go_simp
            try go_bits
            try (rw [if_neg (by omega)]; go_simp)
            first
              | exact hK _ (Ext.refl _)
          simp only [setL, List.set_cons_succ, List.set_cons_zero])
       | (refine wpML_fact (o := ⟨some 49, _, _, _, _, _⟩) (Fresh 2 2 (.cells #[.int .u8 (f : Int), .int .u8 ((bel.length - f : Nat) : Int)] 5)) (Fresh.stable _ _ _) rfl ?_ ?_
          · intro a w' he hr K hK
            simp [Reads, Oper.looksAt, Op.operands, Call.operands, factAt, Is] at hr
            go_simp
            exact hK _ _ (Ext.alloc _ _) (Fresh.new _ _ _ _)
          simp only [setL, List.set_cons_succ, List.set_cons_zero])
       | (refine wpML_det (o := ⟨some 50, _, _, _, _, _⟩) (v := .string ⟨z3.toArray⟩) rfl ?_ ?_
          · intro a w' he hr K hK
            obtain ⟨b, h1, h2⟩ := hr 49 (by simp [Oper.looksAt, Op.operands, Call.operands])
            simp at h1
            have hcvb := C1.out w' b h2
            go_simp
            exact hK _ (Ext.refl _)
          simp only [setL, List.set_cons_succ, List.set_cons_zero])
       | (refine wpML_det (o := ⟨some 59, _, _, _, _, _⟩) (v := .string ⟨f4.toArray⟩) rfl ?_ ?_
          · intro a w' he hr K hK
            simp [Reads, Oper.looksAt, Op.operands, Call.operands, factAt, Is] at hr
            go_simp
            refine (F1.out _).mono ?_
            rintro e w'' ⟨rfl, he''⟩
            exact hK _ he''
          simp only [setL, List.set_cons_succ, List.set_cons_zero])
       | (apply wpML_det rfl
          · intro a w' he hr K hK
            simp [Reads, Oper.looksAt, Op.operands, Call.operands, factAt, Fresh] at hr
            obtain ⟨b, hr1, hr2⟩ := hr
            go_simp
            exact hK _ (Ext.refl _)
          simp only [setL, List.set_cons_succ, List.set_cons_zero]))
     intro w2 he2
     repeat (first | with_reducible refine rest_is _ _ _ _ ?_ | (with_reducible refine rest_fact _ _ _ _ ?_; intro _ _) | with_reducible refine rest_end _ _ ?_)
     simp only [List.reverse_cons, List.reverse_nil, List.nil_append, List.cons_append]
     have u0 := Ext.cell he2 vb 0 lv3
     rw [v0] at u0
     have lu := Nat.lt_of_lt_of_le lv3 he2.size
     have HW := Lib.hid (HX3.out.trans he2)
     have hnew : Hid (fm = (o ++ (z3 ++ (List.take (bel.length - f) (List.drop f bel) ++ f4))) ++ formGo bel (L.drop (k + 1)) ∧ (o ++ (z3 ++ (List.take (bel.length - f) (List.drop f bel) ++ f4))).length ≤ 6 + 100 * (k + 1)) := Lib.hid ⟨by
       rw [Hfm.out, HD.out, List.take_of_length_le (by rw [List.length_drop]; exact Nat.le_refl _)]
       simp only [List.append_assoc], by
       simp only [List.length_append, List.length_take, List.length_drop]; omega⟩
     clear he2 v0 v1 lv3 C1 F1
     go_wp2
     go_roundw
     case rel => exact ⟨k + 1, bel, _, by omega, by go_num, rfl, rfl, hnew.out.1, p3, hnew.out.2, HW.out⟩
     case measure => simp [intOf]; omega
   · have hltI : decide ((k : Int) < L.length) = false := decide_eq_false (by omega)
     have hfin : Hid (fm = o) := Lib.hid (by rw [Hfm.out, List.drop_eq_nil_of_le (by omega)]; simp [formGo])
     have HW := Lib.hid (HX.out.trans hex)
     clear hex
     go_wp2
     go_ret
     exact ⟨by rw [hfin.out]; rfl, he0.trans HW.out⟩
theorem SizeR_any (q : Option Addr) (c : Nat) (n : Nd) (w : World) (h : Nents w q n.ents) (hl : n.ents.length ≤ 1000000) :
   Calls Tryz.prog 124 #[ndV n q c] w fun e w' => e = .returned (.int .i64 (sizeNd n : Nat)) ∧ Ext w w' := by
 have HP := Lib.hid (fun W (e : Ext w W) => IsNodeR_any q c n W (h.ext e) hl)
 have hb := Blk.new w (.cells #[.int .i64 n.level, .int .i64 n.next, .slice q n.ents.length c] 26)
 cases hv : nodeB n
 · have HS : Hid (sizeNd n = 0) := Lib.hid (by unfold sizeNd; rw [hv]; rfl)
   rw [hv] at HP
   clear hv
   unfold ndV at HP ⊢
   go_enter Tryz.func124, Tryz.ntmps124
   go_wp2_with (first
     | ((with_reducible (show wpList _ _ _ (⟨some 3, _, _, _, _, _⟩ :: _) _ _)); refine wpList_row (o := ⟨some 3, _, _, _, _, _⟩) rfl 26 (.tmp 1) rfl _ rfl _ _ _ hb ndDesc rfl ndSize ?_)
     | (go_at_call 22; refine (HP.out _ (Ext.alloc _ _)).mono ?_; rintro e w1 ⟨rfl, he1⟩))
   go_ret
   exact ⟨by rw [HS.out]; rfl, (Ext.alloc _ _).trans he1⟩
 · have HF := Lib.hid (fun W (e : Ext w W) => form_any q c n W (h.ext e) hv)
   have HS : Hid (sizeNd n = (formL n).length) := Lib.hid (by rw [formL_len]; unfold sizeNd; rw [if_pos hv])
   rw [hv] at HP
   clear hv
   generalize formL n = fm at *
   unfold ndV at HP HF ⊢
   go_enter Tryz.func124, Tryz.ntmps124
   go_wp2_with (first
     | ((with_reducible (show wpList _ _ _ (⟨some 3, _, _, _, _, _⟩ :: _) _ _)); refine wpList_row (o := ⟨some 3, _, _, _, _, _⟩) rfl 26 (.tmp 1) rfl _ rfl _ _ _ hb ndDesc rfl ndSize ?_)
     | (go_at_call 22; refine (HP.out _ (Ext.alloc _ _)).mono ?_; rintro e w1 ⟨rfl, he1⟩; have hb1 := he1.blk _ _ hb)
     | ((with_reducible (show wpList _ _ _ (⟨some 6, _, _, _, _, _⟩ :: _) _ _)); refine wpList_row (o := ⟨some 6, _, _, _, _, _⟩) rfl 26 (.tmp 1) rfl _ rfl _ _ _ hb1 ndDesc rfl ndSize ?_)
     | (go_at_call 123; refine (HF.out _ ((Ext.alloc _ _).trans he1)).mono ?_; rintro e w2 ⟨rfl, he2⟩))
   go_ret
   exact ⟨by rw [HS.out]; rfl, ((Ext.alloc _ _).trans he1).trans he2⟩
theorem ValidNR_any (z : Int) (q : Option Addr) (c : Nat) (n : Nd) (w : World) (h : Nents w q n.ents) (hl : n.ents.length ≤ 1000000) :
   Calls Tryz.prog 78 #[.int .i64 z, ndV n q c] w fun e w' => e = .returned (.bool (nodeFits z n)) ∧ Ext w w' := by
 have HZ := Lib.hid (fun W => IsSize_any z W)
 have HP := Lib.hid (fun W (e : Ext w W) => IsNodeR_any q c n W (h.ext e) hl)
 have HS := Lib.hid (fun W (e : Ext w W) => SizeR_any q c n W (h.ext e) hl)
 have HR : Hid (nodeFits z n = (isSizeB z && nodeB n && decide ((sizeNd n : Int) ≤ z))) := Lib.hid rfl
 have hb := Blk.new w (.cells #[.int .i64 n.level, .int .i64 n.next, .slice q n.ents.length c] 26)
 cases hz : isSizeB z
 · rw [hz] at HZ HR
   clear hz
   unfold ndV
   go_enter Tryz.func78, Tryz.ntmps78
   go_wp2_with (go_at_call 75; refine (HZ.out _).mono ?_; rintro e w1 ⟨rfl, rfl⟩)
   go_ret
   exact ⟨by rw [HR.out]; rfl, Ext.alloc _ _⟩
 · rw [hz] at HZ HR
   clear hz
   cases hv : nodeB n
   · rw [hv] at HP HR
     clear hv
     unfold ndV at HP ⊢
     go_enter Tryz.func78, Tryz.ntmps78
     go_wp2_with (first
       | (go_at_call 75; refine (HZ.out _).mono ?_; rintro e w1 ⟨rfl, rfl⟩)
       | ((with_reducible (show wpList _ _ _ (⟨some 8, _, _, _, _, _⟩ :: _) _ _)); refine wpList_row (o := ⟨some 8, _, _, _, _, _⟩) rfl 26 (.tmp 3) rfl _ rfl _ _ _ hb ndDesc rfl ndSize ?_)
       | (go_at_call 22; refine (HP.out _ (Ext.alloc _ _)).mono ?_; rintro e w2 ⟨rfl, he2⟩))
     go_ret
     exact ⟨by rw [HR.out]; rfl, (Ext.alloc _ _).trans he2⟩
   · rw [hv] at HP HR
     clear hv
     generalize sizeNd n = sz at *
     unfold ndV at HP HS ⊢
     cases hle : decide ((sz : Int) ≤ z)
     all_goals
       rw [hle] at HR
       go_enter Tryz.func78, Tryz.ntmps78
       go_wp2_with (first
         | (go_at_call 75; refine (HZ.out _).mono ?_; rintro e w1 ⟨rfl, rfl⟩)
         | ((with_reducible (show wpList _ _ _ (⟨some 8, _, _, _, _, _⟩ :: _) _ _)); refine wpList_row (o := ⟨some 8, _, _, _, _, _⟩) rfl 26 (.tmp 3) rfl _ rfl _ _ _ hb ndDesc rfl ndSize ?_)
         | (go_at_call 22; refine (HP.out _ (Ext.alloc _ _)).mono ?_; rintro e w2 ⟨rfl, he2⟩; have hb2 := he2.blk _ _ hb)
         | ((with_reducible (show wpList _ _ _ (⟨some 12, _, _, _, _, _⟩ :: _) _ _)); refine wpList_row (o := ⟨some 12, _, _, _, _, _⟩) rfl 26 (.tmp 3) rfl _ rfl _ _ _ hb2 ndDesc rfl ndSize ?_)
         | (go_at_call 124; refine (HS.out _ ((Ext.alloc _ _).trans he2)).mono ?_; rintro e w3 ⟨rfl, he3⟩))
       go_ret
       exact ⟨by rw [HR.out]; rfl, ((Ext.alloc _ _).trans he2).trans he3⟩
end Go.Proofs.YtifmbcjbccedfaaGreatDoor
