/- A part of the proof. -/
import Derived.Test.YtifmbcjbccedfaaGreatDoorDD
import Derived.Test.YtifmbcjbccedfaaGreatDoorFC

set_option linter.unusedSimpArgs false
set_option linter.unusedVariables false
namespace Dsd
theorem numL_take1 {s : List UInt8} {a : Nat} (h : a < s.length) : numL ((s.drop a).take 1) = byt s a := by
 have e : (s.drop a).take 1 = [s[a]] := by rw [List.drop_eq_getElem_cons h]; rfl
 rw [e, numL_one]
 simp [byt, List.getD, h]
theorem step_at {data : List UInt8} {s : PS} {a : Nat} (hr : s.rest = data.drop a) (h2 : a + 2 ≤ data.length) (hf : byt data a ≤ s.before.length) (hm : a + 2 + byt data (a + 1) + 4 ≤ data.length) :
   stepN s = ⟨s.before.take (byt data a) ++ (data.drop (a + 2)).take (byt data (a + 1)), data.drop (a + 6 + byt data (a + 1)), s.ents ++ [(s.before.take (byt data a) ++ (data.drop (a + 2)).take (byt data (a + 1)), (numL ((data.drop (a + 2 + byt data (a + 1))).take 4) : Int))]⟩ := by
 have e1 : frontP s = byt data a := by
   unfold frontP
   rw [hr, numL_take1 (by omega)]
   omega
 have e2 : moreP s = byt data (a + 1) := by
   unfold moreP
   rw [hr, List.drop_drop, numL_take1 (by omega)]
 have e3 : belowP s = s.before.take (byt data a) ++ (data.drop (a + 2)).take (byt data (a + 1)) := by
   unfold belowP
   rw [e1, e2, hr, List.drop_drop]
 have e4 : restP s = data.drop (a + 2 + byt data (a + 1)) := by
   unfold restP
   rw [e2, hr, List.drop_drop, List.drop_drop, Nat.add_assoc]
 unfold stepN
 rw [e3, e4, List.drop_drop, show a + 2 + byt data (a + 1) + 4 = a + 6 + byt data (a + 1) by omega]
theorem dec_none {size : Int} {data : List UInt8} {k a : Nat} (hk : k < countN data) (hr : (parseTo data k).rest = data.drop a) (h : ¬ (a + 2 ≤ data.length ∧ byt data a ≤ (parseTo data k).before.length ∧ a + 2 + byt data (a + 1) + 4 ≤ data.length)) : decOkB size data = false := by
 cases hd : decOkB size data
 · rfl
 · obtain ⟨h1, h2⟩ := dec_room hd hk
   exfalso
   apply h
   have hlen : (parseTo data k).rest.length = data.length - a := by rw [hr, List.length_drop]
   have ha2 : a + 2 ≤ data.length := by omega
   have e2 : moreP (parseTo data k) = byt data (a + 1) := by
     unfold moreP
     rw [hr, List.drop_drop, numL_take1 (by omega)]
   rw [hr, numL_take1 (by omega)] at h1
   exact ⟨ha2, h1, by omega⟩
end Dsd
namespace Go.Proofs.YtifmbcjbccedfaaGreatDoor
open Go.RowKit Dsd
theorem wpList_appE {w : World} {ops : Array Oper} {rest : List Oper} {o : Oper} {a : Act} {Q : Exit → Act → World → Prop} (hgd : Region.wanted o (yielded ops a.tmps) = true) (d s : Operand)
   (ho : o.op = .call { callee := .builtin .append, args := #[d, s], argTypes := #[24, 24] }) (base : Nat) (v : Value) (n : Nat) (xs : List Value) (hv : a.eval d = v) (hown : w.ownsRow base 63 2 v n xs) (p : Option Addr) (m c : Nat) (news : List Value) (hs : a.eval s = .slice p m c) (hl : news.length = m * 2) (hc : Cells w p news)
   (h1 : ∀ u ∈ news, u.oneCell' = true) (hn : n + m ≤ 100000000) (hbase : base ≤ w.heap.size)
   (h : ∀ v' w', w'.ownsRow base 63 2 v' (n + m) (xs ++ news) → w.grownBy w' v.ownBlock → wpList Tryz.prog ops Q rest (a.put o.dst v') w') : wpList Tryz.prog ops Q (o :: rest) a w := by
 by_cases hm : m = 0
 · subst hm
   obtain rfl : news = [] := List.eq_nil_of_length_eq_zero (by omega)
   obtain ⟨q, k, rfl⟩ := own_slice hown
   have hle : n ≤ k := by
     rcases hown.2 with ⟨e, h0⟩ | ⟨g, cap, cur, e, _, _, h2, _⟩
     · cases e; omega
     · simp only [Value.slice.injEq] at e
       obtain ⟨_, _, rfl⟩ := e
       exact h2
   obtain ⟨i0, hi0, hz0, hzs, hzb⟩ := info_parts infoEntA
   have hr : (Builtin.append_ #[24, 24] o.type #[.slice q n k, .slice p 0 c]).run Tryz.prog w = .ok (.slice q n k) w := by
     cases p <;> cases q <;> simp [Builtin.append_, run_underlying Tryz.underlying24, Go.sizeOf, typeInfo, hi0, Builtin.lenOf, Builtin.firstCells, loadCells, loadCellsFrom, Go.storeCells, hle]
   refine BigFrame.wpList_want hgd fun K hK => Lib.wp_append_run w d s _ _ ho _ _ hv hs _ _ hr (hK _ _ (h _ _ (by simpa using hown) ⟨rfl, rfl, rfl, Nat.le_refl _, fun _ _ _ => rfl⟩))
 · obtain ⟨ad, rfl⟩ : ∃ ad, p = some ad := by
     obtain ⟨b, off, h, _⟩ := hc.at 0 (by omega)
     exact ⟨_, h⟩
   exact wpList_appk hgd d s 24 63 ho base (.agg #[.string ByteArray.empty, .int .i64 0]) 2 24 Tryz.underlying24 infoEntA rfl (by decide) v n xs hv hown (some ad) m c news hs rfl hl hc h1 hn (by decide) hbase h
theorem ndBuilt2 (x y : Int) : Tryz.prog.built 26 [(0, .int .i64 x), (1, .int .i64 y)] = some #[.int .i64 x, .int .i64 y, .slice none 0 0] := by kernel_rfl
theorem decN_no {size : Int} {data : List UInt8} {w w' : World} {e : Ending} (hz : isSizeB size = true) (hc : decOkB size data = false) (h1 : Ext w w') (h2 : e = .returned (.tuple #[.agg #[.int .i64 0, .int .i64 0, .slice none 0 0], .int .i64 11])) : DecNOut size data w e w' := by
 have h3 : decE size data = 11 := by unfold decE; rw [hz, hc]; rfl
 have h4 : decNd size data = Nd.zero := by unfold decNd; rw [h3, if_neg (by decide)]
 unfold DecNOut
 rw [h3, h4]
 exact ⟨h1, none, 0, h2, rfl, .inl ⟨rfl, rfl⟩⟩
theorem decN_yes {size : Int} {data : List UInt8} {w w' : World} {e : Ending} {q : Option Addr} {c B : Nat} (hz : isSizeB size = true) (hc1 : encNE size (parseNd data) = 0) (hc2 : encN size (parseNd data) = data) (hB : w.heap.size ≤ B) (h1 : Ext w w') (h2 : e = .returned (.tuple #[.agg #[.int .i64 (parseNd data).level, .int .i64 (parseNd data).next, .slice q (parseNd data).ents.length c], .int .i64 0]))
   (h5 : w'.ownsRow B 63 2 (.slice q (parseNd data).ents.length c) (parseNd data).ents.length (entCells (parseNd data).ents)) : DecNOut size data w e w' := by
 have h0 : decOkB size data = true := by
   unfold decOkB
   rw [decide_eq_true hc1, hc2]; simp
 have h3 : decE size data = 0 := by unfold decE; rw [hz, h0]; rfl
 have h4 : decNd size data = parseNd data := by unfold decNd; rw [if_pos h3]
 unfold DecNOut
 rw [h3, h4]
 exact ⟨h1, q, c, h2, own_le h5 hB⟩
theorem decOk_no {size : Int} {data : List UInt8} (hc : encNE size (parseNd data) ≠ 0 ∨ encN size (parseNd data) ≠ data) : decOkB size data = false := by
 unfold decOkB
 rcases hc with hc | hc
 · rw [decide_eq_false hc]; rfl
 · rw [Bool.and_eq_false_iff]; exact .inr (by simpa using hc)
theorem entCells_one : ∀ (L : List Ent), ∀ u ∈ entCells L, u.oneCell' = true
 | [], u, h => by simp [entCells] at h
 | x :: L, u, h => by
   have e : entCells (x :: L) = .string ⟨x.1.toArray⟩ :: .int .i64 x.2 :: entCells L := by simp [entCells]
   rw [e] at h
   simp only [List.mem_cons] at h
   rcases h with rfl | rfl | h
   · rfl
   · rfl
   · exact entCells_one L u h
theorem entCells_len : ∀ (L : List Ent), (entCells L).length = L.length * 2
 | [] => rfl
 | x :: L => by
   have e : entCells (x :: L) = .string ⟨x.1.toArray⟩ :: .int .i64 x.2 :: entCells L := by simp [entCells]
   rw [e, List.length_cons, List.length_cons, List.length_cons, entCells_len L]
   omega
set_option maxRecDepth 100000 in
set_option maxHeartbeats 4000000 in
theorem DecodeNR_any (size : Int) (data : List UInt8) (hl : data.length ≤ 1000000) (w : World) :
   Calls Tryz.prog 35 #[.int .i64 size, .string ⟨data.toArray⟩] w (DecNOut size data w) := by
 have HZ := Lib.hid (fun W => IsSize_any size W)
 have hzb := Blk.new w (.cells #[.int .i64 0, .int .i64 0, .slice none 0 0] 26)
 have hze := Ext.alloc w (.cells #[.int .i64 0, .int .i64 0, .slice none 0 0] 26)
 cases hz : isSizeB size
 · rw [hz] at HZ
   have HO : Hid (∀ e w', Ext w w' → e = .returned (.tuple #[.agg #[.int .i64 0, .int .i64 0, .slice none 0 0], .int .i64 1]) → DecNOut size data w e w') := Lib.hid (fun e w' h1 h2 => by
     have h3 : decE size data = 1 := by unfold decE; rw [hz, if_pos rfl]
     have h4 : decNd size data = Nd.zero := by unfold decNd; rw [h3, if_neg (by decide)]
     unfold DecNOut
     rw [h3, h4]
     exact ⟨h1, none, 0, h2, rfl, .inl ⟨rfl, rfl⟩⟩)
   generalize DecNOut size data w = OUT at *
   have HZ0 := Lib.hid hzb
   have HX0 := Lib.hid hze
   clear hz hl hzb hze
   go_enter Tryz.func35, Tryz.ntmps35
   go_upto_region 2 with (go_at_call 75; refine (HZ.out _).mono ?_; rintro e w2 ⟨rfl, rfl⟩)
   go_wp2_with (first
     | (refine wpList_bld (o := ⟨some 17, _, _, _, _, _⟩) rfl 26 #[] rfl [] rfl _ ndZ_built ?_)
     | (refine wpList_put rfl 26 (.tmp 4) (.tmp 17) rfl _ #[.int .i64 0, .int .i64 0, .slice none 0 0] rfl rfl _ _ HZ0.out ndSize rfl (by simp [Value.oneCell']) ?_; intro w6 hz6 hc6))
   exact bodyPost_ret (results_row1 Tryz.results35 _ _ _ _ _ _ rfl hz6 ndDesc rfl ndSize) rfl (HO.out _ _ (hc6.ext HX0.out (Nat.le_refl _)) rfl)
 · rw [hz] at HZ
   have HNo := Lib.hid (fun e w' => decN_no (data := data) (w := w) (w' := w') (e := e) hz)
   by_cases hlen : (data.length : Int) = size
   · subst hlen
     have hsp := size_pos hz
     have h128 : 128 ≤ data.length := by omega
     have h512 : data.length ≤ 512 := by omega
     have HN := Lib.hid (fun a (ha : a + 4 ≤ data.length) W => numberR_any data a ha hl W)
     obtain ⟨nx, hnx⟩ : ∃ nx, nx = nextN data := ⟨_, rfl⟩
     have HN1 : Hid (∀ W, Calls Tryz.prog 76 #[.string ⟨data.toArray⟩, .int .i64 1] W fun e w' => e = .returned (.int .i64 (nx : Nat)) ∧ Ext W w') := Lib.hid (fun W => by rw [hnx]; exact HN.out 1 (by omega) W)
     have HYes := Lib.hid (fun e w' q c B => decN_yes (data := data) (w := w) (w' := w') (e := e) (q := q) (c := c) (B := B) hz)
     have Hnx := Lib.hid hnx
     have hlI : ((data.length : Int) != (data.length : Int)) = false := by simp
     have HEn := Lib.hid (fun q c n W hh hk => EncodeR_any (data.length : Int) q c n W hh hk)
     have h0I : (0 : Int) < data.length := by omega
     have h5I : (5 : Int) < data.length := by omega
     have h0N : 0 < data.length := by omega
     have h5N : 5 < data.length := by omega
     have hb0 := byt_lt data 0
     clear hz hsp hnx
     have HP : Hid (∀ k a, k < byt data 5 → (parseTo data k).rest = data.drop a → ¬ (a + 2 ≤ data.length ∧ byt data a ≤ (parseTo data k).before.length ∧ a + 2 + byt data (a + 1) + 4 ≤ data.length) → decOkB (data.length : Int) data = false) := Lib.hid (fun k a hk hr h => dec_none (by unfold countN; rw [numL_take1 (by omega)]; exact hk) hr h)
     generalize hOUT : DecNOut (data.length : Int) data w = OUT at *
     clear hOUT
     go_enter Tryz.func35, Tryz.ntmps35
     go_upto_region 5 with (go_at_call 75; refine (HZ.out _).mono ?_; rintro e w2 ⟨rfl, rfl⟩)
     refine wp_name (fun w0 => Ext w w0 ∧ Blk w0 w.heap.size (.cells #[.int .i64 0, .int .i64 0, .slice none 0 0] 26)) ⟨hze, hzb⟩ ?_
     clear hze hzb
     rintro w0 ⟨hx0, hz0⟩
     have hlz := Blk.lt hz0
     refine wp_region_pk 200 [(7, [(6, 6)])] (Ext.refl w0) (by kernel_rfl) (by kernel_rfl) (by kernel_rfl) (by kernel_rfl) (by kernel_rfl) (by kernel_rfl) (gok_one _ _ 7 6 6 (TChg w0.heap.size 26) (PtrF w0.heap.size (.cells #[.int .i64 (byt data 0 : Nat), .int .i64 (nx : Nat), .slice none 0 0] 26)) (fun _ _ h => h.below) (PtrF.stable _ _) (by kernel_rfl)) ?_
     simp only [List.take_succ_cons, List.take_zero, List.take_nil, List.drop_succ_cons, List.drop_zero, List.drop_nil, List.map_cons, List.map_nil]
     repeat (first
       | (refine wpPL_step (o := ⟨some 6, _, _, _, _, _⟩) (PtrF w0.heap.size (.cells #[.int .i64 0, .int .i64 0, .slice none 0 0] 26)) (PtrF.stable _ _) (by first | exact .inr (AppF.strong _ _ _ _ (by decide)) | exact .inr (WrF.strong _ _ _ _ (by decide)) | exact .inr (RowsF.strong _ _ _ _ _ _ _ _ (by decide)) | exact .inr (Fresh.strong _ _ _ _ _ _ _ (by decide)) | exact .inr (IfcF.strong (Fresh.strong _ _ _ _ _ _ _ (by decide)) _) | exact .inl (by kernel_rfl)) (by kernel_rfl) (by first | exact .inl rfl | exact .inr ⟨_, _, _, rfl, rfl, rfl⟩) ?_ ?_
          · intro a w' he hr K hK
            go_simp
            exact hK _ _ (Ext.alloc _ _) ⟨_, rfl, Blk.new _ _, he.size⟩
          simp only [setL, List.set_cons_succ, List.set_cons_zero])
       | (refine wpPL_det (o := ⟨some 24, _, _, _, _, _⟩) (v := .int .u8 (byt data 0 : Nat)) (by kernel_rfl) (by first | exact .inl rfl | exact .inr ⟨_, _, _, rfl, rfl, rfl⟩) ?_ ?_
          · intro a w' he hr K hK
            simp [Reads, Oper.looksAt, Op.operands, Call.operands, factAt, Is] at hr
            go_simp
            exact hK _ (Ext.refl _)
          simp only [setL, List.set_cons_succ, List.set_cons_zero])
       | (refine wpPL_det (o := ⟨some 27, _, _, _, _, _⟩) (v := .int .i64 (nx : Nat)) (by kernel_rfl) (by first | exact .inl rfl | exact .inr ⟨_, _, _, rfl, rfl, rfl⟩) ?_ ?_
          · intro a w' he hr K hK
            simp [Reads, Oper.looksAt, Op.operands, Call.operands, factAt, Is] at hr
            go_simp
            refine (HN1.out _).mono ?_
            rintro e w'' ⟨rfl, he''⟩
            exact hK _ he''
          simp only [setL, List.set_cons_succ, List.set_cons_zero])
       | (refine wpPL_det (o := ⟨some 28, _, _, _, _, _⟩) (v := .agg #[.int .i64 (byt data 0 : Nat), .int .i64 (nx : Nat), .slice none 0 0]) (by kernel_rfl) (by first | exact .inl rfl | exact .inr ⟨_, _, _, rfl, rfl, rfl⟩) ?_ ?_
          · intro a w' he hr K hK
            have h1 := hr 25 (by simp [Oper.looksAt, Op.operands])
            have h2 := hr 27 (by simp [Oper.looksAt, Op.operands])
            refine wp_build 26 #[(0, .tmp 25), (1, .tmp 27)] rfl ?_ ?_
            · rw [(show ((#[(0, Operand.tmp 25), (1, Operand.tmp 27)] : Array (Nat × Operand)).map fun (i, x) => (i, a.eval x)).toList = [(0, .int .i64 (byt data 0 : Nat)), (1, .int .i64 (nx : Nat))] from by simp only [List.map_toArray, List.map_cons, List.map_nil]; rw [show a.eval (.tmp 25) = _ from h1, show a.eval (.tmp 27) = _ from h2]), ndBuilt2 _ _]; rfl
            · rw [(show ((#[(0, Operand.tmp 25), (1, Operand.tmp 27)] : Array (Nat × Operand)).map fun (i, x) => (i, a.eval x)).toList = [(0, .int .i64 (byt data 0 : Nat)), (1, .int .i64 (nx : Nat))] from by simp only [List.map_toArray, List.map_cons, List.map_nil]; rw [show a.eval (.tmp 25) = _ from h1, show a.eval (.tmp 27) = _ from h2]), ndBuilt2 _ _]
              exact hK _ (Ext.refl _)
          simp only [setL, List.set_cons_succ, List.set_cons_zero])
       | (refine wpPL_pivot (o := ⟨none, _, _, _, _, _⟩) Any Any.stable (.inr Any.strong) (by kernel_rfl) (by first | exact .inl rfl | exact .inr ⟨_, _, _, rfl, rfl, rfl⟩) ?_ ?_
          · intro a w' he hr K hK
            obtain ⟨b, h1, h2, h3⟩ := hr 6 (by simp [Oper.looksAt, Op.operands])
            have hv := hr 28 (by simp [Oper.looksAt, Op.operands])
            refine wp_store_row 26 (.tmp 6) (.tmp 28) rfl b #[.int .i64 (byt data 0 : Nat), .int .i64 (nx : Nat), .slice none 0 0] h1 hv _ _ h2 ndSize rfl (by simp [Value.oneCell']) ?_
            exact hK _ _ ⟨b, _, h3, h2, Chg.setRow⟩ trivial (fun x hx _ y hy => by simp at hx; subst hx; simp at hy; subst hy; exact ⟨b, h1, Blk.setRow h2, h3⟩)
          simp only [setL, List.set_cons_succ, List.set_cons_zero])
       | (refine wpPL_move _ _ (by kernel_rfl) (by first | exact .inl rfl | exact .inr ⟨_, _, _, rfl, rfl, rfl⟩) (by first | exact .inl rfl | exact .inr rfl) rfl (by first | exact Is.stable _ | exact RowsF.stable _ _ _ _ _ | exact NoneF.stable _ _ | exact Fresh.stable _ _ _ | exact AppF.stable _ | exact WrF.stable _ | exact PtrF.stable _ _ | exact PlF.stable _ _) (by first | exact .inr (Is.strong _ _ _) | exact .inr (AppF.strong _ _ _ _ (by decide)) | exact .inr (WrF.strong _ _ _ _ (by decide)) | exact .inr (RowsF.strong _ _ _ _ _ _ _ _ (by decide)) | exact .inl (by kernel_rfl)) ?_
          simp only [setL, List.set_cons_succ, List.set_cons_zero, List.getD_cons_succ, List.getD_cons_zero])
       | (apply wpPL_det (by kernel_rfl) (by first | exact .inl rfl | exact .inr ⟨_, _, _, rfl, rfl, rfl⟩)
          · intro a w' he hr K hK
            simp [Reads, Oper.looksAt, Op.operands, Call.operands, factAt, Is] at hr
            have hx := he.cell
            go_simp
            try go_bits
            try (rw [if_neg (by omega)]; go_simp)
            first
              | exact hK _ (Ext.refl _)
          simp only [setL, List.set_cons_succ, List.set_cons_zero]))
     intro w2 he2
     simp only [killL, killIn, List.foldl_cons, List.foldl_nil, List.set_cons_succ, List.set_cons_zero]
     repeat (first | with_reducible refine rest_is _ _ _ _ ?_ | (with_reducible refine rest_fact _ _ _ _ ?_; intro _ _) | with_reducible refine rest_end _ _ ?_)
     simp only [List.reverse_cons, List.reverse_nil, List.nil_append, List.cons_append]
     rename_i x6 h6
     obtain ⟨nb, rfl, hn2, hnb⟩ := h6
     have hz2 := he2.blk _ _ hz0
     have hn2' := hn2
     have hx2 := hx0.trans he2
     have hlnb := Blk.lt hn2
     have hl6 : 6 ≤ data.length := by omega
     clear hn2' hz0 hx0 he2
     go_upto_region 8 with (fail)
     go_loopw [7, 8, 9] (fun pa bef i wr => ∃ k a : Nat, k ≤ byt data 5 ∧ a ≤ data.length ∧ i = .int .i64 k ∧ pa = .int .i64 a ∧ bef = .string ⟨(parseTo data k).before.toArray⟩ ∧ (parseTo data k).rest = data.drop a ∧ Ext w wr ∧ Blk wr w.heap.size (.cells #[.int .i64 0, .int .i64 0, .slice none 0 0] 26) ∧
       ∃ q c, Blk wr nb (.cells #[.int .i64 (byt data 0 : Nat), .int .i64 (nx : Nat), .slice q k c] 26) ∧ wr.ownsRow w.heap.size 63 2 (.slice q k c) k (entCells (parseTo data k).ents)) (fun _ _ i _ => byt data 5 - (intOf i).toNat)
     case atStart => exact ⟨0, 6, Nat.zero_le _, hl6, rfl, rfl, rfl, rfl, hx2, hz2, none, 0, hn2, rfl, .inl ⟨rfl, rfl⟩⟩
     case round =>
       clear hn2 hz2 hx2
       obtain ⟨k, a, hk, ha, rfl, rfl, rfl, hr, hx4, hz4, q, c, hn4, ho4⟩ := hrel
       have HPl := Lib.hid (parse_len data k)
       have hbef := parse_before data k
       have h5lt := byt_lt data 5
       have HX0 := Lib.hid hx4
       have HZ0 := Lib.hid hz4
       have HQ := Lib.hid (And.intro hn4 ho4)
       have hln4 := Blk.lt hn4
       by_cases hlt : k < byt data 5
       · have hltI : (k : Int) < (byt data 5 : Nat) := by omega
         have HPk := Lib.hid (HP.out k a hlt hr)
         have HNx : Hid (∀ (h1 : a + 2 ≤ data.length) (h2 : byt data a ≤ (parseTo data k).before.length) (h3 : a + 2 + byt data (a + 1) + 4 ≤ data.length), parseTo data (k + 1) = ⟨(parseTo data k).before.take (byt data a) ++ (data.drop (a + 2)).take (byt data (a + 1)), data.drop (a + 6 + byt data (a + 1)), (parseTo data k).ents ++ [((parseTo data k).before.take (byt data a) ++ (data.drop (a + 2)).take (byt data (a + 1)), (numL ((data.drop (a + 2 + byt data (a + 1))).take 4) : Int))]⟩) := Lib.hid (fun h1 h2 h3 => step_at hr h1 h2 h3)
         clear hx4 hz4 hn4 ho4 hr
         generalize parseTo data k = s at *
         obtain ⟨bf, rs, es⟩ := s
         simp only at HQ hbef HPk HNx HPl ⊢
         have hb1 := byt_lt data (a + 1)
         have hba := byt_lt data a
         by_cases g1 : a + 2 ≤ data.length
         · have g1I : decide ((data.length : Int) < (a : Int) + 2) = false := decide_eq_false (by omega)
           have i1 : (a : Int) < data.length := by omega
           have i2 : (a : Int) + 1 < data.length := by omega
           by_cases g2 : byt data a ≤ bf.length
           · have g2I : decide ((bf.length : Int) < (byt data a : Nat)) = false := decide_eq_false (by omega)
             by_cases g3 : a + 2 + byt data (a + 1) + 4 ≤ data.length
             · have g3I : decide ((data.length : Int) < (a : Int) + 2 + (byt data (a + 1) : Nat) + 4) = false := decide_eq_false (by omega)
               have HNx2 := Lib.hid (HNx.out g1 g2 g3)
               clear HNx HPk
               go_upto_region 12 with (fail)
               go_quiet (fail)
               go_upto_region 15 with (fail)
               go_quiet (fail)
               go_upto_region 16 with (fail)
               refine wp_name (fun w5 => Ext wr w5) (by first | exact (Ext.drewN _ _).trans (Ext.drewN _ _) | exact (Ext.drew _).trans (Ext.drewN _ _)) ?_
               intro w5 he5
               have hn5 := he5.blk _ _ HQ.out.1
               have Hn5 := Lib.hid hn5
               have Ho5 := Lib.hid (own_ext HQ.out.2 he5)
               have c52 : w5.cell? ⟨nb, 2, none⟩ = some (.slice q k c) := Blk.val hn5 2 _ rfl
               have l5 := Blk.lt hn5
               have Hx5 := Lib.hid (HX0.out.trans he5)
               have Hz5 := Lib.hid (he5.blk _ _ HZ0.out)
               have HNm := HN.out (a + 2 + byt data (a + 1)) (by omega)
               have hen := entCells_len es
               rw [HPl.out] at hen
               have Hen := Lib.hid hen
               have hkk : k ≤ 256 := by omega
               clear he5 hn5 HZ0 HX0 HQ g2I g3I g1I hen
               generalize numL (List.take 4 (List.drop (a + 2 + byt data (a + 1)) data)) = nv at *
               generalize List.take (byt data a) bf ++ List.take (byt data (a + 1)) (List.drop (a + 2) data) = bel at *
               have hm5 := World.ownsRow_made (base := w5.heap.size) (e := 63) (size := 2) w5 #[] 0 (Nat.le_refl _) (by simp) rfl
               have Hm5 := Lib.hid hm5
               clear hm5
               go_wp2_with (first
                 | (at_builtin; refine wpList_appE (o := ⟨some 79, _, _, _, _, _⟩) rfl (.tmp 76) (.tmp 78) rfl w5.heap.size _ 0 [] rfl Hm5.out q k c (entCells es) rfl Hen.out (own_cellsND (own_ext Ho5.out (Ext.alloc w5 _))) (entCells_one es) (by omega) (by simp) ?_; intro v8 w8 ho8 hg8; have he8 := Ext.trans' (Ext.alloc w5 _) (Below.of_grown hg8 Hm5.out (Nat.le_refl _) (by simp)); rw [Nat.zero_add, List.nil_append] at ho8; obtain ⟨q8, k8, rfl⟩ := own_slice ho8; have Ho8 := Lib.hid ho8; have He8 := Lib.hid he8; clear ho8 hg8 he8)
                 | (go_at_call 76; refine (HNm _).mono ?_; rintro e w9 ⟨rfl, he9⟩; have He9 := Lib.hid he9; clear he9)
                 | ((with_reducible (show wpList _ _ _ (⟨some 87, _, _, _, _, _⟩ :: _) _ _)); refine wpList_bld (o := ⟨some 87, _, _, _, _, _⟩) rfl 63 #[(0, .tmp 80), (1, .tmp 86)] rfl [(0, .string ⟨bel.toArray⟩), (1, .int .i64 (nv : Nat))] rfl _ (entBuilt _ _) ?_)
                 | (at_builtin; refine wpList_appk (o := ⟨some 89, _, _, _, _, _⟩) rfl (.tmp 79) (.tmp 88) 24 63 rfl w5.heap.size (.agg #[.string ByteArray.empty, .int .i64 0]) 2 24 Tryz.underlying24 infoEntA rfl (by decide) _ k _ rfl (own_ext Ho8.out (He9.out.trans (Ext.alloc w9 _))) (some ⟨w9.heap.size, 0, none⟩) 1 1 [.string ⟨bel.toArray⟩, .int .i64 (nv : Nat)] rfl rfl rfl (blk_cells (ys := [.string ⟨bel.toArray⟩, .int .i64 (nv : Nat)]) (Blk.new w9 _)) (by intro u hu; simp at hu; rcases hu with rfl | rfl <;> rfl) (by omega) (by decide) (Nat.le_trans (He8.out.trans He9.out).size (Ext.alloc w9 _).size) ?_; intro v10 w10 ho10 hg10; have hx10 := Ext.trans' ((He8.out.trans He9.out).trans (Ext.alloc w9 _)) (Below.of_grown hg10 (own_ext Ho8.out (He9.out.trans (Ext.alloc w9 _))) (Nat.le_refl _) (Nat.le_trans (He8.out.trans He9.out).size (Ext.alloc w9 _).size)); obtain ⟨q10, k10, rfl⟩ := own_slice ho10; have hb10 := hx10.blk _ _ Hn5.out; have f10 := Blk.free hb10 2; have c10 : w10.cell? ⟨nb, 2, none⟩ = some (.slice q k c) := Blk.val hb10 2 _ rfl; have l10 := Blk.lt hb10; have Hx10 := Lib.hid hx10; have Ho10 := Lib.hid ho10; have Hb10 := Lib.hid hb10; clear hx10 ho10 hg10 hb10))
               go_roundw
               case rel =>
                 have hxw := Hx5.out.trans Hx10.out
                 have hne : w.heap.size ≠ nb := by omega
                 refine ⟨k + 1, a + 6 + byt data (a + 1), by omega, by omega, by go_num, by go_num, by rw [HNx2.out], by rw [HNx2.out], (Chg.setCell).ext hxw (by omega), (Chg.setCell).blk (Hx10.out.blk _ _ Hz5.out) hne, q10, k10, Blk.setCell Hb10.out, ?_⟩
                 rw [HNx2.out]
                 simp only [entCells_snoc]
                 exact own_le (own_chgT Ho10.out (by decide) Hb10.out Chg.setCell) Hx5.out.size
               case measure => simp [intOf]; omega
             · have g3I : (data.length : Int) < (a : Int) + 2 + (byt data (a + 1) : Nat) + 4 := by omega
               have HO := Lib.hid (fun e w' => HNo.out e w' (HPk.out (by omega)))
               clear HNx HPk g3
               go_upto_region 12 with (fail)
               go_quiet (fail)
               go_wp2_with (first
                 | (refine wpList_bld (o := ⟨some 63, _, _, _, _, _⟩) rfl 26 #[] rfl [] rfl _ ndZ_built ?_)
                 | (refine wpList_put rfl 26 (.tmp 4) (.tmp 63) rfl _ #[.int .i64 0, .int .i64 0, .slice none 0 0] rfl rfl _ _ HZ0.out ndSize rfl (by simp [Value.oneCell']) ?_; intro w6 hz6 hc6))
               exact bodyPost_ret (results_row1 Tryz.results35 _ _ _ _ _ _ rfl hz6 ndDesc rfl ndSize) rfl (HO.out _ _ (hc6.ext (HX0.out.trans (by first | exact Ext.drewN _ _ | exact Ext.drew _)) (Nat.le_refl _)) rfl)
           · have g2I : (bf.length : Int) < (byt data a : Nat) := by omega
             have HO := Lib.hid (fun e w' => HNo.out e w' (HPk.out (by omega)))
             clear HNx HPk g2
             go_upto_region 12 with (fail)
             go_quiet (fail)
             go_wp2_with (first
               | (refine wpList_bld (o := ⟨some 63, _, _, _, _, _⟩) rfl 26 #[] rfl [] rfl _ ndZ_built ?_)
               | (refine wpList_put rfl 26 (.tmp 4) (.tmp 63) rfl _ #[.int .i64 0, .int .i64 0, .slice none 0 0] rfl rfl _ _ HZ0.out ndSize rfl (by simp [Value.oneCell']) ?_; intro w6 hz6 hc6))
             exact bodyPost_ret (results_row1 Tryz.results35 _ _ _ _ _ _ rfl hz6 ndDesc rfl ndSize) rfl (HO.out _ _ (hc6.ext (HX0.out.trans (by first | exact Ext.drewN _ _ | exact Ext.drew _)) (Nat.le_refl _)) rfl)
         · have g1I : (data.length : Int) < (a : Int) + 2 := by omega
           have HO := Lib.hid (fun e w' => HNo.out e w' (HPk.out (by omega)))
           clear HNx HPk g1
           go_wp2_with (first
             | (refine wpList_bld (o := ⟨some 40, _, _, _, _, _⟩) rfl 26 #[] rfl [] rfl _ ndZ_built ?_)
             | (refine wpList_put rfl 26 (.tmp 4) (.tmp 40) rfl _ #[.int .i64 0, .int .i64 0, .slice none 0 0] rfl rfl _ _ HZ0.out ndSize rfl (by simp [Value.oneCell']) ?_; intro w6 hz6 hc6))
           exact bodyPost_ret (results_row1 Tryz.results35 _ _ _ _ _ _ rfl hz6 ndDesc rfl ndSize) rfl (HO.out _ _ (hc6.ext HX0.out (Nat.le_refl _)) rfl)
       · have hltI : decide ((k : Int) < (byt data 5 : Nat)) = false := decide_eq_false (by omega)
         have hkN : k = byt data 5 := by omega
         have hpn : parseNd data = ⟨(byt data 0 : Nat), (nx : Nat), (parseTo data k).ents⟩ := by
           unfold parseNd
           rw [show countN data = k from by unfold countN; rw [numL_take1 (by omega)]; exact hkN.symm, ← Hnx.out, show levelN data = byt data 0 from by have := numL_take1 (s := data) (a := 0) (by omega); rw [List.drop_zero] at this; exact this]
         have hno : encNE (data.length : Int) (parseNd data) ≠ 0 ∨ encN (data.length : Int) (parseNd data) ≠ data → decOkB (data.length : Int) data = false := decOk_no
         have HYs := HYes.out
         rw [hpn] at hno HYs
         simp only at HYs
         have hpl := HPl.out
         generalize (parseTo data k).ents = es at *
         subst hpl
         have HEn2 := Lib.hid (fun W (e : Ext wr W) => HEn.out q c ⟨(byt data 0 : Nat), (nx : Nat), es⟩ W ((own_cellsND ho4).ext e) (by simp only; omega))
         unfold ndV at HEn2
         simp only at HEn2
         have HNn := Lib.hid hno
         have HYs := Lib.hid HYs
         have HSn := Lib.hid (fun (h : encNE (data.length : Int) ⟨(byt data 0 : Nat), (nx : Nat), es⟩ = 0) => encNS_okD h)
         clear hx4 hz4 ho4 hpn hno hr hkN HP HPl HYes HEn
         by_cases hE : encNE (data.length : Int) ⟨(byt data 0 : Nat), (nx : Nat), es⟩ = 0
         · have hS := HSn.out hE
           rw [hE, hS] at HEn2
           by_cases hD : encN (data.length : Int) ⟨(byt data 0 : Nat), (nx : Nat), es⟩ = data
           · rw [hD] at HEn2
             have HO := Lib.hid (fun e w' q c B => HYs.out e w' q c B hE hD)
             clear HYs HNn hE hS hD HSn
             have hdd : (data != data) = false := by simp
             go_wp2_with (first
               | ((with_reducible (show wpList _ _ _ (⟨some 97, _, _, _, _, _⟩ :: _) _ _)); refine wpList_row (o := ⟨some 97, _, _, _, _, _⟩) rfl 26 (.tmp 6) rfl _ rfl _ _ _ hn4 ndDesc rfl ndSize ?_)
               | (go_at_call 77; refine (HEn2.out wr (Ext.refl wr)).mono ?_; rintro e w5 ⟨rfl, hx5⟩; have hn5 := hx5.blk _ _ hn4; have hz5 := hx5.blk _ _ HZ0.out)
               | ((with_reducible (show wpList _ _ _ (⟨some 109, _, _, _, _, _⟩ :: _) _ _)); refine wpList_row (o := ⟨some 109, _, _, _, _, _⟩) rfl 26 (.tmp 6) rfl _ rfl _ _ _ hn5 ndDesc rfl ndSize ?_)
               | (refine wpList_put rfl 26 (.tmp 4) (.tmp 109) rfl _ #[.int .i64 (byt data 0 : Nat), .int .i64 (nx : Nat), .slice q es.length c] rfl rfl _ _ hz5 ndSize rfl (by simp [Value.oneCell']) ?_; intro w6 hz6 hc6))
             exact bodyPost_ret (results_row1 Tryz.results35 _ _ _ _ _ _ rfl hz6 ndDesc rfl ndSize) rfl (HO.out _ _ q c _ (Nat.le_refl _) (hc6.ext (HX0.out.trans hx5) (Nat.le_refl _)) rfl (own_chgT (own_ext HQ.out.2 hx5) (by decide) hz5 hc6))
           · have HO := Lib.hid (fun e w' => HNo.out e w' (HNn.out (.inr hD)))
             clear HYs HNn hE hS HSn
             generalize encN (data.length : Int) ⟨(byt data 0 : Nat), (nx : Nat), es⟩ = en at *
             have hdd : (en != data) = true := by simpa using hD
             have hdd2 : (en == data) = false := by simpa using hD
             go_wp2_with (first
               | ((with_reducible (show wpList _ _ _ (⟨some 97, _, _, _, _, _⟩ :: _) _ _)); refine wpList_row (o := ⟨some 97, _, _, _, _, _⟩) rfl 26 (.tmp 6) rfl _ rfl _ _ _ hn4 ndDesc rfl ndSize ?_)
               | (go_at_call 77; refine (HEn2.out wr (Ext.refl wr)).mono ?_; rintro e w5 ⟨rfl, hx5⟩; have hz5 := hx5.blk _ _ HZ0.out)
               | (refine wpList_bld (o := ⟨some 108, _, _, _, _, _⟩) rfl 26 #[] rfl [] rfl _ ndZ_built ?_)
               | (refine wpList_put rfl 26 (.tmp 4) (.tmp 108) rfl _ #[.int .i64 0, .int .i64 0, .slice none 0 0] rfl rfl _ _ hz5 ndSize rfl (by simp [Value.oneCell']) ?_; intro w6 hz6 hc6))
             exact bodyPost_ret (results_row1 Tryz.results35 _ _ _ _ _ _ rfl hz6 ndDesc rfl ndSize) rfl (HO.out _ _ (hc6.ext (HX0.out.trans hx5) (Nat.le_refl _)) rfl)
         · have HO := Lib.hid (fun e w' => HNo.out e w' (HNn.out (.inl hE)))
           have hEi : (encNE (data.length : Int) ⟨(byt data 0 : Nat), (nx : Nat), es⟩ != 0) = true := by simpa using hE
           clear HYs HNn HSn
           generalize encNE (data.length : Int) ⟨(byt data 0 : Nat), (nx : Nat), es⟩ = ee at *
           go_wp2_with (first
             | ((with_reducible (show wpList _ _ _ (⟨some 97, _, _, _, _, _⟩ :: _) _ _)); refine wpList_row (o := ⟨some 97, _, _, _, _, _⟩) rfl 26 (.tmp 6) rfl _ rfl _ _ _ hn4 ndDesc rfl ndSize ?_)
             | (go_at_call 77; refine (HEn2.out wr (Ext.refl wr)).mono ?_; rintro e w5 ⟨rfl, hx5⟩; have hz5 := hx5.blk _ _ HZ0.out)
             | (refine wpList_bld (o := ⟨some 108, _, _, _, _, _⟩) rfl 26 #[] rfl [] rfl _ ndZ_built ?_)
             | (refine wpList_put rfl 26 (.tmp 4) (.tmp 108) rfl _ #[.int .i64 0, .int .i64 0, .slice none 0 0] rfl rfl _ _ hz5 ndSize rfl (by simp [Value.oneCell']) ?_; intro w6 hz6 hc6))
           exact bodyPost_ret (results_row1 Tryz.results35 _ _ _ _ _ _ rfl hz6 ndDesc rfl ndSize) rfl (HO.out _ _ (hc6.ext (HX0.out.trans hx5) (Nat.le_refl _)) rfl)
   · have hlI : ((data.length : Int) != size) = true := by simpa using hlen
     have hno : decOkB size data = false := by
       cases hd : decOkB size data
       · rfl
       · obtain ⟨_, _, _, _, h4, _⟩ := dec_spec hd
         exact absurd h4 hlen
     have HO := Lib.hid (fun e w' => HNo.out e w' hno)
     generalize DecNOut size data w = OUT at *
     have HZ0 := Lib.hid hzb
     have HX0 := Lib.hid hze
     clear hz hl hzb hze hlen hno HNo
     go_enter Tryz.func35, Tryz.ntmps35
     go_upto_region 4 with (go_at_call 75; refine (HZ.out _).mono ?_; rintro e w2 ⟨rfl, rfl⟩)
     go_wp2_with (first
       | (refine wpList_bld (o := ⟨some 22, _, _, _, _, _⟩) rfl 26 #[] rfl [] rfl _ ndZ_built ?_)
       | (refine wpList_put rfl 26 (.tmp 4) (.tmp 22) rfl _ #[.int .i64 0, .int .i64 0, .slice none 0 0] rfl rfl _ _ HZ0.out ndSize rfl (by simp [Value.oneCell']) ?_; intro w6 hz6 hc6))
     exact bodyPost_ret (results_row1 Tryz.results35 _ _ _ _ _ _ rfl hz6 ndDesc rfl ndSize) rfl (HO.out _ _ (hc6.ext HX0.out (Nat.le_refl _)) rfl)
end Go.Proofs.YtifmbcjbccedfaaGreatDoor
namespace Go.Proofs.YtifmbcjbccedfaaGreatDoor
open Go.RowKit Dsd
end Go.Proofs.YtifmbcjbccedfaaGreatDoor
