/- A part of the proof. -/
import Derived.Test.YtifmbcjbccedfaaGreatDoorCM
import Derived.Test.YtifmbcjbccedfaaGreatDoorFE

set_option linter.unusedSimpArgs false
set_option linter.unusedVariables false
namespace Go.Proofs.YtifmbcjbccedfaaGreatDoor
open Go.RowKit Dsd
theorem wpList_appR {w : World} {ops : Array Oper} {rest : List Oper} {o : Oper} {a : Act} {Q : Exit → Act → World → Prop} (hgd : Region.wanted o (yielded ops a.tmps) = true) (d s : Operand)
   (ho : o.op = .call { callee := .builtin .append, args := #[d, s], argTypes := #[27, 27] }) (base : Nat) (v : Value) (n : Nat) (xs : List Value) (hv : a.eval d = v) (hown : w.ownsRow base 30 1 v n xs) (p : Option Addr) (m c : Nat) (news : List Value) (hs : a.eval s = .slice p m c) (hl : news.length = m) (hc : Cells w p news)
   (h1 : ∀ u ∈ news, u.oneCell' = true) (hn : n + m ≤ 100000000) (hbase : base ≤ w.heap.size)
   (h : ∀ v' w', w'.ownsRow base 30 1 v' (n + m) (xs ++ news) → w.grownBy w' v.ownBlock → wpList Tryz.prog ops Q rest (a.put o.dst v') w') : wpList Tryz.prog ops Q (o :: rest) a w := by
 by_cases hm : m = 0
 · subst hm
   obtain rfl : news = [] := List.eq_nil_of_length_eq_zero hl
   obtain ⟨q, k, rfl⟩ := own_slice hown
   obtain ⟨_, hle, _⟩ := own_cellsK hown
   obtain ⟨i0, hi0, hz0, hzs, hzb⟩ := info_parts infoRowA
   have hr : (Builtin.append_ #[27, 27] o.type #[.slice q n k, .slice p 0 c]).run Tryz.prog w = .ok (.slice q n k) w := by
     cases p <;> cases q <;> simp [Builtin.append_, run_underlying Tryz.underlying27, Go.sizeOf, typeInfo, hi0, Builtin.lenOf, Builtin.firstCells, loadCells, loadCellsFrom, Go.storeCells, hle]
   refine BigFrame.wpList_want hgd fun K hK => Lib.wp_append_run w d s _ _ ho _ _ hv hs _ _ hr (hK _ _ (h _ _ (by simpa using hown) ⟨rfl, rfl, rfl, Nat.le_refl _, fun _ _ _ => rfl⟩))
 · obtain ⟨ad, rfl⟩ : ∃ ad, p = some ad := by
     obtain ⟨b, off, h, _⟩ := hc.at 0 (by omega)
     exact ⟨_, h⟩
   exact wpList_appk hgd d s 27 30 ho base (.slice none 0 0) 1 24 Tryz.underlying27 infoRowA rfl (by decide) v n xs hv hown (some ad) m c news hs rfl (by omega) hc h1 hn (by decide) hbase h
theorem OwnRows.one {w : World} {B : Nat} {vs : List Value} {V : List Recs} (h : OwnRows w B vs V) : ∀ u ∈ vs, u.oneCell' = true := by
 intro u hu
 obtain ⟨i, hi, rfl⟩ := List.mem_iff_getElem.1 hu
 have ho := h.own i (by rw [← h.len]; exact hi)
 have e : vs.getD i undef = vs[i] := by simp [List.getD, hi]
 rw [e] at ho
 obtain ⟨q, c, hq⟩ := own_slice ho
 rw [hq]
 rfl
set_option maxRecDepth 100000 in
set_option maxHeartbeats 4000000 in
theorem ReadR_any (p : Option Addr) (cap n : Nat) (M : List (List UInt8)) (d : DS) (base : Int) (w : World) (hs : Strs w p M) (hn : M.length = n) (hm : Small M) :
   Calls Tryz.prog 9 #[.slice p n cap, .agg #[.int .i64 d.id, .int .i64 d.org, .int .i64 d.format, .int .i64 d.length, .int .i64 d.block, .int .i64 d.keyAt, .int .i64 d.keyLength, .int .i64 d.interval, .int .i64 d.area, .int .i64 d.freeInterval, .int .i64 d.freeArea, .int .i64 d.base, .int .i64 d.altAt, .int .i64 d.altLength, .bool d.unique, .int .i64 d.cls, .string ⟨d.volume.toArray⟩, .string ⟨d.owner.toArray⟩, .int .i64 d.created, .int .i64 d.expires, .bool d.archived], .int .i64 base] w (ReadOut (readD M d base) w) := by
 have HD := Lib.hid (fun W => IsKeyedR_any d W)
 have hx0 := ds_ar w d Ar.zero none 0 none 0
 rw [arC_zero0] at hx0
 have HZ : Hid (∀ e w' c, readD M d base = (Ar.zero, c) → Ext w w' → e = .returned (.tuple #[.agg arZ, .int .i64 c]) → ReadOut (readD M d base) w e w') := Lib.hid (fun e w' c hc h1 h2 => by
   rw [hc]
   exact ⟨h1, none, 0, none, 0, h2, ArV.zero0 w'⟩)
 cases hk : keyedB d
 · have HO := Lib.hid (fun e w' => HZ.out e w' 1 (readD_arg (.inl hk)))
   rw [hk] at HD
   clear HZ hs hn hm hk
   generalize ReadOut (readD M d base) w = OUT at *
   go_enter Tryz.func9, Tryz.ntmps9
   go_upto_region 1 with fail
   refine wp_name (fun w0 => Ext w w0 ∧ DsAt w0 w.heap.size d ∧ Blk w0 (w.heap.size + 1) (.cells arZ 29)) hx0 ?_
   clear hx0
   rintro w0 ⟨he0, hd0, hz0⟩
   go_wp2_with (first
     | (refine wpList_ds (o := ⟨some 16, _, _, _, _, _⟩) rfl (.tmp 4) rfl _ rfl d hd0 ?_)
     | (go_at_call 16; refine (HD.out _).mono ?_; rintro e w1 ⟨rfl, he1⟩; have hz1 := he1.blk _ _ hz0)
     | (refine wpList_bld (o := ⟨some 27, _, _, _, _, _⟩) rfl 29 #[] rfl [] rfl _ arZ_built ?_)
     | (refine wpList_put rfl 29 (.tmp 6) (.tmp 27) rfl _ arZ rfl rfl _ _ hz1 arSize rfl (by simp [arZ, Value.oneCell']) ?_; intro w3 hz3 hc3))
   exact bodyPost_ret (results_row1 Tryz.results9 _ _ _ _ _ _ rfl hz3 arDesc rfl arSize) rfl (HO.out _ _ (hc3.ext (he0.trans he1) (by omega)) rfl)
 · rw [hk] at HD
   cases hb : isBaseB base
   · have hcase : base < 1 ∨ (decide (base < 1) = false ∧ (16777208 : Int) < base) := by
       unfold isBaseB at hb
       by_cases h1 : base < 1
       · exact .inl h1
       · refine .inr ⟨decide_eq_false h1, ?_⟩
         simp at hb
         omega
     have HO := Lib.hid (fun e w' => HZ.out e w' 1 (readD_arg (.inr hb)))
     clear HZ hs hn hm hk hb
     generalize ReadOut (readD M d base) w = OUT at *
     rcases hcase with hc1 | ⟨hc1, hc2⟩
     all_goals
       go_enter Tryz.func9, Tryz.ntmps9
       go_upto_region 1 with fail
       refine wp_name (fun w0 => Ext w w0 ∧ DsAt w0 w.heap.size d ∧ Blk w0 (w.heap.size + 1) (.cells arZ 29)) hx0 ?_
       clear hx0
       rintro w0 ⟨he0, hd0, hz0⟩
       go_wp2_with (first
         | (refine wpList_ds (o := ⟨some 16, _, _, _, _, _⟩) rfl (.tmp 4) rfl _ rfl d hd0 ?_)
         | (go_at_call 16; refine (HD.out _).mono ?_; rintro e w1 ⟨rfl, he1⟩; have hz1 := he1.blk _ _ hz0)
         | (refine wpList_bld (o := ⟨some 27, _, _, _, _, _⟩) rfl 29 #[] rfl [] rfl _ arZ_built ?_)
         | (refine wpList_put rfl 29 (.tmp 6) (.tmp 27) rfl _ arZ rfl rfl _ _ hz1 arSize rfl (by simp [arZ, Value.oneCell']) ?_; intro w3 hz3 hc3))
       exact bodyPost_ret (results_row1 Tryz.results9 _ _ _ _ _ _ rfl hz3 arDesc rfl arSize) rfl (HO.out _ _ (hc3.ext (he0.trans he1) (by omega)) rfl)
   · have hb1 : decide (base < 1) = false := by unfold isBaseB at hb; simp at hb ⊢; omega
     have hb2 : decide ((16777208 : Int) < base) = false := by unfold isBaseB at hb; simp at hb ⊢; omega
     have Hpg := Lib.hid (fun pg w h => Page_any p cap n M pg w h hn (by have := hm.1; omega))
     have Hps := Lib.hid (fun pg => pageOf_small hm pg)
     have Hs := Lib.hid hs
     have Hk := Lib.hid (And.intro hk hb)
     clear hs hn hm
     by_cases hpe : (pageOf M base).2 = 0
     case' neg =>
       have hei : ((pageOf M base).2 != 0) = true := by simpa using hpe
       have HO := Lib.hid (fun e w' => HZ.out e w' _ (readD_page hk hb hpe))
       have Hp1 := Lib.hid (fun w h => Hpg.out base w h)
       clear HZ hpe hk hb
       generalize (pageOf M base).2 = pe at *
       generalize (pageOf M base).1 = ps at *
       generalize ReadOut (readD M d base) w = OUT at *
       go_enter Tryz.func9, Tryz.ntmps9
       go_upto_region 1 with fail
       refine wp_name (fun w0 => Ext w w0 ∧ DsAt w0 w.heap.size d ∧ Blk w0 (w.heap.size + 1) (.cells arZ 29)) hx0 ?_
       clear hx0
       rintro w0 ⟨he0, hd0, hz0⟩
       go_wp2_with (first
         | (refine wpList_ds (o := ⟨some 16, _, _, _, _, _⟩) rfl (.tmp 4) rfl _ rfl d hd0 ?_)
         | (go_at_call 16; refine (HD.out _).mono ?_; rintro e w1 ⟨rfl, he1⟩; have hz1 := he1.blk _ _ hz0)
         | (go_at_call 34; refine (Hp1.out _ (Hs.out.ext (he0.trans he1))).mono ?_; rintro e w2 ⟨rfl, rfl⟩)
         | (refine wpList_bld (o := ⟨some 36, _, _, _, _, _⟩) rfl 29 #[] rfl [] rfl _ arZ_built ?_)
         | (refine wpList_put rfl 29 (.tmp 6) (.tmp 36) rfl _ arZ rfl rfl _ _ hz1 arSize rfl (by simp [arZ, Value.oneCell']) ?_; intro w3 hz3 hc3))
       exact bodyPost_ret (results_row1 Tryz.results9 _ _ _ _ _ _ rfl hz3 arDesc rfl arSize) rfl (HO.out _ _ (hc3.ext (he0.trans he1) (by omega)) rfl)
     have HDe := Lib.hid (fun W => DecodeNR_any d.interval (pageOf M base).1 (Hps.out base) W)
     unfold DecNOut at HDe
     obtain ⟨nd, hnd⟩ : ∃ nd, nd = decNd d.interval (pageOf M base).1 := ⟨_, rfl⟩
     rw [← hnd] at HDe
     have hRh := readD_head hk hb hpe
     rw [← hnd] at hRh
     have HRh := Lib.hid hRh
     have HRg := Lib.hid (fun h4 h5 => readD_go (n := nd) hk hb hpe h4 hnd.symm h5)
     have Hp1 := Lib.hid (fun w h => Hpg.out base w h)
     rw [hpe] at Hp1
     have hndl : nd.ents.length ≤ 1000000 := by rw [hnd]; exact dec_few _ _
     have HZ2 := HZ
     clear HZ hnd hRh
     generalize hpsx : (pageOf M base).1 = ps at *
     clear hpsx
     generalize decE d.interval ps = er at *
     have HSh := Lib.hid (fun q c W (hv : Nents W q nd.ents) => isHead_any d base q c nd W hv hndl hk hb)
     unfold ndV at HSh
     have HO : Hid (∀ e w', ReadOut (readD M d base) w e w' → ReadOut (readD M d base) w e w') := Lib.hid (fun _ _ h => h)
     obtain ⟨RD, hRD⟩ : ∃ RD, RD = readD M d base := ⟨_, rfl⟩
     rw [← hRD] at HZ2 HRh HRg HO ⊢
     clear hRD hk hb hpe
     generalize hOU : ReadOut RD w = OUT at *
     have HOU := Lib.hid hOU
     clear hOU HO
     go_enter Tryz.func9, Tryz.ntmps9
     go_upto_region 1 with fail
     refine wp_name (fun w0 => Ext w w0 ∧ DsAt w0 w.heap.size d ∧ Blk w0 (w.heap.size + 1) (.cells arZ 29)) hx0 ?_
     clear hx0
     rintro w0 ⟨he0, hd0, hz0⟩
     go_upto_region 3 with (first
       | (refine wpList_ds (o := ⟨some 16, _, _, _, _, _⟩) rfl (.tmp 4) rfl _ rfl d hd0 ?_)
       | (go_at_call 16; refine (HD.out _).mono ?_; rintro e w1 ⟨rfl, he1⟩))
     have hx1 := he0.trans he1
     have hd1 := hd0.ext he1
     have hz1 := he1.blk _ _ hz0
     clear he0 hd0 hz0 he1
     have k7 := Blk.val hd1 7 (.int .i64 d.interval) rfl
     have l7 := Blk.lt hd1
     go_upto_region 7 with (first
       | (go_at_call 34; refine (Hp1.out _ (Hs.out.ext hx1)).mono ?_; rintro e w2 ⟨rfl, rfl⟩)
       | (go_at_call 35; refine (HDe.out _).mono ?_; rintro e w2 ⟨he2, q2, c2, rfl, ho2⟩))
     have hxn := Ext.alloc w2 (.cells #[.int .i64 nd.level, .int .i64 nd.next, .slice q2 nd.ents.length c2] 26)
     have hbn := Blk.new w2 (.cells #[.int .i64 nd.level, .int .i64 nd.next, .slice q2 nd.ents.length c2] 26)
     refine wp_name (fun w3 => Ext w w3 ∧ DsAt w3 w.heap.size d ∧ Blk w3 (w.heap.size + 1) (.cells arZ 29) ∧ Blk w3 w2.heap.size (.cells #[.int .i64 nd.level, .int .i64 nd.next, .slice q2 nd.ents.length c2] 26) ∧ w3.ownsRow w.heap.size 63 2 (.slice q2 nd.ents.length c2) nd.ents.length (entCells nd.ents)) ⟨hx1.trans (he2.trans hxn), hd1.ext (he2.trans hxn), (he2.trans hxn).blk _ _ hz1, hbn, own_le (own_ext ho2 hxn) hx1.size⟩ ?_
     clear hxn hbn ho2 he2 hx1 hd1 hz1 k7 l7
     generalize w2.heap.size = nb at *
     rintro w3 ⟨hx3, hd3, hz3, hn3, ho3⟩
     have HQ3 := Lib.hid (And.intro hx3 (And.intro hd3 (And.intro hz3 (And.intro hn3 ho3))))
     clear hx3 ho3
     by_cases her : er = 0
     case' neg =>
       have hei : (er != 0) = true := by simpa using her
       have HO := Lib.hid (fun e w' => HZ2.out e w' 11 (HRh.out (.inl her)))
       clear her
       go_wp2_with (first
         | (refine wpList_bld (o := ⟨some 54, _, _, _, _, _⟩) rfl 29 #[] rfl [] rfl _ arZ_built ?_)
         | (refine wpList_put rfl 29 (.tmp 6) (.tmp 54) rfl _ arZ rfl rfl _ _ hz3 arSize rfl (by simp [arZ, Value.oneCell']) ?_; intro w5 hz5 hc5))
       exact bodyPost_ret (results_row1 Tryz.results9 _ _ _ _ _ _ rfl hz5 arDesc rfl arSize) rfl (HO.out _ _ (hc5.ext HQ3.out.1 (by omega)) rfl)
     have hei : (er != 0) = false := by simp [her]
     subst her
     cases hh : headB d base nd
     · have HO := Lib.hid (fun e w' => HZ2.out e w' 11 (HRh.out (.inr hh)))
       rw [hh] at HSh
       clear hh
       go_wp2_with (first
         | (refine wpList_ds (o := ⟨some 48, _, _, _, _, _⟩) rfl (.tmp 4) rfl _ rfl d hd3 ?_)
         | (refine wpList_row (o := ⟨some 50, _, _, _, _, _⟩) rfl 26 (.tmp 10) rfl _ rfl _ _ _ hn3 ndDesc rfl ndSize ?_)
         | (go_at_call 36; refine (HSh.out _ _ _ (own_cellsND HQ3.out.2.2.2.2)).mono ?_; rintro e w5 ⟨rfl, he5⟩; have hz5 := he5.blk _ _ hz3)
         | (refine wpList_bld (o := ⟨some 54, _, _, _, _, _⟩) rfl 29 #[] rfl [] rfl _ arZ_built ?_)
         | (refine wpList_put rfl 29 (.tmp 6) (.tmp 54) rfl _ arZ rfl rfl _ _ hz5 arSize rfl (by simp [arZ, Value.oneCell']) ?_; intro w6 hz6 hc6))
       exact bodyPost_ret (results_row1 Tryz.results9 _ _ _ _ _ _ rfl hz6 arDesc rfl arSize) rfl (HO.out _ _ (hc6.ext (HQ3.out.1.trans he5) (by omega)) rfl)
     · have HRD := Lib.hid (HRg.out rfl hh)
       rw [hh] at HSh
       clear hh HRg HRh
       go_upto_region 9 with (first
         | (refine wpList_ds (o := ⟨some 48, _, _, _, _, _⟩) rfl (.tmp 4) rfl _ rfl d hd3 ?_)
         | (refine wpList_row (o := ⟨some 50, _, _, _, _, _⟩) rfl 26 (.tmp 10) rfl _ rfl _ _ _ hn3 ndDesc rfl ndSize ?_)
         | (go_at_call 36; refine (HSh.out _ _ _ (own_cellsND HQ3.out.2.2.2.2)).mono ?_; rintro e w5 ⟨rfl, he5⟩))
       have hn5 := he5.blk _ _ hn3
       have HQ5 := Lib.hid (And.intro (HQ3.out.1.trans he5) (And.intro (hd3.ext he5) (And.intro (he5.blk _ _ hz3) (own_ext HQ3.out.2.2.2.2 he5))))
       clear hd3 hz3 hn3 he5 HQ3 HSh
       go_upto_region 10 with (first
         | ((with_reducible (show wpList _ _ _ (⟨some 56, _, _, _, _, _⟩ :: _) _ _)); refine wpList_row (o := ⟨some 56, _, _, _, _, _⟩) rfl 26 (.tmp 10) rfl _ rfl _ _ _ hn5 ndDesc rfl ndSize ?_)
         | ((with_reducible (show wpList _ _ _ (⟨some 57, _, _, _, _, _⟩ :: _) _ _)); refine wpList_bld (o := ⟨some 57, _, _, _, _, _⟩) rfl 29 #[(0, .tmp 55), (1, .tmp 56)] rfl [(0, .int .i64 base), (1, .agg #[.int .i64 nd.level, .int .i64 nd.next, .slice q2 nd.ents.length c2])] rfl _ (arBuilt2 _ _ _ _ _ _) ?_))
       have hxa := Ext.alloc w5 (.cells (arC ⟨base, nd, []⟩ q2 c2 none 0) 29)
       have hba := Blk.new w5 (.cells (arC ⟨base, nd, []⟩ q2 c2 none 0) 29)
       refine wp_name (fun w4 => RdS w d base nd q2 c2 w5.heap.size [] none 0 [] w4 ∧ Blk w4 nb (.cells #[.int .i64 nd.level, .int .i64 nd.next, .slice q2 nd.ents.length c2] 26)) ⟨⟨HQ5.out.1.trans hxa, HQ5.out.2.1.ext hxa, hxa.blk _ _ HQ5.out.2.2.1, hba, Blk.lt HQ5.out.2.2.1, own_ext HQ5.out.2.2.2 hxa, World.ownsRow_nil _ _ _ _, ⟨rfl, fun i hi => absurd hi (Nat.not_lt_zero _), fun i j g _ hj => absurd hj (Nat.not_lt_zero _)⟩, fun L hL => by cases hL⟩, hxa.blk _ _ hn5⟩ ?_
       clear hxa hba HQ5 hn5
       generalize w5.heap.size = ab at *
       clear w5
       rintro w4 ⟨hst4, hn4⟩
       have Hst5 := Lib.hid (And.intro hst4 hn4)
       clear hst4 hn4
       go_upto_region 11 with fail
       go_loopw [12] (fun i wr => ∃ (k : Nat) (V : List Recs) (p3 : Option Addr) (m3 : Nat) (vs : List Value), k ≤ nd.ents.length ∧ i = .int .i64 k ∧ V.length = k ∧ RdS w d base nd q2 c2 ab V p3 m3 vs wr ∧ Blk wr nb (.cells #[.int .i64 nd.level, .int .i64 nd.next, .slice q2 nd.ents.length c2] 26) ∧ rdGo M d.interval nd.ents [] = rdGo M d.interval (nd.ents.drop k) V) (fun i _ => nd.ents.length - (intOf i).toNat)
       case atStart => exact ⟨0, [], none, 0, [], Nat.zero_le _, rfl, rfl, Hst5.out.1, Hst5.out.2, by rw [List.drop_zero]⟩
       case round =>
         obtain ⟨k, V, p3, m3, vs, hk, rfl, hVl, hst, hnw, hrd⟩ := hrel
         have Hst := Lib.hid hst
         have Hrd := Lib.hid hrd
         have HVl := Lib.hid hVl
         have Hnw := Lib.hid hnw
         have n2 := Blk.val hnw 2 (.slice q2 nd.ents.length c2) rfl
         have ln := Blk.lt hnw
         clear hnw
         by_cases hlt : k < nd.ents.length
         · have hltI : (k : Int) < nd.ents.length := by omega
           obtain ⟨gi, oi, hq, hgi, hic⟩ := (own_cellsND hst.ents).at k hlt
           subst hq
           obtain ⟨ic0, ic1⟩ := hic k hlt
           have Hpe := Lib.hid (fun (h9 : (pageOf M (entAt nd.ents k).2).2 ≠ 0) => rdGo_page (size := d.interval) (V := V) hlt h9)
           have Hno := Lib.hid (fun (h9 : (pageOf M (entAt nd.ents k).2).2 = 0) hn => rdGo_none (size := d.interval) (V := V) hlt h9 hn)
           have Hso := Lib.hid (fun (h9 : (pageOf M (entAt nd.ents k).2).2 = 0) (L : Recs) hL => rdGo_some (size := d.interval) (V := V) (L := L) hlt h9 hL)
           generalize (entAt nd.ents k).1 = bs at *
           generalize (entAt nd.ents k).2 = pg at *
           have Hlt := Lib.hid hlt
           have hz6 := hst.res
           have k7 := Blk.val hst.ds 7 (.int .i64 d.interval) rfl
           have l7 := Blk.lt hst.ds
           have ha6 := hst.ar
           have k4 : wr.cell? ⟨ab, 4, none⟩ = some (.slice p3 V.length m3) := Blk.val ha6 4 _ rfl
           have Hp6 := Lib.hid (Hpg.out pg wr (Hs.out.ext hst.ext))
           clear hic hst hrd hVl
           have Hst6 := Hst
           clear Hst
           by_cases hpe2 : (pageOf M pg).2 = 0
           case' neg =>
             have hei2 : ((pageOf M pg).2 != 0) = true := by simpa using hpe2
             have HO := Lib.hid (fun e w' => HZ2.out e w' (pageOf M pg).2 (by rw [HRD.out, Hrd.out, Hpe.out hpe2, if_pos hpe2]))
             clear hpe2
             generalize (pageOf M pg).2 = pe at *
             generalize (pageOf M pg).1 = ps2 at *
             go_wp2_with (first
               | (go_at_call 34; refine Hp6.out.mono ?_; rintro e w7 ⟨rfl, rfl⟩)
               | (refine wpList_bld (o := ⟨some 78, _, _, _, _, _⟩) rfl 29 #[] rfl [] rfl _ arZ_built ?_)
               | (refine wpList_put rfl 29 (.tmp 6) (.tmp 78) rfl _ arZ rfl rfl _ _ hz6 arSize rfl (by simp [arZ, Value.oneCell']) ?_; intro w8 hz8 hc8))
             exact bodyPost_ret (results_row1 Tryz.results9 _ _ _ _ _ _ rfl hz8 arDesc rfl arSize) rfl (HO.out _ _ (hc8.ext Hst6.out.ext (by omega)) rfl)
           rw [hpe2] at Hp6
           have HDc := Lib.hid (Decode_ref d.interval (pageOf M pg).1 (Hps.out pg))
           by_cases hE : ∃ L, Enc d.interval L (pageOf M pg).1
           · obtain ⟨L, hL⟩ := hE
             have HDs : Hid (∀ W, Calls Tryz.prog 37 #[.int .i64 d.interval, .string ⟨(pageOf M pg).1.toArray⟩] W fun e w' => Ext W w' ∧ ∃ q c, e = .returned (.tuple #[.slice q L.length c, .int .i64 0]) ∧ Small L ∧ w'.ownsRow W.heap.size 9 1 (.slice q L.length c) L.length (L.map fun s => .string ⟨s.toArray⟩)) := Lib.hid (fun W => (HDc.out W).mono (by
               rintro e w' ⟨h1, ⟨q, c, L2, h2, _, h3, h4, _, _, h5⟩ | ⟨_, h2⟩⟩
               · have e2 : L2 = L := by have := (decOf_some h4).symm.trans (decOf_some hL); exact Option.some.inj this
                 subst e2
                 exact ⟨h1, q, c, h2, h3, h5⟩
               · exact absurd hL (h2 L)))
             have HRn := Lib.hid (Hso.out hpe2 L hL)
             clear hpe2 hL HDc Hpe Hno Hso
             generalize (pageOf M pg).1 = ps2 at *
             go_upto_region 19 with (first
               | (go_at_call 34; refine Hp6.out.mono ?_; rintro e w7 ⟨rfl, rfl⟩)
               | (go_at_call 37; refine (HDs.out _).mono ?_; rintro e w8 ⟨he8, q8, c8, rfl, hsm8, ho8⟩))
             have he8n := he8
             have hst8 := Hst6.out.more he8
             have hnew : ∀ i g, i < V.length → (vs.getD i undef).ownBlock = some g → (Value.slice q8 L.length c8).ownBlock ≠ some g := fun i g hi hg hg2 => by
               have h1 := own_block (Hst6.out.own.own i hi) hg
               have h2 := own_block ho8 hg2
               omega
             have hVm : V.length ≤ 1000000 := by have := HVl.out; have := Hlt.out; omega
             have Hst8 := Lib.hid hst8
             have Ho8 := Lib.hid (And.intro hsm8 (And.intro (own_le ho8 Hst6.out.ext.size) hnew))
             have k48 : w8.cell? ⟨ab, 4, none⟩ = some (.slice p3 V.length m3) := Blk.val hst8.ar 4 _ rfl
             have l48 := Blk.lt hst8.ar
             have hm8 := World.ownsRow_made (base := w.heap.size) (e := 30) (size := 1) w8 #[] 0 hst8.ext.size (by simp) rfl
             have Hm8 := Lib.hid hm8
             have hx8s := hst8.ext.size
             clear hst8 he8 hsm8 ho8 hnew hz6 k7 l7 ha6 k4 ic0 ic1 hgi n2 ln hm8
             go_upto_region 12 with (first
               | (at_builtin; refine wpList_appR (o := ⟨some 93, _, _, _, _, _⟩) rfl (.tmp 90) (.tmp 92) rfl w.heap.size _ 0 [] rfl Hm8.out p3 V.length m3 vs rfl (by have := Hst8.out.own.len; exact this) ((own_cellsK Hst8.out.rows).1.ext (Ext.alloc w8 _)) Hst8.out.own.one (by omega) (by simp; omega) ?_; intro v9 w9 ho9 hg9; have r9 := rty_app (T := 30) hg9 Hm8.out (by simp; omega); rw [Nat.zero_add, List.nil_append] at ho9; obtain ⟨q9, c9, rfl⟩ := own_slice ho9; have Ho9 := Lib.hid ho9; have Hr9 := Lib.hid r9; have hz9 := r9.1.size; clear ho9 hg9 r9)
               | (at_builtin; refine wpList_app (o := ⟨some 96, _, _, _, _, _⟩) rfl (.tmp 93) (.tmp 95) 27 30 rfl w.heap.size (.slice none 0 0) 1 24 Tryz.underlying27 infoRowA rfl (by decide) _ V.length _ rfl (own_ext Ho9.out (Ext.alloc w9 _)) _ [.slice q8 L.length c8] rfl (Blk.new w9 _) rfl (by intro u hu; simp at hu; subst hu; rfl) (by omega) (by decide) (by simp at hz9 ⊢; omega) ?_; intro v10 w10 ho10 hg10; have r10 := rty_app (T := 30) hg10 (own_ext Ho9.out (Ext.alloc w9 _)) (by simp at hz9 ⊢; omega); obtain ⟨q10, c10, rfl⟩ := own_slice ho10; have ha10 := r10.2 _ _ _ (by decide) ((Ext.alloc w9 (.cells #[.slice q8 L.length c8] 30)).blk _ _ (Hr9.out.2 _ _ _ (by decide) ((Ext.alloc w8 (.cells #[] 30)).blk _ _ Hst8.out.ar))); have k49 : w10.cell? ⟨ab, 4, none⟩ = some (.slice p3 V.length m3) := Blk.val ha10 4 _ rfl; have f49 := Blk.free ha10 4; have l49 := Blk.lt ha10; have Ho10 := Lib.hid ho10; have Hr10 := Lib.hid r10; have Ha10 := Lib.hid ha10; clear ho10 hg10 r10 ha10))
             have hcS := Chg.setCell (w := w10) (g := ab) (i := 4) (v := .slice q10 (V.length + 1) c10)
             have h4 := Blk.setCell (i := 4) (v := .slice q10 (V.length + 1) c10) Ha10.out
             have e4 : (arC ⟨base, nd, V⟩ (some ⟨gi, oi, none⟩) c2 p3 m3).setIfInBounds 4 (.slice q10 (V.length + 1) c10) = arC ⟨base, nd, V ++ [L]⟩ (some ⟨gi, oi, none⟩) c2 q10 c10 := by unfold arC; simp
             rw [e4] at h4
             have hxA := Ext.alloc w8 (.cells #[] 30)
             have hxB := Ext.alloc w9 (.cells #[.slice q8 L.length c8] 30)
             have hab := Hst8.out.abg
             have hE10 := Ext.trans' ((Ext.trans' (Hst8.out.ext.trans hxA) Hr9.out.1).trans hxB) Hr10.out.1
             have hT10 : ∀ b cs t, t ≠ 30 → Blk w8 b (.cells cs t) → Blk w10 b (.cells cs t) := fun b cs t hne h => Hr10.out.2 _ _ _ hne (hxB.blk _ _ (Hr9.out.2 _ _ _ hne (hxA.blk _ _ h)))
             have hnw := hT10 _ _ _ (by decide) (he8n.blk _ _ Hnw.out)
             have hnS : RdS w d base nd (some ⟨gi, oi, none⟩) c2 ab (V ++ [L]) q10 c10 (vs ++ [.slice q8 L.length c8]) (w10.setCell ⟨ab, 4, none⟩ (.slice q10 (V.length + 1) c10)) := by
               refine ⟨hcS.ext hE10 (by omega), hcS.blk (hT10 _ _ _ (by decide) Hst8.out.ds) (by omega), hcS.blk (hT10 _ _ _ (by decide) Hst8.out.res) (by omega), h4, hab, own_chgT (own_rty (own_ext (own_rty (own_ext Hst8.out.ents hxA) (by decide) Hr9.out) hxB) (by decide) Hr10.out) (by decide) Ha10.out hcS, ?_, (((((OwnRows.snoc Hst8.out.own Ho8.out.2.1 Ho8.out.2.2).ext hxA).rty (by decide) Hr9.out).ext hxB).rty (by decide) Hr10.out).chgT Ha10.out (by decide) hcS, fun X hX => ?_⟩
               · have := own_chgT Ho10.out (by decide) Ha10.out hcS
                 rw [List.length_append]
                 exact this
               · rcases List.mem_append.1 hX with h | h
                 · exact Hst8.out.sm X h
                 · obtain rfl := List.mem_singleton.1 h
                   exact Ho8.out.1
             have HnS := Lib.hid (And.intro hnS (hcS.blk hnw (ndBlk hnw Ha10.out (by decide))))
             clear hcS h4 e4 hxA hxB hab hE10 hT10 hnw hnS k48 l48 k49 f49 l49
             have hlt2 := Hlt.out
             go_wp2_with fail
             have hvl2 := HVl.out
             refine ⟨⟨k + 1, V ++ [L], q10, c10, vs ++ [.slice q8 L.length c8], by omega, by go_num, by rw [List.length_append, hvl2]; rfl, HnS.out.1, HnS.out.2, by rw [Hrd.out, HRn.out]⟩, by simp [intOf]; omega⟩
           · have hnE : ∀ L, ¬ Enc d.interval L (pageOf M pg).1 := fun L hL => hE ⟨L, hL⟩
             have HDs : Hid (∀ W, Calls Tryz.prog 37 #[.int .i64 d.interval, .string ⟨(pageOf M pg).1.toArray⟩] W fun e w' => Ext W w' ∧ e = .returned (.tuple #[.slice none 0 0, .int .i64 (decErr d.interval (pageOf M pg).1)])) := Lib.hid (fun W => (HDc.out W).mono (by
               rintro e w' ⟨h1, ⟨q, c, L2, h2, _, h3, h4, _⟩ | ⟨h2, _⟩⟩
               · exact absurd h4 (hnE L2)
               · exact ⟨h1, h2⟩))
             have HO := Lib.hid (fun e w' => HZ2.out e w' 11 (by rw [HRD.out, Hrd.out, Hno.out hpe2 hnE, if_pos (by simp)]))
             have hei3 : (decErr d.interval (pageOf M pg).1 != 0) = true := by simpa using decErr_ne d.interval (pageOf M pg).1
             clear hpe2 hE hnE HDc Hpe Hno Hso
             generalize decErr d.interval (pageOf M pg).1 = de at *
             generalize (pageOf M pg).1 = ps2 at *
             go_wp2_with (first
               | (go_at_call 34; refine Hp6.out.mono ?_; rintro e w7 ⟨rfl, rfl⟩)
               | (go_at_call 37; refine (HDs.out _).mono ?_; rintro e w8 ⟨he8, rfl⟩; have hz8 := he8.blk _ _ hz6)
               | (refine wpList_bld (o := ⟨some 89, _, _, _, _, _⟩) rfl 29 #[] rfl [] rfl _ arZ_built ?_)
               | (refine wpList_put rfl 29 (.tmp 6) (.tmp 89) rfl _ arZ rfl rfl _ _ hz8 arSize rfl (by simp [arZ, Value.oneCell']) ?_; intro w9 hz9 hc9))
             exact bodyPost_ret (results_row1 Tryz.results9 _ _ _ _ _ _ rfl hz9 arDesc rfl arSize) rfl (HO.out _ _ (hc9.ext (Hst6.out.ext.trans he8) (by omega)) rfl)
         · have hke : k = nd.ents.length := by omega
           have hge : decide ((k : Int) < (nd.ents.length : Int)) = false := decide_eq_false (by omega)
           have hfin : rdGo M d.interval nd.ents [] = (V, 0) := by rw [hrd, hke]; exact rdGo_end
           have hVm : V.length ≤ 1000000 := by omega
           have hRD2 : RD = if areaB d ⟨base, nd, V⟩ = false then (Ar.zero, 11) else (⟨base, nd, V⟩, 0) := by rw [HRD.out, hfin, if_neg (by simp)]
           have HVa := Lib.hid (fun W (e : Ext wr W) => ValidAR_anyW d ⟨base, nd, V⟩ q2 c2 p3 m3 W (hst.arv.x.ext e) hndl hVm (fun i => by
             by_cases hi : i < V.length
             · have e9 : V.getD i [] = V[i] := by simp [List.getD, hi]
               rw [e9]; exact hst.sm _ (List.getElem_mem hi)
             · have e9 : V.getD i [] = [] := by simp [List.getD, List.getElem?_eq_none (Nat.le_of_not_lt hi)]
               rw [e9]; exact ⟨by simp, by simp⟩))
           have hdw := hst.ds
           have haw := hst.ar
           have hzw := hst.res
           clear hst hrd hke hVl hk
           cases hA : areaB d ⟨base, nd, V⟩
           · rw [hA] at HVa
             have HO := Lib.hid (fun e w' => HZ2.out e w' 11 (by rw [hRD2, hA, if_pos rfl]))
             clear hA hRD2
             go_wp2_with (first
               | ((with_reducible (show wpList _ _ _ (⟨some 98, _, _, _, _, _⟩ :: _) _ _)); refine wpList_ds (o := ⟨some 98, _, _, _, _, _⟩) rfl (.tmp 4) rfl _ rfl d hdw ?_)
               | ((with_reducible (show wpList _ _ _ (⟨some 99, _, _, _, _, _⟩ :: _) _ _)); refine wpList_row (o := ⟨some 99, _, _, _, _, _⟩) rfl 29 (.tmp 11) rfl _ rfl _ _ _ haw arDesc rfl arSize ?_)
               | (go_at_call 11; refine (HVa.out _ (Ext.refl _)).mono ?_; rintro e w5 ⟨rfl, he5⟩; have hz5 := he5.blk _ _ hzw)
               | (refine wpList_bld (o := ⟨some 102, _, _, _, _, _⟩) rfl 29 #[] rfl [] rfl _ arZ_built ?_)
               | (refine wpList_put rfl 29 (.tmp 6) (.tmp 102) rfl _ arZ rfl rfl _ _ hz5 arSize rfl (by simp [arZ, Value.oneCell']) ?_; intro w6 hz6 hc6))
             exact bodyPost_ret (results_row1 Tryz.results9 _ _ _ _ _ _ rfl hz6 arDesc rfl arSize) rfl (HO.out _ _ (hc6.ext (Hst.out.ext.trans he5) (by omega)) rfl)
           · rw [hA] at HVa
             rw [hA, if_neg (by simp)] at hRD2
             have HR2 := Lib.hid hRD2
             clear hA hRD2
             go_wp2_with (first
               | ((with_reducible (show wpList _ _ _ (⟨some 98, _, _, _, _, _⟩ :: _) _ _)); refine wpList_ds (o := ⟨some 98, _, _, _, _, _⟩) rfl (.tmp 4) rfl _ rfl d hdw ?_)
               | ((with_reducible (show wpList _ _ _ (⟨some 99, _, _, _, _, _⟩ :: _) _ _)); refine wpList_row (o := ⟨some 99, _, _, _, _, _⟩) rfl 29 (.tmp 11) rfl _ rfl _ _ _ haw arDesc rfl arSize ?_)
               | (go_at_call 11; refine (HVa.out _ (Ext.refl _)).mono ?_; rintro e w5 ⟨rfl, he5⟩; have hz5 := he5.blk _ _ hzw; have ha5 := haw.ext he5)
               | ((with_reducible (show wpList _ _ _ (⟨some 103, _, _, _, _, _⟩ :: _) _ _)); refine wpList_row (o := ⟨some 103, _, _, _, _, _⟩) rfl 29 (.tmp 11) rfl _ rfl _ _ _ ha5 arDesc rfl arSize ?_)
               | (refine wpList_put rfl 29 (.tmp 6) (.tmp 103) rfl _ (arC ⟨base, nd, V⟩ q2 c2 p3 m3) rfl rfl _ _ hz5 arSize rfl (ar_one _ _ _ _ _) ?_; intro w6 hz6 hc6))
             refine bodyPost_ret (results_row1 Tryz.results9 _ _ _ _ _ _ rfl hz6 arDesc rfl arSize) rfl ?_
             rw [← HOU.out, HR2.out]
             exact ⟨hc6.ext (Hst.out.ext.trans he5) (by omega), q2, c2, p3, m3, rfl, (Hst.out.more he5).arv.chgA hz5 (by decide) (by decide) (by decide) hc6⟩
end Go.Proofs.YtifmbcjbccedfaaGreatDoor
