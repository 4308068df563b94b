/- A part of the proof. -/
import Derived.Test.YtifmbcjbccedfaaGreatDoorAW0
import Derived.Deep.RegionWith
set_option linter.unusedSimpArgs false
set_option linter.unusedVariables false
namespace Dsd
theorem entCells_app (A B : List Ent) : entCells (A ++ B) = entCells A ++ entCells B := by unfold entCells; rw [List.flatMap_append]
theorem entCells_erase (L : List Ent) (i : Nat) : (entCells L).take (i * 2) ++ (entCells L).drop ((i + 1) * 2) = entCells (L.eraseIdx i) := by
 rw [List.eraseIdx_eq_take_drop_succ, entCells_app, entCells_take, entCells_drop]
end Dsd
namespace Go.Proofs.YtifmbcjbccedfaaGreatDoor
open Go.RowKit Dsd
theorem erase_get {α : Type} (V : List α) (i j : Nat) (z : α) : (V.eraseIdx i).getD j z = if j < i then V.getD j z else V.getD (j + 1) z := by
 rw [List.getD, List.getElem?_eraseIdx]
 split <;> rfl
theorem rows_erase {w : World} {vs : List Value} {V : List Recs} {i : Nat} (h : ∀ j, j < V.length → j ≠ i → RowV w (vs.getD j undef) (V.getD j [])) (hl : vs.length = V.length) (hi : i < V.length) : RowsV w (vs.eraseIdx i) (V.eraseIdx i) := by
 have e1 : (V.eraseIdx i).length = V.length - 1 := by rw [List.length_eraseIdx_of_lt hi]
 refine ⟨by rw [e1, List.length_eraseIdx_of_lt (by omega), hl], fun j hj => ?_⟩
 rw [e1] at hj
 rw [erase_get, erase_get]
 by_cases h1 : j < i
 · rw [if_pos h1, if_pos h1]; exact h j (by omega) (by omega)
 · rw [if_neg h1, if_neg h1]; exact h (j + 1) (by omega) (by omega)
theorem own_grownT {w w' : World} {B B2 : Nat} {e e2 : TypeId} {k k2 n n2 : Nat} {v v2 : Value} {xs xs2 : List Value} (h : w.ownsRow B e k v n xs) (h2 : w.ownsRow B2 e2 k2 v2 n2 xs2) (hne : e ≠ e2) (hg : w.grownBy w' v2.ownBlock) : w'.ownsRow B e k v n xs :=
 own_grown h hg fun g hv he => by
   obtain ⟨c, hc⟩ := own_typed h hv
   exact typed_ne h2 hc (fun e => hne e.symm) he
def EraseOut (d : DS) (a : Ar) (k : List UInt8) (w : World) (e : Ending) (w' : World) : Prop := Ext w w' ∧
 if hitL d k (a.ivs.getD (findNd a.nd.ents k) []) = true then ∃ (a' : Ar) (q : Option Addr) (c : Nat) (p : Option Addr) (m : Nat), e = .returned (.tuple #[.agg (arC a' q c p m), .int .i64 0]) ∧ ArV w' a' q c p m ∧ AInv d a' ∧ a'.base = a.base ∧ a'.nd.next = a.nd.next ∧ recsOf a' = delL d k (recsOf a)
 else e = .returned (.tuple #[.agg arZ, .int .i64 6])
set_option maxRecDepth 100000 in
set_option maxHeartbeats 4000000 in
theorem EraseA_any (d : DS) (a : Ar) (q : Option Addr) (c : Nat) (p : Option Addr) (m : Nat) (k : List UInt8) (w : World) (I : AInv d a) (hv : ArV w a q c p m) :
   Calls Tryz.prog 48 #[.agg #[.int .i64 d.id, .int .i64 d.org, .int .i64 d.format, .int .i64 d.length, .int .i64 d.block, .int .i64 d.keyAt, .int .i64 d.keyLength, .int .i64 d.interval, .int .i64 d.area, .int .i64 d.freeInterval, .int .i64 d.freeArea, .int .i64 d.base, .int .i64 d.altAt, .int .i64 d.altLength, .bool d.unique, .int .i64 d.cls, .string ⟨d.volume.toArray⟩, .string ⟨d.owner.toArray⟩, .int .i64 d.created, .int .i64 d.expires, .bool d.archived], .agg (arC a q c p m), .string ⟨k.toArray⟩] w (EraseOut d a k w) := by
 have HV := Lib.hid (fun W (e : Ext w W) => ValidA_any d a q c p m W I.spec (hv.ext e))
 have Hv := Lib.hid hv
 have HI := Lib.hid I
 have hda := ds_ar w d a q c p m
 have hex3 := Ext.alloc ((w.alloc (.cells #[.int .i64 d.id, .int .i64 d.org, .int .i64 d.format, .int .i64 d.length, .int .i64 d.block, .int .i64 d.keyAt, .int .i64 d.keyLength, .int .i64 d.interval, .int .i64 d.area, .int .i64 d.freeInterval, .int .i64 d.freeArea, .int .i64 d.base, .int .i64 d.altAt, .int .i64 d.altLength, .bool d.unique, .int .i64 d.cls, .string ⟨d.volume.toArray⟩, .string ⟨d.owner.toArray⟩, .int .i64 d.created, .int .i64 d.expires, .bool d.archived] 23)).alloc (.cells (arC a q c p m) 29)) (.cells arZ 29)
 obtain ⟨n1, n2, n3, n4, n5⟩ := inv_small I.spec
 have HC := Lib.hid (fun W (e : Ext w W) => CloneA_any a q c p m W (hv.ext e) n3 n4 (by omega) (by omega) n5)
 have hat := (I.spec.at k).lt
 have HPl := Lib.hid (fun q1 c1 q3 c3 W (e : ArV W a q1 c1 q3 c3) => place_any d a q1 c1 q3 c3 k W I.spec e)
 obtain ⟨f1, f2, f3, f4⟩ := I.spec.iv hat
 have Hhit := Lib.hid (delL_hit (d := d) (k := k) (L := a.ivs.getD (findNd a.nd.ents k) []))
 have HDK := Lib.hid (fun hn h => del_keep I (k := k) rfl h hn)
 have HDG := Lib.hid (fun h0 h h1 => del_gone I (k := k) rfl h h0 h1)
 have hLs := (fits_small f1).1
 have Hout : Hid (∀ e w', EraseOut d a k w e w' ↔ (Ext w w' ∧ if hitL d k (a.ivs.getD (findNd a.nd.ents k) []) = true then ∃ (a' : Ar) (q : Option Addr) (c : Nat) (p : Option Addr) (m : Nat), e = .returned (.tuple #[.agg (arC a' q c p m), .int .i64 0]) ∧ ArV w' a' q c p m ∧ AInv d a' ∧ a'.base = a.base ∧ a'.nd.next = a.nd.next ∧ recsOf a' = delL d k (recsOf a) else e = .returned (.tuple #[.agg arZ, .int .i64 6]))) := Lib.hid (fun _ _ => Iff.rfl)
 clear f1 f2 f3 f4 n5 I hv
 generalize EraseOut d a k w = OUT at *
 generalize findNd a.nd.ents k = i at *
 generalize hli : a.ivs.getD i [] = L at *
 go_enter Tryz.func48, Tryz.ntmps48
 go_upto_region 1 with (fail)
 refine wp_name (fun w0 => Ext w w0 ∧ DsAt w0 w.heap.size d ∧ ArAt w0 (w.heap.size + 1) a q c p m ∧ Blk w0 (w.heap.size + 1 + 1) (.cells arZ 29)) ⟨hda.1.trans hex3, hda.2.1.ext hex3, hda.2.2.ext hex3, Blk.new1 _ _ _ (by simp)⟩ ?_
 clear hda hex3
 rintro w0 ⟨he0, hd0, ha0, hz0⟩
 go_upto_region 4 with (first
   | (refine wpList_ds (o := ⟨some 12, _, _, _, _, _⟩) rfl (.tmp 3) rfl _ rfl d hd0 ?_)
   | (refine wpList_row (o := ⟨some 13, _, _, _, _, _⟩) rfl 29 (.tmp 4) rfl _ rfl _ _ _ ha0 arDesc rfl arSize ?_)
   | (go_at_call 10; refine (HV.out _ he0).mono ?_; rintro e w1 ⟨rfl, he1⟩; have hd1 := hd0.ext he1; have hz1 := he1.blk _ _ hz0; have ha1 := ha0.ext he1)
   | (refine wpList_row (o := ⟨some 17, _, _, _, _, _⟩) rfl 29 (.tmp 4) rfl _ rfl _ _ _ ha1 arDesc rfl arSize ?_)
   | (go_at_call 57; refine (HC.out _ (he0.trans he1)).mono ?_; rintro e w3 ⟨he3, q1, c1, q3, c3, vs, rfl, hoE, hoV, hrows⟩)
   | (refine wpList_put rfl 29 (.tmp 8) (.tmp 18) rfl _ (arC a q1 c1 q3 c3) rfl rfl _ _ (Blk.new w3 _) arSize rfl (ar_one a q1 c1 q3 c3) ?_; intro w4 hx4 hc4))
 have Hx3 := Lib.hid ((he0.trans he1).trans he3)
 have sz2 := (he0.trans he1).size
 have sz3 := he3.size
 have hb3 := Blk.lt (he3.blk _ _ hz1)
 have hz3 := he3.blk _ _ hz1
 have hxe := Ext.alloc w3 (.cells arZ 29)
 have hE4 : Ext w3 w4 := hc4.ext hxe (Nat.le_refl _)
 have hst : PutSt w d a q c p m q1 c1 q3 c3 w3.heap.size vs w4 := ⟨Hx3.out.trans hE4, (hd1.ext he3).ext hE4, (ha1.ext he3).ext hE4, hE4.blk _ _ hz3, hx4, by omega, own_ext (own_le hoE sz2) hE4, own_ext (own_le hoV sz2) hE4⟩
 have hrw : OwnRows w4 w.heap.size vs a.ivs := ⟨hrows.len, fun i hi => own_ext (own_le (hrows.own i hi) sz2) hE4, hrows.apart⟩
 have hav : ArV w4 a q1 c1 q3 c3 := ArV.of_clone hst.ents hst.rows hrw
 have HSt := Lib.hid hst
 have HRw := Lib.hid hrw
 have HAv := Lib.hid hav
 clear hst hrw hav hx4 hc4 hxe hE4 hz3 hoE hoV hrows hd1 hz1 ha1 he1 he3 hd0 ha0 hz0 he0 hb3 sz2 sz3
 generalize w3.heap.size = xb at *
 have hpos := posL_le d k L
 generalize posL d k L = pos at *
 cases hh : hitL d k L
 · rw [hh] at HPl
   have HH := Lib.hid hh
   clear hh
   go_wp2_with (first
     | (refine wpList_ds (o := ⟨some 20, _, _, _, _, _⟩) rfl (.tmp 3) rfl _ rfl d HSt.out.ds ?_)
     | (refine wpList_row (o := ⟨some 21, _, _, _, _, _⟩) rfl 29 (.tmp 8) rfl _ rfl _ _ _ HSt.out.x arDesc rfl arSize ?_)
     | (go_at_call 58; refine (HPl.out q1 c1 q3 c3 _ HAv.out).mono ?_; rintro e w5 ⟨rfl, he5⟩)
     | (refine wpList_bld (o := ⟨some 29, _, _, _, _, _⟩) rfl 29 #[] rfl [] rfl _ arZ_built ?_)
     | (refine wpList_put rfl 29 (.tmp 6) (.tmp 29) rfl _ arZ rfl rfl _ _ (he5.blk _ _ HSt.out.res) arSize rfl (by simp [arZ, Value.oneCell']) ?_; intro w6 hz6 hc6))
   exact bodyPost_ret (results_row1 Tryz.results48 _ _ _ _ _ _ rfl hz6 arDesc rfl arSize) rfl ((Hout.out _ _).2 ⟨hc6.ext (HSt.out.ext.trans he5) (by omega), by rw [if_neg (by rw [HH.out]; simp)]; rfl⟩)
 · rw [hh] at HPl
   obtain ⟨hp1, hp2, hp3⟩ := Hhit.out hh
   have HH := Lib.hid hh
   have Hp3 := Lib.hid hp3
   clear hh Hhit hp3
   go_upto_region 7 with (first
     | (refine wpList_ds (o := ⟨some 20, _, _, _, _, _⟩) rfl (.tmp 3) rfl _ rfl d HSt.out.ds ?_)
     | (refine wpList_row (o := ⟨some 21, _, _, _, _, _⟩) rfl 29 (.tmp 8) rfl _ rfl _ _ _ HSt.out.x arDesc rfl arSize ?_)
     | (go_at_call 58; refine (HPl.out q1 c1 q3 c3 _ HAv.out).mono ?_; rintro e w5 ⟨rfl, he5⟩))
   have HSt5 := Lib.hid (HSt.out.more he5)
   have HRw5 := Lib.hid (HRw.out.ext he5)
   clear HSt HRw HAv HC HPl HV he5
   have hln : (delL d k L).length = L.length - 1 := by rw [hp2, List.length_append, List.length_take, List.length_drop]; omega
   have hmp : (delL d k L).map (fun s : List UInt8 => Value.string ⟨s.toArray⟩) = (L.map fun s : List UInt8 => Value.string ⟨s.toArray⟩).take (pos * 1) ++ (L.map fun s : List UInt8 => Value.string ⟨s.toArray⟩).drop ((pos + 1) * 1) := by
     rw [hp2, Nat.mul_one, Nat.mul_one, List.map_append, List.map_take, List.map_drop]
   have Hln := Lib.hid hln
   have Hmp := Lib.hid hmp
   clear hln hmp hp2
   go_cut [] (fun wx => ∃ q5 c5, PutSt w d a q c p m q1 c1 q3 c3 xb (vs.set i (.slice q5 (delL d k L).length c5)) wx ∧ wx.ownsRow w.heap.size 9 1 (.slice q5 (delL d k L).length c5) (delL d k L).length ((delL d k L).map fun s => .string ⟨s.toArray⟩) ∧ Others wx w.heap.size vs a.ivs i)
   case first =>
     obtain ⟨g, rfl, hg0, hgl, hgf, hgc, _⟩ := own_set HSt5.out.rows i hat
     have hoi := HRw5.out.own i hat
     rw [hli] at hoi
     obtain ⟨qi, ci, hvi⟩ := own_slice hoi
     rw [hvi] at hgc hoi
     obtain ⟨_, _, _, _, x4, lx⟩ := HSt5.out.x.cells
     have hiI : (i : Int) < (a.ivs.length : Int) := by omega
     have HOi := Lib.hid hoi
     have HD := Lib.hid (fun W (e : Ext w5 W) => DeleteS_any qi ci L.length pos (L.map fun s : List UInt8 => Value.string ⟨s.toArray⟩) w.heap.size W (own_ext HOi.out e) (strs_one L) hp1 (by omega))
     have hwp : IntKind.i64.wrap ((pos : Int) + 1) = (pos : Int) + 1 := IntWalk.i64_in _ (by omega)
     clear hoi
     go_region_with (go_at_call 87; refine (HD.out _ (by first | exact Ext.drew _ | exact Ext.refl _)).mono ?_; rintro e wd ⟨vd, rfl, hod, hgd⟩; obtain ⟨qd, cd, rfl⟩ := own_slice hod; have hstd := (HSt5.out.more (Ext.drew _)).grown (own_ext HOi.out (Ext.drew _)) hgd; obtain ⟨_, _, _, _, xd, ld⟩ := hstd.x.cells; obtain ⟨gd, hqd, _, hld, hfd, hcd, _⟩ := own_set hstd.rows i hat; simp only [Option.some.injEq, Addr.mk.injEq, and_true] at hqd; subst hqd)
     all_goals
       go_wp2_with fail
       go_meet
       obtain ⟨g2, cu, hq, _, hbg, _⟩ := own_parts hstd.rows (by omega)
       simp only [Option.some.injEq, Addr.mk.injEq, and_true] at hq
       subst hq
       have hch : Chg g wd (wd.setCell ⟨g, i, none⟩ (.slice qd (L.length - 1) cd)) := Chg.setCell
       refine ⟨qd, cd, ?_, ?_, ?_⟩
       · rw [Hln.out]
         exact hstd.store hat _
       · rw [Hln.out, Hmp.out]
         exact own_chgT hod (by decide) hbg hch
       · exact Others.chgT ((HRw5.out.ext (Ext.drew _)).others hat (by rw [hvi]; exact hgd)) hbg (by decide) hch
   case rest =>
     obtain ⟨q5, c5, hst, hov, hoth⟩ := hcut
     obtain ⟨w6, hw6⟩ : ∃ w6, w6 = wc := ⟨_, rfl⟩
     rw [← hw6] at hst hov hoth ⊢
     have hvl : vs.length = a.ivs.length := HRw5.out.len
     clear hw6 HSt5 HRw5 Hmp hpos hp1
     obtain ⟨g, rfl, hg0, hgl, hgf, hgc, _⟩ := own_set hst.rows i hat
     rw [getD_set_same (by omega)] at hgc
     obtain ⟨_, _, _, x3, x4, lx⟩ := hst.x.cells
     have hiI : (i : Int) < (a.ivs.length : Int) := by omega
     have HSt := Lib.hid hst
     have HOv := Lib.hid hov
     have HOt := Lib.hid hoth
     clear hst hov hoth
     have Hp := Lib.hid (show (delL d k L).length = 0 → delL d k L = [] from List.eq_nil_of_length_eq_zero)
     generalize hdl : delL d k L = l at *
     have HDl := Lib.hid hdl
     clear hdl
     by_cases hkeep : l.length = 0 ∧ 1 < a.ivs.length
     · have l0 : ((l.length : Int) == 0) = true := by rw [hkeep.1]; rfl
       have l1 : decide (1 < (a.ivs.length : Int)) = true := decide_eq_true (by omega)
       have HGo := Lib.hid (HDG.out (Hp.out hkeep.1) Hp3.out hkeep.2)
       have hn2 : 2 ≤ a.ivs.length := hkeep.2
       have HX1 : Hid (∀ u ∈ vs.set i (.slice q5 l.length c5), u.oneCell' = true) := Lib.hid (by
         intro u hu
         obtain ⟨j, hj, rfl⟩ := List.mem_iff_getElem.1 hu
         rw [List.length_set] at hj
         by_cases hji : j = i
         · subst hji; simp [Value.oneCell']
         · rw [List.getElem_set_ne (fun e => hji e.symm)]
           obtain ⟨qj, cj, hvj⟩ := own_slice (HOt.out j (by omega) hji)
           have e : vs.getD j undef = vs[j] := by simp [List.getD, hj]
           rw [e] at hvj
           rw [hvj]; rfl)
       have HDR := Lib.hid (DeleteR_any (some ⟨g, 0, none⟩) c3 a.ivs.length i (vs.set i (.slice q5 l.length c5)) w.heap.size w6 HSt.out.rows HX1.out hat (by omega))
       clear HX1 hkeep HDK HDG
       go_upto_region 10 with (go_at_call 88; refine HDR.out.mono ?_; rintro e w7 ⟨v7, rfl, ho7, hg7⟩; obtain ⟨q7, c7, rfl⟩ := own_slice ho7; have hx7 := Blk.grown HSt.out.x hg7 (typed_ne HSt.out.rows HSt.out.x (by decide)); have hf7 := Blk.free hx7 4; have k7 := Blk.val hx7 4 _ rfl; have l7 := Blk.lt hx7)
       have hE7 : Ext w w7 := Ext.trans' HSt.out.ext (Below.of_grown hg7 HSt.out.rows (Nat.le_refl _) HSt.out.ext.size)
       have hz7 := Blk.grown HSt.out.res hg7 (typed_ne HSt.out.rows HSt.out.res (by decide))
       have hen7 := own_grownT HSt.out.ents HSt.out.rows (by decide) hg7
       have hot7 : Others w7 w.heap.size vs a.ivs i := fun j hj hji => own_grownT (HOt.out j hj hji) HSt.out.rows (by decide) hg7
       have hch : Chg xb w7 (w7.setCell ⟨xb, 4, none⟩ (.slice q7 (a.ivs.length - 1) c7)) := Chg.setCell
       have hge := HSt.out.xge
       rw [Nat.mul_one, Nat.mul_one, List.take_set_of_le (Nat.le_refl _), List.drop_set_of_lt (by omega), ← List.eraseIdx_eq_take_drop_succ] at ho7
       have hr0 := HSt.out.ext.size
       refine wp_name (fun w8 => Ext w w8 ∧ Blk w8 xb (.cells #[.int .i64 a.base, .int .i64 a.nd.level, .int .i64 a.nd.next, .slice q1 a.nd.ents.length c1, .slice q7 (a.ivs.length - 1) c7] 29) ∧ Blk w8 (w.heap.size + 1 + 1) (.cells arZ 29) ∧ w8.ownsRow w.heap.size 63 2 (.slice q1 a.nd.ents.length c1) a.nd.ents.length (entCells a.nd.ents) ∧ w8.ownsRow w.heap.size 30 1 (.slice q7 (a.ivs.length - 1) c7) (a.ivs.length - 1) (vs.eraseIdx i) ∧ Others w8 w.heap.size vs a.ivs i)
         ⟨hch.ext hE7 (by omega), Blk.setCell hx7, hch.blk hz7 (by omega), own_chgT hen7 (by decide) hx7 hch, own_chgT ho7 (by decide) hx7 hch, hot7.chgT hx7 (by decide) hch⟩ ?_
       clear hch hot7 hen7 hz7 hE7 hx7 hf7 k7 l7 ho7 hg7 HDR hgl hgf hgc x3 x4 lx HSt HOv HOt l0 l1
       rintro w8 ⟨hx8, hb8, hz8, he8, hr8, ho8⟩
       have i8 : i < a.nd.ents.length := by have := HI.out.spec.len; omega
       have HDE := Lib.hid (DeleteE_any q1 c1 a.nd.ents.length i (entCells a.nd.ents) w.heap.size w8 he8 (entCells_one _) i8 (by omega))
       rw [entCells_erase] at HDE
       have k3 := Blk.val hb8 3 _ rfl
       have l8 := Blk.lt hb8
       have H8 := Lib.hid (And.intro hx8 (And.intro hb8 (And.intro hz8 (And.intro he8 (And.intro hr8 ho8)))))
       clear hx8 hb8 hz8 he8 hr8 ho8
       go_upto_region 11 with (go_at_call 89; refine HDE.out.mono ?_; rintro e w9 ⟨v9, rfl, ho9, hg9⟩; obtain ⟨q9, c9, rfl⟩ := own_slice ho9; have hb9 := Blk.grown H8.out.2.1 hg9 (typed_ne H8.out.2.2.2.1 H8.out.2.1 (by decide)); have hf9 := Blk.free hb9 3; have k9 := Blk.val hb9 3 _ rfl; have l9 := Blk.lt hb9)
       obtain ⟨hx8, hb8, hz8, he8, hr8, ho8⟩ := H8.out
       have hE9 : Ext w w9 := Ext.trans' hx8 (Below.of_grown hg9 he8 (Nat.le_refl _) hx8.size)
       have hz9 := Blk.grown hz8 hg9 (typed_ne he8 hz8 (by decide))
       have hr9 := own_grownT hr8 he8 (by decide) hg9
       have hot9 : Others w9 w.heap.size vs a.ivs i := fun j hj hji => own_grownT (ho8 j hj hji) he8 (by decide) hg9
       have hch : Chg xb w9 (w9.setCell ⟨xb, 3, none⟩ (.slice q9 (a.nd.ents.length - 1) c9)) := Chg.setCell
       refine wp_name (fun wA => Ext w wA ∧ Blk wA xb (.cells #[.int .i64 a.base, .int .i64 a.nd.level, .int .i64 a.nd.next, .slice q9 (a.nd.ents.length - 1) c9, .slice q7 (a.ivs.length - 1) c7] 29) ∧ Blk wA (w.heap.size + 1 + 1) (.cells arZ 29) ∧ wA.ownsRow w.heap.size 63 2 (.slice q9 (a.nd.ents.length - 1) c9) (a.nd.ents.length - 1) (entCells (a.nd.ents.eraseIdx i)) ∧ wA.ownsRow w.heap.size 30 1 (.slice q7 (a.ivs.length - 1) c7) (a.ivs.length - 1) (vs.eraseIdx i) ∧ Others wA w.heap.size vs a.ivs i)
         ⟨hch.ext hE9 (by omega), Blk.setCell hb9, hch.blk hz9 (by omega), own_chgT ho9 (by decide) hb9 hch, own_chgT hr9 (by decide) hb9 hch, hot9.chgT hb9 (by decide) hch⟩ ?_
       clear hch hot9 hr9 hz9 hE9 hb9 hf9 k9 l9 ho9 hg9 HDE hx8 hb8 hz8 he8 hr8 ho8 H8 k3 l8
       rintro wA ⟨hxA, hbA, hzA, heA, hrA, hoA⟩
       have hnl : a.nd.ents.length = a.ivs.length := HI.out.spec.len.symm
       obtain ⟨ge, cur, rfl, hge0, hgb, hgc1, hgc2, hgz, hgt⟩ := own_parts heA (by omega)
       have hcs : (a.nd.ents.length - 2) * 2 < cur.size := by omega
       have kA := Blk.val hgb _ _ (Array.getElem?_eq_getElem hcs)
       have fA := Blk.free hgb ((a.nd.ents.length - 2) * 2)
       have lA := Blk.lt hgb
       have k3 := Blk.val hbA 3 _ rfl
       have l3 := Blk.lt hbA
       generalize cur[(a.nd.ents.length - 2) * 2] = old at kA
       have j1 : ((a.nd.ents.length - 1 : Nat) : Int) - 1 = ((a.nd.ents.length - 2 : Nat) : Int) := by omega
       have j2 : ((a.nd.ents.length - 2 : Nat) : Int) < ((a.nd.ents.length - 1 : Nat) : Int) := by omega
       have Hnl := Lib.hid hnl
       have Hgt := Lib.hid hgt
       clear hnl hgt
       go_upto_region 12 with (fail)
       have hch : Chg ge wA (wA.setCell ⟨ge, (a.nd.ents.length - 2) * 2, none⟩ (.string ⟨#[]⟩)) := Chg.setCell
       have hle : (a.nd.ents.eraseIdx i).length = a.nd.ents.length - 1 := List.length_eraseIdx_of_lt i8
       have hlv : (a.ivs.eraseIdx i).length = a.ivs.length - 1 := List.length_eraseIdx_of_lt hat
       have e5 : arC { a with nd := { a.nd with ents := clrL (a.nd.ents.eraseIdx i) }, ivs := a.ivs.eraseIdx i } (some ⟨ge, 0, none⟩) c9 q7 c7 = #[.int .i64 a.base, .int .i64 a.nd.level, .int .i64 a.nd.next, .slice (some ⟨ge, 0, none⟩) (a.nd.ents.length - 1) c9, .slice q7 (a.ivs.length - 1) c7] := by
         unfold arC
         simp only [clrL_len, hle, hlv]
       have hcl : entCells (clrL (a.nd.ents.eraseIdx i)) = (entCells (a.nd.ents.eraseIdx i)).set ((a.nd.ents.length - 2) * 2) (.string ⟨#[]⟩) := by
         rw [clrL_set, hle, show a.nd.ents.length - 1 - 1 = a.nd.ents.length - 2 by omega, entCells_bel _ _ _ (by rw [hle]; have := Hnl.out; omega)]
       refine wp_name (fun wB => Ext w wB ∧ Blk wB xb (.cells (arC { a with nd := { a.nd with ents := clrL (a.nd.ents.eraseIdx i) }, ivs := a.ivs.eraseIdx i } (some ⟨ge, 0, none⟩) c9 q7 c7) 29) ∧ Blk wB (w.heap.size + 1 + 1) (.cells arZ 29) ∧ Cells wB (some ⟨ge, 0, none⟩) (entCells (clrL (a.nd.ents.eraseIdx i))) ∧ wB.ownsRow w.heap.size 30 1 (.slice q7 (a.ivs.length - 1) c7) (a.ivs.length - 1) (vs.eraseIdx i) ∧ Others wB w.heap.size vs a.ivs i ∧ w.heap.size + 1 + 1 ≠ ge ∧ ∃ cu, Blk wB ge (.cells cu 63))
         ⟨hch.ext hxA hge0, by rw [e5]; exact hch.blk hbA (blk_ne hbA hgb (by decide)), hch.blk hzA (blk_ne hzA hgb (by decide)), cells_take (n := (a.nd.ents.length - 1) * 2) (Blk.setCell hgb) (by rw [Array.toList_setIfInBounds, List.take_set, Hgt.out, hcl]), own_chgT hrA (by decide) hgb hch, hoA.chgT hgb (by decide) hch, blk_ne hzA hgb (by decide), _, Blk.setCell hgb⟩ ?_
       clear hch hcl hxA hbA hzA heA hrA hoA hgb hgz kA fA lA k3 l3 j1 j2
       rintro wB ⟨hxB, hbB, hzB, heB, hrB, hoB, hneB, cuB, hgB⟩
       go_wp2_with (first
         | (refine wpList_row (o := ⟨some 82, _, _, _, _, _⟩) rfl 29 (.tmp 8) rfl _ rfl _ _ _ hbB arDesc rfl arSize ?_)
         | (refine wpList_put rfl 29 (.tmp 6) (.tmp 82) rfl _ (arC { a with nd := { a.nd with ents := clrL (a.nd.ents.eraseIdx i) }, ivs := a.ivs.eraseIdx i } (some ⟨ge, 0, none⟩) c9 q7 c7) rfl rfl _ _ hzB arSize rfl (ar_one ..) ?_; intro wC hzC hcC))
       have hoC := own_cellsK (own_chgT hrB (by decide) hzB hcC)
       refine bodyPost_ret (results_row1 Tryz.results48 _ _ _ _ _ _ rfl hzC arDesc rfl arSize) rfl ((Hout.out _ _).2 ⟨hcC.ext hxB (by omega), ?_⟩)
       rw [if_pos HH.out]
       refine ⟨{ a with nd := { a.nd with ents := clrL (a.nd.ents.eraseIdx i) }, ivs := a.ivs.eraseIdx i }, some ⟨ge, 0, none⟩, c9, q7, c7, rfl, ⟨cells_chgO heB (fun e => hneB e.symm) hcC, ⟨_, hoC.1, rows_erase (fun j hj hji => RowV.of_own (own_chgT (hoB j hj hji) (by decide) hzB hcC)) hvl hat⟩, ?_, ?_, hoC.2.2, Typ.of_blk (hcC.blk hgB (fun e => hneB e.symm)), Typ.of_own (own_chgT hrB (by decide) hzB hcC)⟩, HGo.out.1, rfl, rfl, HGo.out.2⟩
       · simp only [clrL_len, hle]; exact hgc1
       · simp only [hlv]; exact hoC.2.1
     · have hre := HDK.out (by
         by_cases h : l = []
         · right
           have h0 : l.length = 0 := by rw [h]; rfl
           omega
         · exact .inl h) Hp3.out
       have HRE := Lib.hid hre
       have fin : ∀ w7 w8, Ext w6 w7 → Blk w8 (w.heap.size + 1 + 1) (.cells (arC a q1 c1 (some ⟨g, 0, none⟩) c3) 29) → Chg (w.heap.size + 1 + 1) w7 w8 → OUT (.returned (.tuple #[.agg (arC a q1 c1 (some ⟨g, 0, none⟩) c3), .int .i64 0])) w8 := fun w7 w8 he7 hz8 hc8 => by
         obtain ⟨hxx, harv⟩ := (HSt.out.more he7).result hat hvl (own_ext HOv.out he7) (HOt.out.ext he7) hc8
         refine (Hout.out _ _).2 ⟨hxx, ?_⟩
         rw [if_pos HH.out]
         exact ⟨{ a with ivs := a.ivs.set i l }, q1, c1, some ⟨g, 0, none⟩, c3, by unfold arC; simp only [List.length_set], harv, HRE.out.1, rfl, rfl, HRE.out.2⟩
       have FIN := Lib.hid fin
       have hxd := HSt.out.x
       have hzd := HSt.out.res
       clear hre fin
       by_cases h0 : l.length = 0
       · have l0 : ((l.length : Int) == 0) = true := by rw [h0]; rfl
         have l1 : decide (1 < (a.ivs.length : Int)) = false := decide_eq_false (by omega)
         clear hkeep h0
         go_wp2_with (first
           | (refine wpList_row (o := ⟨some 82, _, _, _, _, _⟩) rfl 29 (.tmp 8) rfl _ rfl _ _ _ hxd arDesc rfl arSize ?_)
           | (refine wpList_put rfl 29 (.tmp 6) (.tmp 82) rfl _ (arC a q1 c1 (some ⟨g, 0, none⟩) c3) rfl rfl _ _ hzd arSize rfl (ar_one ..) ?_; intro w8 hz8 hc8))
         exact bodyPost_ret (results_row1 Tryz.results48 _ _ _ _ _ _ rfl hz8 arDesc rfl arSize) rfl (FIN.out _ _ (Ext.refl _) hz8 hc8)
       · have l0 : ((l.length : Int) == 0) = false := beq_eq_false_iff_ne.2 (by omega)
         clear hkeep h0
         go_wp2_with (first
           | (refine wpList_row (o := ⟨some 82, _, _, _, _, _⟩) rfl 29 (.tmp 8) rfl _ rfl _ _ _ hxd arDesc rfl arSize ?_)
           | (refine wpList_put rfl 29 (.tmp 6) (.tmp 82) rfl _ (arC a q1 c1 (some ⟨g, 0, none⟩) c3) rfl rfl _ _ hzd arSize rfl (ar_one ..) ?_; intro w8 hz8 hc8))
         exact bodyPost_ret (results_row1 Tryz.results48 _ _ _ _ _ _ rfl hz8 arDesc rfl arSize) rfl (FIN.out _ _ (Ext.refl _) hz8 hc8)
end Go.Proofs.YtifmbcjbccedfaaGreatDoor
