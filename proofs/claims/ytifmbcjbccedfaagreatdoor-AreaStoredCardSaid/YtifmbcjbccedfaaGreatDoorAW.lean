/- A part of the proof. -/
import Derived.Test.YtifmbcjbccedfaaGreatDoorAW0

set_option linter.unusedSimpArgs false
set_option linter.unusedVariables false
namespace Go.Proofs.YtifmbcjbccedfaaGreatDoor
open Go.RowKit Dsd
theorem spl_get {α : Type} (V : List α) {i : Nat} (hi : i < V.length) (A B z : α) (j : Nat) : (V.take i ++ A :: B :: V.drop (i + 1)).getD j z = if j < i then V.getD j z else if j = i then A else if j = i + 1 then B else V.getD (j - 1) z := by
 have hl : (V.take i).length = i := by rw [List.length_take]; omega
 rw [List.getD]
 by_cases h1 : j < i
 · rw [if_pos h1, List.getElem?_append_left (by omega), List.getElem?_take_of_lt h1]; rfl
 · rw [if_neg h1, List.getElem?_append_right (by omega), hl]
   by_cases h2 : j = i
   · rw [if_pos h2, h2, Nat.sub_self]; rfl
   · rw [if_neg h2]
     by_cases h3 : j = i + 1
     · rw [if_pos h3, h3, show i + 1 - i = 0 + 1 by omega]; rfl
     · rw [if_neg h3]
       obtain ⟨k, rfl⟩ : ∃ k, j = i + 2 + k := ⟨j - (i + 2), by omega⟩
       rw [show i + 2 + k - i = k + 1 + 1 by omega, List.getElem?_cons_succ, List.getElem?_cons_succ, List.getElem?_drop, show i + 1 + k = i + 2 + k - 1 by omega]
       rfl
theorem set_spl (vs : List Value) {i : Nat} (hi : i < vs.length) (v1 v2 : Value) : (vs.set i v1).take ((i + 1) * 1) ++ [v2] ++ (vs.set i v1).drop ((i + 1) * 1) = vs.take i ++ v1 :: v2 :: vs.drop (i + 1) := by
 rw [Nat.mul_one, List.take_set, List.drop_set_of_lt (by omega), List.take_succ_eq_append_getElem hi, List.set_append_right _ _ (by rw [List.length_take]; omega)]
 rw [List.length_take, Nat.min_eq_left (by omega), Nat.sub_self]
 simp
theorem rows_spl {w : World} {vs : List Value} {V : List Recs} {i : Nat} (h : ∀ j, j < V.length → j ≠ i → RowV w (vs.getD j undef) (V.getD j [])) (hl : vs.length = V.length) (hi : i < V.length) {v1 v2 : Value} {A B : Recs} (h1 : RowV w v1 A) (h2 : RowV w v2 B) :
   RowsV w (vs.take i ++ v1 :: v2 :: vs.drop (i + 1)) (splV V i A B) := by
 refine ⟨by rw [splV_len hi]; simp; omega, fun j hj => ?_⟩
 rw [splV_len hi] at hj
 unfold splV
 rw [spl_get vs (by omega), spl_get V hi]
 by_cases g1 : j < i
 · rw [if_pos g1, if_pos g1]; exact h j (by omega) (by omega)
 · rw [if_neg g1, if_neg g1]
   by_cases g2 : j = i
   · rw [if_pos g2, if_pos g2]; exact h1
   · rw [if_neg g2, if_neg g2]
     by_cases g3 : j = i + 1
     · rw [if_pos g3, if_pos g3]; exact h2
     · rw [if_neg g3, if_neg g3]; exact h (j - 1) (by omega) (by omega)
theorem cells_grown {w w' : World} {row : Option Nat} {g o : Nat} {xs : List Value} (h : Cells w (some ⟨g, o, none⟩) xs) (hg : w.grownBy w' row) (hne : row ≠ some g) : Cells w' (some ⟨g, o, none⟩) xs := by
 rcases h with h | ⟨b', o', hq, hl, hc⟩
 · exact .inl h
 · simp only [Option.some.injEq, Addr.mk.injEq, and_true] at hq
   obtain ⟨rfl, rfl⟩ := hq
   refine .inr ⟨g, o, rfl, Nat.lt_of_lt_of_le hl hg.size, fun i hi => ?_⟩
   rw [← hc i hi]
   simp only [World.cell?, hg.block g hl (fun e => hne e.symm)]
def CloF (B n : Nat) (xs : List Value) : Fact := fun x w => ∃ b q c, x = .slice (some ⟨b, 0, none⟩) 1 1 ∧ B ≤ b ∧ Blk w b (.cells #[.slice q n c] 30) ∧ w.ownsRow B 9 1 (.slice q n c) n xs
theorem CloF.stable (B n : Nat) (xs : List Value) : (CloF B n xs).stable := fun _ _ _ he ⟨b, q, c, h1, h0, h2, h3⟩ => ⟨b, q, c, h1, h0, he.blk _ _ h2, own_ext h3 he⟩
def putA (d : DS) (a : Ar) (r : List UInt8) : Ar × Bool :=
 if fitsB d.interval (putL d r (a.ivs.getD (findNd a.nd.ents (keyD d r)) [])) = true then ({ a with ivs := a.ivs.set (findNd a.nd.ents (keyD d r)) (putL d r (a.ivs.getD (findNd a.nd.ents (keyD d r)) [])) }, true)
 else if unusedA d a = 0 then (a, false)
 else ({ a with nd := { a.nd with ents := splE a.nd.ents (findNd a.nd.ents (keyD d r)) (sepL (keyD d ((putL d r (a.ivs.getD (findNd a.nd.ents (keyD d r)) [])).getD (midD d.interval (putL d r (a.ivs.getD (findNd a.nd.ents (keyD d r)) [])) - 1) [])) (keyD d ((putL d r (a.ivs.getD (findNd a.nd.ents (keyD d r)) [])).getD (midD d.interval (putL d r (a.ivs.getD (findNd a.nd.ents (keyD d r)) []))) []))) (unusedA d a) }, ivs := splV a.ivs (findNd a.nd.ents (keyD d r)) ((putL d r (a.ivs.getD (findNd a.nd.ents (keyD d r)) [])).take (midD d.interval (putL d r (a.ivs.getD (findNd a.nd.ents (keyD d r)) [])))) ((putL d r (a.ivs.getD (findNd a.nd.ents (keyD d r)) [])).drop (midD d.interval (putL d r (a.ivs.getD (findNd a.nd.ents (keyD d r)) [])))) }, true)
def PutOut (d : DS) (a : Ar) (r : List UInt8) (w : World) (e : Ending) (w' : World) : Prop := Ext w w' ∧
 if recB d r = true then ∃ (a' : Ar) (ok : Bool) (q : Option Addr) (c : Nat) (p : Option Addr) (m : Nat), e = .returned (.tuple #[.agg (arC a' q c p m), .bool ok, .int .i64 0]) ∧ ArV w' a' q c p m ∧ AInv d a' ∧ a'.base = a.base ∧ a'.nd.next = a.nd.next ∧
   (ok = true → recsOf a' = putL d r (recsOf a)) ∧ (ok = false → a' = a ∧ unusedA d a = 0) ∧ putA d a r = (a', ok)
 else e = .returned (.tuple #[.agg arZ, .bool false, .int .i64 2])
set_option maxRecDepth 100000 in
set_option maxHeartbeats 4000000 in
theorem PutA_any (d : DS) (a : Ar) (q : Option Addr) (c : Nat) (p : Option Addr) (m : Nat) (r : List UInt8) (w : World) (I : AInv d a) (hv : ArV w a q c p m) :
   Calls Tryz.prog 25 #[.agg #[.int .i64 d.id, .int .i64 d.org, .int .i64 d.format, .int .i64 d.length, .int .i64 d.block, .int .i64 d.keyAt, .int .i64 d.keyLength, .int .i64 d.interval, .int .i64 d.area, .int .i64 d.freeInterval, .int .i64 d.freeArea, .int .i64 d.base, .int .i64 d.altAt, .int .i64 d.altLength, .bool d.unique, .int .i64 d.cls, .string ⟨d.volume.toArray⟩, .string ⟨d.owner.toArray⟩, .int .i64 d.created, .int .i64 d.expires, .bool d.archived], .agg (arC a q c p m), .string ⟨r.toArray⟩] w (PutOut d a r w) := by
 have HV := Lib.hid (fun W (e : Ext w W) => ValidA_any d a q c p m W I.spec (hv.ext e))
 have HA := Lib.hid (allowedA_any d r I.spec.keyed)
 have Hv := Lib.hid hv
 have HI := Lib.hid I
 have hda := ds_ar w d a q c p m
 have hex3 := Ext.alloc ((w.alloc (.cells #[.int .i64 d.id, .int .i64 d.org, .int .i64 d.format, .int .i64 d.length, .int .i64 d.block, .int .i64 d.keyAt, .int .i64 d.keyLength, .int .i64 d.interval, .int .i64 d.area, .int .i64 d.freeInterval, .int .i64 d.freeArea, .int .i64 d.base, .int .i64 d.altAt, .int .i64 d.altLength, .bool d.unique, .int .i64 d.cls, .string ⟨d.volume.toArray⟩, .string ⟨d.owner.toArray⟩, .int .i64 d.created, .int .i64 d.expires, .bool d.archived] 23)).alloc (.cells (arC a q c p m) 29)) (.cells arZ 29)
 clear I hv
 go_enter Tryz.func25, Tryz.ntmps25
 go_upto_region 1 with (fail)
 refine wp_name (fun w0 => Ext w w0 ∧ DsAt w0 w.heap.size d ∧ ArAt w0 (w.heap.size + 1) a q c p m ∧ Blk w0 (w.heap.size + 1 + 1) (.cells arZ 29)) ⟨hda.1.trans hex3, hda.2.1.ext hex3, hda.2.2.ext hex3, Blk.new1 _ _ _ (by simp)⟩ ?_
 clear hda hex3
 rintro w0 ⟨he0, hd0, ha0, hz0⟩
 cases hr : recB d r
 · rw [hr] at HA
   have Hr := Lib.hid hr
   clear hr
   go_wp2_with (first
     | (refine wpList_ds (o := ⟨some 20, _, _, _, _, _⟩) rfl (.tmp 3) rfl _ rfl d hd0 ?_)
     | (refine wpList_row (o := ⟨some 21, _, _, _, _, _⟩) rfl 29 (.tmp 4) rfl _ rfl _ _ _ ha0 arDesc rfl arSize ?_)
     | (go_at_call 10; refine (HV.out _ he0).mono ?_; rintro e w1 ⟨rfl, he1⟩; have hd1 := hd0.ext he1; have hz1 := he1.blk _ _ hz0)
     | (refine wpList_ds (o := ⟨some 26, _, _, _, _, _⟩) rfl (.tmp 3) rfl _ rfl d hd1 ?_)
     | (go_at_call 39; refine (HA.out _).mono ?_; rintro e w2 ⟨rfl, he2⟩; have hz2 := he2.blk _ _ hz1)
     | (refine wpList_bld (o := ⟨some 30, _, _, _, _, _⟩) rfl 29 #[] rfl [] rfl _ arZ_built ?_)
     | (refine wpList_put rfl 29 (.tmp 6) (.tmp 30) rfl _ arZ rfl rfl _ _ hz2 arSize rfl (by simp [arZ, Value.oneCell']) ?_; intro w3 hz3 hc3))
   exact bodyPost_ret (results_row2 Tryz.results25 _ _ _ _ _ _ rfl hz3 arDesc rfl arSize) rfl ⟨hc3.ext ((he0.trans he1).trans he2) (by omega), by rw [if_neg (by rw [Hr.out]; simp)]; rfl⟩
 · rw [hr] at HA
   have Hr := Lib.hid hr
   have HK := Lib.hid (keyOf_any d r HI.out.spec.keyed hr)
   clear hr
   obtain ⟨n1, n2, n3, n4, n5⟩ := inv_small HI.out.spec
   have HC := Lib.hid (fun W (e : Ext w W) => CloneA_any a q c p m W (Hv.out.ext e) n3 n4 (by omega) (by omega) n5)
   have hat := (HI.out.spec.at (keyD d r)).lt
   have HPl := Lib.hid (fun q1 c1 q3 c3 W (e : ArV W a q1 c1 q3 c3) => place_any d a q1 c1 q3 c3 (keyD d r) W HI.out.spec e)
   obtain ⟨f1, f2, f3, f4⟩ := HI.out.spec.iv hat
   have Hf := Lib.hid (And.intro f1 (And.intro f2 (And.intro f3 f4)))
   have hpos := posL_le d (keyD d r) (a.ivs.getD (findNd a.nd.ents (keyD d r)) [])
   have Hmiss := Lib.hid (putL_miss (d := d) (r := r) (L := a.ivs.getD (findNd a.nd.ents (keyD d r)) []))
   have Hhit := Lib.hid (putL_hit (d := d) (r := r) (L := a.ivs.getD (findNd a.nd.ents (keyD d r)) []))
   have hLs := (fits_small f1).1
   have hL512 := fits_small f1
   have hrl : r.length ≤ 512 := by
     have h8 := (rec_len HI.out.spec.keyed Hr.out).2
     have h9 := isSize_le HI.out.spec.size
     omega
   have PF := Lib.hid (put_fits HI.out Hr.out)
   have PM := Lib.hid (put_middle HI.out.spec.keyed Hr.out f1)
   have PS := Lib.hid (fun (m : Nat) (pg : Int) (bound : List UInt8) m1 m2 fA fB hb p1 p2 p3 => put_split (m := m) (pg := pg) (bound := bound) HI.out Hr.out rfl rfl m1 m2 fA fB hb p1 p2 p3)
   have HLs := Lib.hid hL512
   have HPA : Hid (putA d a r = if fitsB d.interval (putL d r (a.ivs.getD (findNd a.nd.ents (keyD d r)) [])) = true then ({ a with ivs := a.ivs.set (findNd a.nd.ents (keyD d r)) (putL d r (a.ivs.getD (findNd a.nd.ents (keyD d r)) [])) }, true)
     else if unusedA d a = 0 then (a, false)
     else ({ a with nd := { a.nd with ents := splE a.nd.ents (findNd a.nd.ents (keyD d r)) (sepL (keyD d ((putL d r (a.ivs.getD (findNd a.nd.ents (keyD d r)) [])).getD (midD d.interval (putL d r (a.ivs.getD (findNd a.nd.ents (keyD d r)) [])) - 1) [])) (keyD d ((putL d r (a.ivs.getD (findNd a.nd.ents (keyD d r)) [])).getD (midD d.interval (putL d r (a.ivs.getD (findNd a.nd.ents (keyD d r)) []))) []))) (unusedA d a) }, ivs := splV a.ivs (findNd a.nd.ents (keyD d r)) ((putL d r (a.ivs.getD (findNd a.nd.ents (keyD d r)) [])).take (midD d.interval (putL d r (a.ivs.getD (findNd a.nd.ents (keyD d r)) [])))) ((putL d r (a.ivs.getD (findNd a.nd.ents (keyD d r)) [])).drop (midD d.interval (putL d r (a.ivs.getD (findNd a.nd.ents (keyD d r)) [])))) }, true)) := Lib.hid rfl
   have HRec : Hid (∀ s ∈ putL d r (a.ivs.getD (findNd a.nd.ents (keyD d r)) []), recB d s = true) := Lib.hid (fun s hs => by
     rcases putL_mem hs with rfl | hs
     · exact Hr.out
     · exact (f3 s hs).1)
   clear f1 f2 f3 f4 n5 hL512
   generalize findNd a.nd.ents (keyD d r) = i at *
   generalize hli : a.ivs.getD i [] = L at *
   generalize keyD d r = kr at *
   go_upto_region 6 with (first
     | (refine wpList_ds (o := ⟨some 20, _, _, _, _, _⟩) rfl (.tmp 3) rfl _ rfl d hd0 ?_)
     | (refine wpList_row (o := ⟨some 21, _, _, _, _, _⟩) rfl 29 (.tmp 4) rfl _ rfl _ _ _ ha0 arDesc rfl arSize ?_)
     | (go_at_call 10; refine (HV.out _ he0).mono ?_; rintro e w1 ⟨rfl, he1⟩; have hd1 := hd0.ext he1; have hz1 := he1.blk _ _ hz0)
     | (refine wpList_ds (o := ⟨some 26, _, _, _, _, _⟩) rfl (.tmp 3) rfl _ rfl d hd1 ?_)
     | (go_at_call 39; refine (HA.out _).mono ?_; rintro e w2 ⟨rfl, he2⟩; have hz2 := he2.blk _ _ hz1; have ha2 := ha0.ext (he1.trans he2))
     | (refine wpList_row (o := ⟨some 31, _, _, _, _, _⟩) rfl 29 (.tmp 4) rfl _ rfl _ _ _ ha2 arDesc rfl arSize ?_)
     | (go_at_call 57; refine (HC.out _ ((he0.trans he1).trans he2)).mono ?_; rintro e w3 ⟨he3, q1, c1, q3, c3, vs, rfl, hoE, hoV, hrows⟩)
     | (refine wpList_put rfl 29 (.tmp 9) (.tmp 32) rfl _ (arC a q1 c1 q3 c3) rfl rfl _ _ (Blk.new w3 _) arSize rfl (ar_one a q1 c1 q3 c3) ?_; intro w4 hx4 hc4))
   have Hx3 := Lib.hid (((he0.trans he1).trans he2).trans he3)
   have sz2 := ((he0.trans he1).trans he2).size
   have sz3 := he3.size
   have hb3 := Blk.lt (he3.blk _ _ hz2)
   have hz3 := he3.blk _ _ hz2
   have hxe := Ext.alloc w3 (.cells arZ 29)
   have hE4 : Ext w3 w4 := hc4.ext hxe (Nat.le_refl _)
   have hst : PutSt w d a q c p m q1 c1 q3 c3 w3.heap.size vs w4 := ⟨Hx3.out.trans hE4, (hd1.ext (he2.trans he3)).ext hE4, (ha2.ext he3).ext hE4, hE4.blk _ _ hz3, hx4, by omega, own_ext (own_le hoE sz2) hE4, own_ext (own_le hoV sz2) hE4⟩
   have hrw : OwnRows w4 w.heap.size vs a.ivs := ⟨hrows.len, fun i hi => own_ext (own_le (hrows.own i hi) sz2) hE4, hrows.apart⟩
   have hav : ArV w4 a q1 c1 q3 c3 := ArV.of_clone hst.ents hst.rows hrw
   have HSt := Lib.hid hst
   have HRw := Lib.hid hrw
   have HAv := Lib.hid hav
   have hlt3 : w3.heap.size < w4.heap.size := Blk.lt hx4
   clear hst hrw hav hx4 hc4 hxe hE4 hz3 hoE hoV hrows hd1 hz1 hz2 ha2 he1 he2 he3 hd0 ha0 hz0 he0 hb3
   generalize hxb : w3.heap.size = xb at *
   refine wp_region_mk 200 (Ext.refl w4) (by kernel_rfl) (by kernel_rfl) (by kernel_rfl) ?_
   simp only [List.take_succ_cons, List.take_zero, List.take_nil, List.drop_succ_cons, List.drop_zero, List.drop_nil, List.map_cons, List.map_nil]
   repeat (first
     | (refine wpML_det (o := ⟨some 34, _, _, _, _, _⟩) (v := .agg #[.int .i64 d.id, .int .i64 d.org, .int .i64 d.format, .int .i64 d.length, .int .i64 d.block, .int .i64 d.keyAt, .int .i64 d.keyLength, .int .i64 d.interval, .int .i64 d.area, .int .i64 d.freeInterval, .int .i64 d.freeArea, .int .i64 d.base, .int .i64 d.altAt, .int .i64 d.altLength, .bool d.unique, .int .i64 d.cls, .string ⟨d.volume.toArray⟩, .string ⟨d.owner.toArray⟩, .int .i64 d.created, .int .i64 d.expires, .bool d.archived]) rfl ?_ ?_
        · intro a w' he hr K hK
          simp [Reads, Oper.looksAt, Op.operands, factAt, Is] at hr
          exact wp_load_row 23 (.tmp 3) rfl (w.heap.size) (by go_simp) _ _ _ _ (he.blk _ _ HSt.out.ds) dsDesc rfl dsSize (hK _ (Ext.refl _))
        simp only [setL, List.set_cons_succ, List.set_cons_zero])
     | (refine wpML_det (o := ⟨some 36, _, _, _, _, _⟩) (v := .agg #[.int .i64 d.id, .int .i64 d.org, .int .i64 d.format, .int .i64 d.length, .int .i64 d.block, .int .i64 d.keyAt, .int .i64 d.keyLength, .int .i64 d.interval, .int .i64 d.area, .int .i64 d.freeInterval, .int .i64 d.freeArea, .int .i64 d.base, .int .i64 d.altAt, .int .i64 d.altLength, .bool d.unique, .int .i64 d.cls, .string ⟨d.volume.toArray⟩, .string ⟨d.owner.toArray⟩, .int .i64 d.created, .int .i64 d.expires, .bool d.archived]) rfl ?_ ?_
        · intro a w' he hr K hK
          simp [Reads, Oper.looksAt, Op.operands, factAt, Is] at hr
          exact wp_load_row 23 (.tmp 3) rfl (w.heap.size) (by go_simp) _ _ _ _ (he.blk _ _ HSt.out.ds) dsDesc rfl dsSize (hK _ (Ext.refl _))
        simp only [setL, List.set_cons_succ, List.set_cons_zero])
     | (refine wpML_det (o := ⟨some 35, _, _, _, _, _⟩) (v := .agg (arC a q1 c1 q3 c3)) rfl ?_ ?_
        · intro a w' he hr K hK
          simp [Reads, Oper.looksAt, Op.operands, factAt, Is] at hr
          exact wp_load_row 29 (.tmp 9) rfl (xb) (by go_simp) _ _ _ _ (he.blk _ _ HSt.out.x) arDesc rfl arSize (hK _ (Ext.refl _))
        simp only [setL, List.set_cons_succ, List.set_cons_zero])
     | (refine wpML_det (o := ⟨some 38, _, _, _, _, _⟩) (v := .string ⟨kr.toArray⟩) rfl ?_ ?_
        · intro a w' he hr K hK
          simp [Reads, Oper.looksAt, Op.operands, Call.operands, factAt, Is] at hr
          go_simp
          refine (HK.out _).mono ?_
          rintro e w'' ⟨rfl, he''⟩
          exact hK _ he''
        simp only [setL, List.set_cons_succ, List.set_cons_zero])
     | (refine wpML_det (o := ⟨some 39, _, _, _, _, _⟩) (v := .tuple #[.int .i64 (i : Nat), .int .i64 (posL d kr L : Nat), .bool (hitL d kr L)]) rfl ?_ ?_
        · intro a w' he hr K hK
          simp [Reads, Oper.looksAt, Op.operands, Call.operands, factAt, Is] at hr
          go_simp
          refine (HPl.out q1 c1 q3 c3 _ (HAv.out.ext he)).mono ?_
          rintro e w'' ⟨rfl, he''⟩
          exact hK _ he''
        simp only [setL, List.set_cons_succ, List.set_cons_zero])
     | (refine wpML_move _ _ rfl (by first | exact .inl rfl | exact .inr rfl) rfl (by first | exact Is.stable _ | exact AppF.stable _ | exact WrF.stable _ | exact PtrF.stable _ _ | exact IfcF.stable (Fresh.stable _ _ _) _ | exact PairF.stable (RowF.stable _ _ _ _) _ | exact RowF.stable _ _ _ _ | exact Fresh.stable _ _ _) ?_
        simp only [setL, List.set_cons_succ, List.set_cons_zero, List.getD_cons_succ, List.getD_cons_zero])
     | (refine wpML_moveC _ rfl (by first | exact .inl rfl | exact .inr rfl) ?_
        simp only [setL, List.set_cons_succ, List.set_cons_zero])
     | (apply wpML_det rfl
        · intro a w' he hr K hK
          simp [Reads, Oper.looksAt, Op.operands, Call.operands, factAt, Is] at hr
          have hx := he.cell
          go_simp
          try go_bits
          try (rw [if_neg (by omega)]; go_simp)
          first
            | exact hK _ (Ext.refl _)
        simp only [setL, List.set_cons_succ, List.set_cons_zero])
     | (apply wpML_det rfl
        · intro a w' he hr K hK
          simp [Reads, Oper.looksAt, Op.operands, Call.operands, factAt, Fresh] at hr
          obtain ⟨b, hr1, hr2⟩ := hr
          go_simp
          exact hK _ (Ext.refl _)
        simp only [setL, List.set_cons_succ, List.set_cons_zero]))
   intro w2 he2
   repeat (first | with_reducible refine rest_is _ _ _ _ ?_ | (with_reducible refine rest_fact _ _ _ _ ?_; intro _ _) | with_reducible refine rest_end _ _ ?_)
   simp only [List.reverse_cons, List.reverse_nil, List.nil_append, List.cons_append]
   have HSt2 := Lib.hid (HSt.out.more he2)
   have HRw2 := Lib.hid (HRw.out.ext he2)
   clear HSt HRw HAv HPl HK HV HA hlt3 he2
   obtain ⟨g, rfl, hg0, hgl, hgf, hgc, _⟩ := own_set HSt2.out.rows i hat
   have hoi := HRw2.out.own i hat
   rw [hli] at hoi
   obtain ⟨qi, ci, hvi⟩ := own_slice hoi
   rw [hvi] at hgc hoi
   obtain ⟨_, _, _, _, x4, lx⟩ := HSt2.out.x.cells
   have hiI : (i : Int) < (a.ivs.length : Int) := by omega
   have HOi := Lib.hid hoi
   clear hoi
   generalize posL d kr L = pos at *
   go_upto_if 48 with (fail)
   clear hgc hgf x4 lx hgl
   go_cut [12, 13] (fun _ v wx => ∃ q5 c5, v = .slice q5 (putL d r L).length c5 ∧ PutSt w d a q c p m q1 c1 (some ⟨g, 0, none⟩) c3 xb vs wx ∧ wx.ownsRow w.heap.size 9 1 (.slice q5 (putL d r L).length c5) (putL d r L).length ((putL d r L).map fun s => .string ⟨s.toArray⟩) ∧ Others wx w.heap.size vs a.ivs i)
   case first =>
     cases hh : hitL d kr L
     · have hmis := Hmiss.out hh
       have hw2 := Blk.new w2 (.cells #[.string ⟨r.toArray⟩] 9)
       have hIns := Lib.hid (fun W (e : Ext w2 W) vb (hb : Blk W vb (.cells #[.string ⟨r.toArray⟩] 9)) (hvb : w2.heap.size ≤ vb) => InsertS_any qi ci L.length pos (L.map fun s : List UInt8 => Value.string ⟨s.toArray⟩) [.string ⟨r.toArray⟩] vb w.heap.size W (own_ext HOi.out e) hb rfl (by intro u hu; simp at hu; subst hu; rfl) (strs_one L) hpos (by omega) (fun h9 => by have := (own_block HOi.out h9).2; omega) (Nat.le_trans HSt2.out.ext.size e.size))
       go_wp2_with (go_at_call 59; refine (hIns.out _ (Ext.alloc w2 _) w2.heap.size hw2 (Nat.le_refl _)).mono ?_; rintro e w6 ⟨v6, rfl, ho6, hgr6⟩; obtain ⟨q6, c6, rfl⟩ := own_slice ho6)
       have hlen : (putL d r L).length = L.length + 1 := by rw [hmis]; simp; omega
       have hxs : (putL d r L).map (fun s : List UInt8 => Value.string ⟨s.toArray⟩) = (L.map fun s : List UInt8 => Value.string ⟨s.toArray⟩).take (pos * 1) ++ [.string ⟨r.toArray⟩] ++ (L.map fun s : List UInt8 => Value.string ⟨s.toArray⟩).drop (pos * 1) := by
         rw [hmis, Nat.mul_one, List.map_append, List.map_cons, List.map_take, List.map_drop, List.append_assoc]; rfl
       rw [← hlen]
       go_meet
       have hal := Ext.alloc w2 (.cells #[.string ⟨r.toArray⟩] 9)
       refine ⟨q6, c6, rfl, (HSt2.out.more hal).grown (own_ext HOi.out hal) hgr6, ?_, (HRw2.out.ext hal).others hat (by rw [hvi]; exact hgr6)⟩
       rw [hxs, hlen]
       exact ho6
     · obtain ⟨hp1, hp2⟩ := Hhit.out hh
       obtain ⟨gi, rfl, hi0, hil, hif, hic, his⟩ := own_set HOi.out pos hp1
       have hpI : (pos : Int) < (L.length : Int) := by omega
       have hos := Lib.hid (his (.string ⟨r.toArray⟩)).1
       clear his
       go_wp2_with fail
       go_meet
       have hch : Chg gi w2 (w2.setCell ⟨gi, pos, none⟩ (.string ⟨r.toArray⟩)) := Chg.setCell
       have hgr : w2.grownBy (w2.setCell ⟨gi, pos, none⟩ (.string ⟨r.toArray⟩)) (Value.slice (some ⟨gi, 0, none⟩) L.length ci).ownBlock := grown_chg hch
       have hlen : (putL d r L).length = L.length := by rw [hp2, List.length_set]
       refine ⟨some ⟨gi, 0, none⟩, ci, by rw [hlen], HSt2.out.grown HOi.out hgr, ?_, HRw2.out.others hat (by rw [hvi]; exact hgr)⟩
       have h9 := hos.out
       rw [set_strs, ← hp2] at h9
       rw [hlen]
       exact h9
   case rest =>
     obtain ⟨q5, c5, rfl, hst, hov, hoth⟩ := hcut
     obtain ⟨w5, hw5⟩ : ∃ w5, w5 = wc := ⟨_, rfl⟩
     rw [← hw5] at hst hov hoth ⊢
     clear hw5 Hmiss Hhit hpos HOi hvi
     obtain ⟨g', hq, hg0', hgl, hgf, hgc, _⟩ := own_set hst.rows i hat
     simp only [Option.some.injEq, Addr.mk.injEq, and_true] at hq
     subst hq
     obtain ⟨g2, cu, hq, _, hbg, _⟩ := own_parts hst.rows (by omega)
     simp only [Option.some.injEq, Addr.mk.injEq, and_true] at hq
     subst hq
     obtain ⟨_, _, _, _, x4, lx⟩ := hst.x.cells
     have hvl : vs.length = a.ivs.length := by have := hst.rows.1; omega
     have hc0 : Chg g w5 (w5.setCell ⟨g, i, none⟩ (.slice q5 (putL d r L).length c5)) := Chg.setCell
     have HS6 := Lib.hid (hst.store hat (.slice q5 (putL d r L).length c5))
     have HV6 := Lib.hid (own_chgT hov (by decide) hbg hc0)
     have HO6 := Lib.hid (hoth.chgT hbg (by decide) hc0)
     have hl6 := putL_len d r L
     have HL6 : Hid (Small (putL d r L)) := Lib.hid ⟨by omega, fun s hs => by
       rcases putL_mem hs with rfl | hs
       · omega
       · have := HLs.out.2 s hs; omega⟩
     clear hc0 hst hov hoth hbg
     go_upto_region 12 with (fail)
     clear x4 lx hgc hgf hgl
     refine wp_name (fun w6 => PutSt w d a q c p m q1 c1 (some ⟨g, 0, none⟩) c3 xb (vs.set i (.slice q5 (putL d r L).length c5)) w6 ∧ w6.ownsRow w.heap.size 9 1 (.slice q5 (putL d r L).length c5) (putL d r L).length ((putL d r L).map fun s => .string ⟨s.toArray⟩) ∧ Others w6 w.heap.size vs a.ivs i) ⟨HS6.out, HV6.out, HO6.out⟩ ?_
     clear HS6 HV6 HO6
     rintro w6 ⟨hst, hov, hoth⟩
     obtain ⟨hovC, hov1, hov2⟩ := own_cellsK hov
     have HF := Lib.hid (fun b hb => fitsA_any q5 c5 (putL d r L).length (putL d r L) d.interval w6 hovC rfl hov1 hov2 HL6.out b hb)
     have d7 := Blk.val hst.ds 7 _ rfl
     have ld := Blk.lt hst.ds
     have HSt := Lib.hid hst
     have HOv := Lib.hid hov
     have HOt := Lib.hid hoth
     clear hst hov hoth hovC
     cases hfl : fitsB d.interval (putL d r L)
     · have HF1 := Lib.hid (HF.out _ hfl)
       have hmx := PM.out hfl
       have HQ0 := Lib.hid (HPA.out.trans (if_neg (by rw [hfl]; simp)))
       clear HPA
       have HU := Lib.hid (fun W (e : Ext w6 W) => unused_any d a q1 c1 (some ⟨g, 0, none⟩) c3 W HI.out.spec.keyed HI.out.spec.base (own_cellsK (own_ext HSt.out.ents e)).1 (by omega))
       clear hfl HF PM PF
       go_upto_region 15 with (first
         | (go_at_call 38; refine HF1.out.mono ?_; rintro e w7 ⟨rfl, he7⟩; have hst7 := HSt.out.more he7)
         | (refine wpList_ds (o := ⟨some 68, _, _, _, _, _⟩) rfl (.tmp 3) rfl _ rfl d hst7.ds ?_)
         | (refine wpList_row (o := ⟨some 69, _, _, _, _, _⟩) rfl 29 (.tmp 9) rfl _ rfl _ _ _ hst7.x arDesc rfl arSize ?_)
         | (go_at_call 60; refine (HU.out _ he7).mono ?_; rintro e w8 ⟨rfl, he8⟩; have hst8 := hst7.more he8))
       have HSt8 := Lib.hid hst8
       have HOv8 := Lib.hid (own_ext HOv.out (he7.trans he8))
       have HOt8 := Lib.hid (HOt.out.ext (he7.trans he8))
       clear hst7 hst8 HSt HOv HOt HU HF1 he7 he8 d7 ld
       by_cases hpg : unusedA d a = 0
       · have hpgI : (unusedA d a == 0) = true := by rw [hpg]; rfl
         have Hpg := Lib.hid hpg
         have HQ := Lib.hid (HQ0.out.trans (if_pos hpg))
         clear hpg HQ0
         go_wp2_with (first
           | (refine wpList_row (o := ⟨some 73, _, _, _, _, _⟩) rfl 29 (.tmp 4) rfl _ rfl _ _ _ HSt8.out.ar arDesc rfl arSize ?_)
           | (go_at_call 57; refine (HC.out _ HSt8.out.ext).mono ?_; rintro e w9 ⟨he9, q9, c9, p9, m9, vs9, rfl, hoE9, hoV9, hrw9⟩; have hz9 := he9.blk _ _ HSt8.out.res)
           | (refine wpList_put rfl 29 (.tmp 6) (.tmp 74) rfl _ (arC a q9 c9 p9 m9) rfl rfl _ _ hz9 arSize rfl (ar_one ..) ?_; intro w10 hz10 hc10))
         exact bodyPost_ret (results_row2 Tryz.results25 _ _ _ _ _ _ rfl hz10 arDesc rfl arSize) rfl ⟨hc10.ext (HSt8.out.ext.trans he9) (by omega), by
           rw [if_pos Hr.out]
           exact ⟨a, false, q9, c9, p9, m9, rfl, ArV.of_clone (own_chgT hoE9 (by decide) hz9 hc10) (own_chgT hoV9 (by decide) hz9 hc10) ⟨hrw9.len, fun i hi => own_chgT (hrw9.own i hi) (by decide) hz9 hc10, hrw9.apart⟩, HI.out, rfl, rfl, (fun h => by cases h), (fun _ => ⟨rfl, Hpg.out⟩), HQ.out⟩⟩
       · have hpgI : (unusedA d a == 0) = false := by simpa using hpg
         have hps : Hid (a.base < unusedA d a ∧ unusedA d a ≤ a.base + d.area ∧ ∀ x ∈ a.nd.ents, x.2 ≠ unusedA d a) := Lib.hid (by
           have hb := HI.out.spec.base
           unfold isBaseB at hb
           simp only [Bool.and_eq_true, decide_eq_true_eq] at hb
           have h8 := keyed_spec HI.out.spec.keyed
           rcases unusedL_spec (P := a.nd.ents.map (·.2)) (f := d.area.toNat) (n := a.base + 1) (by omega) with ⟨h, _⟩ | ⟨h1, h2, h3⟩
           · exact absurd h hpg
           · unfold unusedA
             refine ⟨by omega, by omega, fun x hx e => h3 (by rw [← e]; exact List.mem_map.2 ⟨x, hx, rfl⟩)⟩)
         have HQ := Lib.hid (HQ0.out.trans (if_neg hpg))
         clear hpg HQ0
         generalize unusedA d a = pg at *
         obtain ⟨hovC, hov1', hov2'⟩ := own_cellsK HOv8.out
         have HMd := Lib.hid (fun W (e : Ext w8 W) => middle_any d q5 c5 (putL d r L) W (Cells.ext hovC e) hov1 hov2 HL6.out (by obtain ⟨m, h1, h2, h3, h4⟩ := hmx; exact ⟨m, h1, h2, h3, h4⟩))
         clear hmx hov1' hov2' hovC
         go_upto_region 18 with (first
           | (refine wpList_ds (o := ⟨some 75, _, _, _, _, _⟩) rfl (.tmp 3) rfl _ rfl d HSt8.out.ds ?_)
           | (go_at_call 61; refine (HMd.out _ (Ext.refl _)).mono ?_; rintro e w9 ⟨⟨mm, rfl, hm1, hm2, ⟨hmA, hmB⟩, hmD⟩, he9⟩; have HmD := Lib.hid hmD; clear hmD))
         have HSt9 := Lib.hid (HSt8.out.more he9)
         have HOv9 := Lib.hid (own_ext HOv8.out he9)
         have HOt9 := Lib.hid (HOt8.out.ext he9)
         clear HSt8 HOv8 HOt8 HMd he9 HC
         rw [← HmD.out] at HQ
         clear HmD
         have HPS := Lib.hid (fun bound hb => PS.out mm pg bound hm1 hm2 hmA hmB hb hps.out.1 hps.out.2.1 hps.out.2.2)
         clear PS
         generalize hl : putL d r L = l at *
         have HL := Lib.hid hl
         clear hl
         have hcl : Strs w9 q5 l := own_strs3 HOv9.out
         obtain ⟨gl, ol, rfl, hgl, hcc⟩ := hcl.at mm hm2
         have hcx := hcc (mm - 1) (by omega)
         have hcy := hcc mm hm2
         have rx := HRec.out _ (getD_mem (L := l) (i := mm - 1) (by omega))
         have ry := HRec.out _ (getD_mem hm2)
         have HK1 := Lib.hid (keyOf_any d _ HI.out.spec.keyed rx)
         have HK2 := Lib.hid (keyOf_any d _ HI.out.spec.keyed ry)
         have lx := keyD_len HI.out.spec.keyed rx
         have ly := keyD_len HI.out.spec.keyed ry
         have k8 := (keyed_spec HI.out.spec.keyed).2.2.2.2.2.1
         have hz8 := isSize_le HI.out.spec.size
         generalize l.getD (mm - 1) [] = x at hcx rx HK1 lx HPS HQ
         generalize l.getD mm [] = y at hcy ry HK2 ly HPS HQ
         generalize keyD d x = kx at HK1 lx HPS HQ
         generalize keyD d y = ky at HK2 ly HPS HQ
         have HSp := Lib.hid (Separator_any kx ky (by unfold maxLen; omega) (by omega))
         have hbl : (sepL kx ky).length ≤ 1000000 := by
           unfold sepL
           split
           · rw [List.length_take]; omega
           · simp
         obtain ⟨hins, hAI, hrecs⟩ := HPS.out (sepL kx ky) rfl
         generalize sepL kx ky = bound at *
         have v3 : (mm : Int) - 1 = ((mm - 1 : Nat) : Int) := by omega
         have v4 : ((mm - 1 : Nat) : Int) < (l.length : Int) := by omega
         have v5 : (mm : Int) < (l.length : Int) := by omega
         clear rx ry hcc hcl k8 hz8 lx ly HPS
         refine wp_region_mk 200 (Ext.refl w9) (by kernel_rfl) (by kernel_rfl) (by kernel_rfl) ?_
         simp only [List.take_succ_cons, List.take_zero, List.take_nil, List.drop_succ_cons, List.drop_zero, List.drop_nil, List.map_cons, List.map_nil]
         repeat (first
           | (refine wpML_det (o := ⟨some 78, _, _, _, _, _⟩) (v := .agg #[.int .i64 d.id, .int .i64 d.org, .int .i64 d.format, .int .i64 d.length, .int .i64 d.block, .int .i64 d.keyAt, .int .i64 d.keyLength, .int .i64 d.interval, .int .i64 d.area, .int .i64 d.freeInterval, .int .i64 d.freeArea, .int .i64 d.base, .int .i64 d.altAt, .int .i64 d.altLength, .bool d.unique, .int .i64 d.cls, .string ⟨d.volume.toArray⟩, .string ⟨d.owner.toArray⟩, .int .i64 d.created, .int .i64 d.expires, .bool d.archived]) rfl ?_ ?_
              · intro a w' he hr K hK
                simp [Reads, Oper.looksAt, Op.operands, factAt, Is] at hr
                exact wp_load_row 23 (.tmp 3) rfl (w.heap.size) (by go_simp) _ _ _ _ (he.blk _ _ HSt9.out.ds) dsDesc rfl dsSize (hK _ (Ext.refl _))
              simp only [setL, List.set_cons_succ, List.set_cons_zero])
           | (refine wpML_det (o := ⟨some 85, _, _, _, _, _⟩) (v := .agg #[.int .i64 d.id, .int .i64 d.org, .int .i64 d.format, .int .i64 d.length, .int .i64 d.block, .int .i64 d.keyAt, .int .i64 d.keyLength, .int .i64 d.interval, .int .i64 d.area, .int .i64 d.freeInterval, .int .i64 d.freeArea, .int .i64 d.base, .int .i64 d.altAt, .int .i64 d.altLength, .bool d.unique, .int .i64 d.cls, .string ⟨d.volume.toArray⟩, .string ⟨d.owner.toArray⟩, .int .i64 d.created, .int .i64 d.expires, .bool d.archived]) rfl ?_ ?_
              · intro a w' he hr K hK
                simp [Reads, Oper.looksAt, Op.operands, factAt, Is] at hr
                exact wp_load_row 23 (.tmp 3) rfl (w.heap.size) (by go_simp) _ _ _ _ (he.blk _ _ HSt9.out.ds) dsDesc rfl dsSize (hK _ (Ext.refl _))
              simp only [setL, List.set_cons_succ, List.set_cons_zero])
           | (refine wpML_det (o := ⟨some 84, _, _, _, _, _⟩) (v := .string ⟨kx.toArray⟩) rfl ?_ ?_
              · intro a w' he hr K hK
                simp [Reads, Oper.looksAt, Op.operands, Call.operands, factAt, Is] at hr
                go_simp
                refine (HK1.out _).mono ?_
                rintro e w'' ⟨rfl, he''⟩
                exact hK _ he''
              simp only [setL, List.set_cons_succ, List.set_cons_zero])
           | (refine wpML_det (o := ⟨some 90, _, _, _, _, _⟩) (v := .string ⟨ky.toArray⟩) rfl ?_ ?_
              · intro a w' he hr K hK
                simp [Reads, Oper.looksAt, Op.operands, Call.operands, factAt, Is] at hr
                go_simp
                refine (HK2.out _).mono ?_
                rintro e w'' ⟨rfl, he''⟩
                exact hK _ he''
              simp only [setL, List.set_cons_succ, List.set_cons_zero])
           | (refine wpML_det (o := ⟨some 91, _, _, _, _, _⟩) (v := .string ⟨bound.toArray⟩) rfl ?_ ?_
              · intro a w' he hr K hK
                simp [Reads, Oper.looksAt, Op.operands, Call.operands, factAt, Is] at hr
                go_simp
                refine (HSp.out _).mono ?_
                rintro e w'' ⟨rfl, he''⟩
                exact hK _ he''
              simp only [setL, List.set_cons_succ, List.set_cons_zero])
           | (refine wpML_move _ _ rfl (by first | exact .inl rfl | exact .inr rfl) rfl (by first | exact Is.stable _ | exact AppF.stable _ | exact WrF.stable _ | exact PtrF.stable _ _ | exact IfcF.stable (Fresh.stable _ _ _) _ | exact PairF.stable (RowF.stable _ _ _ _) _ | exact RowF.stable _ _ _ _ | exact Fresh.stable _ _ _) ?_
              simp only [setL, List.set_cons_succ, List.set_cons_zero, List.getD_cons_succ, List.getD_cons_zero])
           | (refine wpML_moveC _ rfl (by first | exact .inl rfl | exact .inr rfl) ?_
              simp only [setL, List.set_cons_succ, List.set_cons_zero])
           | (apply wpML_det rfl
              · intro a w' he hr K hK
                simp [Reads, Oper.looksAt, Op.operands, Call.operands, factAt, Is] at hr
                have hx := he.cell
                go_simp
                try go_bits
                try (rw [if_neg (by omega)]; go_simp)
                first
                  | exact hK _ (Ext.refl _)
              simp only [setL, List.set_cons_succ, List.set_cons_zero])
           | (apply wpML_det rfl
              · intro a w' he hr K hK
                simp [Reads, Oper.looksAt, Op.operands, Call.operands, factAt, Fresh] at hr
                obtain ⟨b, hr1, hr2⟩ := hr
                go_simp
                exact hK _ (Ext.refl _)
              simp only [setL, List.set_cons_succ, List.set_cons_zero]))
         intro w2 he2
         repeat (first | with_reducible refine rest_is _ _ _ _ ?_ | (with_reducible refine rest_fact _ _ _ _ ?_; intro _ _) | with_reducible refine rest_end _ _ ?_)
         simp only [List.reverse_cons, List.reverse_nil, List.nil_append, List.cons_append]
         have HSt10 := Lib.hid (HSt9.out.more he2)
         have HOv10 := Lib.hid (own_ext HOv9.out he2)
         have HOt10 := Lib.hid (HOt9.out.ext he2)
         clear HSt9 HOv9 HOt9 he2 hcx hcy hgl HK1 HK2 HSp v3 v4 v5
         have hnE := own_cellsK HSt10.out.ents
         have HIn := Lib.hid (InsertN_any q1 c1 a.nd (i : Int) bound pg w2 hnE.1 (by omega) hbl hnE.2.1)
         rw [hins] at HIn
         unfold InsOut at HIn
         dsimp only [ndV] at HIn
         generalize hE : splE a.nd.ents i bound pg = E' at *
         have HE' := Lib.hid hE
         clear hE
         have HAI := Lib.hid hAI
         have HRecs := Lib.hid hrecs
         clear hins hAI hrecs hnE
         go_upto_region 22 with (first
           | (refine wpList_part (o := ⟨some 94, _, _, _, _, _⟩) rfl 26 (.tmp 93) rfl xb 1 rfl _ (arC a q1 c1 (some ⟨g, 0, none⟩) c3) #[.int .i64 a.nd.level, .int .i64 a.nd.next, .slice q1 a.nd.ents.length c1] _ HSt10.out.x (ar_part a q1 c1 (some ⟨g, 0, none⟩) c3) ndDesc rfl ndSize ?_)
           | (go_at_call 63; refine HIn.out.mono ?_; rintro e w11 ⟨he11, qn, cn, rfl, hnn, hcn, hnq⟩)
           | (refine wpList_put rfl 26 (.tmp 17) (.tmp 99) rfl _ #[.int .i64 a.nd.level, .int .i64 a.nd.next, .slice qn E'.length cn] rfl rfl _ _ (Blk.new w11 _) ndSize rfl (by simp [Value.oneCell']) ?_; intro w12 hn12 hc12))
         obtain ⟨gn, hgn, rfl, curn, hbn⟩ := hnq (by trivial)
         have hgg : g < gn := by
           obtain ⟨g9, hq9, _, hl9, _⟩ := own_set HSt10.out.rows i hat
           simp only [Option.some.injEq, Addr.mk.injEq, and_true] at hq9
           subst hq9
           omega
         have hxg : xb < gn := by
           have := Blk.lt HSt10.out.x
           omega
         have hx12 : Ext w2 w12 := he11.trans (hc12.ext (Ext.alloc _ _) (Nat.le_refl _))
         have hnn12 : Nents w12 (some ⟨gn, 0, none⟩) E' := Cells.ext hnn (hc12.ext (Ext.alloc _ _) (Nat.le_refl _))
         have HSt12 := Lib.hid (HSt10.out.more hx12)
         have HOv12 := Lib.hid (own_ext HOv10.out hx12)
         have HOt12 := Lib.hid (HOt10.out.ext hx12)
         have Hnn := Lib.hid hnn12
         have Hbn := Lib.hid ((hc12.ext (Ext.alloc _ _) (Nat.le_refl _) : Ext w11 w12).blk _ _ hbn)
         clear hbn
         have hxx := HSt12.out.x
         have y1 := Blk.free hxx 1
         have y2 := Blk.free hxx 2
         have y3 := Blk.free hxx 3
         obtain ⟨_, x1, x2, x3, _, lx⟩ := hxx.cells
         have hnb : xb ≠ w11.heap.size := by
           have h1 := Blk.lt (HSt10.out.x.ext he11)
           omega
         clear hxx HSt10 HOv10 HOt10 HIn hc12 he11 hx12 hnn hnn12
         go_upto_region 23 with (first | (refine wpList_row (o := ⟨some 105, _, _, _, _, _⟩) rfl 26 (.tmp 17) rfl _ rfl _ _ _ hn12 ndDesc rfl ndSize ?_))
         have hch : Chg xb w12 (((w12.setCell ⟨xb, 1, none⟩ (.int .i64 a.nd.level)).setCell ⟨xb, 2, none⟩ (.int .i64 a.nd.next)).setCell ⟨xb, 3, none⟩ (.slice (some ⟨gn, 0, none⟩) E'.length cn)) := (Chg.setCell.trans Chg.setCell).trans Chg.setCell
         have hge := HSt12.out.xge
         refine wp_name (fun w13 => Ext w w13 ∧ ArAt w13 xb { a with nd := { a.nd with ents := E' } } (some ⟨gn, 0, none⟩) cn (some ⟨g, 0, none⟩) c3 ∧ Blk w13 (w.heap.size + 1 + 1) (.cells arZ 29) ∧ w13.ownsRow w.heap.size 30 1 (.slice (some ⟨g, 0, none⟩) a.ivs.length c3) a.ivs.length (vs.set i (.slice (some ⟨gl, ol, none⟩) l.length c5)) ∧ w13.ownsRow w.heap.size 9 1 (.slice (some ⟨gl, ol, none⟩) l.length c5) l.length (l.map fun s => .string ⟨s.toArray⟩) ∧ Others w13 w.heap.size vs a.ivs i ∧ Nents w13 (some ⟨gn, 0, none⟩) E' ∧ Blk w13 gn (.cells curn 63))
           ⟨hch.ext HSt12.out.ext (by omega), Blk.setCell (Blk.setCell (Blk.setCell HSt12.out.x)), hch.blk HSt12.out.res (by omega), own_chgT HSt12.out.rows (by decide) HSt12.out.x hch, own_chgT HOv12.out (by decide) HSt12.out.x hch, HOt12.out.chgT HSt12.out.x (by decide) hch, cells_chgO Hnn.out (by omega) hch, hch.blk Hbn.out (by omega)⟩ ?_
         clear hch x1 x2 x3 y1 y2 y3 lx HSt12 HOv12 HOt12 Hnn Hbn hnb hn12
         rintro w13 ⟨hx13, ha13, hz13, hr13, hv13, ho13, hn13, hb13⟩
         obtain ⟨_, _, _, _, k4, lk⟩ := ha13.cells
         have hmc : mm ≤ c5 := by omega
         have hml : mm ≤ l.length := by omega
         have hmn : ¬ c5 = mm := by omega
         have H13 := Lib.hid (And.intro hx13 (And.intro ha13 (And.intro hz13 (And.intro hr13 (And.intro hv13 (And.intro ho13 (And.intro hn13 hb13)))))))
         clear hx13 ha13 hz13 hr13 hv13 ho13 hn13 hb13
         refine wp_region_mk 7 (Ext.refl w13) (by kernel_rfl) (by kernel_rfl) (by kernel_rfl) ?_
         simp only [List.take_succ_cons, List.take_zero, List.take_nil, List.drop_succ_cons, List.drop_zero, List.drop_nil, List.map_cons, List.map_nil]
         repeat (first
           | (refine wpML_move _ _ rfl (by first | exact .inl rfl | exact .inr rfl) rfl (by first | exact Is.stable _ | exact AppF.stable _ | exact WrF.stable _ | exact PtrF.stable _ _ | exact IfcF.stable (Fresh.stable _ _ _) _ | exact PairF.stable (RowF.stable _ _ _ _) _ | exact RowF.stable _ _ _ _ | exact Fresh.stable _ _ _) ?_
              simp only [setL, List.set_cons_succ, List.set_cons_zero, List.getD_cons_succ, List.getD_cons_zero])
           | (refine wpML_moveC _ rfl (by first | exact .inl rfl | exact .inr rfl) ?_
              simp only [setL, List.set_cons_succ, List.set_cons_zero])
           | (apply wpML_det rfl
              · intro a w' he hr K hK
                simp [Reads, Oper.looksAt, Op.operands, Call.operands, factAt, Is] at hr
                have hx := he.cell
                go_simp
                try go_bits
                try (rw [if_neg (by omega)]; go_simp)
                first
                  | exact hK _ (Ext.refl _)
              simp only [setL, List.set_cons_succ, List.set_cons_zero])
           | (apply wpML_det rfl
              · intro a w' he hr K hK
                simp [Reads, Oper.looksAt, Op.operands, Call.operands, factAt, Fresh] at hr
                obtain ⟨b, hr1, hr2⟩ := hr
                go_simp
                exact hK _ (Ext.refl _)
              simp only [setL, List.set_cons_succ, List.set_cons_zero]))
         intro w2 he2
         repeat (first | with_reducible refine rest_is _ _ _ _ ?_ | (with_reducible refine rest_fact _ _ _ _ ?_; intro _ _) | with_reducible refine rest_end _ _ ?_)
         simp only [List.reverse_cons, List.reverse_nil, List.nil_append, List.cons_append]
         clear k4 lk
         obtain ⟨hx13, ha13, hz13, hr13, hv13, ho13, hn13, hb13⟩ := H13.out
         have hr14 := own_ext hr13 he2
         have ha14 := ha13.ext he2
         obtain ⟨g', hq, hg1, hgl, hgf, hgc, hgs⟩ := own_set hr14 i hat
         simp only [Option.some.injEq, Addr.mk.injEq, and_true] at hq
         subst hq
         obtain ⟨g2, cu, hq, _, hbg, _⟩ := own_parts hr14 (by omega)
         simp only [Option.some.injEq, Addr.mk.injEq, and_true] at hq
         subst hq
         have hch : Chg g w2 (w2.setCell ⟨g, i, none⟩ (.slice (some ⟨gl, ol, none⟩) mm mm)) := Chg.setCell
         have HX15 := Lib.hid (hch.ext (hx13.trans he2) hg1)
         have HA15 := Lib.hid (hch.blk ha14 (blk_ne ha14 hbg (by decide)))
         have HZ15 := Lib.hid (hch.blk (he2.blk _ _ hz13) (blk_ne (he2.blk _ _ hz13) hbg (by decide)))
         have HR15 := Lib.hid (hgs (.slice (some ⟨gl, ol, none⟩) mm mm)).1
         rw [List.set_set] at HR15
         have HV15 := Lib.hid (own_chgT (own_ext hv13 he2) (by decide) hbg hch)
         have HO15 := Lib.hid ((ho13.ext he2).chgT hbg (by decide) hch)
         have HN15 := Lib.hid (cells_chgO (Cells.ext hn13 he2) (show gn ≠ g by omega) hch)
         have HB15 := Lib.hid (hch.blk (he2.blk _ _ hb13) (show gn ≠ g by omega))
         clear hx13 ha13 hz13 hr13 hv13 ho13 hn13 hb13 H13 ha14 hr14 hgs hbg hch he2
         go_upto_region 24 with (fail)
         clear hgl hgf hgc
         refine wp_name (fun w15 => Ext w w15 ∧ ArAt w15 xb { a with nd := { a.nd with ents := E' } } (some ⟨gn, 0, none⟩) cn (some ⟨g, 0, none⟩) c3 ∧ Blk w15 (w.heap.size + 1 + 1) (.cells arZ 29) ∧ w15.ownsRow w.heap.size 30 1 (.slice (some ⟨g, 0, none⟩) a.ivs.length c3) a.ivs.length (vs.set i (.slice (some ⟨gl, ol, none⟩) mm mm)) ∧ w15.ownsRow w.heap.size 9 1 (.slice (some ⟨gl, ol, none⟩) l.length c5) l.length (l.map fun s => .string ⟨s.toArray⟩) ∧ Others w15 w.heap.size vs a.ivs i ∧ Nents w15 (some ⟨gn, 0, none⟩) E' ∧ Blk w15 gn (.cells curn 63))
           ⟨HX15.out, HA15.out, HZ15.out, HR15.out, HV15.out, HO15.out, HN15.out, HB15.out⟩ ?_
         clear HX15 HA15 HZ15 HR15 HV15 HO15 HN15 HB15
         rintro w15 ⟨hx15, ha15, hz15, hr15, hv15, ho15, hn15, hb15⟩
         obtain ⟨_, _, _, _, k4, lk⟩ := ha15.cells
         have hCl := Lib.hid (fun W (e : Ext w15 W) => CloneS_any (some ⟨gl, ol + mm, none⟩) (c5 - mm) (l.length - mm) ((l.drop mm).map fun s : List UInt8 => Value.string ⟨s.toArray⟩) W (Cells.ext ((own_strs3 hv15).drop mm) e) (by simp) (strs_one _) (by have := HL6.out.1; omega) (fun h => by cases h))
         have H15 := Lib.hid (And.intro hx15 (And.intro ha15 (And.intro hz15 (And.intro hr15 (And.intro hv15 (And.intro ho15 (And.intro hn15 hb15)))))))
         clear hx15 ha15 hz15 hr15 hv15 ho15 hn15 hb15
         refine wp_region_mk 9 (Ext.refl w15) (by kernel_rfl) (by kernel_rfl) (by kernel_rfl) ?_
         simp only [List.take_succ_cons, List.take_zero, List.take_nil, List.drop_succ_cons, List.drop_zero, List.drop_nil, List.map_cons, List.map_nil]
         repeat (first
           | (refine wpML_move _ _ rfl (by first | exact .inl rfl | exact .inr rfl) rfl (by first | exact Is.stable _ | exact AppF.stable _ | exact WrF.stable _ | exact PtrF.stable _ _ | exact IfcF.stable (Fresh.stable _ _ _) _ | exact PairF.stable (RowF.stable _ _ _ _) _ | exact RowF.stable _ _ _ _ | exact Fresh.stable _ _ _) ?_
              simp only [setL, List.set_cons_succ, List.set_cons_zero, List.getD_cons_succ, List.getD_cons_zero])
           | (refine wpML_moveC _ rfl (by first | exact .inl rfl | exact .inr rfl) ?_
              simp only [setL, List.set_cons_succ, List.set_cons_zero])
           | (apply wpML_det rfl
              · intro a w' he hr K hK
                simp [Reads, Oper.looksAt, Op.operands, Call.operands, factAt, Is] at hr
                have hx := he.cell
                go_simp
                try go_bits
                try (rw [if_neg (by omega)]; go_simp)
                first
                  | exact hK _ (Ext.refl _)
              simp only [setL, List.set_cons_succ, List.set_cons_zero])
           | (refine wpML_fact (o := ⟨some 122, _, _, _, _, _⟩) (OwnF 9 w15.heap.size 1 (l.length - mm) ((l.drop mm).map fun s : List UInt8 => Value.string ⟨s.toArray⟩)) (OwnF.stable _ _ _ _ _) rfl ?_ ?_
              · intro a w' he hr K hK
                simp [Reads, Oper.looksAt, Op.operands, Call.operands, factAt, Is] at hr
                go_simp
                refine (hCl.out _ he).mono ?_
                rintro e w'' ⟨he', v, rfl, ho'⟩
                obtain ⟨q', c', rfl⟩ := own_slice ho'
                exact hK _ _ he' ⟨q', c', rfl, own_le ho' he.size⟩
              simp only [setL, List.set_cons_succ, List.set_cons_zero])
           | (refine wpML_fact (o := ⟨some 123, _, _, _, _, _⟩) (CloF w15.heap.size (l.length - mm) ((l.drop mm).map fun s : List UInt8 => Value.string ⟨s.toArray⟩)) (CloF.stable _ _ _) rfl ?_ ?_
              · intro a w' he hr K hK
                obtain ⟨q', c', h1, ho'⟩ := hr 122 (by simp [Oper.looksAt, Op.operands, Call.operands])
                simp at h1
                go_simp
                exact hK _ _ (Ext.alloc _ _) ⟨_, q', c', rfl, he.size, Blk.new _ _, own_ext ho' (Ext.alloc _ _)⟩
              simp only [setL, List.set_cons_succ, List.set_cons_zero])
           | (apply wpML_det rfl
              · intro a w' he hr K hK
                simp [Reads, Oper.looksAt, Op.operands, Call.operands, factAt, Fresh] at hr
                obtain ⟨b, hr1, hr2⟩ := hr
                go_simp
                exact hK _ (Ext.refl _)
              simp only [setL, List.set_cons_succ, List.set_cons_zero]))
         intro w2 he2
         repeat (first | with_reducible refine rest_is _ _ _ _ ?_ | (with_reducible refine rest_fact _ _ _ _ ?_; intro _ _) | with_reducible refine rest_end _ _ ?_)
         simp only [List.reverse_cons, List.reverse_nil, List.nil_append, List.cons_append]
         rename_i xv hxv yv hyv
         obtain ⟨vb, q9, c9, rfl, hvb, hvB, hown9⟩ := hyv
         clear hxv hCl k4 lk
         obtain ⟨hx15, ha15, hz15, hr15, hv15, ho15, hn15, hb15⟩ := H15.out
         have hr16 := own_ext hr15 he2
         have ha16 := ha15.ext he2
         have hgw : g < w15.heap.size := by
           obtain ⟨g9, hq9, _, hl9, _⟩ := own_set hr15 i hat
           simp only [Option.some.injEq, Addr.mk.injEq, and_true] at hq9
           subst hq9
           exact hl9
         have hIR := InsertR_any (some ⟨g, 0, none⟩) c3 a.ivs.length (i + 1) (vs.set i (.slice (some ⟨gl, ol, none⟩) mm mm)) [.slice q9 (l.length - mm) c9] vb w.heap.size w2 hr16 hvB rfl (by intro u hu; simp at hu; subst hu; rfl) (by
           intro u hu
           obtain ⟨j, hj, rfl⟩ := List.mem_iff_getElem.1 hu
           rw [List.length_set] at hj
           by_cases hji : j = i
           · subst hji; simp [Value.oneCell']
           · rw [List.getElem_set_ne (fun e => hji e.symm)]
             obtain ⟨qj, cj, hvj⟩ := own_slice (ho15 j (by omega) hji)
             have e : vs.getD j undef = vs[j] := by simp [List.getD, hj]
             rw [e] at hvj
             rw [hvj]; rfl) (by omega) (by omega) (fun h => by
             simp only [Value.ownBlock, Option.some.injEq] at h
             omega) (Nat.le_trans hx15.size he2.size)
         rw [show ((i + 1 : Nat) : Int) = (i : Int) + 1 by push_cast; rfl, set_spl vs (by omega)] at hIR
         have HIR := Lib.hid hIR
         have hf4 := Blk.free ha16 4
         obtain ⟨_, _, _, _, k4, lk⟩ := ha16.cells
         have hx15s := hx15.size
         have Hm16 := Lib.hid (And.intro hr16 (And.intro ha16 (And.intro (he2.blk _ _ hz15) (And.intro (own_ext hv15 he2) (And.intro (ho15.ext he2) (And.intro (Cells.ext hn15 he2) (And.intro hown9 (And.intro (hx15.trans he2) (he2.blk _ _ hb15)))))))))
         clear hIR hr16 ha16 hx15 ha15 hz15 hr15 hv15 ho15 hn15 hb15 H15 hvB hown9 he2 hf4 k4 lk
         go_upto_region 25 with (first
           | (go_at_call 64; refine HIR.out.mono ?_; rintro e w17 ⟨v17, rfl, ho17, hg17⟩; obtain ⟨q17, c17, rfl⟩ := own_slice ho17; have ha17 := Blk.grown Hm16.out.2.1 hg17 (typed_ne Hm16.out.1 Hm16.out.2.1 (by decide)); have hf17 := Blk.free ha17 4; have k17 := Blk.val ha17 4 _ rfl; have l17 := Blk.lt ha17))
         obtain ⟨hr16, ha16, hz16, hv16, ho16, hn16, hown9, hx16, hb16⟩ := Hm16.out
         have hz17 := Blk.grown hz16 hg17 (typed_ne hr16 hz16 (by decide))
         have hne17 : ∀ g9, some g = some g9 → g9 = g := fun g9 h => by injection h with h; exact h.symm
         have tg : ∀ {v : Value} {n : Nat} {xs : List Value}, w2.ownsRow w.heap.size 9 1 v n xs → w17.ownsRow w.heap.size 9 1 v n xs := fun h => own_grown h hg17 (fun g9 hv9 he9 => by
           obtain ⟨c9, hc9⟩ := own_typed h hv9
           exact typed_ne hr16 hc9 (by decide) he9)
         have hn17 := cells_grown hn16 hg17 (by
           intro h
           simp only [Value.ownBlock, Option.some.injEq] at h
           omega)
         have hb17 := Blk.grown hb16 hg17 (by
           intro h
           simp only [Value.ownBlock, Option.some.injEq] at h
           omega)
         have hx17 : Ext w w17 := Ext.trans' hx16 (Below.of_grown hg17 hr16 (Nat.le_refl _) hx16.size)
         have hc18 : Chg xb w17 (w17.setCell ⟨xb, 4, none⟩ (.slice q17 (a.ivs.length + 1) c17)) := Chg.setCell
         have e5 : arC { a with nd := { a.nd with ents := E' }, ivs := splV a.ivs i (l.take mm) (l.drop mm) } (some ⟨gn, 0, none⟩) cn q17 c17 = #[.int .i64 a.base, .int .i64 a.nd.level, .int .i64 a.nd.next, .slice (some ⟨gn, 0, none⟩) E'.length cn, .slice q17 (a.ivs.length + 1) c17] := by
           unfold arC
           simp only [splV_len hat]
         refine wp_name (fun w18 => Ext w w18 ∧ Blk w18 xb (.cells (arC { a with nd := { a.nd with ents := E' }, ivs := splV a.ivs i (l.take mm) (l.drop mm) } (some ⟨gn, 0, none⟩) cn q17 c17) 29) ∧ Blk w18 (w.heap.size + 1 + 1) (.cells arZ 29) ∧ w18.ownsRow w.heap.size 30 1 (.slice q17 (a.ivs.length + 1) c17) (a.ivs.length + 1) (vs.take i ++ .slice (some ⟨gl, ol, none⟩) mm mm :: .slice q9 (l.length - mm) c9 :: vs.drop (i + 1)) ∧
             w18.ownsRow w.heap.size 9 1 (.slice (some ⟨gl, ol, none⟩) l.length c5) l.length (l.map fun s => .string ⟨s.toArray⟩) ∧ w18.ownsRow w.heap.size 9 1 (.slice q9 (l.length - mm) c9) (l.length - mm) ((l.drop mm).map fun s => .string ⟨s.toArray⟩) ∧ Others w18 w.heap.size vs a.ivs i ∧ Nents w18 (some ⟨gn, 0, none⟩) E' ∧ Blk w18 gn (.cells curn 63))
           ⟨hc18.ext hx17 (by omega), by rw [e5]; exact Blk.setCell ha17, hc18.blk hz17 (by omega), own_chgT ho17 (by decide) ha17 hc18, own_chgT (tg hv16) (by decide) ha17 hc18, own_chgT (tg (own_le hown9 hx15s)) (by decide) ha17 hc18, fun j hj hji => own_chgT (tg (ho16 j hj hji)) (by decide) ha17 hc18, cells_chgO hn17 (by omega) hc18, hc18.blk hb17 (by omega)⟩ ?_
         clear tg hc18 hx17 hn17 hz17 hr16 ha16 hz16 hv16 ho16 hn16 hb16 hb17 hown9 hx16 ha17 hf17 k17 l17 ho17 hg17 hne17 HIR Hm16
         rintro w18 ⟨hx18, ha18, hz18, ho18, hv18, hn9, hO18, hE18, hB18⟩
         go_wp2_with (first
           | (refine wpList_row (o := ⟨some 126, _, _, _, _, _⟩) rfl 29 (.tmp 9) rfl _ rfl _ _ _ ha18 arDesc rfl arSize ?_)
           | (refine wpList_put rfl 29 (.tmp 6) (.tmp 126) rfl _ (arC { a with nd := { a.nd with ents := E' }, ivs := splV a.ivs i (l.take mm) (l.drop mm) } (some ⟨gn, 0, none⟩) cn q17 c17) rfl rfl _ _ hz18 arSize rfl (ar_one ..) ?_; intro w19 hz19 hc19))
         have hv19 := own_strs3 (own_chgT hv18 (by decide) hz18 hc19)
         have hn19 := own_chgT hn9 (by decide) hz18 hc19
         rw [show l.length - mm = (l.drop mm).length from List.length_drop.symm] at hn19
         have ho19 := own_cellsK (own_chgT ho18 (by decide) hz18 hc19)
         have h1 : RowV w19 (.slice (some ⟨gl, ol, none⟩) mm mm) (l.take mm) := by
           have e : (l.take mm).length = mm := by rw [List.length_take]; omega
           exact ⟨some ⟨gl, ol, none⟩, mm, by rw [e], hv19.take mm, by rw [e]; exact Nat.le_refl _, by omega, (fun h => by cases h), Typ.of_own (own_chgT hv18 (by decide) hz18 hc19)⟩
         have h2 : RowV w19 (.slice q9 (l.length - mm) c9) (l.drop mm) := by
           rw [show l.length - mm = (l.drop mm).length from List.length_drop.symm]
           exact RowV.of_own hn19
         have hrs := rows_spl (vs := vs) (V := a.ivs) (i := i) (fun j hj hji => RowV.of_own (own_chgT (hO18 j hj hji) (by decide) hz18 hc19)) hvl hat h1 h2
         exact bodyPost_ret (results_row2 Tryz.results25 _ _ _ _ _ _ rfl hz19 arDesc rfl arSize) rfl ⟨hc19.ext hx18 (by omega), by
           rw [if_pos Hr.out]
           exact ⟨{ a with nd := { a.nd with ents := E' }, ivs := splV a.ivs i (l.take mm) (l.drop mm) }, true, some ⟨gn, 0, none⟩, cn, q17, c17, rfl, ⟨cells_chgO hE18 (by omega) hc19, ⟨_, ho19.1, hrs⟩, hcn, by rw [splV_len hat]; exact ho19.2.1, ho19.2.2, Typ.of_blk (hc19.blk hB18 (by omega)), Typ.of_own (own_chgT ho18 (by decide) hz18 hc19)⟩, HAI.out, rfl, rfl, (fun _ => by rw [HRecs.out]), (fun h => by cases h), HQ.out⟩⟩
     · have HF1 := Lib.hid (HF.out _ hfl)
       have HPF := Lib.hid (PF.out hfl)
       have HQ := Lib.hid (HPA.out.trans (if_pos hfl))
       clear hfl HF HPA
       go_wp2_with (first
         | (go_at_call 38; refine HF1.out.mono ?_; rintro e w7 ⟨rfl, he7⟩; have hst7 := HSt.out.more he7)
         | (refine wpList_row (o := ⟨some 67, _, _, _, _, _⟩) rfl 29 (.tmp 9) rfl _ rfl _ _ _ hst7.x arDesc rfl arSize ?_)
         | (refine wpList_put rfl 29 (.tmp 6) (.tmp 67) rfl _ (arC a q1 c1 (some ⟨g, 0, none⟩) c3) rfl rfl _ _ hst7.res arSize rfl (ar_one ..) ?_; intro w8 hz8 hc8))
       obtain ⟨hxx, harv⟩ := hst7.result hat hvl (own_ext HOv.out he7) (HOt.out.ext he7) hc8
       exact bodyPost_ret (results_row2 Tryz.results25 _ _ _ _ _ _ rfl hz8 arDesc rfl arSize) rfl ⟨hxx, by
         rw [if_pos Hr.out]
         exact ⟨{ a with ivs := a.ivs.set i (putL d r L) }, true, q1, c1, some ⟨g, 0, none⟩, c3, by unfold arC; simp only [List.length_set]; rfl, harv, HPF.out.1, rfl, rfl, (fun _ => HPF.out.2), (fun h => by cases h), HQ.out⟩⟩
end Go.Proofs.YtifmbcjbccedfaaGreatDoor
