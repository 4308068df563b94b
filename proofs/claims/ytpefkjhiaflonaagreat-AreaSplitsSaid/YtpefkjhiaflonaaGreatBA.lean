/- The walk of area.Split at a valid area. -/
import Derived.Test.YtpefkjhiaflonaaGreatAW0
set_option linter.unusedSimpArgs false
set_option linter.unusedVariables false
namespace Go.Proofs.YtpefkjhiaflonaaGreat
open Go.RowKit Dsd
theorem entCells_appB (A B : List Ent) : entCells (A ++ B) = entCells A ++ entCells B := by unfold entCells; rw [List.flatMap_append]
theorem entCells_pg : ∀ (L : List Ent) (i : Nat) (pg : Int), i < L.length → entCells (L.set i ((entAt L i).1, pg)) = (entCells L).set (i * 2 + 1) (.int .i64 pg)
  | x :: L, 0, pg, _ => by simp [entCells, entAt]
  | x :: L, i + 1, pg, h => by
    have ih := entCells_pg L i pg (by simpa using h)
    rw [List.set_cons_succ, entCells_cons, entCells_cons, show (i + 1) * 2 + 1 = (i * 2 + 1) + 1 + 1 by omega, List.set_cons_succ, List.set_cons_succ]
    have e : entAt (x :: L) (i + 1) = entAt L i := by simp [entAt]
    rw [e, ih]
/-- The first i entries bear new pages. -/
def renTo (p : Int) (E : List Ent) (i : Nat) : List Ent := renumP p (E.take i) ++ E.drop i
theorem renumP_app : ∀ (A : List Ent) (p : Int) (x : Ent), renumP p (A ++ [x]) = renumP p A ++ [(x.1, p + A.length)]
  | [], p, x => by simp [renumP]
  | y :: A, p, x => by
    rw [List.cons_append, renumP, renumP_app A (p + 1) x, renumP, List.cons_append, List.length_cons]
    congr 4
    push_cast
    omega
theorem renTo_len (p : Int) (E : List Ent) (i : Nat) : (renTo p E i).length = E.length := by unfold renTo; rw [List.length_append, renum_len, ← List.length_append, List.take_append_drop]
theorem renTo_step {p : Int} {E : List Ent} {i : Nat} (h : i < E.length) : (renTo p E i).set i ((entAt (renTo p E i) i).1, p + i) = renTo p E (i + 1) := by
  have hl : (renumP p (E.take i)).length = i := by rw [renum_len, List.length_take]; omega
  unfold renTo
  have e : entAt (renumP p (E.take i) ++ E.drop i) i = E[i] := by
    unfold entAt
    rw [List.getD, List.getElem?_append_right (by omega), hl, Nat.sub_self, List.getElem?_drop]
    simp [h]
  rw [e, List.set_append_right _ _ (by omega), hl, Nat.sub_self, List.drop_eq_getElem_cons h, List.set_cons_zero, List.take_succ_eq_append_getElem h, renumP_app, List.length_take, Nat.min_eq_left (by omega), List.append_assoc]
  rfl
def five (w : World) (b : Nat) (x0 x1 x2 x3 x4 : Value) : World := ((((w.setCell ⟨b, 0, none⟩ x0).setCell ⟨b, 1, none⟩ x1).setCell ⟨b, 2, none⟩ x2).setCell ⟨b, 3, none⟩ x3).setCell ⟨b, 4, none⟩ x4
theorem five_chg (w : World) (b : Nat) (x0 x1 x2 x3 x4 : Value) : Chg b w (five w b x0 x1 x2 x3 x4) := (((Chg.setCell.trans Chg.setCell).trans Chg.setCell).trans Chg.setCell).trans Chg.setCell
theorem five_row {w : World} {b : Nat} {t : TypeId} (h : Blk w b (.cells arZ t)) (x0 x1 x2 x3 x4 : Value) : Blk (five w b x0 x1 x2 x3 x4) b (.cells #[x0, x1, x2, x3, x4] t) :=
  Blk.setCell (i := 4) (v := x4) (Blk.setCell (i := 3) (v := x3) (Blk.setCell (i := 2) (v := x2) (Blk.setCell (i := 1) (v := x1) (Blk.setCell (i := 0) (v := x0) h))))
theorem rows_take {w : World} {vs : List Value} {V : List Recs} (h : RowsV w vs V) (K : Nat) : RowsV w (vs.take K) (V.take K) := by
  refine ⟨by rw [List.length_take, List.length_take, h.1], fun i hi => ?_⟩
  rw [List.length_take] at hi
  have e1 : (vs.take K).getD i undef = vs.getD i undef := by simp [List.getD, List.getElem?_take, show i < K by omega]
  have e2 : (V.take K).getD i [] = V.getD i [] := by simp [List.getD, List.getElem?_take, show i < K by omega]
  rw [e1, e2]; exact h.2 i (by omega)
theorem rows_drop {w : World} {vs : List Value} {V : List Recs} (h : RowsV w vs V) (K : Nat) : RowsV w (vs.drop K) (V.drop K) := by
  refine ⟨by rw [List.length_drop, List.length_drop, h.1], fun i hi => ?_⟩
  rw [List.length_drop] at hi
  have e1 : (vs.drop K).getD i undef = vs.getD (K + i) undef := by simp [List.getD, List.getElem?_drop]
  have e2 : (V.drop K).getD i [] = V.getD (K + i) [] := by simp [List.getD, List.getElem?_drop]
  rw [e1, e2]; exact h.2 (K + i) (by omega)
/-- What Split hands back at a valid area. -/
def SplitOut (d : DS) (a : Ar) (base : Int) (w : World) (e : Ending) (w' : World) : Prop := Ext w w' ∧
  if a.ivs.length = 1 then e = .returned (.tuple #[.agg arZ, .agg arZ, .string ⟨#[]⟩, .int .i64 9])
  else ∃ (q1 : Option Addr) (c1 : Nat) (p1 : Option Addr) (m1 : Nat) (q2 : Option Addr) (c2 : Nat) (p2 : Option Addr) (m2 : Nat), e = .returned (.tuple #[.agg (arC (leftA a base) q1 c1 p1 m1), .agg (arC (rightA a base) q2 c2 p2 m2), .string ⟨(midA a).toArray⟩, .int .i64 0]) ∧ ArV w' (leftA a base) q1 c1 p1 m1 ∧ ArV w' (rightA a base) q2 c2 p2 m2
set_option maxRecDepth 100000 in
set_option maxHeartbeats 6000000 in
theorem SplitS_anyW (d : DS) (a : Ar) (q : Option Addr) (c : Nat) (p : Option Addr) (m : Nat) (base : Int) (w : World) (I : ASpec d a) (hv : ArW w a q c p m) (hbase : isBaseB base = true) :
    Calls Tryz.prog 6 #[.agg #[.int .i64 d.id, .int .i64 d.org, .int .i64 d.format, .int .i64 d.length, .int .i64 d.block, .int .i64 d.keyAt, .int .i64 d.keyLength, .int .i64 d.interval, .int .i64 d.area, .int .i64 d.freeInterval, .int .i64 d.freeArea, .int .i64 d.base, .int .i64 d.altAt, .int .i64 d.altLength, .bool d.unique, .int .i64 d.cls, .string ⟨d.volume.toArray⟩, .string ⟨d.owner.toArray⟩, .int .i64 d.created, .int .i64 d.expires, .bool d.archived], .agg (arC a q c p m), .int .i64 base] w (SplitOut d a base w) := by
  have HV := Lib.hid (fun W (e : Ext w W) => ValidA_anyW d a q c p m W I (hv.ext e))
  have HB := Lib.hid (fun W => isBase_any base W)
  rw [hbase] at HB
  have Hv := Lib.hid hv
  have HI := Lib.hid I
  have hda := ds_ar w d a q c p m
  have hex3 := (Ext.alloc ((w.alloc (.cells #[.int .i64 d.id, .int .i64 d.org, .int .i64 d.format, .int .i64 d.length, .int .i64 d.block, .int .i64 d.keyAt, .int .i64 d.keyLength, .int .i64 d.interval, .int .i64 d.area, .int .i64 d.freeInterval, .int .i64 d.freeArea, .int .i64 d.base, .int .i64 d.altAt, .int .i64 d.altLength, .bool d.unique, .int .i64 d.cls, .string ⟨d.volume.toArray⟩, .string ⟨d.owner.toArray⟩, .int .i64 d.created, .int .i64 d.expires, .bool d.archived] 23)).alloc (.cells (arC a q c p m) 29)) (.cells arZ 29)).trans (Ext.alloc _ (.cells arZ 29))
  obtain ⟨n1, n2, n3, n4, n5⟩ := inv_small I
  have HC := Lib.hid (fun W (e : Ext w W) => CloneA_anyW a q c p m W (hv.ext e) n3 n4 (by omega) (by omega) n5)
  unfold isBaseB at hbase
  simp only [Bool.and_eq_true, decide_eq_true_eq] at hbase
  obtain ⟨hb1, hb2⟩ := hbase
  have Hout : Hid (∀ e w', SplitOut d a base w e w' ↔ (Ext w w' ∧ if a.ivs.length = 1 then e = .returned (.tuple #[.agg arZ, .agg arZ, .string ⟨#[]⟩, .int .i64 9])
    else ∃ (q1 : Option Addr) (c1 : Nat) (p1 : Option Addr) (m1 : Nat) (q2 : Option Addr) (c2 : Nat) (p2 : Option Addr) (m2 : Nat), e = .returned (.tuple #[.agg (arC (leftA a base) q1 c1 p1 m1), .agg (arC (rightA a base) q2 c2 p2 m2), .string ⟨(midA a).toArray⟩, .int .i64 0]) ∧ ArV w' (leftA a base) q1 c1 p1 m1 ∧ ArV w' (rightA a base) q2 c2 p2 m2)) := Lib.hid (fun _ _ => Iff.rfl)
  generalize SplitOut d a base w = OUT at *
  clear I hv n5
  go_enter Tryz.func6, Tryz.ntmps6
  go_upto_region 1 with (fail)
  refine wp_name (fun w0 => Ext w w0 ∧ DsAt w0 w.heap.size d ∧ ArAt w0 (w.heap.size + 1) a q c p m ∧ Blk w0 (w.heap.size + 1 + 1) (.cells arZ 29) ∧ Blk w0 (w.heap.size + 1 + 1 + 1) (.cells arZ 29)) ⟨hda.1.trans hex3, hda.2.1.ext hex3, hda.2.2.ext hex3, (Ext.alloc _ _).blk _ _ (Blk.new1 _ _ _ (by simp)), Blk.new1 _ _ _ (by simp)⟩ ?_
  clear hda hex3
  rintro w0 ⟨he0, hd0, ha0, hz0, hy0⟩
  by_cases hone : a.ivs.length = 1
  · have i1 : ((a.ivs.length : Int) == 1) = true := by rw [hone]; rfl
    have Hone := Lib.hid hone
    clear hone
    go_wp2_with (first
      | (refine wpList_ds (o := ⟨some 18, _, _, _, _, _⟩) rfl (.tmp 3) rfl _ rfl d hd0 ?_)
      | (refine wpList_row (o := ⟨some 19, _, _, _, _, _⟩) rfl 29 (.tmp 4) rfl _ rfl _ _ _ ha0 arDesc rfl arSize ?_)
      | (go_at_call 18; refine (HV.out _ he0).mono ?_; rintro e w1 ⟨rfl, he1⟩; have hz1 := he1.blk _ _ hz0; have hy1 := he1.blk _ _ hy0; have ha1 := ha0.ext he1; obtain ⟨_, _, _, _, x4, lx⟩ := ha1.cells)
      | (go_at_call 21; refine (HB.out _).mono ?_; rintro e w2 ⟨rfl, rfl⟩)
      | (refine wpList_bld (o := ⟨some 34, _, _, _, _, _⟩) rfl 29 #[] rfl [] rfl _ arZ_built ?_)
      | (refine wpList_bld (o := ⟨some 35, _, _, _, _, _⟩) rfl 29 #[] rfl [] rfl _ arZ_built ?_)
      | (refine wpList_put rfl 29 (.tmp 6) (.tmp 34) rfl _ arZ rfl rfl _ _ hz1 arSize rfl (by simp [arZ, Value.oneCell']) ?_; intro w3 hz3 hc3)
      | (refine wpList_put rfl 29 (.tmp 7) (.tmp 35) rfl _ arZ rfl rfl _ _ (hc3.blk hy1 (by omega)) arSize rfl (by simp [arZ, Value.oneCell']) ?_; intro w4 hy4 hc4))
    exact bodyPost_ret (results_rows2 Tryz.results6 _ _ _ _ _ _ _ _ _ _ rfl (hc4.blk hz3 (by omega)) arDesc rfl arSize rfl hy4 arDesc rfl arSize) rfl ((Hout.out _ _).2 ⟨hc4.ext (hc3.ext (he0.trans he1) (by omega)) (by omega), by rw [if_pos Hone.out]; rfl⟩)
  · have i1 : ((a.ivs.length : Int) == 1) = false := beq_eq_false_iff_ne.2 (by omega)
    have hn2 : 2 ≤ a.ivs.length := by omega
    have Hone := Lib.hid hone
    clear hone
    go_upto_region 6 with (first
      | (refine wpList_ds (o := ⟨some 18, _, _, _, _, _⟩) rfl (.tmp 3) rfl _ rfl d hd0 ?_)
      | (refine wpList_row (o := ⟨some 19, _, _, _, _, _⟩) rfl 29 (.tmp 4) rfl _ rfl _ _ _ ha0 arDesc rfl arSize ?_)
      | (go_at_call 18; refine (HV.out _ he0).mono ?_; rintro e w1 ⟨rfl, he1⟩; have hd1 := hd0.ext he1; have hz1 := he1.blk _ _ hz0; have hy1 := he1.blk _ _ hy0; have ha1 := ha0.ext he1; obtain ⟨_, _, _, _, x4, lx⟩ := ha1.cells)
      | (go_at_call 21; refine (HB.out _).mono ?_; rintro e w2 ⟨rfl, rfl⟩)
      | (refine wpList_row (o := ⟨some 36, _, _, _, _, _⟩) rfl 29 (.tmp 4) rfl _ rfl _ _ _ ha1 arDesc rfl arSize ?_)
      | (go_at_call 22; refine (HC.out _ (he0.trans he1)).mono ?_; rintro e w3 ⟨he3, q1, c1, q3, c3, vs, rfl, hoE, hoV, hrows⟩)
      | (refine wpList_put rfl 29 (.tmp 10) (.tmp 37) rfl _ (arC a q1 c1 q3 c3) rfl rfl _ _ (Blk.new w3 _) arSize rfl (ar_one a q1 c1 q3 c3) ?_; intro w4 hx4 hc4))
    have hE4 : Ext w3 w4 := hc4.ext (Ext.alloc _ _) (Nat.le_refl _)
    have hx4' : Ext w w4 := ((he0.trans he1).trans he3).trans hE4
    have sz2 := (he0.trans he1).size
    have sz3 := he3.size
    have hb3 := Blk.lt (he3.blk _ _ hy1)
    have hn3 := hrows.len
    refine wp_name (fun w5 => Ext w w5 ∧ ArAt w5 (w.heap.size + 1) a q c p m ∧ Blk w5 (w.heap.size + 1 + 1) (.cells arZ 29) ∧ Blk w5 (w.heap.size + 1 + 1 + 1) (.cells arZ 29) ∧ ArAt w5 w3.heap.size a q1 c1 q3 c3 ∧ w.heap.size + 1 + 1 + 1 < w3.heap.size ∧ w5.ownsRow w.heap.size 51 2 (.slice q1 a.nd.ents.length c1) a.nd.ents.length (entCells a.nd.ents) ∧ w5.ownsRow w.heap.size 43 1 (.slice q3 a.ivs.length c3) a.ivs.length vs ∧ OwnRows w5 w.heap.size vs a.ivs)
      ⟨hx4', (ha1.ext he3).ext hE4, hE4.blk _ _ (he3.blk _ _ hz1), hE4.blk _ _ (he3.blk _ _ hy1), hx4, by omega, own_ext (own_le hoE sz2) hE4, own_ext (own_le hoV sz2) hE4, ⟨hrows.len, fun i hi => own_ext (own_le (hrows.own i hi) sz2) hE4, hrows.apart⟩⟩ ?_
    clear hE4 hx4' sz2 sz3 hb3 hx4 hc4 he0 he1 he3 hd0 hd1 ha0 ha1 hz0 hz1 hy0 hy1 hoE hoV hrows x4 lx HV HB HC
    generalize w3.heap.size = xb
    rintro w5 ⟨hx5, ha5, hz5, hy5, hX5, hge, hoE, hoV, hrows⟩
    have hsp : splitNd a.nd = (⟨a.nd.level, 0, clrL (a.nd.ents.take ((a.nd.ents.length + 1) / 2))⟩, ⟨a.nd.level, a.nd.next, a.nd.ents.drop ((a.nd.ents.length + 1) / 2)⟩, (entAt a.nd.ents ((a.nd.ents.length + 1) / 2 - 1)).1, 0) := by
      unfold splitNd
      rw [if_neg (by rw [HI.out.node]; simp), if_neg (by have := HI.out.len; omega)]
    have hcE := own_cellsK hoE
    have HSp := Lib.hid (SplitN_any q1 c1 a.nd w5 hcE.1 (by omega) hcE.2.1)
    rw [hsp] at HSp
    unfold SplOut at HSp
    dsimp only [ndV] at HSp
    have hnl := HI.out.len
    have hK1 : (a.nd.ents.length + 1) / 2 < a.nd.ents.length := by omega
    have hK0 : 1 ≤ (a.nd.ents.length + 1) / 2 := by omega
    have HL : Hid (leftA a base = ⟨a.base, ⟨a.nd.level, base, clrL (a.nd.ents.take ((a.nd.ents.length + 1) / 2))⟩, a.ivs.take ((a.nd.ents.length + 1) / 2)⟩) := Lib.hid rfl
    have HR : Hid (rightA a base = ⟨base, ⟨a.nd.level, a.nd.next, renumP (base + 1) (a.nd.ents.drop ((a.nd.ents.length + 1) / 2))⟩, a.ivs.drop ((a.nd.ents.length + 1) / 2)⟩) := Lib.hid rfl
    have HMd : Hid (midA a = (entAt a.nd.ents ((a.nd.ents.length + 1) / 2 - 1)).1) := Lib.hid rfl
    have hl1 : (clrL (a.nd.ents.take ((a.nd.ents.length + 1) / 2))).length = (a.nd.ents.length + 1) / 2 := by rw [clrL_len, List.length_take]; omega
    have hl2 : (a.nd.ents.drop ((a.nd.ents.length + 1) / 2)).length = a.nd.ents.length - (a.nd.ents.length + 1) / 2 := List.length_drop
    generalize hE1 : clrL (a.nd.ents.take ((a.nd.ents.length + 1) / 2)) = E1 at *
    generalize hE2 : a.nd.ents.drop ((a.nd.ents.length + 1) / 2) = E2 at *
    generalize (entAt a.nd.ents ((a.nd.ents.length + 1) / 2 - 1)).1 = bel at *
    generalize leftA a base = LA at *
    generalize rightA a base = RA at *
    generalize midA a = MA at *
    generalize (a.nd.ents.length + 1) / 2 = K at *
    rw [hl1, hl2] at HSp
    have Hl1 := Lib.hid hl1
    have Hl2 := Lib.hid hl2
    have Hnl := Lib.hid hnl
    have H5 := Lib.hid (And.intro hx5 (And.intro ha5 (And.intro hz5 (And.intro hy5 (And.intro hX5 (And.intro hoV hrows))))))
    clear hE1 hE2 hsp hcE hl1 hl2 hnl hx5 ha5 hz5 hy5 hoE hoV hrows
    go_upto_region 9 with (first
      | (refine wpList_part (o := ⟨some 40, _, _, _, _, _⟩) rfl 26 (.tmp 39) rfl xb 1 rfl _ (arC a q1 c1 q3 c3) #[.int .i64 a.nd.level, .int .i64 a.nd.next, .slice q1 a.nd.ents.length c1] _ hX5 (ar_part a q1 c1 q3 c3) ndDesc rfl ndSize ?_)
      | (go_at_call 23; refine HSp.out.mono ?_; rintro e w6 ⟨he6, qa, ca, qb, cb, rfl, hna, hnb, hca, hcb, hgg⟩)
      | (refine wpList_put rfl 26 (.tmp 11) (.tmp 42) rfl _ #[.int .i64 a.nd.level, .int .i64 0, .slice qa K ca] rfl rfl _ _ (Blk.alloc (Blk.new w6 _) _) ndSize rfl (by simp [Value.oneCell']) ?_; intro w7 hn7 hc7)
      | (refine wpList_put rfl 26 (.tmp 12) (.tmp 43) rfl _ #[.int .i64 a.nd.level, .int .i64 a.nd.next, .slice qb (a.nd.ents.length - K) cb] rfl rfl _ _ (hc7.blk (Blk.new1 _ _ _ (by simp)) (by omega)) ndSize rfl (by simp [Value.oneCell']) ?_; intro w8 hn8 hc8))
    obtain ⟨g, cur, hgw, rfl, rfl, hgb, hgt⟩ := hgg (by trivial)
    have ha2 : Ext w6 ((w6.alloc (.cells #[.int .i64 0, .int .i64 0, .slice none 0 0] 26)).alloc (.cells #[.int .i64 0, .int .i64 0, .slice none 0 0] 26)) := (Ext.alloc _ _).trans (Ext.alloc _ _)
    have hx68 : Ext w6 w8 := hc8.ext (hc7.ext ha2 (Nat.le_refl _)) (by omega)
    have hgl := Blk.lt hgb
    refine wp_name (fun w9 => Ext w5 w9 ∧ Blk w9 w6.heap.size (.cells #[.int .i64 a.nd.level, .int .i64 0, .slice (some ⟨g, 0, none⟩) K ca] 26) ∧ Blk w9 (w6.heap.size + 1) (.cells #[.int .i64 a.nd.level, .int .i64 a.nd.next, .slice (some ⟨g, K * 2, none⟩) (a.nd.ents.length - K) cb] 26) ∧ Blk w9 g (.cells cur 51))
      ⟨he6.trans hx68, hc8.blk hn7 (by omega), hn8, hx68.blk _ _ hgb⟩ ?_
    have hs6 := he6.size
    clear ha2 hx68 hn7 hn8 hc7 hc8 hna hnb hgb he6 hX5
    generalize hna : w6.heap.size = na at *
    rintro w9 ⟨hx9, hnA, hnB, hgB⟩
    have a1 := Blk.val hnA 1 _ rfl
    have a2 := Blk.val hnA 2 _ rfl
    have f1 := Blk.free hnA 1
    have b2 := Blk.val hnB 2 _ rfl
    have la := Blk.lt hnA
    have lb := Blk.lt hnB
    have hch : Chg na w9 (w9.setCell ⟨na, 1, none⟩ (.int .i64 base)) := Chg.setCell
    have hgna : g ≠ na := by omega
    go_upto_region 12 with (fail)
    refine wp_name (fun wx => Ext w5 wx ∧ Blk wx na (.cells #[.int .i64 a.nd.level, .int .i64 base, .slice (some ⟨g, 0, none⟩) K ca] 26) ∧ Blk wx (na + 1) (.cells #[.int .i64 a.nd.level, .int .i64 a.nd.next, .slice (some ⟨g, K * 2, none⟩) (a.nd.ents.length - K) cb] 26) ∧ Blk wx g (.cells cur 51))
      ⟨hch.ext hx9 (by omega), Blk.setCell hnA, hch.blk hnB (by omega), hch.blk hgB hgna⟩ ?_
    clear hch hx9 hnA hnB hgB a1 a2 f1 b2 la lb
    rintro wx ⟨hxx, hnA, hnB, hgB⟩
    have hKn : K + (a.nd.ents.length - K) = a.nd.ents.length := by omega
    rw [hKn] at hgt
    go_loopw [59] (fun i wr => ∃ k : Nat, k ≤ a.nd.ents.length - K ∧ i = .int .i64 k ∧ Ext w5 wr ∧ Blk wr na (.cells #[.int .i64 a.nd.level, .int .i64 base, .slice (some ⟨g, 0, none⟩) K ca] 26) ∧ Blk wr (na + 1) (.cells #[.int .i64 a.nd.level, .int .i64 a.nd.next, .slice (some ⟨g, K * 2, none⟩) (a.nd.ents.length - K) cb] 26) ∧ ∃ cu : Array Value, Blk wr g (.cells cu 51) ∧ cu.toList.take (a.nd.ents.length * 2) = entCells (E1 ++ renTo (base + 1) E2 k)) (fun i _ => a.nd.ents.length - K - (intOf i).toNat)
    case atStart => exact ⟨0, Nat.zero_le _, rfl, hxx, hnA, hnB, cur, hgB, by rw [hgt, entCells_appB]; simp [renTo, renumP]⟩
    case round =>
      clear hxx hnA hnB hgB
      obtain ⟨k, hk, rfl, hxx, hnA, hnB, cu, hgB, hcu⟩ := hrel
      by_cases hlt : k < a.nd.ents.length - K
      · have hltI : (k : Int) < ((a.nd.ents.length - K : Nat) : Int) := by omega
        have hE2l := Hl2.out
        have hlen : (E1 ++ renTo (base + 1) E2 k).length = a.nd.ents.length := by rw [List.length_append, renTo_len, Hl1.out, hE2l]; omega
        have hsz : (K * 2 + k * 2 + 1) < cu.size := by
          have h1 := congrArg List.length hcu
          rw [entCells_len, hlen, List.length_take, Array.length_toList] at h1
          omega
        have hvl := Blk.val hgB _ _ (Array.getElem?_eq_getElem hsz)
        have hfr := Blk.free hgB (K * 2 + k * 2 + 1)
        have hlg := Blk.lt hgB
        generalize cu[K * 2 + k * 2 + 1] = old at hvl
        have b2 := Blk.val hnB 2 _ rfl
        have lb := Blk.lt hnB
        have hbk : base + 1 + (k : Int) ≤ 20000000 := by omega
        have hch := Lib.hid (show Chg g wr (wr.setCell ⟨g, K * 2 + k * 2 + 1, none⟩ (.int .i64 (base + 1 + k))) from Chg.setCell)
        have hnew := Lib.hid (show (cu.setIfInBounds (K * 2 + k * 2 + 1) (.int .i64 (base + 1 + k))).toList.take (a.nd.ents.length * 2) = entCells (E1 ++ renTo (base + 1) E2 (k + 1)) by
          rw [Array.toList_setIfInBounds, List.take_set, hcu, show K * 2 + k * 2 + 1 = (K + k) * 2 + 1 by omega, ← entCells_pg _ _ _ (by rw [hlen]; omega)]
          congr 1
          have hr : (renTo (base + 1) E2 k).length = E2.length := renTo_len _ _ _
          have e9 : entAt (E1 ++ renTo (base + 1) E2 k) (K + k) = entAt (renTo (base + 1) E2 k) k := by
            rw [entAt_right (by rw [Hl1.out]; omega), Hl1.out, show K + k - K = k by omega]
          rw [e9, List.set_append_right _ _ (by rw [Hl1.out]; omega), Hl1.out, show K + k - K = k by omega, renTo_step (by rw [hE2l]; omega)])
        have HW := Lib.hid (And.intro hxx (And.intro hnA (And.intro hnB hgB)))
        clear hcu hlen hsz hgt hxx hnA hnB hgB
        go_wp2_with fail
        go_roundw
        case rel => exact ⟨k + 1, by omega, by go_num, hch.out.ext HW.out.1 hgw, hch.out.blk HW.out.2.1 (by omega), hch.out.blk HW.out.2.2.1 (by omega), _, Blk.setCell HW.out.2.2.2, hnew.out⟩
        case measure => simp [intOf]; omega
      · have hltI : decide ((k : Int) < ((a.nd.ents.length - K : Nat) : Int)) = false := by simp; omega
        have hkn : k = E2.length := by have := Hl2.out; omega
        have e8 : renTo (base + 1) E2 k = renumP (base + 1) E2 := by rw [hkn]; simp [renTo]
        rw [e8] at hcu
        clear e8 hkn
        go_upto_region 16 with (fail)
        obtain ⟨hx5, ha5, hz5, hy5, hX5, hoV, hrows⟩ := H5.out
        obtain ⟨g3, cu3, rfl, hg3, hgb3, hn3c, hm3, hz3, ht3⟩ := own_parts hoV (by omega)
        have hNl := Hnl.out
        have hKc : K ≤ c3 := by omega
        have hKv : K ≤ a.ivs.length := by omega
        have hKne : ¬ c3 = K := by omega
        obtain ⟨e0, _, _, _, _, le⟩ := (ha5.ext hxx).cells
        obtain ⟨_, _, _, _, x4, lx⟩ := (hX5.ext hxx).cells
        have hzr := hxx.blk _ _ hz5
        have hyr := hxx.blk _ _ hy5
        have a0 := Blk.val hnA 0 _ rfl
        have a1 := Blk.val hnA 1 _ rfl
        have a2 := Blk.val hnA 2 _ rfl
        have b0 := Blk.val hnB 0 _ rfl
        have b1 := Blk.val hnB 1 _ rfl
        have b2 := Blk.val hnB 2 _ rfl
        have la := Blk.lt hnA
        have lb := Blk.lt hnB
        have lz := Blk.lt hzr
        have ly := Blk.lt hyr
        have z0 := Blk.free hzr 0
        have z1 := Blk.free hzr 1
        have z2 := Blk.free hzr 2
        have z3 := Blk.free hzr 3
        have z4 := Blk.free hzr 4
        have y0 := Blk.free hyr 0
        have y1 := Blk.free hyr 1
        have y2 := Blk.free hyr 2
        have y3 := Blk.free hyr 3
        have y4 := Blk.free hyr 4
        have v0 := Blk.val hzr 0 _ rfl
        have v1 := Blk.val hzr 1 _ rfl
        have v2 := Blk.val hzr 2 _ rfl
        have v3 := Blk.val hzr 3 _ rfl
        have v4 := Blk.val hzr 4 _ rfl
        have u0 := Blk.val hyr 0 _ rfl
        have u1 := Blk.val hyr 1 _ rfl
        have u2 := Blk.val hyr 2 _ rfl
        have u3 := Blk.val hyr 3 _ rfl
        have u4 := Blk.val hyr 4 _ rfl
        have HZ := Lib.hid (And.intro hzr hyr)
        have HN := Lib.hid (And.intro hx5 (And.intro hxx (And.intro hoV hrows)))
        have hxw := Blk.lt hX5
        have w1 : ¬ na = w.heap.size + 1 + 1 := by omega
        have w2 : ¬ na + 1 = w.heap.size + 1 + 1 := by omega
        have w3' : ¬ na = w.heap.size + 1 + 1 + 1 := by omega
        have w4' : ¬ na + 1 = w.heap.size + 1 + 1 + 1 := by omega
        have w5' : ¬ xb = w.heap.size + 1 + 1 := by omega
        have w6' : ¬ xb = w.heap.size + 1 + 1 + 1 := by omega
        clear hzr hyr hz5 hy5 hX5 ha5 hoV hrows hx5 H5 hgb3 hnA hnB hxx hNl
        go_region
        all_goals
          go_wp2_with fail
          obtain ⟨hx5, hxx, hoV, hrows⟩ := HN.out
          obtain ⟨hzr, hyr⟩ := HZ.out
          have k1 := five_chg wr (w.heap.size + 1 + 1) (.int .i64 a.base) (.int .i64 a.nd.level) (.int .i64 base) (.slice (some ⟨g, 0, none⟩) K ca) (.slice (some ⟨g3, 0, none⟩) K K)
          have r1 := five_row hzr (.int .i64 a.base) (.int .i64 a.nd.level) (.int .i64 base) (.slice (some ⟨g, 0, none⟩) K ca) (.slice (some ⟨g3, 0, none⟩) K K)
          have hyr' := k1.blk hyr (by omega)
          have k2 := five_chg (five wr (w.heap.size + 1 + 1) (.int .i64 a.base) (.int .i64 a.nd.level) (.int .i64 base) (.slice (some ⟨g, 0, none⟩) K ca) (.slice (some ⟨g3, 0, none⟩) K K)) (w.heap.size + 1 + 1 + 1) (.int .i64 base) (.int .i64 a.nd.level) (.int .i64 a.nd.next) (.slice (some ⟨g, K * 2, none⟩) (a.nd.ents.length - K) cb) (.slice (some ⟨g3, K, none⟩) (a.ivs.length - K) (c3 - K))
          have r2 := five_row hyr' (.int .i64 base) (.int .i64 a.nd.level) (.int .i64 a.nd.next) (.slice (some ⟨g, K * 2, none⟩) (a.nd.ents.length - K) cb) (.slice (some ⟨g3, K, none⟩) (a.ivs.length - K) (c3 - K))
          have tr : ∀ {B : Nat} {e : TypeId} {k : Nat} {v : Value} {n : Nat} {xs : List Value}, e ≠ 29 → w5.ownsRow B e k v n xs → (five (five wr (w.heap.size + 1 + 1) (.int .i64 a.base) (.int .i64 a.nd.level) (.int .i64 base) (.slice (some ⟨g, 0, none⟩) K ca) (.slice (some ⟨g3, 0, none⟩) K K)) (w.heap.size + 1 + 1 + 1) (.int .i64 base) (.int .i64 a.nd.level) (.int .i64 a.nd.next) (.slice (some ⟨g, K * 2, none⟩) (a.nd.ents.length - K) cb) (.slice (some ⟨g3, K, none⟩) (a.ivs.length - K) (c3 - K))).drew.ownsRow B e k v n xs := fun hne h =>
            own_ext (own_chgT (own_chgT (own_ext h hxx) hne hzr k1) hne hyr' k2) (Ext.drew _)
          refine post_name (fun wF => Ext w wF ∧ Blk wF (w.heap.size + 1 + 1) (.cells #[.int .i64 a.base, .int .i64 a.nd.level, .int .i64 base, .slice (some ⟨g, 0, none⟩) K ca, .slice (some ⟨g3, 0, none⟩) K K] 29) ∧ Blk wF (w.heap.size + 1 + 1 + 1) (.cells #[.int .i64 base, .int .i64 a.nd.level, .int .i64 a.nd.next, .slice (some ⟨g, K * 2, none⟩) (a.nd.ents.length - K) cb, .slice (some ⟨g3, K, none⟩) (a.ivs.length - K) (c3 - K)] 29) ∧ Blk wF g (.cells cu 51) ∧ wF.ownsRow w.heap.size 43 1 (.slice (some ⟨g3, 0, none⟩) a.ivs.length c3) a.ivs.length vs ∧ RowsV wF vs a.ivs)
            ⟨(k2.ext (k1.ext (hx5.trans hxx) (by omega)) (by omega)).trans (Ext.drew _), (Ext.drew _).blk _ _ (k2.blk r1 (by omega)), (Ext.drew _).blk _ _ r2, (Ext.drew _).blk _ _ (k2.blk (k1.blk hgB (show g ≠ w.heap.size + 1 + 1 by omega)) (show g ≠ w.heap.size + 1 + 1 + 1 by omega)), tr (by decide) hoV, hrows.len, fun i hi => RowV.of_own (tr (by decide) (hrows.own i hi))⟩ ?_
          clear tr k1 k2 r1 r2 hyr'
          rintro wF ⟨q3', q1', q2', hgB2, hoF, hrv⟩
          have hcv := (own_cellsK hoF).1
          have hty := Typ.of_own hoF
          obtain ⟨cur9, hb9⟩ := hty g3 0 rfl
          have hNl := Hnl.out
          have l1 := Hl1.out
          have l2 := Hl2.out
          have l3 : (renumP (base + 1) E2).length = a.nd.ents.length - K := by rw [renum_len, l2]
          have l4 : (a.ivs.take K).length = K := by rw [List.length_take]; omega
          have l5 : (a.ivs.drop K).length = a.ivs.length - K := List.length_drop
          have eA : arC ⟨a.base, ⟨a.nd.level, base, E1⟩, a.ivs.take K⟩ (some ⟨g, 0, none⟩) ca (some ⟨g3, 0, none⟩) K = #[.int .i64 a.base, .int .i64 a.nd.level, .int .i64 base, .slice (some ⟨g, 0, none⟩) K ca, .slice (some ⟨g3, 0, none⟩) K K] := by
            unfold arC
            simp only [l1, l4]
          have eB : arC ⟨base, ⟨a.nd.level, a.nd.next, renumP (base + 1) E2⟩, a.ivs.drop K⟩ (some ⟨g, K * 2, none⟩) cb (some ⟨g3, K, none⟩) (c3 - K) = #[.int .i64 base, .int .i64 a.nd.level, .int .i64 a.nd.next, .slice (some ⟨g, K * 2, none⟩) (a.nd.ents.length - K) cb, .slice (some ⟨g3, K, none⟩) (a.ivs.length - K) (c3 - K)] := by
            unfold arC
            simp only [l3, l5]
          have hEn : ∀ W, Blk W g (.cells cu 51) → Cells W (some ⟨g, 0, none⟩) (entCells E1) ∧ Cells W (some ⟨g, K * 2, none⟩) (entCells (renumP (base + 1) E2)) := fun W hb => by
            have hall := cells_take (n := a.nd.ents.length * 2) hb hcu
            rw [entCells_appB] at hall
            have h1 := Cells.take hall (K * 2)
            have h2 := Cells.drop hall (K * 2)
            rw [List.take_left' (by rw [entCells_len, l1])] at h1
            rw [List.drop_left' (by rw [entCells_len, l1]), Nat.zero_add] at h2
            exact ⟨h1, h2⟩
          have hen := hEn _ hgB2
          have hcd := Cells.drop hcv K
          rw [Nat.zero_add] at hcd
          refine bodyPost_ret (results_rows2 Tryz.results6 _ _ _ _ _ _ _ _ _ _ rfl q1' arDesc rfl arSize rfl q2' arDesc rfl arSize) rfl ((Hout.out _ _).2 ⟨q3', ?_⟩)
          rw [if_neg Hone.out, HL.out, HR.out, HMd.out]
          exact ⟨some ⟨g, 0, none⟩, ca, some ⟨g3, 0, none⟩, K, some ⟨g, K * 2, none⟩, cb, some ⟨g3, K, none⟩, c3 - K, by rw [eA, eB]; rfl,
            ⟨hen.1, ⟨_, Cells.take hcv K, rows_take hrv K⟩, by simp only [l1]; exact hca, by simp only [l4]; exact Nat.le_refl _, by omega, Typ.of_blk hgB2, Typ.of_blk hb9⟩,
            ⟨hen.2, ⟨_, hcd, rows_drop hrv K⟩, by simp only [l3]; exact hcb, by simp only [l5]; omega, by omega, Typ.of_blk hgB2, Typ.of_blk hb9⟩⟩
end Go.Proofs.YtpefkjhiaflonaaGreat
