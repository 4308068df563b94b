/- A part of the proof. -/
import Derived.Test.YtifmbcjbccedfaaGreatDoorAW0

set_option linter.unusedSimpArgs false
set_option linter.unusedVariables false
namespace Go.Proofs.YtifmbcjbccedfaaGreatDoor
open Go.RowKit Dsd
theorem wpList_appv {w : World} {ops : Array Oper} {rest : List Oper} {o : Oper} {a : Act} {Q : Exit → Act → World → Prop} (hgd : Region.wanted o (yielded ops a.tmps) = true) (d s : Operand)
   (ho : o.op = .call { callee := .builtin .append, args := #[d, s], argTypes := #[30, 30] }) (base : Nat) (v : Value) (n : Nat) (xs : List Value) (hv : a.eval d = v) (hown : w.ownsRow base 9 1 v n xs) (p : Option Addr) (m c : Nat) (news : List Value) (hs : a.eval s = .slice p m c) (hl : news.length = m) (hc : Cells w p news)
   (h1 : ∀ u ∈ news, u.oneCell' = true) (hn : n + m ≤ 100000000) (hbase : base ≤ w.heap.size)
   (h : ∀ v' w', w'.ownsRow base 9 1 v' (n + m) (xs ++ news) → w.grownBy w' v.ownBlock → wpList Tryz.prog ops Q rest (a.put o.dst v') w') : wpList Tryz.prog ops Q (o :: rest) a w := by
 by_cases hm : m = 0
 · subst hm
   obtain rfl : news = [] := List.eq_nil_of_length_eq_zero hl
   obtain ⟨q, k, rfl⟩ := own_slice hown
   obtain ⟨_, hle, _⟩ := own_cellsK hown
   obtain ⟨i0, hi0, hz0, hzs, hzb⟩ := info_parts infoStrA
   have hr : (Builtin.append_ #[30, 30] o.type #[.slice q n k, .slice p 0 c]).run Tryz.prog w = .ok (.slice q n k) w := by
     cases p <;> cases q <;> simp [Builtin.append_, run_underlying Tryz.underlying30, Go.sizeOf, typeInfo, hi0, Builtin.lenOf, Builtin.firstCells, loadCells, loadCellsFrom, Go.storeCells, hle]
   refine BigFrame.wpList_want hgd fun K hK => Lib.wp_append_run w d s _ _ ho _ _ hv hs _ _ hr (hK _ _ (h _ _ (by simpa using hown) ⟨rfl, rfl, rfl, Nat.le_refl _, fun _ _ _ => rfl⟩))
 · obtain ⟨ad, rfl⟩ : ∃ ad, p = some ad := by
     obtain ⟨b, off, h, _⟩ := hc.at 0 (by omega)
     exact ⟨_, h⟩
   exact wpList_appk hgd d s 30 9 ho base (.string ByteArray.empty) 1 16 Tryz.underlying30 infoStrA rfl (by decide) v n xs hv hown (some ad) m c news hs rfl (by omega) hc h1 hn (by decide) hbase h
set_option maxRecDepth 100000 in
theorem Grow_nil (N : Nat) (hN : N ≤ 1000000) (w : World) : Calls Tryz.prog 86 #[.slice none 0 0, .int .i64 N] w fun e w' => ∃ v, e = .returned v ∧ w'.ownsRow w.heap.size 9 1 v 0 [] ∧ Ext w w' := by
 by_cases h0 : N = 0
 · subst h0
   go_enter Tryz.func86, Tryz.ntmps86
   go_wp2
   go_ret
   exact ⟨_, rfl, World.ownsRow_nil _ _ _ _, Ext.refl _⟩
 · obtain ⟨i0, hi0, hz0, hzs, hzb⟩ := info_parts infoStrA
   have hrun := fun ty W => Lib.run_append_nil_zeros (P := Tryz.prog) W 30 3 ty 9 i0 (.string ByteArray.empty) .i64 .i64 Tryz.underlying30 (by kernel_rfl) hi0 hz0 N (by omega) (by omega) (by omega) (by rw [hzb]; omega)
   have i1 : decide ((0 : Int) < (N : Int)) = true := decide_eq_true (by omega)
   have hge := grownCap_ge w N 0 9
   have hle := grownCap_le_maxLen w N 0 9 (by unfold maxLen; omega)
   have hle2 : grownCap w N 0 9 ≤ 9223372036854775807 := hle
   have HG := Lib.hid (And.intro hge hle)
   go_enter Tryz.func86, Tryz.ntmps86
   go_wp2_with (at_builtin; refine Lib.wpList_append_run _ rfl _ _ _ _ rfl _ _ rfl rfl _ _ (hrun _ _) ?_)
   go_ret
   have hs9 : (Builtin.zeroCells #[Value.string ByteArray.empty] N ++ Builtin.zeroCells #[Value.string ByteArray.empty] (grownCap w N 0 9 - N)).size = grownCap w N 0 9 * 1 := by
     simp [Builtin.zeroCells]
     omega
   exact ⟨_, rfl, ⟨rfl, .inr ⟨w.heap.size, _, _, rfl, Nat.le_refl _, (Ext.drew _).blk _ _ (Blk.new w _), Nat.zero_le _, HG.out.2, hs9, by simp⟩⟩, (Ext.alloc _ _).trans (Ext.drew _)⟩
def lensTo (V : List Recs) (k : Nat) : Nat := ((V.take k).map List.length).sum
theorem lensTo_succ {V : List Recs} {k : Nat} (h : k < V.length) : lensTo V (k + 1) = lensTo V k + (V.getD k []).length := by
 unfold lensTo
 rw [List.take_succ_eq_append_getElem h, List.map_append, List.sum_append]
 simp [List.getD, h]
theorem lensTo_flat (V : List Recs) (k : Nat) : ((V.take k).flatten).length = lensTo V k := by unfold lensTo; rw [List.length_flatten]
theorem lensTo_mono {V : List Recs} {k m : Nat} (hm : ∀ i, (V.getD i []).length ≤ m) (hk : k ≤ V.length) : lensTo V k ≤ k * m := by
 induction k with
 | zero => simp [lensTo]
 | succ k ih =>
   have h1 := lensTo_succ (V := V) (k := k) (by omega)
   have h2 := ih (by omega)
   have h3 := hm k
   rw [h1, Nat.add_mul, Nat.one_mul]
   omega
theorem flat_succ {V : List Recs} {k : Nat} (h : k < V.length) : (V.take (k + 1)).flatten = (V.take k).flatten ++ V.getD k [] := by
 rw [List.take_succ_eq_append_getElem h, List.flatten_append]
 simp [List.getD, h]
set_option maxRecDepth 100000 in
set_option maxHeartbeats 1000000 in
theorem Concat_any (p : Option Addr) (m : Nat) (V : List Recs) (w : World) (hv : IvsX w p V) (hl : V.length ≤ 120) (hm : ∀ i, (V.getD i []).length ≤ 1000) :
   Calls Tryz.prog 44 #[.slice p V.length m] w fun e w' => ∃ v, e = .returned v ∧ w'.ownsRow w.heap.size 9 1 v V.flatten.length (V.flatten.map fun s => .string ⟨s.toArray⟩) ∧ Ext w w' := by
 have Hv := Lib.hid hv
 have Hm := Lib.hid hm
 have HT : Hid (∀ k, k ≤ V.length → lensTo V k ≤ 120000) := Lib.hid (fun k hk => by
   have := lensTo_mono (m := 1000) hm hk
   have h2 : k * 1000 ≤ 120 * 1000 := Nat.mul_le_mul_right _ (by omega)
   omega)
 clear hv hm
 go_enter Tryz.func44, Tryz.ntmps44
 go_wp2_with fail
 obtain ⟨wo, rfl⟩ : ∃ wo : World, wo = w := ⟨_, rfl⟩
 go_loopw [3, 11] (fun sz i wr => ∃ k : Nat, k ≤ V.length ∧ i = .int .i64 k ∧ sz = .int .i64 (lensTo V k : Nat) ∧ wr = wo) (fun _ i _ => V.length - (intOf i).toNat)
 case atStart => exact ⟨0, Nat.zero_le _, rfl, rfl, rfl⟩
 case round =>
   obtain ⟨k, hk, rfl, rfl, rfl⟩ := hrel
   by_cases hlt : k < V.length
   · have hltI : (k : Int) < V.length := by omega
     obtain ⟨b, off, v, rfl, hb, hc, qi, ci, rfl, hs, h1, h2, h3⟩ := Hv.out.at k hlt
     have hk1 := HT.out k hk
     have hk2 := HT.out (k + 1) hlt
     have hsu := lensTo_succ hlt
     have Hsu := Lib.hid hsu
     rw [hsu] at hk2
     generalize V.getD k [] = L at *
     generalize lensTo V k = T at *
     have i1 : decide ((T : Int) + (L.length : Int) < 0) = false := decide_eq_false (by omega)
     clear hsu hs h3
     go_wp2
     go_roundw
     case rel => exact ⟨k + 1, by omega, by go_num, by rw [Hsu.out]; go_num, trivial⟩
     case measure => simp [intOf]; omega
   · have hltI : decide ((k : Int) < V.length) = false := by simp; omega
     have hkn : k = V.length := by omega
     subst hkn
     obtain ⟨wq, rfl⟩ : ∃ wq : World, wq = wr := ⟨_, rfl⟩
     have HG := Lib.hid (Grow_nil (lensTo V V.length) (by have := HT.out _ hk; omega) wq)
     go_upto_region 11 with (go_at_call 86; refine HG.out.mono ?_; rintro e w1 ⟨v1, rfl, ho1, he1⟩)
     have Ho1 := Lib.hid ho1
     have He1 := Lib.hid he1
     clear ho1 he1
     go_loopw [6, 27] (fun out i wx => ∃ k : Nat, k ≤ V.length ∧ i = .int .i64 k ∧ wx.ownsRow wq.heap.size 9 1 out (lensTo V k) (((V.take k).flatten).map fun s => .string ⟨s.toArray⟩) ∧ Ext wq wx) (fun _ i _ => V.length - (intOf i).toNat)
     case atStart => exact ⟨0, Nat.zero_le _, rfl, by simpa [lensTo] using Ho1.out, He1.out⟩
     case round =>
       obtain ⟨j, hj, rfl, hown, hex⟩ := hrel
       by_cases hlj : j < V.length
       · have hljI : (j : Int) < V.length := by omega
         obtain ⟨b, off, v, rfl, hb, hc, qi, ci, rfl, hs, h1, h2, h3⟩ := (Hv.out.ext hex).at j hlj
         have Hsu := Lib.hid (lensTo_succ hlj)
         have Hfl := Lib.hid (flat_succ hlj)
         have Hown := Lib.hid hown
         have Hex := Lib.hid hex
         have Hs := Lib.hid hs
         have hk1 := HT.out j hj
         have hk2 := HT.out (j + 1) hlj
         have hk3 : lensTo V j + (V.getD j []).length ≤ 120000 := by rw [← lensTo_succ hlj]; exact hk2
         generalize V.getD j [] = L at *
         have HK3 := Lib.hid hk3
         clear hown hex hs h3 hk1 hk2 hk3
         go_wp2_with (at_builtin; refine wpList_appv (o := ⟨some 33, _, _, _, _, _⟩) rfl (.tmp 31) (.tmp 32) rfl wq.heap.size _ (lensTo V j) _ rfl Hown.out qi L.length ci (L.map fun s : List UInt8 => Value.string ⟨s.toArray⟩) rfl (by simp) Hs.out (strs_one L) (by have := HK3.out; omega) Hex.out.size ?_; intro v8 w8 ho8 hg8)
         have hbx := Below.of_grown hg8 Hown.out (Nat.le_refl _) Hex.out.size
         have ho9 := Lib.hid (show w8.ownsRow wq.heap.size 9 1 v8 (lensTo V (j + 1)) (((V.take (j + 1)).flatten).map fun s => .string ⟨s.toArray⟩) by rw [Hsu.out, Hfl.out, List.map_append]; exact ho8)
         have hx9 := Lib.hid (Ext.trans' Hex.out hbx)
         clear ho8 hg8 hbx
         go_roundw
         case rel => exact ⟨j + 1, by omega, by go_num, ho9.out, hx9.out⟩
         case measure => simp [intOf]; omega
       · have hljI : decide ((j : Int) < V.length) = false := by simp; omega
         have hjn : j = V.length := by omega
         subst hjn
         have hfl := lensTo_flat V V.length
         rw [List.take_length] at hown hfl
         rw [← hfl] at hown
         go_wp2
         go_ret
         exact ⟨_, rfl, hown, hex⟩
end Go.Proofs.YtifmbcjbccedfaaGreatDoor
namespace Dsd
def pairsD (d : DS) (L : Recs) : List (List UInt8 × List UInt8) := L.map fun s => (keyD d s, s)
end Dsd
namespace Go.Proofs.YtifmbcjbccedfaaGreatDoor
open Go.RowKit Dsd
theorem infoPairA : (Tryz.prog.info? 65).map (fun i => (i.zero, i.size, i.bytes)) = some (some (.agg #[.string ByteArray.empty, .string ByteArray.empty]), 2, 32) := by kernel_rfl
theorem prCells_app (A B : List (List UInt8 × List UInt8)) : prCells (A ++ B) = prCells A ++ prCells B := by unfold prCells; rw [List.flatMap_append]
theorem pairs_take {d : DS} {L : Recs} {k : Nat} (h : k < L.length) : prCells (pairsD d (L.take (k + 1))) = prCells (pairsD d (L.take k)) ++ [.string ⟨(keyD d (L.getD k [])).toArray⟩, .string ⟨(L.getD k []).toArray⟩] := by
 rw [List.take_succ_eq_append_getElem h]
 unfold pairsD
 rw [List.map_append, prCells_app]
 simp [prCells, List.getD, h]
set_option maxRecDepth 100000 in
set_option maxHeartbeats 1000000 in
theorem PairsA_any (d : DS) (a : Ar) (q : Option Addr) (c : Nat) (p : Option Addr) (m : Nat) (w : World) (s : ASpec d a) (hv : ArV w a q c p m) :
   Calls Tryz.prog 13 #[.agg #[.int .i64 d.id, .int .i64 d.org, .int .i64 d.format, .int .i64 d.length, .int .i64 d.block, .int .i64 d.keyAt, .int .i64 d.keyLength, .int .i64 d.interval, .int .i64 d.area, .int .i64 d.freeInterval, .int .i64 d.freeArea, .int .i64 d.base, .int .i64 d.altAt, .int .i64 d.altLength, .bool d.unique, .int .i64 d.cls, .string ⟨d.volume.toArray⟩, .string ⟨d.owner.toArray⟩, .int .i64 d.created, .int .i64 d.expires, .bool d.archived], .agg (arC a q c p m)] w fun e w' => Ext w w' ∧ ∃ v, e = .returned v ∧ w'.ownsRow w.heap.size 65 2 v (recsOf a).length (prCells (pairsD d (recsOf a))) := by
 have HV := Lib.hid (fun W (e : Ext w W) => ValidA_any d a q c p m W s (hv.ext e))
 obtain ⟨n1, n2, n3, n4, n5⟩ := inv_small s
 have hL : ∀ i, (a.ivs.getD i []).length ≤ 1000 := fun i => by
   by_cases hi : i < a.ivs.length
   · have := (fits_small (s.iv hi).1).1; omega
   · simp [List.getD, List.getElem?_eq_none (show a.ivs.length ≤ i by omega)]
 have HC := Lib.hid (fun W (e : Ext w W) => Concat_any p m a.ivs W (hv.x.ivs.ext e) n2 hL)
 have hlen : (recsOf a).length ≤ 120000 := by
   have h1 := lensTo_flat a.ivs a.ivs.length
   rw [List.take_length] at h1
   have h2 := lensTo_mono (m := 1000) hL (Nat.le_refl a.ivs.length)
   have h3 : a.ivs.length * 1000 ≤ 120 * 1000 := Nat.mul_le_mul_right _ (by omega)
   unfold recsOf; omega
 have HRec : Hid (∀ i, i < (recsOf a).length → recB d ((recsOf a).getD i []) = true) := Lib.hid (fun i hi => by
   have hm := getD_mem hi
   unfold recsOf at hm
   obtain ⟨L, hL, hs⟩ := List.mem_flatten.1 hm
   exact (ivs_mem s.ivs L hL).2.1 _ hs)
 have Hk := Lib.hid s.keyed
 have HF : Hid (a.ivs.flatten = recsOf a) := Lib.hid rfl
 rw [HF.out] at HC
 clear s hv hL n1 n2 n3 n4 n5 HF
 generalize recsOf a = R at *
 go_enter Tryz.func13, Tryz.ntmps13
 go_upto_region 1 with (fail)
 refine wp_name (fun w0 => Ext w w0 ∧ DsAt w0 w.heap.size d ∧ ArAt w0 (w.heap.size + 1) a q c p m) (ds_ar w d a q c p m) ?_
 rintro w0 ⟨he0, hd0, ha0⟩
 go_upto_region 5 with (first
   | (refine wpList_ds (o := ⟨some 8, _, _, _, _, _⟩) rfl (.tmp 2) rfl _ rfl d hd0 ?_)
   | (refine wpList_row (o := ⟨some 9, _, _, _, _, _⟩) rfl 29 (.tmp 3) rfl _ rfl _ _ _ ha0 arDesc rfl arSize ?_)
   | (go_at_call 10; refine (HV.out _ he0).mono ?_; rintro e w1 ⟨rfl, he1⟩; have ha1 := ha0.ext he1; obtain ⟨_, _, _, _, x4, lx⟩ := ha1.cells)
   | (go_at_call 44; refine (HC.out _ (he0.trans he1)).mono ?_; rintro e w2 ⟨v2, rfl, ho2, he2⟩; obtain ⟨q2, c2, rfl⟩ := own_slice ho2))
 have Hd2 := Lib.hid ((hd0.ext he1).ext he2)
 have Hx2 := Lib.hid ((he0.trans he1).trans he2)
 have Hs2 := Lib.hid (own_strs3 ho2)
 clear hd0 ha0 he0 he1 he2 ho2 ha1 x4 lx HC HV
 go_loopw [5, 16] (fun out i wx => ∃ k : Nat, k ≤ R.length ∧ i = .int .i64 k ∧ wx.ownsRow w2.heap.size 65 2 out k (prCells (pairsD d (R.take k))) ∧ Ext w2 wx) (fun _ i _ => R.length - (intOf i).toNat)
 case atStart => exact ⟨0, Nat.zero_le _, rfl, World.ownsRow_nil _ _ _ _, Ext.refl _⟩
 case round =>
   obtain ⟨k, hk, rfl, hown, hex⟩ := hrel
   by_cases hlt : k < R.length
   · have hltI : (k : Int) < R.length := by omega
     obtain ⟨b, off, rfl, hb, hc⟩ := (Hs2.out.ext hex).at k hlt
     have hck := hc k hlt
     have hrec := HRec.out k hlt
     have HT := Lib.hid (pairs_take (d := d) hlt)
     have Hown := Lib.hid hown
     have Hex := Lib.hid hex
     have hdr := Hd2.out.ext hex
     generalize R.getD k [] = x at hck hrec HT
     have HK := Lib.hid (keyOf_any d x Hk.out hrec)
     generalize keyD d x = kx at HT HK
     have hwz := Hex.out.size
     clear hc hown hex hrec
     go_wp2_with (first
       | (refine wpList_ds (o := ⟨some 21, _, _, _, _, _⟩) rfl (.tmp 2) rfl _ rfl d hdr ?_)
       | (go_at_call 40; refine (HK.out _).mono ?_; rintro e w3 ⟨rfl, he3⟩)
       | (at_builtin; refine wpList_appk (o := ⟨some 27, _, _, _, _, _⟩) rfl (.tmp 20) (.tmp 26) 41 65 rfl w2.heap.size (.agg #[.string ByteArray.empty, .string ByteArray.empty]) 2 32 Tryz.underlying41 infoPairA rfl (by decide) _ k _ rfl (own_ext Hown.out (he3.trans (Ext.alloc _ _))) (some ⟨w3.heap.size, 0, none⟩) 1 1 [.string ⟨kx.toArray⟩, .string ⟨x.toArray⟩] rfl rfl rfl (blk_cells (ys := [.string ⟨kx.toArray⟩, .string ⟨x.toArray⟩]) (Blk.new w3 _)) (by intro u hu; simp at hu; rcases hu with rfl | rfl <;> rfl) (by omega) (by decide) (by have := he3.size; simp; omega) ?_; intro v8 w8 ho8 hg8))
     have hoA := own_ext Hown.out (he3.trans (Ext.alloc w3 (.cells [.string ⟨kx.toArray⟩, .string ⟨x.toArray⟩].toArray 65)))
     have hbx := Below.of_grown hg8 hoA (Nat.le_refl _) (by have := he3.size; simp; omega)
     have ho9 := Lib.hid (show w8.ownsRow w2.heap.size 65 2 v8 (k + 1) (prCells (pairsD d (R.take (k + 1)))) by rw [HT.out]; exact ho8)
     have hx9 := Lib.hid (Ext.trans' ((Hex.out.trans he3).trans (Ext.alloc w3 (.cells [.string ⟨kx.toArray⟩, .string ⟨x.toArray⟩].toArray 65))) hbx)
     go_roundw
     case rel => exact ⟨k + 1, by omega, by go_num, ho9.out, hx9.out⟩
     case measure => simp [intOf]; omega
   · have hltI : decide ((k : Int) < R.length) = false := by simp; omega
     have hkn : k = R.length := by omega
     subst hkn
     rw [List.take_length] at hown
     go_wp2
     go_ret
     exact ⟨Hx2.out.trans hex, _, rfl, own_le hown Hx2.out.size⟩
end Go.Proofs.YtifmbcjbccedfaaGreatDoor
