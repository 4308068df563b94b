/- A part of the proof. -/
import Derived.Test.YtifmbcjbccedfaaGreatDoorGB
import Derived.Test.YtifmbcjbccedfaaGreatDoorXH
import Derived.Test.YtifmbcjbccedfaaGreatDoorP21

set_option linter.unusedSimpArgs false
set_option linter.unusedVariables false
namespace Go.Proofs.YtifmbcjbccedfaaGreatDoor
open Go.RowKit Dsd
theorem infoStrA : (Tryz.prog.info? 9).map (fun i => (i.zero, i.size, i.bytes)) = some (some (.string ByteArray.empty), 1, 16) := by kernel_rfl
theorem infoRowA : (Tryz.prog.info? 30).map (fun i => (i.zero, i.size, i.bytes)) = some (some (.slice none 0 0), 1, 24) := by kernel_rfl
theorem infoEntA : (Tryz.prog.info? 63).map (fun i => (i.zero, i.size, i.bytes)) = some (some (.agg #[.string ByteArray.empty, .int .i64 0]), 2, 24) := by kernel_rfl
set_option maxRecDepth 100000 in
theorem CloneS_any (p : Option Addr) (cap n : Nat) (cs : List Value) (w : World) (hc : Cells w p cs) (hl : cs.length = n * 1) (h1 : ∀ u ∈ cs, u.oneCell' = true) (hn : n ≤ 1000000) (hq : p = none → n = 0 ∧ cap = 0) :
   Calls Tryz.prog 65 #[.slice p n cap] w fun e w' => Ext w w' ∧ ∃ v, e = .returned v ∧ w'.ownsRow w.heap.size 9 1 v n cs := by
 cases p with
 | none =>
   obtain ⟨rfl, rfl⟩ := hq rfl
   obtain rfl : cs = [] := List.eq_nil_of_length_eq_zero (by omega)
   have hnil : ∀ W, (binOp BinOp.eql 30 (.slice none 0 0) (.slice none 0 0)).run Tryz.prog W = .ok (.bool true) W := fun W => by kernel_rfl
   go_enter Tryz.func65, Tryz.ntmps65
   go_wp2
   go_ret
   exact ⟨Ext.refl _, _, rfl, World.ownsRow_nil _ _ _ _⟩
 | some ad =>
   clear hq
   have hnil : ∀ W, (binOp BinOp.eql 30 (.slice (some ad) n cap) (.slice none 0 0)).run Tryz.prog W = .ok (.bool false) W := fun W => by kernel_rfl
   go_enter Tryz.func65, Tryz.ntmps65
   have he := Ext.alloc w (.cells #[] 9)
   have hown : (w.alloc (.cells #[] 9)).ownsRow w.heap.size 9 1 (.slice (some ⟨w.heap.size, 0, none⟩) 0 0) 0 [] := World.ownsRow_made w #[] 0 (Nat.le_refl _) (by simp) rfl
   have hz : w.heap.size ≤ (w.alloc (.cells #[] 9)).heap.size := by simp
   go_wp2_with (at_builtin; go_must (refine wpList_appk (by rfl) (.tmp 5) (.tmp 6) 30 9 rfl w.heap.size (.string ByteArray.empty) 1 16 Tryz.underlying30 infoStrA rfl (by decide) _ 0 [] rfl hown (some ad) n cap cs rfl rfl hl (Cells.ext hc he) h1 (by omega) (by decide) hz ?_; intro v8 w8 hout8 hgr8))
   go_ret
   refine ⟨Ext.trans' he (Below.of_grown hgr8 hown (Nat.le_refl _) hz), _, rfl, ?_⟩
   simpa using hout8
set_option maxRecDepth 100000 in
theorem CloneR_any (p : Option Addr) (cap n : Nat) (cs : List Value) (w : World) (hc : Cells w p cs) (hl : cs.length = n * 1) (h1 : ∀ u ∈ cs, u.oneCell' = true) (hn : n ≤ 1000000) (hq : p = none → n = 0 ∧ cap = 0) :
   Calls Tryz.prog 106 #[.slice p n cap] w fun e w' => Ext w w' ∧ ∃ v, e = .returned v ∧ w'.ownsRow w.heap.size 30 1 v n cs := by
 cases p with
 | none =>
   obtain ⟨rfl, rfl⟩ := hq rfl
   obtain rfl : cs = [] := List.eq_nil_of_length_eq_zero (by omega)
   have hnil : ∀ W, (binOp BinOp.eql 27 (.slice none 0 0) (.slice none 0 0)).run Tryz.prog W = .ok (.bool true) W := fun W => by kernel_rfl
   go_enter Tryz.func106, Tryz.ntmps106
   go_wp2
   go_ret
   exact ⟨Ext.refl _, _, rfl, World.ownsRow_nil _ _ _ _⟩
 | some ad =>
   clear hq
   have hnil : ∀ W, (binOp BinOp.eql 27 (.slice (some ad) n cap) (.slice none 0 0)).run Tryz.prog W = .ok (.bool false) W := fun W => by kernel_rfl
   go_enter Tryz.func106, Tryz.ntmps106
   have he := Ext.alloc w (.cells #[] 30)
   have hown : (w.alloc (.cells #[] 30)).ownsRow w.heap.size 30 1 (.slice (some ⟨w.heap.size, 0, none⟩) 0 0) 0 [] := World.ownsRow_made w #[] 0 (Nat.le_refl _) (by simp) rfl
   have hz : w.heap.size ≤ (w.alloc (.cells #[] 30)).heap.size := by simp
   go_wp2_with (at_builtin; go_must (refine wpList_appk (by rfl) (.tmp 5) (.tmp 6) 27 30 rfl w.heap.size (.slice none 0 0) 1 24 Tryz.underlying27 infoRowA rfl (by decide) _ 0 [] rfl hown (some ad) n cap cs rfl rfl hl (Cells.ext hc he) h1 (by omega) (by decide) hz ?_; intro v8 w8 hout8 hgr8))
   go_ret
   refine ⟨Ext.trans' he (Below.of_grown hgr8 hown (Nat.le_refl _) hz), _, rfl, ?_⟩
   simpa using hout8
set_option maxRecDepth 100000 in
theorem CloneE_any (p : Option Addr) (cap n : Nat) (cs : List Value) (w : World) (hc : Cells w p cs) (hl : cs.length = n * 2) (h1 : ∀ u ∈ cs, u.oneCell' = true) (hn : n ≤ 1000000) (hq : p = none → n = 0 ∧ cap = 0) :
   Calls Tryz.prog 105 #[.slice p n cap] w fun e w' => Ext w w' ∧ ∃ v, e = .returned v ∧ w'.ownsRow w.heap.size 63 2 v n cs := by
 cases p with
 | none =>
   obtain ⟨rfl, rfl⟩ := hq rfl
   obtain rfl : cs = [] := List.eq_nil_of_length_eq_zero (by omega)
   have hnil : ∀ W, (binOp BinOp.eql 24 (.slice none 0 0) (.slice none 0 0)).run Tryz.prog W = .ok (.bool true) W := fun W => by kernel_rfl
   go_enter Tryz.func105, Tryz.ntmps105
   go_wp2
   go_ret
   exact ⟨Ext.refl _, _, rfl, World.ownsRow_nil _ _ _ _⟩
 | some ad =>
   clear hq
   have hnil : ∀ W, (binOp BinOp.eql 24 (.slice (some ad) n cap) (.slice none 0 0)).run Tryz.prog W = .ok (.bool false) W := fun W => by kernel_rfl
   go_enter Tryz.func105, Tryz.ntmps105
   have he := Ext.alloc w (.cells #[] 63)
   have hown : (w.alloc (.cells #[] 63)).ownsRow w.heap.size 63 2 (.slice (some ⟨w.heap.size, 0, none⟩) 0 0) 0 [] := World.ownsRow_made w #[] 0 (Nat.le_refl _) (by simp) rfl
   have hz : w.heap.size ≤ (w.alloc (.cells #[] 63)).heap.size := by simp
   go_wp2_with (at_builtin; go_must (refine wpList_appk (by rfl) (.tmp 5) (.tmp 6) 24 63 rfl w.heap.size (.agg #[.string ByteArray.empty, .int .i64 0]) 2 24 Tryz.underlying24 infoEntA rfl (by decide) _ 0 [] rfl hown (some ad) n cap cs rfl rfl hl (Cells.ext hc he) h1 (by omega) (by decide) hz ?_; intro v8 w8 hout8 hgr8))
   go_ret
   refine ⟨Ext.trans' he (Below.of_grown hgr8 hown (Nat.le_refl _) hz), _, rfl, ?_⟩
   simpa using hout8
end Go.Proofs.YtifmbcjbccedfaaGreatDoor
namespace Go.Proofs.YtifmbcjbccedfaaGreatDoor
open Go.RowKit Dsd
theorem own_parts {w : World} {base : Nat} {e : TypeId} {k n c : Nat} {q : Option Addr} {xs : List Value} (h : w.ownsRow base e k (.slice q n c) n xs) (hn : 0 < n) :
   ∃ g cur, q = some ⟨g, 0, none⟩ ∧ base ≤ g ∧ Blk w g (.cells cur e) ∧ n ≤ c ∧ c ≤ maxLen ∧ cur.size = c * k ∧ cur.toList.take (n * k) = xs := by
 obtain ⟨hl, ⟨hv, h0⟩ | ⟨g, cap, cur, hv, h1, h2, h3, h4, h5, h6⟩⟩ := h
 · omega
 · simp only [Value.slice.injEq] at hv
   obtain ⟨rfl, _, rfl⟩ := hv
   exact ⟨g, cur, rfl, h1, h2, h3, h4, h5, h6⟩
theorem blk_cells {w : World} {b : Nat} {ys : List Value} {t : TypeId} (h : Blk w b (.cells ys.toArray t)) : Cells w (some ⟨b, 0, none⟩) ys := by
 refine .inr ⟨b, 0, rfl, Blk.lt h, fun i hi => ?_⟩
 rw [Nat.zero_add]
 exact Blk.val h i _ (by simp [List.getD, hi])
theorem grown_ext {w w' : World} {row : Option Nat} (h : Ext w w') : w.grownBy w' row := ⟨h.os, h.tape, h.output, h.size, fun k hk _ => h.block k hk⟩
theorem grown_chg {w w' : World} {g : Nat} (h : Chg g w w') : w.grownBy w' (some g) := ⟨h.os, h.tape, h.output, by rw [h.size]; exact Nat.le_refl _, fun k _ hk => h.block k (fun e => hk (by rw [e]))⟩
theorem splice_at {A Z cs : List Value} {o : Nat} (ho : o = A.length) : ((A ++ Z).toArray.toList.take o ++ cs ++ (A ++ Z).toArray.toList.drop (o + cs.length)).toArray = (A ++ cs ++ Z.drop cs.length).toArray := by
 subst ho
 simp [List.drop_append]
set_option maxRecDepth 100000 in
set_option maxHeartbeats 2000000 in
theorem InsertS_any (q : Option Addr) (c n i : Nat) (xs ys : List Value) (vb base : Nat) (w : World) (hown : w.ownsRow base 9 1 (.slice q n c) n xs) (hb : Blk w vb (.cells ys.toArray 9)) (hyl : ys.length = 1) (hy1 : ∀ u ∈ ys, u.oneCell' = true) (hx1 : ∀ u ∈ xs, u.oneCell' = true) (hi : i ≤ n) (hn : n ≤ 1000000) (hne : (Value.slice q n c).ownBlock ≠ some vb) (hbase : base ≤ w.heap.size) :
   Calls Tryz.prog 59 #[.slice q n c, .int .i64 i, .slice (some ⟨vb, 0, none⟩) 1 1] w fun e w' => ∃ v', e = .returned v' ∧ w'.ownsRow base 9 1 v' (n + 1) (xs.take (i * 1) ++ ys ++ xs.drop (i * 1)) ∧ w.grownBy w' (Value.slice q n c).ownBlock := by
 have hxl := hown.1
 by_cases hin : i = n
 · subst hin
   have e1 : xs.take (i * 1) = xs := List.take_of_length_le (by omega)
   have e2 : xs.drop (i * 1) = [] := List.drop_eq_nil_of_le (by omega)
   rw [e1, e2, List.append_nil]
   have Hown := Lib.hid hown
   have Hb := Lib.hid (blk_cells hb)
   clear e1 e2 hb
   by_cases hci : c = i
   · subst hci
     go_enter Tryz.func59, Tryz.ntmps59
     go_wp2_with (at_builtin; go_must (refine wpList_appk (by rfl) (.tmp 23) (.tmp 24) 30 9 rfl base (.string ByteArray.empty) 1 16 Tryz.underlying30 infoStrA rfl (by decide) (.slice q c c) c xs rfl Hown.out (some ⟨vb, 0, none⟩) 1 1 ys rfl rfl (by omega) Hb.out hy1 (by omega) (by decide) hbase ?_; intro v8 w8 hout8 hgr8))
     go_ret
     exact ⟨_, rfl, hout8, hgr8⟩
   · go_enter Tryz.func59, Tryz.ntmps59
     go_wp2_with (at_builtin; go_must (refine wpList_appk (by rfl) (.tmp 23) (.tmp 24) 30 9 rfl base (.string ByteArray.empty) 1 16 Tryz.underlying30 infoStrA rfl (by decide) (.slice q i c) i xs rfl Hown.out (some ⟨vb, 0, none⟩) 1 1 ys rfl rfl (by omega) Hb.out hy1 (by omega) (by decide) hbase ?_; intro v8 w8 hout8 hgr8))
     go_ret
     exact ⟨_, rfl, hout8, hgr8⟩
 · have hlt : i < n := by omega
   obtain ⟨g, cur, rfl, hg0, hg, hnc, hc, hcur, htake⟩ := own_parts hown (by omega)
   have hgl := Blk.lt hg
   have hvl := Blk.lt hb
   have hinI : ((i : Int) == (n : Int)) = false := by simp; omega
   have hc63 : c ≤ 9223372036854775807 := hc
   by_cases hroom : c < n + 1
   · have hrI : decide ((c : Int) < (n : Int) + 1) = true := decide_eq_true (by omega)
     go_enter Tryz.func59, Tryz.ntmps59
     obtain ⟨i0, hi0, hz0, hzs, hzb⟩ := info_parts infoStrA
     have hik : i + (n + 1 - i) = n + 1 := by omega
     have hold : (Builtin.firstCells i0.size i (.slice (some ⟨g, 0, none⟩) i c)).run Tryz.prog w.drew = .ok (xs.take (i * 1)).toArray w.drew := by
       rw [hzs]
       refine run_firstCells_some w.drew 1 i ⟨g, 0, none⟩ i c (xs.take (i * 1)) (by rw [List.length_take]; omega) (fun j v hj => ?_)
       rw [addr_add, Nat.zero_add]
       rw [List.getElem?_take] at hj
       split at hj
       · rename_i hji
         rw [← htake, List.getElem?_take, if_pos (by omega)] at hj
         exact Blk.val (show Blk w.drew g _ from hg) _ _ (by simpa using hj)
       · cases hj
     obtain ⟨G, hG⟩ : ∃ G, G = grownCap w (n + 1) c 9 := ⟨_, rfl⟩
     have hGn : n + 1 ≤ G := by rw [hG]; exact grownCap_ge w _ _ _
     have hG63 : G ≤ maxLen := by rw [hG]; exact grownCap_le_maxLen w (n + 1) c _ (by unfold maxLen; omega)
     obtain ⟨zs, hzl, hrz⟩ : ∃ zs : List Value, zs.length = (G - i) * 1 ∧ ∀ ty, (Builtin.append_ #[30, 3] ty #[.slice (some ⟨g, 0, none⟩) i c, .int .i64 ((n : Int) + 1 - (i : Int))]).run Tryz.prog w =
         .ok (.slice (some ⟨w.heap.size, 0, none⟩) (n + 1) G) (w.drew.alloc (.cells (xs.take (i * 1) ++ zs).toArray 9)) := by
       refine ⟨(Builtin.zeroCells ((.string ByteArray.empty : Value)).cells (n + 1 - i) ++ Builtin.zeroCells ((.string ByteArray.empty : Value)).cells (G - (n + 1))).toList, ?_, fun ty => ?_⟩
       · simp [Builtin.zeroCells, Value.cells]; omega
       · have h := Lib.run_append_grow_zeros w 30 3 ty 9 i0 _ .i64 .i64 Tryz.underlying30 Tryz.underlying3 hi0 hz0 (some ⟨g, 0, none⟩) i c (xs.take (i * 1)) hold (n + 1 - i) (by omega) (by omega) (by omega) (by omega) (by rw [hzb]; omega) (by rw [hzb, hik]; exact growslice_fits hroom (by omega))
         rw [hik, ← hG] at h
         have hkk : (n : Int) + 1 - (i : Int) = ((n + 1 - i : Nat) : Int) := by omega
         rw [hkk, h]
         congr 3
         apply Array.ext'
         simp
     have hsz : (Tryz.prog.info? 9).map (·.size) = some 1 := by rw [hi0]; simp [hzs]
     clear hold hik hi0 hz0 hzs hzb hG
     go_upto_region 10 with (at_builtin; refine Lib.wpList_append_run _ rfl _ _ _ _ rfl _ _ rfl rfl _ _ (hrz _) ?_)
     have hN0 := Blk.new w (.cells (xs.take (i * 1) ++ zs).toArray 9)
     refine wp_name (fun W => Ext w W ∧ Blk W w.heap.size (.cells (xs.take (i * 1) ++ zs).toArray 9)) ⟨(Ext.alloc _ _).trans (Ext.drew _), by first | exact hN0 | (show Blk (w.alloc _) _ _; simpa using hN0)⟩ ?_
     clear hN0 hrz
     rintro W ⟨heW, hNW⟩
     generalize hNN : w.heap.size = N at *
     have htl : (xs.take (i * 1)).length = i * 1 := by rw [List.length_take]; omega
     have hcpA : ∀ (off : Nat) (ty : TypeId), off = i * 1 → (Builtin.copy_ #[30, 30] ty #[.slice (some ⟨N, off, none⟩) (n + 1 - i) (G - i), .slice (some ⟨vb, 0, none⟩) 1 1]).run Tryz.prog W = .ok (goInt 1) (W.setRow N (xs.take (i * 1) ++ ys ++ zs.drop 1).toArray) := fun off ty ho => by
       subst ho
       have h := run_copy_rowK (P := Tryz.prog) W 30 30 ty 9 1 1 N (i * 1) (n + 1 - i) (G - i) ⟨vb, 0, none⟩ 1 1 _ 9 ys Tryz.underlying30 hsz hNW (by simp only [Nat.min_def]; split <;> omega) (by omega)
         (fun j v hj => by rw [addr_add, Nat.zero_add]; exact Blk.val (heW.blk _ _ hb) _ _ (by simpa using hj)) (by simp; omega) hy1
       rw [h, splice_at htl.symm, hyl]
       rfl
     go_upto_region 11 with (at_builtin; refine wpList_copy_run (by rfl) _ _ 30 30 rfl _ _ rfl rfl (hcpA _ _ (by simp)) ?_)
     have hcN := Chg.setRow (w := W) (g := N) (cs := (xs.take (i * 1) ++ ys ++ zs.drop 1).toArray)
     have hbN : Blk (W.setRow N (xs.take (i * 1) ++ ys ++ zs.drop 1).toArray) N (.cells (xs.take (i * 1) ++ ys ++ zs.drop 1).toArray 9) := Blk.setRow hNW
     refine wp_name (fun W1 => Ext w W1 ∧ Blk W1 N (.cells (xs.take (i * 1) ++ ys ++ zs.drop 1).toArray 9)) (by
       have h := hcN.ext heW (by omega)
       first | exact ⟨h, hbN⟩ | simpa using And.intro h hbN) ?_
     clear hcN hbN hcpA hNW heW
     rintro W1 ⟨heW, hNW⟩
     have hdl : (xs.drop (i * 1)).length = (n - i) * 1 := by rw [List.length_drop]; omega
     have hgW := heW.blk _ _ hg
     have hcpB : ∀ (o1 o2 l1 : Nat) (ty : TypeId), o1 = (i + 1) * 1 → o2 = i * 1 → l1 = n - i → (Builtin.copy_ #[30, 30] ty #[.slice (some ⟨N, o1, none⟩) l1 (G - (i + 1)), .slice (some ⟨g, o2, none⟩) (n - i) (c - i)]).run Tryz.prog W1.drew = .ok (goInt (n - i : Nat)) (W1.drew.setRow N (xs.take (i * 1) ++ ys ++ xs.drop (i * 1) ++ zs.drop ((n - i) * 1 + 1)).toArray) := fun o1 o2 l1 ty h1 h2 h3 => by
       subst h1 h2 h3
       have h := run_copy_rowK (P := Tryz.prog) W1.drew 30 30 ty 9 1 (n - i) N ((i + 1) * 1) (n - i) (G - (i + 1)) ⟨g, i * 1, none⟩ (n - i) (c - i) _ 9 (xs.drop (i * 1)) Tryz.underlying30 hsz (show Blk W1.drew N _ from hNW) (by simp only [Nat.min_def]; split <;> omega) hdl
         (fun j v hj => by
           rw [addr_add]
           rw [List.getElem?_drop, ← htake, List.getElem?_take] at hj
           split at hj
           · exact Blk.val (show Blk W1.drew g _ from hgW) _ _ (by simpa using hj)
           · cases hj) (by simp; omega) (fun u hu => hx1 u (List.mem_of_mem_drop hu))
       have e1 : (xs.take (i * 1) ++ ys).length = (i + 1) * 1 := by rw [List.length_append, htl, hyl]; omega
       rw [h, splice_at e1.symm, hdl, List.drop_drop, show 1 + (n - i) * 1 = (n - i) * 1 + 1 by omega]
     have hw1 : IntKind.i64.wrap ((i : Int) + 1) = (i : Int) + 1 := IntWalk.i64_in _ (by omega)
     have hb1 : (0 : Int) ≤ (i : Int) + 1 := by omega
     have hb2 : (i : Int) + 1 ≤ (n : Int) + 1 := by omega
     have htn : ((i : Int) + 1).toNat = i + 1 := by omega
     have hGi : ¬ G = i + 1 := by omega
     have hci : ¬ c = i := by omega
     go_region_law (refine step_copy_run rfl _ _ 30 30 rfl _ _ (by simp [Act.eval, Act.put]) (by simp [Act.eval, Act.put]) (hcpB _ _ _ _ (by simp) (by simp) (by omega)) ?_)
     go_wp2
     go_ret
     have hcN := Chg.setRow (w := W1.drew) (g := N) (cs := (xs.take (i * 1) ++ ys ++ xs.drop (i * 1) ++ zs.drop ((n - i) * 1 + 1)).toArray)
     have hbN : Blk (W1.drew.setRow N (xs.take (i * 1) ++ ys ++ xs.drop (i * 1) ++ zs.drop ((n - i) * 1 + 1)).toArray) N (.cells (xs.take (i * 1) ++ ys ++ xs.drop (i * 1) ++ zs.drop ((n - i) * 1 + 1)).toArray 9) := Blk.setRow (show Blk W1.drew N _ from hNW)
     have hE := hcN.ext (heW.trans (Ext.drew W1)) (by omega)
     have hlr : (xs.take (i * 1) ++ ys ++ xs.drop (i * 1)).length = (n + 1) * 1 := by rw [List.length_append, List.length_append, htl, hyl, hdl]; omega
     refine ⟨_, rfl, ?_, grown_ext (by first | exact hE | simpa using hE)⟩
     have hown9 : (W1.drew.setRow N (xs.take (i * 1) ++ ys ++ xs.drop (i * 1) ++ zs.drop ((n - i) * 1 + 1)).toArray).ownsRow base 9 1 (.slice (some ⟨N, 0, none⟩) (n + 1) G) (n + 1) (xs.take (i * 1) ++ ys ++ xs.drop (i * 1)) :=
       ⟨hlr, .inr ⟨N, G, _, rfl, by omega, hbN, hGn, hG63, by simp only [List.size_toArray]; rw [List.length_append, hlr, List.length_drop, hzl]; omega, List.take_left' hlr⟩⟩
     first | exact hown9 | simpa using hown9
   · have hrI : decide ((c : Int) < (n : Int) + 1) = false := decide_eq_false (by omega)
     have hvb : vb ≠ g := fun e => hne (by rw [e]; rfl)
     obtain ⟨i0, hi0, hz0, hzs, hzb⟩ := info_parts infoStrA
     have hsz : (Tryz.prog.info? 9).map (·.size) = some 1 := by rw [hi0]; simp [hzs]
     clear hi0 hz0 hzs hzb
     have hov : ∀ o lb cb, (callFunc 111 #[.slice (some ⟨vb, 0, none⟩) 1 1, .slice (some ⟨g, o, none⟩) lb cb]).run Tryz.prog w = .ok (.value (.bool false)) w := fun o lb cb => by
       have hsa : w.shape? vb = some (9, ys.length) := by
         have h : w.heap[vb]? = some (.cells ys.toArray 9) := hb
         simp [World.shape?, h]
       have hsb : w.shape? g = some (9, cur.size) := by
         have h : w.heap[g]? = some (.cells cur 9) := hg
         simp [World.shape?, h]
       rw [run_callFunc_extern Tryz.func111 (by kernel_rfl) (by kernel_rfl) (by kernel_rfl) (e := Extern.SlicesOverlaps.overlaps #[30, 30] #[4]) (by kernel_rfl),
         Lib.run_overlaps_apart w 30 4 9 Tryz.underlying30 1 (fun W => by kernel_rfl) ⟨vb, 0, none⟩ ⟨g, o, none⟩ 1 1 lb cb hvb _ _ _ _ hsa hsb (by omega) (Blk.free hb 0) (Blk.free hb _)]
       rfl
     obtain ⟨R, hR⟩ : ∃ R, cur.toList = xs ++ R := ⟨cur.toList.drop (n * 1), by rw [← htake, List.take_append_drop]⟩
     obtain rfl : cur = (xs ++ R).toArray := by apply Array.ext'; simpa using hR
     have hRl : R.length = (c - n) * 1 := by simp at hcur; omega
     clear htake hR
     have htl : (xs.take (i * 1)).length = i * 1 := by rw [List.length_take]; omega
     have hdl : (xs.drop (i * 1)).length = (n - i) * 1 := by rw [List.length_drop]; omega
     have htl1 : (xs.take ((i + 1) * 1)).length = (i + 1) * 1 := by rw [List.length_take]; omega
     have hw1 : IntKind.i64.wrap ((i : Int) + 1) = (i : Int) + 1 := IntWalk.i64_in _ (by omega)
     have hb1 : (0 : Int) ≤ (i : Int) + 1 := by omega
     have hb2 : (i : Int) + 1 ≤ (n : Int) + 1 := by omega
     have hb3 : (i : Int) ≤ (n : Int) + 1 := by omega
     have htn : ((i : Int) + 1).toNat = i + 1 := by omega
     have hGi : ¬ c = i + 1 := by omega
     have hci : ¬ c = i := by omega
     go_enter Tryz.func59, Tryz.ntmps59
     go_upto_region 15 with (simp only [hov])
     obtain ⟨V, hV⟩ : ∃ V, (xs.drop (i * 1)).take 1 = V := ⟨_, rfl⟩
     have hVl : V.length = 1 := by rw [← hV, List.length_take, hdl]; omega
     have e1 : xs.take ((i + 1) * 1) = xs.take (i * 1) ++ V := by rw [← hV, show (i + 1) * 1 = i * 1 + 1 by omega, List.take_add]
     have e2 : (xs.drop ((i + 1) * 1) ++ R).drop ((n - i) * 1) = R.drop 1 := by
       have h3 : (xs.drop ((i + 1) * 1)).length = (n - i - 1) * 1 := by rw [List.length_drop]; omega
       rw [List.drop_append, List.drop_of_length_le (by omega), h3, List.nil_append]
       congr 1
       omega
     have hcur2 : (xs ++ R).toArray = (xs.take ((i + 1) * 1) ++ (xs.drop ((i + 1) * 1) ++ R)).toArray := by rw [← List.append_assoc, List.take_append_drop]
     have hg' := hg
     rw [hcur2] at hg'
     have hcp1 : ∀ (o1 o2 l1 l2 : Nat) (ty : TypeId), o1 = (i + 1) * 1 → o2 = i * 1 → l1 = n - i → l2 = n + 1 - i → (Builtin.copy_ #[30, 30] ty #[.slice (some ⟨g, o1, none⟩) l1 (c - (i + 1)), .slice (some ⟨g, o2, none⟩) l2 (c - i)]).run Tryz.prog w.drew = .ok (goInt (n - i : Nat)) (w.drew.setRow g (xs.take (i * 1) ++ (V ++ xs.drop (i * 1) ++ R.drop 1)).toArray) := fun o1 o2 l1 l2 ty h1 h2 h3 h4 => by
       subst h1 h2 h3 h4
       have h := run_copy_rowK (P := Tryz.prog) w.drew 30 30 ty 9 1 (n - i) g ((i + 1) * 1) (n - i) (c - (i + 1)) ⟨g, i * 1, none⟩ (n + 1 - i) (c - i) _ 9 (xs.drop (i * 1)) Tryz.underlying30 hsz (show Blk w.drew g _ from hg') (by simp only [Nat.min_def]; split <;> omega) hdl
         (fun j v hj => by
           rw [addr_add]
           rw [List.getElem?_drop] at hj
           exact Blk.val (show Blk w.drew g _ from hg) _ _ (by
             have h8 := (List.getElem?_eq_some_iff.1 hj).1
             have h9 : (xs ++ R)[i * 1 + j]? = some v := by rw [List.getElem?_append_left h8]; exact hj
             simpa using h9)) (by simp; omega) (fun u hu => hx1 u (List.mem_of_mem_drop hu))
       rw [h, splice_at htl1.symm, hdl, e2, e1]
       simp
     go_region_law (refine step_copy_run rfl _ _ 30 30 rfl _ _ (by simp [Act.eval, Act.put]) (by simp [Act.eval, Act.put]) (hcp1 _ _ _ _ _ (by simp) (by simp) (by omega) (by omega)) ?_)
     go_upto_region 16 with (fail)
     have hcN := Chg.setRow (w := w.drew) (g := g) (cs := (xs.take (i * 1) ++ (V ++ xs.drop (i * 1) ++ R.drop 1)).toArray)
     have hbN : Blk (w.drew.setRow g (xs.take (i * 1) ++ (V ++ xs.drop (i * 1) ++ R.drop 1)).toArray) g (.cells (xs.take (i * 1) ++ (V ++ xs.drop (i * 1) ++ R.drop 1)).toArray 9) := Blk.setRow (show Blk w.drew g _ from hg)
     refine wp_name (fun W1 => Chg g w W1 ∧ Blk W1 g (.cells (xs.take (i * 1) ++ (V ++ xs.drop (i * 1) ++ R.drop 1)).toArray 9)) (by
       have h : Chg g w (w.drew.setRow g (xs.take (i * 1) ++ (V ++ xs.drop (i * 1) ++ R.drop 1)).toArray) := ⟨hcN.os, hcN.tape, hcN.output, hcN.size, hcN.block⟩
       first | exact ⟨h, hbN⟩ | simpa using And.intro h hbN) ?_
     clear hcN hbN hcp1
     rintro W1 ⟨hcW, hNW⟩
     have hvW := hcW.blk hb hvb
     have hcp2 : ∀ (o l : Nat) (ty : TypeId), o = i * 1 → l = n + 1 - i → (Builtin.copy_ #[30, 30] ty #[.slice (some ⟨g, o, none⟩) l (c - i), .slice (some ⟨vb, 0, none⟩) 1 1]).run Tryz.prog W1 = .ok (goInt 1) (W1.setRow g (xs.take (i * 1) ++ ys ++ (xs.drop (i * 1) ++ R.drop 1)).toArray) := fun o l ty h1 h2 => by
       subst h1 h2
       have h := run_copy_rowK (P := Tryz.prog) W1 30 30 ty 9 1 1 g (i * 1) (n + 1 - i) (c - i) ⟨vb, 0, none⟩ 1 1 _ 9 ys Tryz.underlying30 hsz hNW (by simp only [Nat.min_def]; split <;> omega) (by omega)
         (fun j v hj => by rw [addr_add, Nat.zero_add]; exact Blk.val hvW _ _ (by simpa using hj)) (by simp; omega) hy1
       rw [h, splice_at htl.symm, hyl, List.append_assoc V, List.drop_append, List.drop_of_length_le (by omega), hVl]
       simp
     go_wp2_with (at_builtin; refine wpList_copy_run (by rfl) _ _ 30 30 rfl _ _ rfl rfl (hcp2 _ _ _ (by simp) (by omega)) ?_)
     go_ret
     have hcN := Chg.setRow (w := W1) (g := g) (cs := (xs.take (i * 1) ++ ys ++ (xs.drop (i * 1) ++ R.drop 1)).toArray)
     have hbN : Blk (W1.setRow g (xs.take (i * 1) ++ ys ++ (xs.drop (i * 1) ++ R.drop 1)).toArray) g (.cells (xs.take (i * 1) ++ ys ++ (xs.drop (i * 1) ++ R.drop 1)).toArray 9) := Blk.setRow hNW
     have hlr : (xs.take (i * 1) ++ ys ++ xs.drop (i * 1)).length = (n + 1) * 1 := by rw [List.length_append, List.length_append, htl, hyl, hdl]; omega
     have hgr := grown_chg (hcW.trans hcN)
     refine ⟨_, rfl, ?_, by first | exact hgr | simpa [Value.ownBlock] using hgr⟩
     have hown9 : (W1.setRow g (xs.take (i * 1) ++ ys ++ (xs.drop (i * 1) ++ R.drop 1)).toArray).ownsRow base 9 1 (.slice (some ⟨g, 0, none⟩) (n + 1) c) (n + 1) (xs.take (i * 1) ++ ys ++ xs.drop (i * 1)) :=
       ⟨hlr, .inr ⟨g, c, _, rfl, hg0, hbN, by omega, hc, by simp only [List.size_toArray]; rw [← List.append_assoc, List.length_append, hlr, List.length_drop, hRl]; omega, by rw [← List.append_assoc]; exact List.take_left' hlr⟩⟩
     first | exact hown9 | simpa using hown9
set_option maxRecDepth 100000 in
set_option maxHeartbeats 2000000 in
theorem InsertR_any (q : Option Addr) (c n i : Nat) (xs ys : List Value) (vb base : Nat) (w : World) (hown : w.ownsRow base 30 1 (.slice q n c) n xs) (hb : Blk w vb (.cells ys.toArray 30)) (hyl : ys.length = 1) (hy1 : ∀ u ∈ ys, u.oneCell' = true) (hx1 : ∀ u ∈ xs, u.oneCell' = true) (hi : i ≤ n) (hn : n ≤ 1000000) (hne : (Value.slice q n c).ownBlock ≠ some vb) (hbase : base ≤ w.heap.size) :
   Calls Tryz.prog 64 #[.slice q n c, .int .i64 i, .slice (some ⟨vb, 0, none⟩) 1 1] w fun e w' => ∃ v', e = .returned v' ∧ w'.ownsRow base 30 1 v' (n + 1) (xs.take (i * 1) ++ ys ++ xs.drop (i * 1)) ∧ w.grownBy w' (Value.slice q n c).ownBlock := by
 have hxl := hown.1
 by_cases hin : i = n
 · subst hin
   have e1 : xs.take (i * 1) = xs := List.take_of_length_le (by omega)
   have e2 : xs.drop (i * 1) = [] := List.drop_eq_nil_of_le (by omega)
   rw [e1, e2, List.append_nil]
   have Hown := Lib.hid hown
   have Hb := Lib.hid (blk_cells hb)
   clear e1 e2 hb
   by_cases hci : c = i
   · subst hci
     go_enter Tryz.func64, Tryz.ntmps64
     go_wp2_with (at_builtin; go_must (refine wpList_appk (by rfl) (.tmp 23) (.tmp 24) 27 30 rfl base (.slice none 0 0) 1 24 Tryz.underlying27 infoRowA rfl (by decide) (.slice q c c) c xs rfl Hown.out (some ⟨vb, 0, none⟩) 1 1 ys rfl rfl (by omega) Hb.out hy1 (by omega) (by decide) hbase ?_; intro v8 w8 hout8 hgr8))
     go_ret
     exact ⟨_, rfl, hout8, hgr8⟩
   · go_enter Tryz.func64, Tryz.ntmps64
     go_wp2_with (at_builtin; go_must (refine wpList_appk (by rfl) (.tmp 23) (.tmp 24) 27 30 rfl base (.slice none 0 0) 1 24 Tryz.underlying27 infoRowA rfl (by decide) (.slice q i c) i xs rfl Hown.out (some ⟨vb, 0, none⟩) 1 1 ys rfl rfl (by omega) Hb.out hy1 (by omega) (by decide) hbase ?_; intro v8 w8 hout8 hgr8))
     go_ret
     exact ⟨_, rfl, hout8, hgr8⟩
 · have hlt : i < n := by omega
   obtain ⟨g, cur, rfl, hg0, hg, hnc, hc, hcur, htake⟩ := own_parts hown (by omega)
   have hgl := Blk.lt hg
   have hvl := Blk.lt hb
   have hinI : ((i : Int) == (n : Int)) = false := by simp; omega
   have hc63 : c ≤ 9223372036854775807 := hc
   by_cases hroom : c < n + 1
   · have hrI : decide ((c : Int) < (n : Int) + 1) = true := decide_eq_true (by omega)
     go_enter Tryz.func64, Tryz.ntmps64
     obtain ⟨i0, hi0, hz0, hzs, hzb⟩ := info_parts infoRowA
     have hik : i + (n + 1 - i) = n + 1 := by omega
     have hold : (Builtin.firstCells i0.size i (.slice (some ⟨g, 0, none⟩) i c)).run Tryz.prog w.drew = .ok (xs.take (i * 1)).toArray w.drew := by
       rw [hzs]
       refine run_firstCells_some w.drew 1 i ⟨g, 0, none⟩ i c (xs.take (i * 1)) (by rw [List.length_take]; omega) (fun j v hj => ?_)
       rw [addr_add, Nat.zero_add]
       rw [List.getElem?_take] at hj
       split at hj
       · rename_i hji
         rw [← htake, List.getElem?_take, if_pos (by omega)] at hj
         exact Blk.val (show Blk w.drew g _ from hg) _ _ (by simpa using hj)
       · cases hj
     obtain ⟨G, hG⟩ : ∃ G, G = grownCap w (n + 1) c 30 := ⟨_, rfl⟩
     have hGn : n + 1 ≤ G := by rw [hG]; exact grownCap_ge w _ _ _
     have hG63 : G ≤ maxLen := by rw [hG]; exact grownCap_le_maxLen w (n + 1) c _ (by unfold maxLen; omega)
     obtain ⟨zs, hzl, hrz⟩ : ∃ zs : List Value, zs.length = (G - i) * 1 ∧ ∀ ty, (Builtin.append_ #[27, 3] ty #[.slice (some ⟨g, 0, none⟩) i c, .int .i64 ((n : Int) + 1 - (i : Int))]).run Tryz.prog w =
         .ok (.slice (some ⟨w.heap.size, 0, none⟩) (n + 1) G) (w.drew.alloc (.cells (xs.take (i * 1) ++ zs).toArray 30)) := by
       refine ⟨(Builtin.zeroCells ((.slice none 0 0 : Value)).cells (n + 1 - i) ++ Builtin.zeroCells ((.slice none 0 0 : Value)).cells (G - (n + 1))).toList, ?_, fun ty => ?_⟩
       · simp [Builtin.zeroCells, Value.cells]; omega
       · have h := Lib.run_append_grow_zeros w 27 3 ty 30 i0 _ .i64 .i64 Tryz.underlying27 Tryz.underlying3 hi0 hz0 (some ⟨g, 0, none⟩) i c (xs.take (i * 1)) hold (n + 1 - i) (by omega) (by omega) (by omega) (by omega) (by rw [hzb]; omega) (by rw [hzb, hik]; exact growslice_fits hroom (by omega))
         rw [hik, ← hG] at h
         have hkk : (n : Int) + 1 - (i : Int) = ((n + 1 - i : Nat) : Int) := by omega
         rw [hkk, h]
         congr 3
         apply Array.ext'
         simp
     have hsz : (Tryz.prog.info? 30).map (·.size) = some 1 := by rw [hi0]; simp [hzs]
     clear hold hik hi0 hz0 hzs hzb hG
     go_upto_region 10 with (at_builtin; refine Lib.wpList_append_run _ rfl _ _ _ _ rfl _ _ rfl rfl _ _ (hrz _) ?_)
     have hN0 := Blk.new w (.cells (xs.take (i * 1) ++ zs).toArray 30)
     refine wp_name (fun W => Ext w W ∧ Blk W w.heap.size (.cells (xs.take (i * 1) ++ zs).toArray 30)) ⟨(Ext.alloc _ _).trans (Ext.drew _), by first | exact hN0 | (show Blk (w.alloc _) _ _; simpa using hN0)⟩ ?_
     clear hN0 hrz
     rintro W ⟨heW, hNW⟩
     generalize hNN : w.heap.size = N at *
     have htl : (xs.take (i * 1)).length = i * 1 := by rw [List.length_take]; omega
     have hcpA : ∀ (off : Nat) (ty : TypeId), off = i * 1 → (Builtin.copy_ #[27, 27] ty #[.slice (some ⟨N, off, none⟩) (n + 1 - i) (G - i), .slice (some ⟨vb, 0, none⟩) 1 1]).run Tryz.prog W = .ok (goInt 1) (W.setRow N (xs.take (i * 1) ++ ys ++ zs.drop 1).toArray) := fun off ty ho => by
       subst ho
       have h := run_copy_rowK (P := Tryz.prog) W 27 27 ty 30 1 1 N (i * 1) (n + 1 - i) (G - i) ⟨vb, 0, none⟩ 1 1 _ 30 ys Tryz.underlying27 hsz hNW (by simp only [Nat.min_def]; split <;> omega) (by omega)
         (fun j v hj => by rw [addr_add, Nat.zero_add]; exact Blk.val (heW.blk _ _ hb) _ _ (by simpa using hj)) (by simp; omega) hy1
       rw [h, splice_at htl.symm, hyl]
       rfl
     go_upto_region 11 with (at_builtin; refine wpList_copy_run (by rfl) _ _ 27 27 rfl _ _ rfl rfl (hcpA _ _ (by simp)) ?_)
     have hcN := Chg.setRow (w := W) (g := N) (cs := (xs.take (i * 1) ++ ys ++ zs.drop 1).toArray)
     have hbN : Blk (W.setRow N (xs.take (i * 1) ++ ys ++ zs.drop 1).toArray) N (.cells (xs.take (i * 1) ++ ys ++ zs.drop 1).toArray 30) := Blk.setRow hNW
     refine wp_name (fun W1 => Ext w W1 ∧ Blk W1 N (.cells (xs.take (i * 1) ++ ys ++ zs.drop 1).toArray 30)) (by
       have h := hcN.ext heW (by omega)
       first | exact ⟨h, hbN⟩ | simpa using And.intro h hbN) ?_
     clear hcN hbN hcpA hNW heW
     rintro W1 ⟨heW, hNW⟩
     have hdl : (xs.drop (i * 1)).length = (n - i) * 1 := by rw [List.length_drop]; omega
     have hgW := heW.blk _ _ hg
     have hcpB : ∀ (o1 o2 l1 : Nat) (ty : TypeId), o1 = (i + 1) * 1 → o2 = i * 1 → l1 = n - i → (Builtin.copy_ #[27, 27] ty #[.slice (some ⟨N, o1, none⟩) l1 (G - (i + 1)), .slice (some ⟨g, o2, none⟩) (n - i) (c - i)]).run Tryz.prog W1.drew = .ok (goInt (n - i : Nat)) (W1.drew.setRow N (xs.take (i * 1) ++ ys ++ xs.drop (i * 1) ++ zs.drop ((n - i) * 1 + 1)).toArray) := fun o1 o2 l1 ty h1 h2 h3 => by
       subst h1 h2 h3
       have h := run_copy_rowK (P := Tryz.prog) W1.drew 27 27 ty 30 1 (n - i) N ((i + 1) * 1) (n - i) (G - (i + 1)) ⟨g, i * 1, none⟩ (n - i) (c - i) _ 30 (xs.drop (i * 1)) Tryz.underlying27 hsz (show Blk W1.drew N _ from hNW) (by simp only [Nat.min_def]; split <;> omega) hdl
         (fun j v hj => by
           rw [addr_add]
           rw [List.getElem?_drop, ← htake, List.getElem?_take] at hj
           split at hj
           · exact Blk.val (show Blk W1.drew g _ from hgW) _ _ (by simpa using hj)
           · cases hj) (by simp; omega) (fun u hu => hx1 u (List.mem_of_mem_drop hu))
       have e1 : (xs.take (i * 1) ++ ys).length = (i + 1) * 1 := by rw [List.length_append, htl, hyl]; omega
       rw [h, splice_at e1.symm, hdl, List.drop_drop, show 1 + (n - i) * 1 = (n - i) * 1 + 1 by omega]
     have hw1 : IntKind.i64.wrap ((i : Int) + 1) = (i : Int) + 1 := IntWalk.i64_in _ (by omega)
     have hb1 : (0 : Int) ≤ (i : Int) + 1 := by omega
     have hb2 : (i : Int) + 1 ≤ (n : Int) + 1 := by omega
     have htn : ((i : Int) + 1).toNat = i + 1 := by omega
     have hGi : ¬ G = i + 1 := by omega
     have hci : ¬ c = i := by omega
     go_region_law (refine step_copy_run rfl _ _ 27 27 rfl _ _ (by simp [Act.eval, Act.put]) (by simp [Act.eval, Act.put]) (hcpB _ _ _ _ (by simp) (by simp) (by omega)) ?_)
     go_wp2
     go_ret
     have hcN := Chg.setRow (w := W1.drew) (g := N) (cs := (xs.take (i * 1) ++ ys ++ xs.drop (i * 1) ++ zs.drop ((n - i) * 1 + 1)).toArray)
     have hbN : Blk (W1.drew.setRow N (xs.take (i * 1) ++ ys ++ xs.drop (i * 1) ++ zs.drop ((n - i) * 1 + 1)).toArray) N (.cells (xs.take (i * 1) ++ ys ++ xs.drop (i * 1) ++ zs.drop ((n - i) * 1 + 1)).toArray 30) := Blk.setRow (show Blk W1.drew N _ from hNW)
     have hE := hcN.ext (heW.trans (Ext.drew W1)) (by omega)
     have hlr : (xs.take (i * 1) ++ ys ++ xs.drop (i * 1)).length = (n + 1) * 1 := by rw [List.length_append, List.length_append, htl, hyl, hdl]; omega
     refine ⟨_, rfl, ?_, grown_ext (by first | exact hE | simpa using hE)⟩
     have hown9 : (W1.drew.setRow N (xs.take (i * 1) ++ ys ++ xs.drop (i * 1) ++ zs.drop ((n - i) * 1 + 1)).toArray).ownsRow base 30 1 (.slice (some ⟨N, 0, none⟩) (n + 1) G) (n + 1) (xs.take (i * 1) ++ ys ++ xs.drop (i * 1)) :=
       ⟨hlr, .inr ⟨N, G, _, rfl, by omega, hbN, hGn, hG63, by simp only [List.size_toArray]; rw [List.length_append, hlr, List.length_drop, hzl]; omega, List.take_left' hlr⟩⟩
     first | exact hown9 | simpa using hown9
   · have hrI : decide ((c : Int) < (n : Int) + 1) = false := decide_eq_false (by omega)
     have hvb : vb ≠ g := fun e => hne (by rw [e]; rfl)
     obtain ⟨i0, hi0, hz0, hzs, hzb⟩ := info_parts infoRowA
     have hsz : (Tryz.prog.info? 30).map (·.size) = some 1 := by rw [hi0]; simp [hzs]
     clear hi0 hz0 hzs hzb
     have hov : ∀ o lb cb, (callFunc 118 #[.slice (some ⟨vb, 0, none⟩) 1 1, .slice (some ⟨g, o, none⟩) lb cb]).run Tryz.prog w = .ok (.value (.bool false)) w := fun o lb cb => by
       have hsa : w.shape? vb = some (30, ys.length) := by
         have h : w.heap[vb]? = some (.cells ys.toArray 30) := hb
         simp [World.shape?, h]
       have hsb : w.shape? g = some (30, cur.size) := by
         have h : w.heap[g]? = some (.cells cur 30) := hg
         simp [World.shape?, h]
       rw [run_callFunc_extern Tryz.func118 (by kernel_rfl) (by kernel_rfl) (by kernel_rfl) (e := Extern.SlicesOverlaps.overlaps #[27, 27] #[4]) (by kernel_rfl),
         Lib.run_overlaps_apart w 27 4 30 Tryz.underlying27 1 (fun W => by kernel_rfl) ⟨vb, 0, none⟩ ⟨g, o, none⟩ 1 1 lb cb hvb _ _ _ _ hsa hsb (by omega) (Blk.free hb 0) (Blk.free hb _)]
       rfl
     obtain ⟨R, hR⟩ : ∃ R, cur.toList = xs ++ R := ⟨cur.toList.drop (n * 1), by rw [← htake, List.take_append_drop]⟩
     obtain rfl : cur = (xs ++ R).toArray := by apply Array.ext'; simpa using hR
     have hRl : R.length = (c - n) * 1 := by simp at hcur; omega
     clear htake hR
     have htl : (xs.take (i * 1)).length = i * 1 := by rw [List.length_take]; omega
     have hdl : (xs.drop (i * 1)).length = (n - i) * 1 := by rw [List.length_drop]; omega
     have htl1 : (xs.take ((i + 1) * 1)).length = (i + 1) * 1 := by rw [List.length_take]; omega
     have hw1 : IntKind.i64.wrap ((i : Int) + 1) = (i : Int) + 1 := IntWalk.i64_in _ (by omega)
     have hb1 : (0 : Int) ≤ (i : Int) + 1 := by omega
     have hb2 : (i : Int) + 1 ≤ (n : Int) + 1 := by omega
     have hb3 : (i : Int) ≤ (n : Int) + 1 := by omega
     have htn : ((i : Int) + 1).toNat = i + 1 := by omega
     have hGi : ¬ c = i + 1 := by omega
     have hci : ¬ c = i := by omega
     go_enter Tryz.func64, Tryz.ntmps64
     go_upto_region 15 with (simp only [hov])
     obtain ⟨V, hV⟩ : ∃ V, (xs.drop (i * 1)).take 1 = V := ⟨_, rfl⟩
     have hVl : V.length = 1 := by rw [← hV, List.length_take, hdl]; omega
     have e1 : xs.take ((i + 1) * 1) = xs.take (i * 1) ++ V := by rw [← hV, show (i + 1) * 1 = i * 1 + 1 by omega, List.take_add]
     have e2 : (xs.drop ((i + 1) * 1) ++ R).drop ((n - i) * 1) = R.drop 1 := by
       have h3 : (xs.drop ((i + 1) * 1)).length = (n - i - 1) * 1 := by rw [List.length_drop]; omega
       rw [List.drop_append, List.drop_of_length_le (by omega), h3, List.nil_append]
       congr 1
       omega
     have hcur2 : (xs ++ R).toArray = (xs.take ((i + 1) * 1) ++ (xs.drop ((i + 1) * 1) ++ R)).toArray := by rw [← List.append_assoc, List.take_append_drop]
     have hg' := hg
     rw [hcur2] at hg'
     have hcp1 : ∀ (o1 o2 l1 l2 : Nat) (ty : TypeId), o1 = (i + 1) * 1 → o2 = i * 1 → l1 = n - i → l2 = n + 1 - i → (Builtin.copy_ #[27, 27] ty #[.slice (some ⟨g, o1, none⟩) l1 (c - (i + 1)), .slice (some ⟨g, o2, none⟩) l2 (c - i)]).run Tryz.prog w.drew = .ok (goInt (n - i : Nat)) (w.drew.setRow g (xs.take (i * 1) ++ (V ++ xs.drop (i * 1) ++ R.drop 1)).toArray) := fun o1 o2 l1 l2 ty h1 h2 h3 h4 => by
       subst h1 h2 h3 h4
       have h := run_copy_rowK (P := Tryz.prog) w.drew 27 27 ty 30 1 (n - i) g ((i + 1) * 1) (n - i) (c - (i + 1)) ⟨g, i * 1, none⟩ (n + 1 - i) (c - i) _ 30 (xs.drop (i * 1)) Tryz.underlying27 hsz (show Blk w.drew g _ from hg') (by simp only [Nat.min_def]; split <;> omega) hdl
         (fun j v hj => by
           rw [addr_add]
           rw [List.getElem?_drop] at hj
           exact Blk.val (show Blk w.drew g _ from hg) _ _ (by
             have h8 := (List.getElem?_eq_some_iff.1 hj).1
             have h9 : (xs ++ R)[i * 1 + j]? = some v := by rw [List.getElem?_append_left h8]; exact hj
             simpa using h9)) (by simp; omega) (fun u hu => hx1 u (List.mem_of_mem_drop hu))
       rw [h, splice_at htl1.symm, hdl, e2, e1]
       simp
     go_region_law (refine step_copy_run rfl _ _ 27 27 rfl _ _ (by simp [Act.eval, Act.put]) (by simp [Act.eval, Act.put]) (hcp1 _ _ _ _ _ (by simp) (by simp) (by omega) (by omega)) ?_)
     go_upto_region 16 with (fail)
     have hcN := Chg.setRow (w := w.drew) (g := g) (cs := (xs.take (i * 1) ++ (V ++ xs.drop (i * 1) ++ R.drop 1)).toArray)
     have hbN : Blk (w.drew.setRow g (xs.take (i * 1) ++ (V ++ xs.drop (i * 1) ++ R.drop 1)).toArray) g (.cells (xs.take (i * 1) ++ (V ++ xs.drop (i * 1) ++ R.drop 1)).toArray 30) := Blk.setRow (show Blk w.drew g _ from hg)
     refine wp_name (fun W1 => Chg g w W1 ∧ Blk W1 g (.cells (xs.take (i * 1) ++ (V ++ xs.drop (i * 1) ++ R.drop 1)).toArray 30)) (by
       have h : Chg g w (w.drew.setRow g (xs.take (i * 1) ++ (V ++ xs.drop (i * 1) ++ R.drop 1)).toArray) := ⟨hcN.os, hcN.tape, hcN.output, hcN.size, hcN.block⟩
       first | exact ⟨h, hbN⟩ | simpa using And.intro h hbN) ?_
     clear hcN hbN hcp1
     rintro W1 ⟨hcW, hNW⟩
     have hvW := hcW.blk hb hvb
     have hcp2 : ∀ (o l : Nat) (ty : TypeId), o = i * 1 → l = n + 1 - i → (Builtin.copy_ #[27, 27] ty #[.slice (some ⟨g, o, none⟩) l (c - i), .slice (some ⟨vb, 0, none⟩) 1 1]).run Tryz.prog W1 = .ok (goInt 1) (W1.setRow g (xs.take (i * 1) ++ ys ++ (xs.drop (i * 1) ++ R.drop 1)).toArray) := fun o l ty h1 h2 => by
       subst h1 h2
       have h := run_copy_rowK (P := Tryz.prog) W1 27 27 ty 30 1 1 g (i * 1) (n + 1 - i) (c - i) ⟨vb, 0, none⟩ 1 1 _ 30 ys Tryz.underlying27 hsz hNW (by simp only [Nat.min_def]; split <;> omega) (by omega)
         (fun j v hj => by rw [addr_add, Nat.zero_add]; exact Blk.val hvW _ _ (by simpa using hj)) (by simp; omega) hy1
       rw [h, splice_at htl.symm, hyl, List.append_assoc V, List.drop_append, List.drop_of_length_le (by omega), hVl]
       simp
     go_wp2_with (at_builtin; refine wpList_copy_run (by rfl) _ _ 27 27 rfl _ _ rfl rfl (hcp2 _ _ _ (by simp) (by omega)) ?_)
     go_ret
     have hcN := Chg.setRow (w := W1) (g := g) (cs := (xs.take (i * 1) ++ ys ++ (xs.drop (i * 1) ++ R.drop 1)).toArray)
     have hbN : Blk (W1.setRow g (xs.take (i * 1) ++ ys ++ (xs.drop (i * 1) ++ R.drop 1)).toArray) g (.cells (xs.take (i * 1) ++ ys ++ (xs.drop (i * 1) ++ R.drop 1)).toArray 30) := Blk.setRow hNW
     have hlr : (xs.take (i * 1) ++ ys ++ xs.drop (i * 1)).length = (n + 1) * 1 := by rw [List.length_append, List.length_append, htl, hyl, hdl]; omega
     have hgr := grown_chg (hcW.trans hcN)
     refine ⟨_, rfl, ?_, by first | exact hgr | simpa [Value.ownBlock] using hgr⟩
     have hown9 : (W1.setRow g (xs.take (i * 1) ++ ys ++ (xs.drop (i * 1) ++ R.drop 1)).toArray).ownsRow base 30 1 (.slice (some ⟨g, 0, none⟩) (n + 1) c) (n + 1) (xs.take (i * 1) ++ ys ++ xs.drop (i * 1)) :=
       ⟨hlr, .inr ⟨g, c, _, rfl, hg0, hbN, by omega, hc, by simp only [List.size_toArray]; rw [← List.append_assoc, List.length_append, hlr, List.length_drop, hRl]; omega, by rw [← List.append_assoc]; exact List.take_left' hlr⟩⟩
     first | exact hown9 | simpa using hown9
set_option maxRecDepth 100000 in
set_option maxHeartbeats 2000000 in
theorem InsertE_any (q : Option Addr) (c n i : Nat) (xs ys : List Value) (vb base : Nat) (w : World) (hown : w.ownsRow base 63 2 (.slice q n c) n xs) (hb : Blk w vb (.cells ys.toArray 63)) (hyl : ys.length = 2) (hy1 : ∀ u ∈ ys, u.oneCell' = true) (hx1 : ∀ u ∈ xs, u.oneCell' = true) (hi : i ≤ n) (hn : n ≤ 1000000) (hne : (Value.slice q n c).ownBlock ≠ some vb) (hbase : base ≤ w.heap.size) :
   Calls Tryz.prog 117 #[.slice q n c, .int .i64 i, .slice (some ⟨vb, 0, none⟩) 1 1] w fun e w' => ∃ v', e = .returned v' ∧ w'.ownsRow base 63 2 v' (n + 1) (xs.take (i * 2) ++ ys ++ xs.drop (i * 2)) ∧ w.grownBy w' (Value.slice q n c).ownBlock := by
 have hxl := hown.1
 by_cases hin : i = n
 · subst hin
   have e1 : xs.take (i * 2) = xs := List.take_of_length_le (by omega)
   have e2 : xs.drop (i * 2) = [] := List.drop_eq_nil_of_le (by omega)
   rw [e1, e2, List.append_nil]
   have Hown := Lib.hid hown
   have Hb := Lib.hid (blk_cells hb)
   clear e1 e2 hb
   by_cases hci : c = i
   · subst hci
     go_enter Tryz.func117, Tryz.ntmps117
     go_wp2_with (at_builtin; go_must (refine wpList_appk (by rfl) (.tmp 23) (.tmp 24) 24 63 rfl base (.agg #[.string ByteArray.empty, .int .i64 0]) 2 24 Tryz.underlying24 infoEntA rfl (by decide) (.slice q c c) c xs rfl Hown.out (some ⟨vb, 0, none⟩) 1 1 ys rfl rfl (by omega) Hb.out hy1 (by omega) (by decide) hbase ?_; intro v8 w8 hout8 hgr8))
     go_ret
     exact ⟨_, rfl, hout8, hgr8⟩
   · go_enter Tryz.func117, Tryz.ntmps117
     go_wp2_with (at_builtin; go_must (refine wpList_appk (by rfl) (.tmp 23) (.tmp 24) 24 63 rfl base (.agg #[.string ByteArray.empty, .int .i64 0]) 2 24 Tryz.underlying24 infoEntA rfl (by decide) (.slice q i c) i xs rfl Hown.out (some ⟨vb, 0, none⟩) 1 1 ys rfl rfl (by omega) Hb.out hy1 (by omega) (by decide) hbase ?_; intro v8 w8 hout8 hgr8))
     go_ret
     exact ⟨_, rfl, hout8, hgr8⟩
 · have hlt : i < n := by omega
   obtain ⟨g, cur, rfl, hg0, hg, hnc, hc, hcur, htake⟩ := own_parts hown (by omega)
   have hgl := Blk.lt hg
   have hvl := Blk.lt hb
   have hinI : ((i : Int) == (n : Int)) = false := by simp; omega
   have hc63 : c ≤ 9223372036854775807 := hc
   by_cases hroom : c < n + 1
   · have hrI : decide ((c : Int) < (n : Int) + 1) = true := decide_eq_true (by omega)
     go_enter Tryz.func117, Tryz.ntmps117
     obtain ⟨i0, hi0, hz0, hzs, hzb⟩ := info_parts infoEntA
     have hik : i + (n + 1 - i) = n + 1 := by omega
     have hold : (Builtin.firstCells i0.size i (.slice (some ⟨g, 0, none⟩) i c)).run Tryz.prog w.drew = .ok (xs.take (i * 2)).toArray w.drew := by
       rw [hzs]
       refine run_firstCells_some w.drew 2 i ⟨g, 0, none⟩ i c (xs.take (i * 2)) (by rw [List.length_take]; omega) (fun j v hj => ?_)
       rw [addr_add, Nat.zero_add]
       rw [List.getElem?_take] at hj
       split at hj
       · rename_i hji
         rw [← htake, List.getElem?_take, if_pos (by omega)] at hj
         exact Blk.val (show Blk w.drew g _ from hg) _ _ (by simpa using hj)
       · cases hj
     obtain ⟨G, hG⟩ : ∃ G, G = grownCap w (n + 1) c 63 := ⟨_, rfl⟩
     have hGn : n + 1 ≤ G := by rw [hG]; exact grownCap_ge w _ _ _
     have hG63 : G ≤ maxLen := by rw [hG]; exact grownCap_le_maxLen w (n + 1) c _ (by unfold maxLen; omega)
     obtain ⟨zs, hzl, hrz⟩ : ∃ zs : List Value, zs.length = (G - i) * 2 ∧ ∀ ty, (Builtin.append_ #[24, 3] ty #[.slice (some ⟨g, 0, none⟩) i c, .int .i64 ((n : Int) + 1 - (i : Int))]).run Tryz.prog w =
         .ok (.slice (some ⟨w.heap.size, 0, none⟩) (n + 1) G) (w.drew.alloc (.cells (xs.take (i * 2) ++ zs).toArray 63)) := by
       refine ⟨(Builtin.zeroCells ((.agg #[.string ByteArray.empty, .int .i64 0] : Value)).cells (n + 1 - i) ++ Builtin.zeroCells ((.agg #[.string ByteArray.empty, .int .i64 0] : Value)).cells (G - (n + 1))).toList, ?_, fun ty => ?_⟩
       · simp [Builtin.zeroCells, Value.cells]; omega
       · have h := Lib.run_append_grow_zeros w 24 3 ty 63 i0 _ .i64 .i64 Tryz.underlying24 Tryz.underlying3 hi0 hz0 (some ⟨g, 0, none⟩) i c (xs.take (i * 2)) hold (n + 1 - i) (by omega) (by omega) (by omega) (by omega) (by rw [hzb]; omega) (by rw [hzb, hik]; exact growslice_fits hroom (by omega))
         rw [hik, ← hG] at h
         have hkk : (n : Int) + 1 - (i : Int) = ((n + 1 - i : Nat) : Int) := by omega
         rw [hkk, h]
         congr 3
         apply Array.ext'
         simp
     have hsz : (Tryz.prog.info? 63).map (·.size) = some 2 := by rw [hi0]; simp [hzs]
     clear hold hik hi0 hz0 hzs hzb hG
     go_upto_region 10 with (at_builtin; refine Lib.wpList_append_run _ rfl _ _ _ _ rfl _ _ rfl rfl _ _ (hrz _) ?_)
     have hN0 := Blk.new w (.cells (xs.take (i * 2) ++ zs).toArray 63)
     refine wp_name (fun W => Ext w W ∧ Blk W w.heap.size (.cells (xs.take (i * 2) ++ zs).toArray 63)) ⟨(Ext.alloc _ _).trans (Ext.drew _), by first | exact hN0 | (show Blk (w.alloc _) _ _; simpa using hN0)⟩ ?_
     clear hN0 hrz
     rintro W ⟨heW, hNW⟩
     generalize hNN : w.heap.size = N at *
     have htl : (xs.take (i * 2)).length = i * 2 := by rw [List.length_take]; omega
     have hcpA : ∀ (off : Nat) (ty : TypeId), off = i * 2 → (Builtin.copy_ #[24, 24] ty #[.slice (some ⟨N, off, none⟩) (n + 1 - i) (G - i), .slice (some ⟨vb, 0, none⟩) 1 1]).run Tryz.prog W = .ok (goInt 1) (W.setRow N (xs.take (i * 2) ++ ys ++ zs.drop 2).toArray) := fun off ty ho => by
       subst ho
       have h := run_copy_rowK (P := Tryz.prog) W 24 24 ty 63 2 1 N (i * 2) (n + 1 - i) (G - i) ⟨vb, 0, none⟩ 1 1 _ 63 ys Tryz.underlying24 hsz hNW (by simp only [Nat.min_def]; split <;> omega) (by omega)
         (fun j v hj => by rw [addr_add, Nat.zero_add]; exact Blk.val (heW.blk _ _ hb) _ _ (by simpa using hj)) (by simp; omega) hy1
       rw [h, splice_at htl.symm, hyl]
       rfl
     go_upto_region 11 with (at_builtin; refine wpList_copy_run (by rfl) _ _ 24 24 rfl _ _ rfl rfl (hcpA _ _ (by simp)) ?_)
     have hcN := Chg.setRow (w := W) (g := N) (cs := (xs.take (i * 2) ++ ys ++ zs.drop 2).toArray)
     have hbN : Blk (W.setRow N (xs.take (i * 2) ++ ys ++ zs.drop 2).toArray) N (.cells (xs.take (i * 2) ++ ys ++ zs.drop 2).toArray 63) := Blk.setRow hNW
     refine wp_name (fun W1 => Ext w W1 ∧ Blk W1 N (.cells (xs.take (i * 2) ++ ys ++ zs.drop 2).toArray 63)) (by
       have h := hcN.ext heW (by omega)
       first | exact ⟨h, hbN⟩ | simpa using And.intro h hbN) ?_
     clear hcN hbN hcpA hNW heW
     rintro W1 ⟨heW, hNW⟩
     have hdl : (xs.drop (i * 2)).length = (n - i) * 2 := by rw [List.length_drop]; omega
     have hgW := heW.blk _ _ hg
     have hcpB : ∀ (o1 o2 l1 : Nat) (ty : TypeId), o1 = (i + 1) * 2 → o2 = i * 2 → l1 = n - i → (Builtin.copy_ #[24, 24] ty #[.slice (some ⟨N, o1, none⟩) l1 (G - (i + 1)), .slice (some ⟨g, o2, none⟩) (n - i) (c - i)]).run Tryz.prog W1.drew = .ok (goInt (n - i : Nat)) (W1.drew.setRow N (xs.take (i * 2) ++ ys ++ xs.drop (i * 2) ++ zs.drop ((n - i) * 2 + 2)).toArray) := fun o1 o2 l1 ty h1 h2 h3 => by
       subst h1 h2 h3
       have h := run_copy_rowK (P := Tryz.prog) W1.drew 24 24 ty 63 2 (n - i) N ((i + 1) * 2) (n - i) (G - (i + 1)) ⟨g, i * 2, none⟩ (n - i) (c - i) _ 63 (xs.drop (i * 2)) Tryz.underlying24 hsz (show Blk W1.drew N _ from hNW) (by simp only [Nat.min_def]; split <;> omega) hdl
         (fun j v hj => by
           rw [addr_add]
           rw [List.getElem?_drop, ← htake, List.getElem?_take] at hj
           split at hj
           · exact Blk.val (show Blk W1.drew g _ from hgW) _ _ (by simpa using hj)
           · cases hj) (by simp; omega) (fun u hu => hx1 u (List.mem_of_mem_drop hu))
       have e1 : (xs.take (i * 2) ++ ys).length = (i + 1) * 2 := by rw [List.length_append, htl, hyl]; omega
       rw [h, splice_at e1.symm, hdl, List.drop_drop, show 2 + (n - i) * 2 = (n - i) * 2 + 2 by omega]
     have hw1 : IntKind.i64.wrap ((i : Int) + 1) = (i : Int) + 1 := IntWalk.i64_in _ (by omega)
     have hb1 : (0 : Int) ≤ (i : Int) + 1 := by omega
     have hb2 : (i : Int) + 1 ≤ (n : Int) + 1 := by omega
     have htn : ((i : Int) + 1).toNat = i + 1 := by omega
     have hGi : ¬ G = i + 1 := by omega
     have hci : ¬ c = i := by omega
     go_region_law (refine step_copy_run rfl _ _ 24 24 rfl _ _ (by simp [Act.eval, Act.put]) (by simp [Act.eval, Act.put]) (hcpB _ _ _ _ (by simp) (by simp) (by omega)) ?_)
     go_wp2
     go_ret
     have hcN := Chg.setRow (w := W1.drew) (g := N) (cs := (xs.take (i * 2) ++ ys ++ xs.drop (i * 2) ++ zs.drop ((n - i) * 2 + 2)).toArray)
     have hbN : Blk (W1.drew.setRow N (xs.take (i * 2) ++ ys ++ xs.drop (i * 2) ++ zs.drop ((n - i) * 2 + 2)).toArray) N (.cells (xs.take (i * 2) ++ ys ++ xs.drop (i * 2) ++ zs.drop ((n - i) * 2 + 2)).toArray 63) := Blk.setRow (show Blk W1.drew N _ from hNW)
     have hE := hcN.ext (heW.trans (Ext.drew W1)) (by omega)
     have hlr : (xs.take (i * 2) ++ ys ++ xs.drop (i * 2)).length = (n + 1) * 2 := by rw [List.length_append, List.length_append, htl, hyl, hdl]; omega
     refine ⟨_, rfl, ?_, grown_ext (by first | exact hE | simpa using hE)⟩
     have hown9 : (W1.drew.setRow N (xs.take (i * 2) ++ ys ++ xs.drop (i * 2) ++ zs.drop ((n - i) * 2 + 2)).toArray).ownsRow base 63 2 (.slice (some ⟨N, 0, none⟩) (n + 1) G) (n + 1) (xs.take (i * 2) ++ ys ++ xs.drop (i * 2)) :=
       ⟨hlr, .inr ⟨N, G, _, rfl, by omega, hbN, hGn, hG63, by simp only [List.size_toArray]; rw [List.length_append, hlr, List.length_drop, hzl]; omega, List.take_left' hlr⟩⟩
     first | exact hown9 | simpa using hown9
   · have hrI : decide ((c : Int) < (n : Int) + 1) = false := decide_eq_false (by omega)
     have hvb : vb ≠ g := fun e => hne (by rw [e]; rfl)
     obtain ⟨i0, hi0, hz0, hzs, hzb⟩ := info_parts infoEntA
     have hsz : (Tryz.prog.info? 63).map (·.size) = some 2 := by rw [hi0]; simp [hzs]
     clear hi0 hz0 hzs hzb
     have hov : ∀ o lb cb, (callFunc 152 #[.slice (some ⟨vb, 0, none⟩) 1 1, .slice (some ⟨g, o, none⟩) lb cb]).run Tryz.prog w = .ok (.value (.bool false)) w := fun o lb cb => by
       have hsa : w.shape? vb = some (63, ys.length) := by
         have h : w.heap[vb]? = some (.cells ys.toArray 63) := hb
         simp [World.shape?, h]
       have hsb : w.shape? g = some (63, cur.size) := by
         have h : w.heap[g]? = some (.cells cur 63) := hg
         simp [World.shape?, h]
       rw [run_callFunc_extern Tryz.func152 (by kernel_rfl) (by kernel_rfl) (by kernel_rfl) (e := Extern.SlicesOverlaps.overlaps #[24, 24] #[4]) (by kernel_rfl),
         Lib.run_overlaps_apart w 24 4 63 Tryz.underlying24 2 (fun W => by kernel_rfl) ⟨vb, 0, none⟩ ⟨g, o, none⟩ 1 1 lb cb hvb _ _ _ _ hsa hsb (by omega) (Blk.free hb 0) (Blk.free hb _)]
       rfl
     obtain ⟨R, hR⟩ : ∃ R, cur.toList = xs ++ R := ⟨cur.toList.drop (n * 2), by rw [← htake, List.take_append_drop]⟩
     obtain rfl : cur = (xs ++ R).toArray := by apply Array.ext'; simpa using hR
     have hRl : R.length = (c - n) * 2 := by simp at hcur; omega
     clear htake hR
     have htl : (xs.take (i * 2)).length = i * 2 := by rw [List.length_take]; omega
     have hdl : (xs.drop (i * 2)).length = (n - i) * 2 := by rw [List.length_drop]; omega
     have htl1 : (xs.take ((i + 1) * 2)).length = (i + 1) * 2 := by rw [List.length_take]; omega
     have hw1 : IntKind.i64.wrap ((i : Int) + 1) = (i : Int) + 1 := IntWalk.i64_in _ (by omega)
     have hb1 : (0 : Int) ≤ (i : Int) + 1 := by omega
     have hb2 : (i : Int) + 1 ≤ (n : Int) + 1 := by omega
     have hb3 : (i : Int) ≤ (n : Int) + 1 := by omega
     have htn : ((i : Int) + 1).toNat = i + 1 := by omega
     have hGi : ¬ c = i + 1 := by omega
     have hci : ¬ c = i := by omega
     go_enter Tryz.func117, Tryz.ntmps117
     go_upto_region 15 with (simp only [hov])
     obtain ⟨V, hV⟩ : ∃ V, (xs.drop (i * 2)).take 2 = V := ⟨_, rfl⟩
     have hVl : V.length = 2 := by rw [← hV, List.length_take, hdl]; omega
     have e1 : xs.take ((i + 1) * 2) = xs.take (i * 2) ++ V := by rw [← hV, show (i + 1) * 2 = i * 2 + 2 by omega, List.take_add]
     have e2 : (xs.drop ((i + 1) * 2) ++ R).drop ((n - i) * 2) = R.drop 2 := by
       have h3 : (xs.drop ((i + 1) * 2)).length = (n - i - 1) * 2 := by rw [List.length_drop]; omega
       rw [List.drop_append, List.drop_of_length_le (by omega), h3, List.nil_append]
       congr 1
       omega
     have hcur2 : (xs ++ R).toArray = (xs.take ((i + 1) * 2) ++ (xs.drop ((i + 1) * 2) ++ R)).toArray := by rw [← List.append_assoc, List.take_append_drop]
     have hg' := hg
     rw [hcur2] at hg'
     have hcp1 : ∀ (o1 o2 l1 l2 : Nat) (ty : TypeId), o1 = (i + 1) * 2 → o2 = i * 2 → l1 = n - i → l2 = n + 1 - i → (Builtin.copy_ #[24, 24] ty #[.slice (some ⟨g, o1, none⟩) l1 (c - (i + 1)), .slice (some ⟨g, o2, none⟩) l2 (c - i)]).run Tryz.prog w.drew = .ok (goInt (n - i : Nat)) (w.drew.setRow g (xs.take (i * 2) ++ (V ++ xs.drop (i * 2) ++ R.drop 2)).toArray) := fun o1 o2 l1 l2 ty h1 h2 h3 h4 => by
       subst h1 h2 h3 h4
       have h := run_copy_rowK (P := Tryz.prog) w.drew 24 24 ty 63 2 (n - i) g ((i + 1) * 2) (n - i) (c - (i + 1)) ⟨g, i * 2, none⟩ (n + 1 - i) (c - i) _ 63 (xs.drop (i * 2)) Tryz.underlying24 hsz (show Blk w.drew g _ from hg') (by simp only [Nat.min_def]; split <;> omega) hdl
         (fun j v hj => by
           rw [addr_add]
           rw [List.getElem?_drop] at hj
           exact Blk.val (show Blk w.drew g _ from hg) _ _ (by
             have h8 := (List.getElem?_eq_some_iff.1 hj).1
             have h9 : (xs ++ R)[i * 2 + j]? = some v := by rw [List.getElem?_append_left h8]; exact hj
             simpa using h9)) (by simp; omega) (fun u hu => hx1 u (List.mem_of_mem_drop hu))
       rw [h, splice_at htl1.symm, hdl, e2, e1]
       simp
     go_region_law (refine step_copy_run rfl _ _ 24 24 rfl _ _ (by simp [Act.eval, Act.put]) (by simp [Act.eval, Act.put]) (hcp1 _ _ _ _ _ (by simp) (by simp) (by omega) (by omega)) ?_)
     go_upto_region 16 with (fail)
     have hcN := Chg.setRow (w := w.drew) (g := g) (cs := (xs.take (i * 2) ++ (V ++ xs.drop (i * 2) ++ R.drop 2)).toArray)
     have hbN : Blk (w.drew.setRow g (xs.take (i * 2) ++ (V ++ xs.drop (i * 2) ++ R.drop 2)).toArray) g (.cells (xs.take (i * 2) ++ (V ++ xs.drop (i * 2) ++ R.drop 2)).toArray 63) := Blk.setRow (show Blk w.drew g _ from hg)
     refine wp_name (fun W1 => Chg g w W1 ∧ Blk W1 g (.cells (xs.take (i * 2) ++ (V ++ xs.drop (i * 2) ++ R.drop 2)).toArray 63)) (by
       have h : Chg g w (w.drew.setRow g (xs.take (i * 2) ++ (V ++ xs.drop (i * 2) ++ R.drop 2)).toArray) := ⟨hcN.os, hcN.tape, hcN.output, hcN.size, hcN.block⟩
       first | exact ⟨h, hbN⟩ | simpa using And.intro h hbN) ?_
     clear hcN hbN hcp1
     rintro W1 ⟨hcW, hNW⟩
     have hvW := hcW.blk hb hvb
     have hcp2 : ∀ (o l : Nat) (ty : TypeId), o = i * 2 → l = n + 1 - i → (Builtin.copy_ #[24, 24] ty #[.slice (some ⟨g, o, none⟩) l (c - i), .slice (some ⟨vb, 0, none⟩) 1 1]).run Tryz.prog W1 = .ok (goInt 1) (W1.setRow g (xs.take (i * 2) ++ ys ++ (xs.drop (i * 2) ++ R.drop 2)).toArray) := fun o l ty h1 h2 => by
       subst h1 h2
       have h := run_copy_rowK (P := Tryz.prog) W1 24 24 ty 63 2 1 g (i * 2) (n + 1 - i) (c - i) ⟨vb, 0, none⟩ 1 1 _ 63 ys Tryz.underlying24 hsz hNW (by simp only [Nat.min_def]; split <;> omega) (by omega)
         (fun j v hj => by rw [addr_add, Nat.zero_add]; exact Blk.val hvW _ _ (by simpa using hj)) (by simp; omega) hy1
       rw [h, splice_at htl.symm, hyl, List.append_assoc V, List.drop_append, List.drop_of_length_le (by omega), hVl]
       simp
     go_wp2_with (at_builtin; refine wpList_copy_run (by rfl) _ _ 24 24 rfl _ _ rfl rfl (hcp2 _ _ _ (by simp) (by omega)) ?_)
     go_ret
     have hcN := Chg.setRow (w := W1) (g := g) (cs := (xs.take (i * 2) ++ ys ++ (xs.drop (i * 2) ++ R.drop 2)).toArray)
     have hbN : Blk (W1.setRow g (xs.take (i * 2) ++ ys ++ (xs.drop (i * 2) ++ R.drop 2)).toArray) g (.cells (xs.take (i * 2) ++ ys ++ (xs.drop (i * 2) ++ R.drop 2)).toArray 63) := Blk.setRow hNW
     have hlr : (xs.take (i * 2) ++ ys ++ xs.drop (i * 2)).length = (n + 1) * 2 := by rw [List.length_append, List.length_append, htl, hyl, hdl]; omega
     have hgr := grown_chg (hcW.trans hcN)
     refine ⟨_, rfl, ?_, by first | exact hgr | simpa [Value.ownBlock] using hgr⟩
     have hown9 : (W1.setRow g (xs.take (i * 2) ++ ys ++ (xs.drop (i * 2) ++ R.drop 2)).toArray).ownsRow base 63 2 (.slice (some ⟨g, 0, none⟩) (n + 1) c) (n + 1) (xs.take (i * 2) ++ ys ++ xs.drop (i * 2)) :=
       ⟨hlr, .inr ⟨g, c, _, rfl, hg0, hbN, by omega, hc, by simp only [List.size_toArray]; rw [← List.append_assoc, List.length_append, hlr, List.length_drop, hRl]; omega, by rw [← List.append_assoc]; exact List.take_left' hlr⟩⟩
     first | exact hown9 | simpa using hown9
end Go.Proofs.YtifmbcjbccedfaaGreatDoor
namespace Go.Proofs.YtifmbcjbccedfaaGreatDoor
open Go.RowKit Dsd
theorem own_del {w : World} {base g k m c : Nat} {e : TypeId} {A Z : List Value} {v : Value} (hg0 : base ≤ g) (hb : Blk w g (.cells (A ++ Z).toArray e)) (hv : v = .slice (some ⟨g, 0, none⟩) m c) (hl : A.length = m * k) (hmc : m ≤ c) (hc : c ≤ maxLen) (hs : (A ++ Z).toArray.size = c * k) : w.ownsRow base e k v m A := by
 subst hv
 exact ⟨hl, .inr ⟨g, c, _, rfl, hg0, hb, hmc, hc, hs, List.take_left' hl⟩⟩
set_option maxRecDepth 100000 in
set_option maxHeartbeats 2000000 in
theorem DeleteS_any (q : Option Addr) (c n i : Nat) (xs : List Value) (base : Nat) (w : World) (hown : w.ownsRow base 9 1 (.slice q n c) n xs) (hx1 : ∀ u ∈ xs, u.oneCell' = true) (hi : i < n) (hn : n ≤ 1000000) :
   Calls Tryz.prog 87 #[.slice q n c, .int .i64 i, .int .i64 ((i : Int) + 1)] w fun e w' => ∃ v', e = .returned v' ∧ w'.ownsRow base 9 1 v' (n - 1) (xs.take (i * 1) ++ xs.drop ((i + 1) * 1)) ∧ w.grownBy w' (Value.slice q n c).ownBlock := by
 have hxl := hown.1
 obtain ⟨g, cur, rfl, hg0, hg, hnc, hc, hcur, htake⟩ := own_parts hown (by omega)
 have hc63 : c ≤ 9223372036854775807 := hc
 obtain ⟨R, hR⟩ : ∃ R, cur.toList = xs ++ R := ⟨cur.toList.drop (n * 1), by rw [← htake, List.take_append_drop]⟩
 obtain rfl : cur = (xs ++ R).toArray := by apply Array.ext'; simpa using hR
 have hRl : R.length = (c - n) * 1 := by simp at hcur; omega
 clear htake hR
 obtain ⟨i0, hi0, hz0, hzs, hzb⟩ := info_parts infoStrA
 have htl : (xs.take (i * 1)).length = i * 1 := by rw [List.length_take]; omega
 have hdl : (xs.drop ((i + 1) * 1)).length = (n - 1 - i) * 1 := by rw [List.length_drop]; omega
 have hii : ((i : Int) == (i : Int) + 1) = false := by simp; omega
 have hw1 : IntKind.i64.wrap ((i : Int) + 1) = (i : Int) + 1 := IntWalk.i64_in _ (by omega)
 have hb1 : (0 : Int) ≤ (i : Int) + 1 := by omega
 have hb2 : (i : Int) + 1 ≤ (n : Int) := by omega
 have hb3 : (i : Int) ≤ (i : Int) + 1 := by omega
 have htn : ((i : Int) + 1).toNat = i + 1 := by omega
 have hcn : (n : Int) ≤ c := by omega
 have hin : (i : Int) ≤ n := by omega
 have hic : (i : Int) ≤ c := by omega
 have hci : ¬ c = i := by omega
 obtain ⟨Y, hY⟩ : ∃ Y, (xs.drop (i * 1) ++ R).drop ((n - 1 - i) * 1) = Y := ⟨_, rfl⟩
 have hYl : Y.length = (c - (n - 1)) * 1 := by rw [← hY, List.length_drop, List.length_append, List.length_drop, hRl]; omega
 have hcur2 : (xs ++ R).toArray = (xs.take (i * 1) ++ (xs.drop (i * 1) ++ R)).toArray := by rw [← List.append_assoc, List.take_append_drop]
 have hg' := hg
 rw [hcur2] at hg'
 have hap : ∀ (o2 l2 c2 : Nat) (ty : TypeId), l2 = n - (i + 1) → (o2 = (i + 1) * 1 ∨ n = i + 1) → (Builtin.append_ #[30, 30] ty #[.slice (some ⟨g, 0, none⟩) i c, .slice (some ⟨g, o2, none⟩) l2 c2]).run Tryz.prog w.drew = .ok (.slice (some ⟨g, 0, none⟩) (n - 1) c) (w.drew.setRow g (xs.take (i * 1) ++ xs.drop ((i + 1) * 1) ++ Y).toArray) := fun o2 l2 c2 ty h1 h2 => by
   subst h1
   have hsrc : Src Tryz.prog i0.size 30 (.slice (some ⟨g, o2, none⟩) (n - (i + 1)) c2) (n - (i + 1)) (xs.drop ((i + 1) * 1)) w.drew := by
     rw [hzs]
     refine Src.ofSlice w.drew Tryz.underlying30 ⟨g, o2, none⟩ (n - (i + 1)) c2 (xs.drop ((i + 1) * 1)) (by rw [hdl]; omega) (fun j u hj => ?_) (fun u hu => hx1 u (List.mem_of_mem_drop hu))
     rcases h2 with rfl | h2
     · rw [addr_add]
       rw [List.getElem?_drop] at hj
       exact Blk.val (show Blk w.drew g _ from hg) _ _ (by
         have h8 := (List.getElem?_eq_some_iff.1 hj).1
         have h9 : (xs ++ R)[(i + 1) * 1 + j]? = some u := by rw [List.getElem?_append_left h8]; exact hj
         simpa using h9)
     · rw [List.drop_eq_nil_of_le (by omega)] at hj; simp at hj
   have h := run_append_roomK w.drew 30 30 ty 9 i0 Tryz.underlying30 hi0 1 g i c hzs (.slice (some ⟨g, o2, none⟩) (n - (i + 1)) c2) (n - (i + 1)) (xs.drop ((i + 1) * 1)) _ 9 hsrc (by omega) (show Blk w.drew g _ from hg') (by simp; omega)
   rw [h, splice_at htl.symm, hdl, hY, show i + (n - (i + 1)) = n - 1 by omega]
 have hcl : ∀ (W : World) (o l c2 : Nat) (ty : TypeId), Blk W g (.cells (xs.take (i * 1) ++ xs.drop ((i + 1) * 1) ++ Y).toArray 9) → o = (n - 1) * 1 → l = 1 → (Builtin.clear_ #[30] ty #[.slice (some ⟨g, o, none⟩) l c2]).run Tryz.prog W = .ok (.tuple #[]) (W.setRow g (xs.take (i * 1) ++ xs.drop ((i + 1) * 1) ++ (.string ByteArray.empty : Value).cells.toList ++ Y.drop 1).toArray) := fun W o l c2 ty hb h1 h2 => by
   subst h1 h2
   have h := run_clear_one W 30 ty 9 (.string ByteArray.empty : Value) 1 g ((n - 1) * 1) c2 Tryz.underlying30 (fun W => by kernel_rfl) rfl (by decide) _ 9 hb (by simp; omega)
   have hl0 : ((.string ByteArray.empty : Value).cells.toList).length = 1 := rfl
   have hlA : (xs.take (i * 1) ++ xs.drop ((i + 1) * 1)).length = (n - 1) * 1 := by rw [List.length_append, htl, hdl]; omega
   have hsp := splice_at (A := xs.take (i * 1) ++ xs.drop ((i + 1) * 1)) (Z := Y) (cs := (.string ByteArray.empty : Value).cells.toList) (o := (n - 1) * 1) hlA.symm
   rw [hl0] at hsp
   rw [h, hsp]
 have hcn1 : (((n - 1 : Nat) : Int)) ≤ n := by omega
 have hcn2 : ¬ c = n - 1 := by omega
 have hsame : n = i + 1 → xs.take (i * 1) ++ xs.drop ((i + 1) * 1) ++ Y = xs ++ R := fun h => by
   subst h
   have e0 : xs.drop ((i + 1) * 1) = [] := List.drop_eq_nil_of_le (by omega)
   have e1 : (i + 1 - 1 - i) * 1 = 0 := by omega
   rw [← hY, e0, e1, List.drop_zero, List.append_nil, ← List.append_assoc, List.take_append_drop]
 clear hi0 hz0 hzs hzb hcur2 hg'
 obtain ⟨n9, hn9⟩ : ∃ n9, n9 = n := ⟨_, rfl⟩
 obtain ⟨c9, hc9⟩ : ∃ c9, c9 = c := ⟨_, rfl⟩
 have Hn9 := Lib.hid hn9
 have Hc9 := Lib.hid hc9
 clear hn9 hc9
 by_cases hci1 : c = i + 1
 all_goals
   try (subst hci1; obtain rfl : n = i + 1 := by omega)
   go_enter Tryz.func87, Tryz.ntmps87
   go_upto_region 5 with (fail)
   go_region_law (first
     | (refine step_append_run rfl _ _ 30 30 rfl _ _ (by simp [Act.eval, Act.put]) (by simp [Act.eval, Act.put]) (hap ((i + 1) * 1) (n - (i + 1)) (c - (i + 1)) _ rfl (.inl rfl)) ?_)
     | (refine step_append_run rfl _ _ 30 30 rfl _ _ (by simp [Act.eval, Act.put]) (by simp [Act.eval, Act.put]) (hap _ _ _ _ (by omega) (.inr (by omega))) ?_))
   go_upto_region 6 with (fail)
   have hcN := Chg.setRow (w := w.drew) (g := g) (cs := (xs.take (i * 1) ++ xs.drop ((i + 1) * 1) ++ Y).toArray)
   have hbN : Blk (w.drew.setRow g (xs.take (i * 1) ++ xs.drop ((i + 1) * 1) ++ Y).toArray) g (.cells (xs.take (i * 1) ++ xs.drop ((i + 1) * 1) ++ Y).toArray 9) := Blk.setRow (show Blk w.drew g _ from hg)
   have hchg : Chg g w (w.drew.setRow g (xs.take (i * 1) ++ xs.drop ((i + 1) * 1) ++ Y).toArray) := ⟨hcN.os, hcN.tape, hcN.output, hcN.size, hcN.block⟩
   refine wp_name (fun W1 => Chg g w W1 ∧ Blk W1 g (.cells (xs.take (i * 1) ++ xs.drop ((i + 1) * 1) ++ Y).toArray 9)) (by
     first
       | exact ⟨hchg, hbN⟩
       | simpa using And.intro hchg hbN
       | exact ⟨⟨rfl, rfl, rfl, rfl, fun _ _ => rfl⟩, by rw [hsame (by omega)]; exact hg⟩) ?_
   clear hcN hbN hchg hap
   rintro W1 ⟨hcW, hNW⟩
   go_wp2_with (first
     | (refine wpList_clear_run (o := ⟨none, _, _, _, _, _⟩) (by rfl) (.tmp 31) 30 rfl (.slice (some ⟨g, (n - 1) * 1, none⟩) (n - (n - 1)) (c - (n - 1))) (by first | rfl | simp [Act.eval, Act.put]) (hcl W1 ((n - 1) * 1) (n - (n - 1)) (c - (n - 1)) _ hNW rfl (by omega)) ?_)
     | (refine wpList_clear_run (o := ⟨none, _, _, _, _, _⟩) (by rfl) (.tmp 31) 30 rfl (.slice (some ⟨g, i * 1, none⟩) 1 1) (by first | rfl | simp [Act.eval, Act.put]) (hcl W1 (i * 1) 1 1 _ hNW (by omega) rfl) ?_))
   go_ret
   have hcN := Chg.setRow (w := W1) (g := g) (cs := (xs.take (i * 1) ++ xs.drop ((i + 1) * 1) ++ (.string ByteArray.empty : Value).cells.toList ++ Y.drop 1).toArray)
   have hbN : Blk (W1.setRow g (xs.take (i * 1) ++ xs.drop ((i + 1) * 1) ++ (.string ByteArray.empty : Value).cells.toList ++ Y.drop 1).toArray) g (.cells (xs.take (i * 1) ++ xs.drop ((i + 1) * 1) ++ (.string ByteArray.empty : Value).cells.toList ++ Y.drop 1).toArray 9) := Blk.setRow hNW
   have hgr := grown_chg (hcW.trans hcN)
   refine ⟨_, rfl, ?_, by first | exact hgr | simpa [Value.ownBlock, Value.cells] using hgr⟩
   have h9n := Hn9.out
   have h9c := Hc9.out
   have hlA : (xs.take (i * 1) ++ xs.drop ((i + 1) * 1)).length = (n9 - 1) * 1 := by rw [List.length_append, htl, hdl]; omega
   have hlz : (.string ByteArray.empty : Value).cells.toList.length = 1 := rfl
   rw [List.append_assoc (xs.take (i * 1) ++ xs.drop ((i + 1) * 1))] at hbN
   have hown9 := own_del (v := .slice (some ⟨g, 0, none⟩) (n9 - 1) c9) (m := n9 - 1) (k := 1) hg0 hbN rfl hlA (by omega) (by rw [h9c]; exact hc) (by simp only [List.size_toArray]; rw [List.length_append, hlA, List.length_append, hlz, List.length_drop, hYl]; omega)
   subst h9n h9c
   first | exact hown9 | simpa [Value.cells] using hown9
set_option maxRecDepth 100000 in
set_option maxHeartbeats 2000000 in
theorem DeleteR_any (q : Option Addr) (c n i : Nat) (xs : List Value) (base : Nat) (w : World) (hown : w.ownsRow base 30 1 (.slice q n c) n xs) (hx1 : ∀ u ∈ xs, u.oneCell' = true) (hi : i < n) (hn : n ≤ 1000000) :
   Calls Tryz.prog 88 #[.slice q n c, .int .i64 i, .int .i64 ((i : Int) + 1)] w fun e w' => ∃ v', e = .returned v' ∧ w'.ownsRow base 30 1 v' (n - 1) (xs.take (i * 1) ++ xs.drop ((i + 1) * 1)) ∧ w.grownBy w' (Value.slice q n c).ownBlock := by
 have hxl := hown.1
 obtain ⟨g, cur, rfl, hg0, hg, hnc, hc, hcur, htake⟩ := own_parts hown (by omega)
 have hc63 : c ≤ 9223372036854775807 := hc
 obtain ⟨R, hR⟩ : ∃ R, cur.toList = xs ++ R := ⟨cur.toList.drop (n * 1), by rw [← htake, List.take_append_drop]⟩
 obtain rfl : cur = (xs ++ R).toArray := by apply Array.ext'; simpa using hR
 have hRl : R.length = (c - n) * 1 := by simp at hcur; omega
 clear htake hR
 obtain ⟨i0, hi0, hz0, hzs, hzb⟩ := info_parts infoRowA
 have htl : (xs.take (i * 1)).length = i * 1 := by rw [List.length_take]; omega
 have hdl : (xs.drop ((i + 1) * 1)).length = (n - 1 - i) * 1 := by rw [List.length_drop]; omega
 have hii : ((i : Int) == (i : Int) + 1) = false := by simp; omega
 have hw1 : IntKind.i64.wrap ((i : Int) + 1) = (i : Int) + 1 := IntWalk.i64_in _ (by omega)
 have hb1 : (0 : Int) ≤ (i : Int) + 1 := by omega
 have hb2 : (i : Int) + 1 ≤ (n : Int) := by omega
 have hb3 : (i : Int) ≤ (i : Int) + 1 := by omega
 have htn : ((i : Int) + 1).toNat = i + 1 := by omega
 have hcn : (n : Int) ≤ c := by omega
 have hin : (i : Int) ≤ n := by omega
 have hic : (i : Int) ≤ c := by omega
 have hci : ¬ c = i := by omega
 obtain ⟨Y, hY⟩ : ∃ Y, (xs.drop (i * 1) ++ R).drop ((n - 1 - i) * 1) = Y := ⟨_, rfl⟩
 have hYl : Y.length = (c - (n - 1)) * 1 := by rw [← hY, List.length_drop, List.length_append, List.length_drop, hRl]; omega
 have hcur2 : (xs ++ R).toArray = (xs.take (i * 1) ++ (xs.drop (i * 1) ++ R)).toArray := by rw [← List.append_assoc, List.take_append_drop]
 have hg' := hg
 rw [hcur2] at hg'
 have hap : ∀ (o2 l2 c2 : Nat) (ty : TypeId), l2 = n - (i + 1) → (o2 = (i + 1) * 1 ∨ n = i + 1) → (Builtin.append_ #[27, 27] ty #[.slice (some ⟨g, 0, none⟩) i c, .slice (some ⟨g, o2, none⟩) l2 c2]).run Tryz.prog w.drew = .ok (.slice (some ⟨g, 0, none⟩) (n - 1) c) (w.drew.setRow g (xs.take (i * 1) ++ xs.drop ((i + 1) * 1) ++ Y).toArray) := fun o2 l2 c2 ty h1 h2 => by
   subst h1
   have hsrc : Src Tryz.prog i0.size 27 (.slice (some ⟨g, o2, none⟩) (n - (i + 1)) c2) (n - (i + 1)) (xs.drop ((i + 1) * 1)) w.drew := by
     rw [hzs]
     refine Src.ofSlice w.drew Tryz.underlying27 ⟨g, o2, none⟩ (n - (i + 1)) c2 (xs.drop ((i + 1) * 1)) (by rw [hdl]; omega) (fun j u hj => ?_) (fun u hu => hx1 u (List.mem_of_mem_drop hu))
     rcases h2 with rfl | h2
     · rw [addr_add]
       rw [List.getElem?_drop] at hj
       exact Blk.val (show Blk w.drew g _ from hg) _ _ (by
         have h8 := (List.getElem?_eq_some_iff.1 hj).1
         have h9 : (xs ++ R)[(i + 1) * 1 + j]? = some u := by rw [List.getElem?_append_left h8]; exact hj
         simpa using h9)
     · rw [List.drop_eq_nil_of_le (by omega)] at hj; simp at hj
   have h := run_append_roomK w.drew 27 27 ty 30 i0 Tryz.underlying27 hi0 1 g i c hzs (.slice (some ⟨g, o2, none⟩) (n - (i + 1)) c2) (n - (i + 1)) (xs.drop ((i + 1) * 1)) _ 30 hsrc (by omega) (show Blk w.drew g _ from hg') (by simp; omega)
   rw [h, splice_at htl.symm, hdl, hY, show i + (n - (i + 1)) = n - 1 by omega]
 have hcl : ∀ (W : World) (o l c2 : Nat) (ty : TypeId), Blk W g (.cells (xs.take (i * 1) ++ xs.drop ((i + 1) * 1) ++ Y).toArray 30) → o = (n - 1) * 1 → l = 1 → (Builtin.clear_ #[27] ty #[.slice (some ⟨g, o, none⟩) l c2]).run Tryz.prog W = .ok (.tuple #[]) (W.setRow g (xs.take (i * 1) ++ xs.drop ((i + 1) * 1) ++ (.slice none 0 0 : Value).cells.toList ++ Y.drop 1).toArray) := fun W o l c2 ty hb h1 h2 => by
   subst h1 h2
   have h := run_clear_one W 27 ty 30 (.slice none 0 0 : Value) 1 g ((n - 1) * 1) c2 Tryz.underlying27 (fun W => by kernel_rfl) rfl (by decide) _ 30 hb (by simp; omega)
   have hl0 : ((.slice none 0 0 : Value).cells.toList).length = 1 := rfl
   have hlA : (xs.take (i * 1) ++ xs.drop ((i + 1) * 1)).length = (n - 1) * 1 := by rw [List.length_append, htl, hdl]; omega
   have hsp := splice_at (A := xs.take (i * 1) ++ xs.drop ((i + 1) * 1)) (Z := Y) (cs := (.slice none 0 0 : Value).cells.toList) (o := (n - 1) * 1) hlA.symm
   rw [hl0] at hsp
   rw [h, hsp]
 have hcn1 : (((n - 1 : Nat) : Int)) ≤ n := by omega
 have hcn2 : ¬ c = n - 1 := by omega
 have hsame : n = i + 1 → xs.take (i * 1) ++ xs.drop ((i + 1) * 1) ++ Y = xs ++ R := fun h => by
   subst h
   have e0 : xs.drop ((i + 1) * 1) = [] := List.drop_eq_nil_of_le (by omega)
   have e1 : (i + 1 - 1 - i) * 1 = 0 := by omega
   rw [← hY, e0, e1, List.drop_zero, List.append_nil, ← List.append_assoc, List.take_append_drop]
 clear hi0 hz0 hzs hzb hcur2 hg'
 obtain ⟨n9, hn9⟩ : ∃ n9, n9 = n := ⟨_, rfl⟩
 obtain ⟨c9, hc9⟩ : ∃ c9, c9 = c := ⟨_, rfl⟩
 have Hn9 := Lib.hid hn9
 have Hc9 := Lib.hid hc9
 clear hn9 hc9
 by_cases hci1 : c = i + 1
 all_goals
   try (subst hci1; obtain rfl : n = i + 1 := by omega)
   go_enter Tryz.func88, Tryz.ntmps88
   go_upto_region 5 with (fail)
   go_region_law (first
     | (refine step_append_run rfl _ _ 27 27 rfl _ _ (by simp [Act.eval, Act.put]) (by simp [Act.eval, Act.put]) (hap ((i + 1) * 1) (n - (i + 1)) (c - (i + 1)) _ rfl (.inl rfl)) ?_)
     | (refine step_append_run rfl _ _ 27 27 rfl _ _ (by simp [Act.eval, Act.put]) (by simp [Act.eval, Act.put]) (hap _ _ _ _ (by omega) (.inr (by omega))) ?_))
   go_upto_region 6 with (fail)
   have hcN := Chg.setRow (w := w.drew) (g := g) (cs := (xs.take (i * 1) ++ xs.drop ((i + 1) * 1) ++ Y).toArray)
   have hbN : Blk (w.drew.setRow g (xs.take (i * 1) ++ xs.drop ((i + 1) * 1) ++ Y).toArray) g (.cells (xs.take (i * 1) ++ xs.drop ((i + 1) * 1) ++ Y).toArray 30) := Blk.setRow (show Blk w.drew g _ from hg)
   have hchg : Chg g w (w.drew.setRow g (xs.take (i * 1) ++ xs.drop ((i + 1) * 1) ++ Y).toArray) := ⟨hcN.os, hcN.tape, hcN.output, hcN.size, hcN.block⟩
   refine wp_name (fun W1 => Chg g w W1 ∧ Blk W1 g (.cells (xs.take (i * 1) ++ xs.drop ((i + 1) * 1) ++ Y).toArray 30)) (by
     first
       | exact ⟨hchg, hbN⟩
       | simpa using And.intro hchg hbN
       | exact ⟨⟨rfl, rfl, rfl, rfl, fun _ _ => rfl⟩, by rw [hsame (by omega)]; exact hg⟩) ?_
   clear hcN hbN hchg hap
   rintro W1 ⟨hcW, hNW⟩
   go_wp2_with (first
     | (refine wpList_clear_run (o := ⟨none, _, _, _, _, _⟩) (by rfl) (.tmp 31) 27 rfl (.slice (some ⟨g, (n - 1) * 1, none⟩) (n - (n - 1)) (c - (n - 1))) (by first | rfl | simp [Act.eval, Act.put]) (hcl W1 ((n - 1) * 1) (n - (n - 1)) (c - (n - 1)) _ hNW rfl (by omega)) ?_)
     | (refine wpList_clear_run (o := ⟨none, _, _, _, _, _⟩) (by rfl) (.tmp 31) 27 rfl (.slice (some ⟨g, i * 1, none⟩) 1 1) (by first | rfl | simp [Act.eval, Act.put]) (hcl W1 (i * 1) 1 1 _ hNW (by omega) rfl) ?_))
   go_ret
   have hcN := Chg.setRow (w := W1) (g := g) (cs := (xs.take (i * 1) ++ xs.drop ((i + 1) * 1) ++ (.slice none 0 0 : Value).cells.toList ++ Y.drop 1).toArray)
   have hbN : Blk (W1.setRow g (xs.take (i * 1) ++ xs.drop ((i + 1) * 1) ++ (.slice none 0 0 : Value).cells.toList ++ Y.drop 1).toArray) g (.cells (xs.take (i * 1) ++ xs.drop ((i + 1) * 1) ++ (.slice none 0 0 : Value).cells.toList ++ Y.drop 1).toArray 30) := Blk.setRow hNW
   have hgr := grown_chg (hcW.trans hcN)
   refine ⟨_, rfl, ?_, by first | exact hgr | simpa [Value.ownBlock, Value.cells] using hgr⟩
   have h9n := Hn9.out
   have h9c := Hc9.out
   have hlA : (xs.take (i * 1) ++ xs.drop ((i + 1) * 1)).length = (n9 - 1) * 1 := by rw [List.length_append, htl, hdl]; omega
   have hlz : (.slice none 0 0 : Value).cells.toList.length = 1 := rfl
   rw [List.append_assoc (xs.take (i * 1) ++ xs.drop ((i + 1) * 1))] at hbN
   have hown9 := own_del (v := .slice (some ⟨g, 0, none⟩) (n9 - 1) c9) (m := n9 - 1) (k := 1) hg0 hbN rfl hlA (by omega) (by rw [h9c]; exact hc) (by simp only [List.size_toArray]; rw [List.length_append, hlA, List.length_append, hlz, List.length_drop, hYl]; omega)
   subst h9n h9c
   first | exact hown9 | simpa [Value.cells] using hown9
set_option maxRecDepth 100000 in
set_option maxHeartbeats 2000000 in
theorem DeleteE_any (q : Option Addr) (c n i : Nat) (xs : List Value) (base : Nat) (w : World) (hown : w.ownsRow base 63 2 (.slice q n c) n xs) (hx1 : ∀ u ∈ xs, u.oneCell' = true) (hi : i < n) (hn : n ≤ 1000000) :
   Calls Tryz.prog 89 #[.slice q n c, .int .i64 i, .int .i64 ((i : Int) + 1)] w fun e w' => ∃ v', e = .returned v' ∧ w'.ownsRow base 63 2 v' (n - 1) (xs.take (i * 2) ++ xs.drop ((i + 1) * 2)) ∧ w.grownBy w' (Value.slice q n c).ownBlock := by
 have hxl := hown.1
 obtain ⟨g, cur, rfl, hg0, hg, hnc, hc, hcur, htake⟩ := own_parts hown (by omega)
 have hc63 : c ≤ 9223372036854775807 := hc
 obtain ⟨R, hR⟩ : ∃ R, cur.toList = xs ++ R := ⟨cur.toList.drop (n * 2), by rw [← htake, List.take_append_drop]⟩
 obtain rfl : cur = (xs ++ R).toArray := by apply Array.ext'; simpa using hR
 have hRl : R.length = (c - n) * 2 := by simp at hcur; omega
 clear htake hR
 obtain ⟨i0, hi0, hz0, hzs, hzb⟩ := info_parts infoEntA
 have htl : (xs.take (i * 2)).length = i * 2 := by rw [List.length_take]; omega
 have hdl : (xs.drop ((i + 1) * 2)).length = (n - 1 - i) * 2 := by rw [List.length_drop]; omega
 have hii : ((i : Int) == (i : Int) + 1) = false := by simp; omega
 have hw1 : IntKind.i64.wrap ((i : Int) + 1) = (i : Int) + 1 := IntWalk.i64_in _ (by omega)
 have hb1 : (0 : Int) ≤ (i : Int) + 1 := by omega
 have hb2 : (i : Int) + 1 ≤ (n : Int) := by omega
 have hb3 : (i : Int) ≤ (i : Int) + 1 := by omega
 have htn : ((i : Int) + 1).toNat = i + 1 := by omega
 have hcn : (n : Int) ≤ c := by omega
 have hin : (i : Int) ≤ n := by omega
 have hic : (i : Int) ≤ c := by omega
 have hci : ¬ c = i := by omega
 obtain ⟨Y, hY⟩ : ∃ Y, (xs.drop (i * 2) ++ R).drop ((n - 1 - i) * 2) = Y := ⟨_, rfl⟩
 have hYl : Y.length = (c - (n - 1)) * 2 := by rw [← hY, List.length_drop, List.length_append, List.length_drop, hRl]; omega
 have hcur2 : (xs ++ R).toArray = (xs.take (i * 2) ++ (xs.drop (i * 2) ++ R)).toArray := by rw [← List.append_assoc, List.take_append_drop]
 have hg' := hg
 rw [hcur2] at hg'
 have hap : ∀ (o2 l2 c2 : Nat) (ty : TypeId), l2 = n - (i + 1) → (o2 = (i + 1) * 2 ∨ n = i + 1) → (Builtin.append_ #[24, 24] ty #[.slice (some ⟨g, 0, none⟩) i c, .slice (some ⟨g, o2, none⟩) l2 c2]).run Tryz.prog w.drew = .ok (.slice (some ⟨g, 0, none⟩) (n - 1) c) (w.drew.setRow g (xs.take (i * 2) ++ xs.drop ((i + 1) * 2) ++ Y).toArray) := fun o2 l2 c2 ty h1 h2 => by
   subst h1
   have hsrc : Src Tryz.prog i0.size 24 (.slice (some ⟨g, o2, none⟩) (n - (i + 1)) c2) (n - (i + 1)) (xs.drop ((i + 1) * 2)) w.drew := by
     rw [hzs]
     refine Src.ofSlice w.drew Tryz.underlying24 ⟨g, o2, none⟩ (n - (i + 1)) c2 (xs.drop ((i + 1) * 2)) (by rw [hdl]; omega) (fun j u hj => ?_) (fun u hu => hx1 u (List.mem_of_mem_drop hu))
     rcases h2 with rfl | h2
     · rw [addr_add]
       rw [List.getElem?_drop] at hj
       exact Blk.val (show Blk w.drew g _ from hg) _ _ (by
         have h8 := (List.getElem?_eq_some_iff.1 hj).1
         have h9 : (xs ++ R)[(i + 1) * 2 + j]? = some u := by rw [List.getElem?_append_left h8]; exact hj
         simpa using h9)
     · rw [List.drop_eq_nil_of_le (by omega)] at hj; simp at hj
   have h := run_append_roomK w.drew 24 24 ty 63 i0 Tryz.underlying24 hi0 2 g i c hzs (.slice (some ⟨g, o2, none⟩) (n - (i + 1)) c2) (n - (i + 1)) (xs.drop ((i + 1) * 2)) _ 63 hsrc (by omega) (show Blk w.drew g _ from hg') (by simp; omega)
   rw [h, splice_at htl.symm, hdl, hY, show i + (n - (i + 1)) = n - 1 by omega]
 have hcl : ∀ (W : World) (o l c2 : Nat) (ty : TypeId), Blk W g (.cells (xs.take (i * 2) ++ xs.drop ((i + 1) * 2) ++ Y).toArray 63) → o = (n - 1) * 2 → l = 1 → (Builtin.clear_ #[24] ty #[.slice (some ⟨g, o, none⟩) l c2]).run Tryz.prog W = .ok (.tuple #[]) (W.setRow g (xs.take (i * 2) ++ xs.drop ((i + 1) * 2) ++ (.agg #[.string ByteArray.empty, .int .i64 0] : Value).cells.toList ++ Y.drop 2).toArray) := fun W o l c2 ty hb h1 h2 => by
   subst h1 h2
   have h := run_clear_one W 24 ty 63 (.agg #[.string ByteArray.empty, .int .i64 0] : Value) 2 g ((n - 1) * 2) c2 Tryz.underlying24 (fun W => by kernel_rfl) rfl (by decide) _ 63 hb (by simp; omega)
   have hl0 : ((.agg #[.string ByteArray.empty, .int .i64 0] : Value).cells.toList).length = 2 := rfl
   have hlA : (xs.take (i * 2) ++ xs.drop ((i + 1) * 2)).length = (n - 1) * 2 := by rw [List.length_append, htl, hdl]; omega
   have hsp := splice_at (A := xs.take (i * 2) ++ xs.drop ((i + 1) * 2)) (Z := Y) (cs := (.agg #[.string ByteArray.empty, .int .i64 0] : Value).cells.toList) (o := (n - 1) * 2) hlA.symm
   rw [hl0] at hsp
   rw [h, hsp]
 have hcn1 : (((n - 1 : Nat) : Int)) ≤ n := by omega
 have hcn2 : ¬ c = n - 1 := by omega
 have hsame : n = i + 1 → xs.take (i * 2) ++ xs.drop ((i + 1) * 2) ++ Y = xs ++ R := fun h => by
   subst h
   have e0 : xs.drop ((i + 1) * 2) = [] := List.drop_eq_nil_of_le (by omega)
   have e1 : (i + 1 - 1 - i) * 2 = 0 := by omega
   rw [← hY, e0, e1, List.drop_zero, List.append_nil, ← List.append_assoc, List.take_append_drop]
 clear hi0 hz0 hzs hzb hcur2 hg'
 obtain ⟨n9, hn9⟩ : ∃ n9, n9 = n := ⟨_, rfl⟩
 obtain ⟨c9, hc9⟩ : ∃ c9, c9 = c := ⟨_, rfl⟩
 have Hn9 := Lib.hid hn9
 have Hc9 := Lib.hid hc9
 clear hn9 hc9
 by_cases hci1 : c = i + 1
 all_goals
   try (subst hci1; obtain rfl : n = i + 1 := by omega)
   go_enter Tryz.func89, Tryz.ntmps89
   go_upto_region 5 with (fail)
   go_region_law (first
     | (refine step_append_run rfl _ _ 24 24 rfl _ _ (by simp [Act.eval, Act.put]) (by simp [Act.eval, Act.put]) (hap ((i + 1) * 2) (n - (i + 1)) (c - (i + 1)) _ rfl (.inl rfl)) ?_)
     | (refine step_append_run rfl _ _ 24 24 rfl _ _ (by simp [Act.eval, Act.put]) (by simp [Act.eval, Act.put]) (hap _ _ _ _ (by omega) (.inr (by omega))) ?_))
   go_upto_region 6 with (fail)
   have hcN := Chg.setRow (w := w.drew) (g := g) (cs := (xs.take (i * 2) ++ xs.drop ((i + 1) * 2) ++ Y).toArray)
   have hbN : Blk (w.drew.setRow g (xs.take (i * 2) ++ xs.drop ((i + 1) * 2) ++ Y).toArray) g (.cells (xs.take (i * 2) ++ xs.drop ((i + 1) * 2) ++ Y).toArray 63) := Blk.setRow (show Blk w.drew g _ from hg)
   have hchg : Chg g w (w.drew.setRow g (xs.take (i * 2) ++ xs.drop ((i + 1) * 2) ++ Y).toArray) := ⟨hcN.os, hcN.tape, hcN.output, hcN.size, hcN.block⟩
   refine wp_name (fun W1 => Chg g w W1 ∧ Blk W1 g (.cells (xs.take (i * 2) ++ xs.drop ((i + 1) * 2) ++ Y).toArray 63)) (by
     first
       | exact ⟨hchg, hbN⟩
       | simpa using And.intro hchg hbN
       | exact ⟨⟨rfl, rfl, rfl, rfl, fun _ _ => rfl⟩, by rw [hsame (by omega)]; exact hg⟩) ?_
   clear hcN hbN hchg hap
   rintro W1 ⟨hcW, hNW⟩
   go_wp2_with (first
     | (refine wpList_clear_run (o := ⟨none, _, _, _, _, _⟩) (by rfl) (.tmp 31) 24 rfl (.slice (some ⟨g, (n - 1) * 2, none⟩) (n - (n - 1)) (c - (n - 1))) (by first | rfl | simp [Act.eval, Act.put]) (hcl W1 ((n - 1) * 2) (n - (n - 1)) (c - (n - 1)) _ hNW rfl (by omega)) ?_)
     | (refine wpList_clear_run (o := ⟨none, _, _, _, _, _⟩) (by rfl) (.tmp 31) 24 rfl (.slice (some ⟨g, i * 2, none⟩) 1 1) (by first | rfl | simp [Act.eval, Act.put]) (hcl W1 (i * 2) 1 1 _ hNW (by omega) rfl) ?_))
   go_ret
   have hcN := Chg.setRow (w := W1) (g := g) (cs := (xs.take (i * 2) ++ xs.drop ((i + 1) * 2) ++ (.agg #[.string ByteArray.empty, .int .i64 0] : Value).cells.toList ++ Y.drop 2).toArray)
   have hbN : Blk (W1.setRow g (xs.take (i * 2) ++ xs.drop ((i + 1) * 2) ++ (.agg #[.string ByteArray.empty, .int .i64 0] : Value).cells.toList ++ Y.drop 2).toArray) g (.cells (xs.take (i * 2) ++ xs.drop ((i + 1) * 2) ++ (.agg #[.string ByteArray.empty, .int .i64 0] : Value).cells.toList ++ Y.drop 2).toArray 63) := Blk.setRow hNW
   have hgr := grown_chg (hcW.trans hcN)
   refine ⟨_, rfl, ?_, by first | exact hgr | simpa [Value.ownBlock, Value.cells] using hgr⟩
   have h9n := Hn9.out
   have h9c := Hc9.out
   have hlA : (xs.take (i * 2) ++ xs.drop ((i + 1) * 2)).length = (n9 - 1) * 2 := by rw [List.length_append, htl, hdl]; omega
   have hlz : (.agg #[.string ByteArray.empty, .int .i64 0] : Value).cells.toList.length = 2 := rfl
   rw [List.append_assoc (xs.take (i * 2) ++ xs.drop ((i + 1) * 2))] at hbN
   have hown9 := own_del (v := .slice (some ⟨g, 0, none⟩) (n9 - 1) c9) (m := n9 - 1) (k := 2) hg0 hbN rfl hlA (by omega) (by rw [h9c]; exact hc) (by simp only [List.size_toArray]; rw [List.length_append, hlA, List.length_append, hlz, List.length_drop, hYl]; omega)
   subst h9n h9c
   first | exact hown9 | simpa [Value.cells] using hown9
end Go.Proofs.YtifmbcjbccedfaaGreatDoor
