/- A part of the proof. -/
import Derived.Test.YtifmbcjbccedfaaGreatDoorCD

set_option linter.unusedSimpArgs false
set_option linter.unusedVariables false
namespace Dsd
open Go Go.RowKit
theorem run_clear_many {P : Program} (w : World) (t ty e : TypeId) (z : Value) (k g o n c : Nat) (ht : P.underlying t = some (.slice e)) (hz : ∀ w, (zeroValue e).run P w = .ok z w) (hzl : z.cells.size = k) (hk : 0 < k) (hz1 : ∀ u ∈ z.cells.toList, u.oneCell' = true) (cur : Array Value) (E : TypeId)
   (hg : w.heap[g]? = some (.cells cur E (0, 0))) (hn : 0 < n) (hfit : o + n * k ≤ cur.size) :
   ∃ news : List Value, news.length = n * k ∧ (Builtin.clear_ #[t] ty #[.slice (some ⟨g, o, none⟩) n c]).run P w = .ok (.tuple #[]) (w.setRow g (cur.toList.take o ++ news ++ cur.toList.drop (o + n * k)).toArray) := by
 have hl : ((Builtin.zeroCells z.cells n).toList).length = n * k := by simp [Builtin.zeroCells, hzl]
 have h1 : ∀ u ∈ (Builtin.zeroCells z.cells n).toList, u.oneCell' = true := by
   intro u hu
   simp only [Builtin.zeroCells, Array.toList_map, List.mem_map] at hu
   obtain ⟨i, _, rfl⟩ := hu
   have hi : i % z.cells.size < z.cells.size := Nat.mod_lt _ (by omega)
   rw [getElem!_pos z.cells _ hi]
   exact hz1 _ (by simp)
 have hst := run_storeCells_at P g o E (Builtin.zeroCells z.cells n).toList 0 cur w hg (by rw [hl]; simpa using hfit) h1
 refine ⟨(Builtin.zeroCells z.cells n).toList, hl, ?_⟩
 rw [hl] at hst
 simp only [Nat.add_zero] at hst
 obtain ⟨n, rfl⟩ : ∃ n', n = n' + 1 := ⟨n - 1, by omega⟩
 simp [Builtin.clear_, run_underlying ht, hz, hst]
theorem take_snoc_filter {L : List Wr} {f : Wr → Bool} {j : Nat} (h : j < L.length) : (L.take (j + 1)).filter f = (L.take j).filter f ++ (if f (wrAt L j) = true then [wrAt L j] else []) := by
 rw [List.take_succ_eq_append_getElem h, List.filter_append, wrAt_get h]
 congr 1
 cases hf : f L[j]
 · simp [hf]
 · simp [hf]
end Dsd
namespace Go.Proofs.YtifmbcjbccedfaaGreatDoor
open Go.RowKit Dsd
theorem rowW_wrts {w : World} {g z : Nat} {L : List Wr} (h : RowW w g z L) : Wrts w (some ⟨g, 0, none⟩) L := by
 obtain ⟨cur, hb, hz, hc⟩ := h
 refine .inr ⟨g, 0, rfl, ⟨Blk.lt hb, cur, hb⟩, fun i hi => ?_⟩
 obtain ⟨h1, h2, _⟩ := RowW.at ⟨cur, hb, hz, hc⟩ i hi
 rw [Nat.zero_add]
 exact ⟨h1, h2⟩
set_option maxRecDepth 100000 in
set_option maxHeartbeats 1000000 in
theorem IndexW_any (p : Option Addr) (cap : Nat) (L : List Wr) (u : Int) (x : List UInt8) (w : World) (hs : Wrts w p L) (hm : L.length ≤ 1000000) :
   Calls Tryz.prog 104 #[.slice p L.length cap, .agg #[.int .i64 u, .string ⟨x.toArray⟩]] w fun e w' => (∃ i : Int, e = .returned (.int .i64 i) ∧ decide (0 ≤ i) = L.contains (u, x)) ∧ Ext w w' := by
 have hb := Blk.new w (.cells #[.int .i64 u, .string ⟨x.toArray⟩] 91)
 have Hx := Lib.hid (Ext.alloc w (.cells #[.int .i64 u, .string ⟨x.toArray⟩] 91))
 have Hs := Lib.hid (hs.ext Hx.out)
 have c0 := Blk.val hb 0 _ rfl
 have c1 := Blk.val hb 1 _ rfl
 have lb := Blk.lt hb
 clear hs hb
 go_enter Tryz.func104, Tryz.ntmps104
 go_upto_region 2 with (fail)
 generalize hwo : w.alloc (.cells #[.int .i64 u, .string ⟨x.toArray⟩] 91) = wo at *
 generalize w.heap.size = vb at *
 clear hwo
 go_loopw [8] (fun i wr => ∃ k : Nat, k ≤ L.length ∧ i = .int .i64 k ∧ (∀ j, j < k → wrAt L j ≠ (u, x)) ∧ ∃ n, wr = wo.drewN n) (fun i _ => L.length - (intOf i).toNat)
 case atStart => exact ⟨0, Nat.zero_le _, rfl, fun j h => by omega, 0, rfl⟩
 case round =>
   obtain ⟨k, hk, rfl, hq, nr, rfl⟩ := hrel
   have Hq := Lib.hid hq
   clear hq
   by_cases hlt : k < L.length
   · have hltI : (k : Int) < L.length := by omega
     obtain ⟨b, off, rfl, hb, hc⟩ := Hs.out.at k hlt
     obtain ⟨hck, hck2⟩ := hc k hlt
     have HM : Hid (L.getD k (0, []) = (u, x) → L.contains (u, x) = true) := Lib.hid (fun h => by
       rw [List.contains_iff_mem, ← h]
       rw [show L.getD k (0, []) = L[k] from wrAt_get hlt]
       exact List.getElem_mem _)
     have HN : Hid (L.getD k (0, []) ≠ (u, x) → ∀ j, j < k + 1 → wrAt L j ≠ (u, x)) := Lib.hid (fun h j hj => by
       by_cases e : j = k
       · subst e; exact h
       · exact Hq.out j (by omega))
     clear hc
     generalize L.getD k (0, []) = s at *
     obtain ⟨u', x'⟩ := s
     simp only at hck hck2
     have hE := write_equal u u' x x'
     have hG := writeGuard
     go_upto_region 4 with (fail)
     go_quiet (fail)
     go_wp2
     · have hd : (u, x) = (u', x') := by rename_i h; simpa using h
       go_ret
       have h1 := HM.out hd.symm
       refine ⟨⟨_, rfl, ?_⟩, Hx.out.trans ((Ext.drewN _ _).trans (Ext.drewN _ _))⟩
       rw [h1]
       exact decide_eq_true (by omega)
     · have hd : ¬ (u', x') = (u, x) := by rename_i h; intro e; rw [e] at h; simp at h
       go_roundw
       case rel => exact ⟨k + 1, by omega, by go_num, HN.out hd, nr + nq, rfl⟩
       case measure => simp [intOf]; omega
   · have hltI : decide ((k : Int) < L.length) = false := decide_eq_false (by omega)
     have HM : Hid (L.contains (u, x) = false) := Lib.hid (by
       cases hcn : L.contains (u, x)
       · rfl
       · rw [List.contains_iff_mem] at hcn
         obtain ⟨j, hj, e⟩ := List.getElem_of_mem hcn
         exact absurd (by rw [wrAt_get hj, e]) (Hq.out j (by omega)))
     go_wp2
     go_ret
     exact ⟨⟨_, rfl, by rw [HM.out]; decide⟩, Hx.out.trans (Ext.drewN _ _)⟩
set_option maxRecDepth 100000 in
theorem ContainsW_any (p : Option Addr) (cap : Nat) (L : List Wr) (u : Int) (x : List UInt8) (w : World) (hs : Wrts w p L) (hm : L.length ≤ 1000000) :
   Calls Tryz.prog 55 #[.slice p L.length cap, .agg #[.int .i64 u, .string ⟨x.toArray⟩]] w fun e w' => e = .returned (.bool (L.contains (u, x))) ∧ Ext w w' := by
 have hb := Blk.new w (.cells #[.int .i64 u, .string ⟨x.toArray⟩] 91)
 have Hx := Lib.hid (Ext.alloc w (.cells #[.int .i64 u, .string ⟨x.toArray⟩] 91))
 have H := Lib.hid (fun W (e : Ext w W) => IndexW_any p cap L u x W (hs.ext e) hm)
 have c0 := Blk.val hb 0 _ rfl
 have c1 := Blk.val hb 1 _ rfl
 have lb := Blk.lt hb
 clear hs hb
 generalize L.contains (u, x) = bb at *
 go_enter Tryz.func55, Tryz.ntmps55
 go_wp2_with (go_at_call 104; refine (H.out _ Hx.out).mono ?_; rintro e w1 ⟨⟨i, rfl, hi⟩, he1⟩)
 go_ret
 exact ⟨by rw [← hi]; rfl, Hx.out.trans he1⟩
set_option maxRecDepth 100000 in
theorem Writes1_any (cb : Nat) (p : Option Addr) (cap : Nat) (L : List Wr) (u : Int) (x : List UInt8) (w : World) (hc : Blk w cb (.cells #[.slice p L.length cap] 51)) (hs : Wrts w p L) (hm : L.length ≤ 1000000) :
   Calls Tryz.prog 54 #[.agg #[.int .i64 u, .string ⟨x.toArray⟩], .pointer (some ⟨cb, 0, none⟩)] w fun e w' => e = .returned (.bool (L.contains (u, x))) ∧ Ext w w' := by
 have hb := Blk.new w (.cells #[.int .i64 u, .string ⟨x.toArray⟩] 91)
 have Hx := Lib.hid (Ext.alloc w (.cells #[.int .i64 u, .string ⟨x.toArray⟩] 91))
 have H := Lib.hid (fun W (e : Ext w W) => ContainsW_any p cap L u x W (hs.ext e) hm)
 have c0 := Blk.val hb 0 _ rfl
 have c1 := Blk.val hb 1 _ rfl
 have lb := Blk.lt hb
 have k0 := Blk.cell (Hx.out.blk _ _ hc)
 have lc := Blk.lt (Hx.out.blk _ _ hc)
 clear hs hb hc
 generalize L.contains (u, x) = bb at *
 go_enter Tryz.func54, Tryz.ntmps54
 go_wp2_with (go_at_call 55; refine (H.out _ Hx.out).mono ?_; rintro e w1 ⟨rfl, he1⟩)
 go_ret
 exact ⟨rfl, Hx.out.trans he1⟩
set_option maxRecDepth 100000 in
set_option maxHeartbeats 1000000 in
theorem IndexFuncW_any (p q : Option Addr) (cap capY cb : Nat) (X Y : List Wr) (w : World) (hc : Blk w cb (.cells #[.slice p X.length cap] 51)) (hX : Wrts w p X) (hY : Wrts w q Y) (hm : X.length ≤ 1000000) (hmY : Y.length ≤ 1000000) :
   Calls Tryz.prog 103 #[.slice q Y.length capY, .func (.func 54) #[] #[.pointer (some ⟨cb, 0, none⟩)]] w fun e w' =>
     ((∃ k : Nat, k < Y.length ∧ e = .returned (.int .i64 k) ∧ (∀ j, j < k → X.contains (wrAt Y j) = false) ∧ X.contains (wrAt Y k) = true) ∨ (e = .returned (.int .i64 (-1)) ∧ ∀ j, j < Y.length → X.contains (wrAt Y j) = false)) ∧ Ext w w' := by
 have HW := Lib.hid (fun u x W (e : Ext w W) => Writes1_any cb p cap X u x W (e.blk _ _ hc) (hX.ext e) hm)
 have Hs := Lib.hid hY
 clear hc hX hY
 obtain ⟨wo, rfl⟩ : ∃ wo : World, wo = w := ⟨_, rfl⟩
 go_enter Tryz.func103, Tryz.ntmps103
 go_upto_region 2 with (fail)
 go_loopw [8] (fun i wr => ∃ k : Nat, k ≤ Y.length ∧ i = .int .i64 k ∧ (∀ j, j < k → X.contains (wrAt Y j) = false) ∧ Ext wo wr) (fun i _ => Y.length - (intOf i).toNat)
 case atStart => exact ⟨0, Nat.zero_le _, rfl, fun j h => by omega, Ext.refl _⟩
 case round =>
   obtain ⟨k, hk, rfl, hq, hex⟩ := hrel
   have Hq := Lib.hid hq
   clear hq
   by_cases hlt : k < Y.length
   · have hltI : (k : Int) < Y.length := by omega
     obtain ⟨b, off, rfl, hb, hc⟩ := (Hs.out.ext hex).at k hlt
     obtain ⟨hck, hck2⟩ := hc k hlt
     have HWk := Lib.hid (HW.out (wrAt Y k).1 (wrAt Y k).2 wr hex)
     have HN : Hid (X.contains (wrAt Y k) = false → ∀ j, j < k + 1 → X.contains (wrAt Y j) = false) := Lib.hid (fun h j hj => by
       by_cases e : j = k
       · subst e; exact h
       · exact Hq.out j (by omega))
     have HE : Hid (X.contains ((wrAt Y k).1, (wrAt Y k).2) = X.contains (wrAt Y k)) := Lib.hid rfl
     have HT : Hid (∀ bb, bb = X.contains (wrAt Y k) → bb = true → X.contains (wrAt Y k) = true) := Lib.hid (fun _ h1 h2 => by rw [← h1]; exact h2)
     rw [HE.out] at HWk
     change _ = some (Value.int .i64 (wrAt Y k).1) at hck
     change _ = some (Value.string ⟨(wrAt Y k).2.toArray⟩) at hck2
     clear hc HE
     generalize hcn : X.contains (wrAt Y k) = bb at *
     have Hcn := Lib.hid hcn
     clear hcn
     generalize (wrAt Y k).1 = u at *
     generalize (wrAt Y k).2 = x at *
     cases bb
     · go_wp2_with (go_at_call 54; refine HWk.out.mono ?_; rintro e w1 ⟨rfl, he1⟩)
       go_roundw
       case rel => exact ⟨k + 1, by omega, by go_num, HN.out (by trivial), hex.trans he1⟩
       case measure => simp [intOf]; omega
     · go_wp2_with (go_at_call 54; refine HWk.out.mono ?_; rintro e w1 ⟨rfl, he1⟩)
       go_ret
       exact ⟨.inl ⟨k, hlt, rfl, Hq.out, Hcn.out⟩, hex.trans he1⟩
   · have hltI : decide ((k : Int) < Y.length) = false := decide_eq_false (by omega)
     go_wp2
     go_ret
     exact ⟨.inr ⟨rfl, fun j hj => Hq.out j (by omega)⟩, hex⟩
end Go.Proofs.YtifmbcjbccedfaaGreatDoor
namespace Dsd
theorem writes_take {X Y : List Wr} {j : Nat} (h : j < Y.length) : writesL X (Y.take (j + 1)) = writesL X (Y.take j) ++ (if X.contains (wrAt Y j) = true then [] else [wrAt Y j]) := by
 unfold writesL
 rw [take_snoc_filter h]
 congr 1
 cases X.contains (wrAt Y j) <;> simp
theorem writes_all {X Y : List Wr} (h : ∀ j, j < Y.length → X.contains (wrAt Y j) = false) : writesL X Y = Y := by
 unfold writesL
 rw [List.filter_eq_self]
 intro x hx
 obtain ⟨j, hj, rfl⟩ := List.getElem_of_mem hx
 rw [← wrAt_get hj, h j hj]
 rfl
theorem writes_pre {X Y : List Wr} {k : Nat} (hk : k ≤ Y.length) (h : ∀ j, j < k → X.contains (wrAt Y j) = false) : writesL X (Y.take k) = Y.take k := by
 refine writes_all fun j hj => ?_
 rw [List.length_take] at hj
 have := h j (by omega)
 have e : wrAt (Y.take k) j = wrAt Y j := by simp [wrAt, List.getD, List.getElem?_take, show j < k by omega]
 rw [e]; exact this
end Dsd
namespace Go.Proofs.YtifmbcjbccedfaaGreatDoor
open Go.RowKit Dsd
theorem zeroWr (w : World) : (zeroValue 91).run Tryz.prog w = .ok (.agg #[.int .i64 0, .string ByteArray.empty]) w := by kernel_rfl
set_option maxRecDepth 100000 in
set_option maxHeartbeats 4000000 in
theorem DeleteW_any (g z cap : Nat) (p : Option Addr) (capX cb : Nat) (X Y : List Wr) (w : World) (hc : Blk w cb (.cells #[.slice p X.length capX] 51)) (hX : ∀ W, w.grownBy W (some g) → Wrts W p X) (hY : RowW w g z Y) (hm : X.length ≤ 1000000) (hmY : Y.length ≤ 1000000) (hcap : Y.length ≤ cap) (hcm : cap ≤ maxLen) (hz : z = cap * 2) :
   Calls Tryz.prog 53 #[.slice (some ⟨g, 0, none⟩) Y.length cap, .func (.func 54) #[] #[.pointer (some ⟨cb, 0, none⟩)]] w fun e w' =>
     w.grownBy w' (some g) ∧ ∃ c, e = .returned (.slice (some ⟨g, 0, none⟩) (writesL X Y).length c) ∧ RowW w' g z (writesL X Y) := by
 have hgl : g < w.heap.size := by obtain ⟨_, h, _⟩ := hY; exact Blk.lt h
 have hcg : cb ≠ g := fun e => by
   obtain ⟨cur, h, _⟩ := hY
   rw [e] at hc
   have := (Eq.symm hc).trans h
   simp at this
 have hcG : Hid (∀ W, w.grownBy W (some g) → Blk W cb (.cells #[.slice p X.length capX] 51)) := Lib.hid (fun W h => Blk.grown hc h (fun e => hcg (by simpa using e.symm)))
 have HX := Lib.hid hX
 have HI := Lib.hid (IndexFuncW_any p (some ⟨g, 0, none⟩) capX cap cb X Y w hc (hX w (grown_of_ext g (Ext.refl _))) (rowW_wrts hY) hm hmY)
 have HW := Lib.hid (fun u x W (e : w.grownBy W (some g)) => Writes1_any cb p capX X u x W (hcG.out W e) (hX W e) hm)
 have HY := Lib.hid hY
 have Hg := Lib.hid hgl
 have Hm : Hid (cap ≤ maxLen) := Lib.hid hcm
 have hcmI : (cap : Int) ≤ 9223372036854775807 := by have : cap ≤ 9223372036854775807 := hcm; omega
 clear hX hY hc hgl hcg hcm
 obtain ⟨wo, rfl⟩ : ∃ wo : World, wo = w := ⟨_, rfl⟩
 go_enter Tryz.func53, Tryz.ntmps53
 go_upto_region 2 with (go_at_call 103; refine HI.out.mono ?_; rintro e w1 ⟨hcase, he1⟩; rcases hcase with ⟨k, hkl, rfl, hk1, hk2⟩ | ⟨rfl, hall⟩)
 · have i1 : ((k : Int) == -1) = false := by simp
   have Hk1 := Lib.hid hk1
   have Hk2 := Lib.hid hk2
   have He1 := Lib.hid (grown_of_ext g he1)
   have Hr1 := Lib.hid (HY.out.ext he1)
   clear hk1 hk2 he1
   go_upto_region 5 with (fail)
   go_loopw [5, 6] (fun iv jv wr => ∃ i j : Nat, i < j ∧ j ≤ Y.length ∧ iv = .int .i64 i ∧ jv = .int .i64 j ∧ wo.grownBy wr (some g) ∧ ∃ M, M.length = Y.length ∧ RowW wr g z M ∧ M.take i = writesL X (Y.take j) ∧ M.drop j = Y.drop j) (fun _ jv _ => Y.length - (intOf jv).toNat)
   case atStart => exact ⟨k, k + 1, by omega, by omega, rfl, by go_num, He1.out, Y, rfl, Hr1.out, by rw [writes_take hkl, Hk2.out, if_pos rfl, List.append_nil, writes_pre (by omega) Hk1.out], rfl⟩
   case round =>
     obtain ⟨i, j, hij, hj, rfl, rfl, hgr, M, hMl, hrM, hMt, hMd⟩ := hrel
     have Hgr := Lib.hid hgr
     have HrM := Lib.hid hrM
     have HMl := Lib.hid hMl
     have HMt := Lib.hid hMt
     have HMd := Lib.hid hMd
     have hglr : g < wr.heap.size := Nat.lt_of_lt_of_le Hg.out hgr.size
     clear hgr hMt hMd
     by_cases hlt : j < Y.length
     · have hltI : (j : Int) < Y.length := by omega
       have hjI : (i : Int) < Y.length := by omega
       obtain ⟨a0, a1, _⟩ := hrM.at j (by omega)
       have hAt : wrAt M j = wrAt Y j := by
         have e1 : wrAt (M.drop j) 0 = wrAt (Y.drop j) 0 := by rw [HMd.out]
         simpa [wrAt, List.getD] using e1
       rw [hAt] at a0 a1
       have HT := Lib.hid (writes_take (X := X) hlt)
       have HWk := Lib.hid (fun W h => HW.out (wrAt Y j).1 (wrAt Y j).2 W h)
       have HE : Hid (X.contains ((wrAt Y j).1, (wrAt Y j).2) = X.contains (wrAt Y j)) := Lib.hid rfl
       rw [HE.out] at HWk
       have HDl : Hid (∀ y, (M.set i y).drop (j + 1) = Y.drop (j + 1)) := Lib.hid (fun y => by
         rw [List.drop_set_of_lt (by omega), ← List.drop_drop, HMd.out, List.drop_drop])
       have HD0 : Hid (M.drop (j + 1) = Y.drop (j + 1)) := Lib.hid (by rw [← List.drop_drop, HMd.out, List.drop_drop])
       have HTk : Hid (∀ y, (M.set i y).take (i + 1) = writesL X (Y.take j) ++ [y]) := Lib.hid (fun y => by
         rw [List.take_succ_eq_append_getElem (by simp; omega), List.take_set_of_le (by omega), HMt.out]
         simp)
       clear HE hAt hrM hMl
       have hyy : wrAt Y j = ((wrAt Y j).1, (wrAt Y j).2) := rfl
       generalize hcn : X.contains (wrAt Y j) = bb at *
       have Hcn := Lib.hid hcn
       clear hcn
       generalize wrAt Y j = y at *
       obtain ⟨u, x⟩ := y
       simp only at a0 a1 HWk
       clear hyy
       go_upto_region 8 with (fail)
       have Hg1 := Lib.hid (grownTrans Hgr.out (grown_of_ext g (Ext.alloc wr (.cells #[.int .i64 u, .string ⟨x.toArray⟩] 91))) Hg.out)
       have Hr1' := Lib.hid (HrM.out.ext (Ext.alloc wr (.cells #[.int .i64 u, .string ⟨x.toArray⟩] 91)))
       have hvb := Blk.new wr (.cells #[.int .i64 u, .string ⟨x.toArray⟩] 91)
       have c0 := Blk.val hvb 0 _ rfl
       have c1 := Blk.val hvb 1 _ rfl
       have lc := Blk.lt hvb
       have Hvb := Lib.hid hvb
       have hne : ¬ wr.heap.size = g := by omega
       have hne2 : ¬ g = wr.heap.size := by omega
       clear a0 a1 hvb hglr
       cases bb
       · go_upto_region 9 with (go_at_call 54; refine (HWk.out _ Hg1.out).mono ?_; rintro e w3 ⟨rfl, he3⟩)
         have Hg3 := Lib.hid (grownTrans Hg1.out (grown_of_ext g he3) Hg.out)
         have Hr3 := Lib.hid (Hr1'.out.ext he3)
         have hvb := he3.blk _ _ Hvb.out
         have d0 := Blk.val hvb 0 _ rfl
         have d1 := Blk.val hvb 1 _ rfl
         have ld := Blk.lt hvb
         have f0 := Hr3.out.free (i * 2)
         have f1 := Hr3.out.free (i * 2 + 1)
         obtain ⟨e0, e1, le⟩ := Hr3.out.at i (by have := HMl.out; omega)
         have HI1 : Hid (RowW (((w3.setCell ⟨g, i * 2, none⟩ (.int .i64 u)).setCell ⟨g, i * 2 + 1, none⟩ (.string ⟨x.toArray⟩))) g z (M.set i (u, x))) := Lib.hid (Hr3.out.set i (by have := HMl.out; omega) (u, x))
         have HC1 : Hid (Chg g w3 ((w3.setCell ⟨g, i * 2, none⟩ (.int .i64 u)).setCell ⟨g, i * 2 + 1, none⟩ (.string ⟨x.toArray⟩))) := Lib.hid (Chg.setCell.trans Chg.setCell)
         have HT1 : Hid (writesL X (Y.take (j + 1)) = writesL X (Y.take j) ++ [(u, x)]) := Lib.hid (by rw [HT.out]; rfl)
         have hij' : (i : Int) + 1 ≤ 2000000 := by omega
         clear he3 hvb c0 c1 lc
         generalize wr.heap.size = vb at *
         go_wp2
         go_roundw
         case rel => exact ⟨i + 1, j + 1, by omega, by omega, by go_num, by go_num, grownTrans Hg3.out (grown_of_chg HC1.out) Hg.out, M.set i (u, x), by rw [List.length_set]; exact HMl.out, HI1.out, by rw [HTk.out, HT1.out], HDl.out _⟩
         case measure => simp [intOf]; omega
       · have HT1 : Hid (writesL X (Y.take (j + 1)) = writesL X (Y.take j)) := Lib.hid (by rw [HT.out, if_pos rfl, List.append_nil])
         go_wp2_with (go_at_call 54; refine (HWk.out _ Hg1.out).mono ?_; rintro e w3 ⟨rfl, he3⟩)
         have Hg3 := Lib.hid (grownTrans Hg1.out (grown_of_ext g he3) Hg.out)
         have Hr3 := Lib.hid (Hr1'.out.ext he3)
         clear he3
         go_roundw
         case rel => exact ⟨i, j + 1, by omega, by omega, rfl, by go_num, Hg3.out, M, HMl.out, Hr3.out, by rw [HT1.out]; exact HMt.out, HD0.out⟩
         case measure => simp [intOf]; omega
     · have hltI : decide ((j : Int) < Y.length) = false := decide_eq_false (by omega)
       have hjn : j = Y.length := by omega
       have HE : Hid (M.take i = writesL X Y) := Lib.hid (by rw [HMt.out, hjn, List.take_length])
       have hlen : (writesL X Y).length = i := by rw [← HE.out, List.length_take, HMl.out]; omega
       have Hlen := Lib.hid hlen
       obtain ⟨cur, hb, hcs, hct⟩ := hrM
       have hiY : i < Y.length := by omega
       have Hcl := Lib.hid (fun (ty : TypeId) (cc : Nat) => run_clear_many wr 51 ty 91 _ 2 g (i * 2) (Y.length - i) cc Tryz.underlying51 zeroWr rfl (by decide) (by decide) cur 91 hb (by omega) (by omega))
       clear hlen hjn
       go_upto_region 11 with (fail)
       obtain ⟨news, hnl, hr⟩ := Hcl.out 0 (cap - i)
       have HR := Lib.hid (show RowW (wr.setRow g (cur.toList.take (i * 2) ++ news ++ cur.toList.drop (i * 2 + (Y.length - i) * 2)).toArray) g z (writesL X Y) from by
         refine ⟨_, Blk.setRow hb, ?_, ?_⟩
         · simp only [List.size_toArray, List.length_append, List.length_take, List.length_drop, Array.length_toList, hnl]
           omega
         · rw [Hlen.out]
           have hl : (cur.toList.take (i * 2)).length = i * 2 := by rw [List.length_take, Array.length_toList]; omega
           have e1 : (cur.toList.take (i * 2) ++ news ++ cur.toList.drop (i * 2 + (Y.length - i) * 2)).take (i * 2) = cur.toList.take (i * 2) := by rw [List.append_assoc, List.take_left' hl]
           rw [← HE.out, wrC_take, ← hct, List.take_take]
           simp only
           rw [e1, Nat.min_eq_left (by have := HMl.out; omega)])
       have HG9 := Lib.hid (show wr.grownBy (wr.setRow g (cur.toList.take (i * 2) ++ news ++ cur.toList.drop (i * 2 + (Y.length - i) * 2)).toArray) (some g) from grown_of_chg Chg.setRow)
       have hci : ¬ cap = i := by omega
       have hiI : (i : Int) ≤ Y.length := by omega
       have hiC : (i : Int) ≤ cap := by omega
       have hiC2 : i ≤ cap := by omega
       have hiY2 : i ≤ Y.length := by omega
       have Hr := Lib.hid hr
       clear hr hb hct hcs hnl Hcl
       generalize (cur.toList.take (i * 2) ++ news ++ cur.toList.drop (i * 2 + (Y.length - i) * 2)).toArray = fin at *
       go_wp2_with (refine wpList_clear_run (o := ⟨none, _, _, _, _, _⟩) rfl (.tmp 38) 51 rfl _ rfl Hr.out ?_)
       go_ret
       exact ⟨grownTrans Hgr.out HG9.out Hg.out, _, by rw [Hlen.out]; rfl, HR.out⟩
 · have HA := Lib.hid (writes_all hall)
   have HG := Lib.hid (And.intro (grown_of_ext g he1) (HY.out.ext he1))
   have i1 : ((-1 : Int) == -1) = true := rfl
   clear hall he1
   go_wp2
   go_ret
   exact ⟨HG.out.1, cap, by rw [HA.out]; rfl, by rw [HA.out]; exact HG.out.2⟩
end Go.Proofs.YtifmbcjbccedfaaGreatDoor
namespace Go.Proofs.YtifmbcjbccedfaaGreatDoor
open Go.RowKit Dsd
theorem ds_ar_ar (w : World) (d : DS) (a b : Ar) (q : Option Addr) (c : Nat) (p : Option Addr) (m : Nat) (q' : Option Addr) (c' : Nat) (p' : Option Addr) (m' : Nat) :
   Ext w (((w.alloc (.cells #[.int .i64 d.id, .int .i64 d.org, .int .i64 d.format, .int .i64 d.length, .int .i64 d.block, .int .i64 d.keyAt, .int .i64 d.keyLength, .int .i64 d.interval, .int .i64 d.area, .int .i64 d.freeInterval, .int .i64 d.freeArea, .int .i64 d.base, .int .i64 d.altAt, .int .i64 d.altLength, .bool d.unique, .int .i64 d.cls, .string ⟨d.volume.toArray⟩, .string ⟨d.owner.toArray⟩, .int .i64 d.created, .int .i64 d.expires, .bool d.archived] 23)).alloc (.cells (arC a q c p m) 29)).alloc (.cells (arC b q' c' p' m') 29)) ∧
   DsAt (((w.alloc (.cells #[.int .i64 d.id, .int .i64 d.org, .int .i64 d.format, .int .i64 d.length, .int .i64 d.block, .int .i64 d.keyAt, .int .i64 d.keyLength, .int .i64 d.interval, .int .i64 d.area, .int .i64 d.freeInterval, .int .i64 d.freeArea, .int .i64 d.base, .int .i64 d.altAt, .int .i64 d.altLength, .bool d.unique, .int .i64 d.cls, .string ⟨d.volume.toArray⟩, .string ⟨d.owner.toArray⟩, .int .i64 d.created, .int .i64 d.expires, .bool d.archived] 23)).alloc (.cells (arC a q c p m) 29)).alloc (.cells (arC b q' c' p' m') 29)) w.heap.size d ∧
   ArAt (((w.alloc (.cells #[.int .i64 d.id, .int .i64 d.org, .int .i64 d.format, .int .i64 d.length, .int .i64 d.block, .int .i64 d.keyAt, .int .i64 d.keyLength, .int .i64 d.interval, .int .i64 d.area, .int .i64 d.freeInterval, .int .i64 d.freeArea, .int .i64 d.base, .int .i64 d.altAt, .int .i64 d.altLength, .bool d.unique, .int .i64 d.cls, .string ⟨d.volume.toArray⟩, .string ⟨d.owner.toArray⟩, .int .i64 d.created, .int .i64 d.expires, .bool d.archived] 23)).alloc (.cells (arC a q c p m) 29)).alloc (.cells (arC b q' c' p' m') 29)) (w.heap.size + 1) a q c p m ∧
   ArAt (((w.alloc (.cells #[.int .i64 d.id, .int .i64 d.org, .int .i64 d.format, .int .i64 d.length, .int .i64 d.block, .int .i64 d.keyAt, .int .i64 d.keyLength, .int .i64 d.interval, .int .i64 d.area, .int .i64 d.freeInterval, .int .i64 d.freeArea, .int .i64 d.base, .int .i64 d.altAt, .int .i64 d.altLength, .bool d.unique, .int .i64 d.cls, .string ⟨d.volume.toArray⟩, .string ⟨d.owner.toArray⟩, .int .i64 d.created, .int .i64 d.expires, .bool d.archived] 23)).alloc (.cells (arC a q c p m) 29)).alloc (.cells (arC b q' c' p' m') 29)) (w.heap.size + 1 + 1) b q' c' p' m' := by
 obtain ⟨h1, h2, h3⟩ := ds_ar w d a q c p m
 exact ⟨h1.trans (Ext.alloc _ _), h2.ext (Ext.alloc _ _), h3.ext (Ext.alloc _ _), Blk.new1 _ _ _ (by simp)⟩
theorem rowW_grown {w W : World} {g g' z : Nat} {L : List Wr} (h : RowW w g z L) (hg : w.grownBy W (some g')) (hne : g ≠ g') : RowW W g z L := by
 obtain ⟨cur, hb, h2⟩ := h
 exact ⟨cur, Blk.grown hb hg (fun e => hne (by simpa using e.symm)), h2⟩
def WritesOut (d : DS) (a b : Ar) (w : World) (e : Ending) (w' : World) : Prop := Ext w w' ∧ ∃ q c, e = .returned (.tuple #[.slice q (writesD d a b).length c, .int .i64 (writesE d a b)]) ∧ Wrts w' q (writesD d a b)
theorem refL_len {d : DS} {a : Ar} (I : ASpec d a) : 1 ≤ (refL d a).length ∧ (refL d a).length ≤ 1000 := by
 have h1 : ∀ t, (refTo d a t).length ≤ t * 8 := fun t => by
   induction t with
   | zero => simp [refTo]
   | succ t ih =>
     rw [refTo_succ, List.length_append]
     have := (ref_row_sub d a.nd.ents a.ivs (a.base + 1 + (t : Int))).length_le
     rw [ivPages_len I.len] at this
     have := I.few
     obtain ⟨_, _, _, _, _, _, _, k8, k9⟩ := keyed_spec I.keyed
     omega
 have := h1 d.area.toNat
 obtain ⟨_, _, _, _, _, _, _, k8, k9⟩ := keyed_spec I.keyed
 unfold refL
 rw [List.length_cons]
 omega
set_option maxRecDepth 100000 in
set_option maxHeartbeats 4000000 in
theorem Writes_any (d : DS) (a b : Ar) (q : Option Addr) (c : Nat) (p : Option Addr) (m : Nat) (q' : Option Addr) (c' : Nat) (p' : Option Addr) (m' : Nat) (w : World) (hv : ArW w a q c p m) (hv' : ArW w b q' c' p' m')
   (h1 : a.nd.ents.length ≤ 1000000) (h2 : a.ivs.length ≤ 1000000) (h3 : ∀ i, Small (a.ivs.getD i [])) (k1 : b.nd.ents.length ≤ 1000000) (k2 : b.ivs.length ≤ 1000000) (k3 : ∀ i, Small (b.ivs.getD i [])) :
   Calls Tryz.prog 20 #[.agg #[.int .i64 d.id, .int .i64 d.org, .int .i64 d.format, .int .i64 d.length, .int .i64 d.block, .int .i64 d.keyAt, .int .i64 d.keyLength, .int .i64 d.interval, .int .i64 d.area, .int .i64 d.freeInterval, .int .i64 d.freeArea, .int .i64 d.base, .int .i64 d.altAt, .int .i64 d.altLength, .bool d.unique, .int .i64 d.cls, .string ⟨d.volume.toArray⟩, .string ⟨d.owner.toArray⟩, .int .i64 d.created, .int .i64 d.expires, .bool d.archived], .agg (arC a q c p m), .agg (arC b q' c' p' m')] w (WritesOut d a b w) := by
 have HP := Lib.hid (fun W (e : Ext w W) => Pages_any d a q c p m W (hv.ext e) h1 h2 h3)
 have HQ := Lib.hid (fun W (e : Ext w W) => Pages_any d b q' c' p' m' W (hv'.ext e) k1 k2 k3)
 have Hout : Hid (∀ e w', WritesOut d a b w e w' ↔ (Ext w w' ∧ ∃ q c, e = .returned (.tuple #[.slice q (writesD d a b).length c, .int .i64 (writesE d a b)]) ∧ Wrts w' q (writesD d a b))) := Lib.hid (fun _ _ => Iff.rfl)
 have hda := ds_ar_ar w d a b q c p m q' c' p' m'
 cases hA : areaB d a
 · have HE : Hid (writesE d a b = 1 ∧ writesD d a b = []) := Lib.hid (by unfold writesE writesD; rw [hA]; exact ⟨rfl, rfl⟩)
   have HPE : Hid (pagesE d a = 1) := Lib.hid (by unfold pagesE; rw [hA]; rfl)
   generalize WritesOut d a b w = OUT at *
   clear hA hv hv' HQ
   unfold PagesOut at HP
   rw [HPE.out] at HP
   go_enter Tryz.func20, Tryz.ntmps20
   go_upto_region 1 with (fail)
   refine wp_name (fun w0 => Ext w w0 ∧ DsAt w0 w.heap.size d ∧ ArAt w0 (w.heap.size + 1) a q c p m ∧ ArAt w0 (w.heap.size + 1 + 1) b q' c' p' m') hda ?_
   clear hda
   rintro w0 ⟨he0, hd0, ha0, hb0⟩
   go_wp2_with (first
     | ((with_reducible (show wpList _ _ _ (⟨some 12, _, _, _, _, _⟩ :: _) _ _)); refine wpList_ds (o := ⟨some 12, _, _, _, _, _⟩) rfl (.tmp 3) rfl _ rfl d hd0 ?_)
     | ((with_reducible (show wpList _ _ _ (⟨some 13, _, _, _, _, _⟩ :: _) _ _)); refine wpList_row (o := ⟨some 13, _, _, _, _, _⟩) rfl 29 (.tmp 4) rfl _ rfl _ _ _ ha0 arDesc rfl arSize ?_)
     | (go_at_call 19; refine (HP.out _ he0).mono ?_; rintro e w1 ⟨he1, v1, rfl, ho1⟩; obtain ⟨qx, cx, rfl⟩ := own_slice ho1))
   exact (Hout.out _ _).2 ⟨(he0.trans he1).trans (Ext.alloc _ _), none, 0, by rw [HE.out.1, HE.out.2]; rfl, by rw [HE.out.2]; exact .inl rfl⟩
 · have I := area_iff.1 hA
   have HPE : Hid (pagesE d a = 0 ∧ pagesD d a = refL d a) := Lib.hid (by unfold pagesE pagesD; rw [hA]; exact ⟨rfl, rfl⟩)
   obtain ⟨hX1, hX2⟩ := refL_len I
   unfold PagesOut at HP
   rw [HPE.out.1, HPE.out.2] at HP
   cases hB : areaB d b
   · have HE : Hid (writesE d a b = 1 ∧ writesD d a b = []) := Lib.hid (by unfold writesE writesD; rw [hB]; simp)
     have HPE2 : Hid (pagesE d b = 1) := Lib.hid (by unfold pagesE; rw [hB]; rfl)
     generalize WritesOut d a b w = OUT at *
     clear hA hB hv hv' I
     unfold PagesOut at HQ
     rw [HPE2.out] at HQ
     go_enter Tryz.func20, Tryz.ntmps20
     go_upto_region 1 with (fail)
     refine wp_name (fun w0 => Ext w w0 ∧ DsAt w0 w.heap.size d ∧ ArAt w0 (w.heap.size + 1) a q c p m ∧ ArAt w0 (w.heap.size + 1 + 1) b q' c' p' m') hda ?_
     clear hda
     rintro w0 ⟨he0, hd0, ha0, hb0⟩
     go_upto_region 4 with (first
       | ((with_reducible (show wpList _ _ _ (⟨some 12, _, _, _, _, _⟩ :: _) _ _)); refine wpList_ds (o := ⟨some 12, _, _, _, _, _⟩) rfl (.tmp 3) rfl _ rfl d hd0 ?_)
       | ((with_reducible (show wpList _ _ _ (⟨some 13, _, _, _, _, _⟩ :: _) _ _)); refine wpList_row (o := ⟨some 13, _, _, _, _, _⟩) rfl 29 (.tmp 4) rfl _ rfl _ _ _ ha0 arDesc rfl arSize ?_)
       | (go_at_call 19; refine (HP.out _ he0).mono ?_; rintro e w1 ⟨he1, v1, rfl, ho1⟩; obtain ⟨qx, cx, rfl⟩ := own_slice ho1))
     have hx1 := he1.trans (Ext.alloc w1 (.cells #[.slice qx (refL d a).length cx] 51))
     have hd1 := hd0.ext hx1
     have hb1 := hb0.ext hx1
     have Hx1 := Lib.hid (he0.trans hx1)
     clear hx1 ho1 he1 HP
     go_wp2_with (first
       | ((with_reducible (show wpList _ _ _ (⟨some 21, _, _, _, _, _⟩ :: _) _ _)); refine wpList_ds (o := ⟨some 21, _, _, _, _, _⟩) rfl (.tmp 3) rfl _ rfl d hd1 ?_)
       | ((with_reducible (show wpList _ _ _ (⟨some 22, _, _, _, _, _⟩ :: _) _ _)); refine wpList_row (o := ⟨some 22, _, _, _, _, _⟩) rfl 29 (.tmp 5) rfl _ rfl _ _ _ hb1 arDesc rfl arSize ?_)
       | (go_at_call 19; refine (HQ.out _ Hx1.out).mono ?_; rintro e w2 ⟨he2, v2, rfl, ho2⟩))
     exact (Hout.out _ _).2 ⟨Hx1.out.trans he2, none, 0, by rw [HE.out.1, HE.out.2]; rfl, by rw [HE.out.2]; exact .inl rfl⟩
   · have J := area_iff.1 hB
     obtain ⟨hY1, hY2⟩ := refL_len J
     have HE : Hid (writesE d a b = 0 ∧ writesD d a b = writesL (refL d a) (refL d b)) := Lib.hid (by unfold writesE writesD; rw [if_pos ⟨hA, hB⟩, if_pos ⟨hA, hB⟩]; exact ⟨rfl, rfl⟩)
     have HPE2 : Hid (pagesE d b = 0 ∧ pagesD d b = refL d b) := Lib.hid (by unfold pagesE pagesD; rw [hB]; exact ⟨rfl, rfl⟩)
     generalize WritesOut d a b w = OUT at *
     clear hA hB hv hv' I J
     unfold PagesOut at HQ
     rw [HPE2.out.1, HPE2.out.2] at HQ
     generalize refL d a = X at *
     generalize refL d b = Y at *
     go_enter Tryz.func20, Tryz.ntmps20
     go_upto_region 1 with (fail)
     refine wp_name (fun w0 => Ext w w0 ∧ DsAt w0 w.heap.size d ∧ ArAt w0 (w.heap.size + 1) a q c p m ∧ ArAt w0 (w.heap.size + 1 + 1) b q' c' p' m') hda ?_
     clear hda
     rintro w0 ⟨he0, hd0, ha0, hb0⟩
     go_upto_region 4 with (first
       | ((with_reducible (show wpList _ _ _ (⟨some 12, _, _, _, _, _⟩ :: _) _ _)); refine wpList_ds (o := ⟨some 12, _, _, _, _, _⟩) rfl (.tmp 3) rfl _ rfl d hd0 ?_)
       | ((with_reducible (show wpList _ _ _ (⟨some 13, _, _, _, _, _⟩ :: _) _ _)); refine wpList_row (o := ⟨some 13, _, _, _, _, _⟩) rfl 29 (.tmp 4) rfl _ rfl _ _ _ ha0 arDesc rfl arSize ?_)
       | (go_at_call 19; refine (HP.out _ he0).mono ?_; rintro e w1 ⟨he1, v1, rfl, ho1⟩; obtain ⟨qx, cx, rfl⟩ := own_slice ho1))
     obtain ⟨gx, _, rfl, _⟩ := own_parts ho1 (by omega)
     have hrx := (own_rowW ho1).1
     have hal := Ext.alloc w1 (.cells #[.slice (some ⟨gx, 0, none⟩) X.length cx] 51)
     have hx1 := he1.trans hal
     have hd1 := hd0.ext hx1
     have hb1 := hb0.ext hx1
     have Hx1 := Lib.hid (he0.trans hx1)
     have Hcb := Lib.hid (Blk.new w1 (.cells #[.slice (some ⟨gx, 0, none⟩) X.length cx] 51))
     have Hrx := Lib.hid (hrx.ext hal)
     clear hx1 ho1 he1 HP hal hrx
     generalize w1.heap.size = cb at *
     generalize w1.alloc (.cells #[.slice (some ⟨gx, 0, none⟩) X.length cx] 51) = wb at *
     go_upto_region 7 with (first
       | ((with_reducible (show wpList _ _ _ (⟨some 21, _, _, _, _, _⟩ :: _) _ _)); refine wpList_ds (o := ⟨some 21, _, _, _, _, _⟩) rfl (.tmp 3) rfl _ rfl d hd1 ?_)
       | ((with_reducible (show wpList _ _ _ (⟨some 22, _, _, _, _, _⟩ :: _) _ _)); refine wpList_row (o := ⟨some 22, _, _, _, _, _⟩) rfl 29 (.tmp 5) rfl _ rfl _ _ _ hb1 arDesc rfl arSize ?_)
       | (go_at_call 19; refine (HQ.out _ Hx1.out).mono ?_; rintro e w2 ⟨he2, v2, rfl, ho2⟩; obtain ⟨qy, cy, rfl⟩ := own_slice ho2))
     obtain ⟨gy, _, rfl, _⟩ := own_parts ho2 (by omega)
     obtain ⟨hry, _, hcy, hcm, hgy⟩ := own_rowW ho2
     have hgx : gx < wb.heap.size := by obtain ⟨_, h, _⟩ := Hrx.out; exact Blk.lt h
     have Hx2 := Lib.hid (Hx1.out.trans he2)
     have HD := Lib.hid (DeleteW_any gy (cy * 2) cy (some ⟨gx, 0, none⟩) cx cb X Y w2 (he2.blk _ _ Hcb.out) (fun W hW => rowW_wrts (rowW_grown (Hrx.out.ext he2) hW (by omega))) hry (by omega) (by omega) hcy hcm rfl)
     have Hgy : Hid (w.heap.size ≤ gy) := Lib.hid (Nat.le_trans Hx1.out.size hgy)
     clear ho2 he2 hry hcy hcm hgy hgx HQ hd0 ha0 hb0 he0 hd1 hb1
     go_wp2_with (go_at_call 53; refine HD.out.mono ?_; rintro e w3 ⟨hg3, c3, rfl, hr3⟩)
     exact (Hout.out _ _).2 ⟨Ext.trans' Hx2.out ((Below.refl _ w2).grown hg3 Hx2.out.size fun x hx => by simp at hx; have := Hgy.out; omega), some ⟨gy, 0, none⟩, c3, by rw [HE.out.1, HE.out.2]; rfl, by rw [HE.out.2]; exact rowW_wrts hr3⟩
end Go.Proofs.YtifmbcjbccedfaaGreatDoor
namespace Dsd
end Dsd
namespace Go.Proofs.YtifmbcjbccedfaaGreatDoor
open Go.RowKit Dsd
end Go.Proofs.YtifmbcjbccedfaaGreatDoor
