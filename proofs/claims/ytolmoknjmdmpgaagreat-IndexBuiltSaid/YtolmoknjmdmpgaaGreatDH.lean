/- The walk of package index's descend, with any visitor. -/
import Derived.Test.YtolmoknjmdmpgaaGreatDG
set_option linter.unusedSimpArgs false
set_option linter.unusedVariables false
namespace Go.Proofs.YtolmoknjmdmpgaaGreat
open Go.RowKit Dsd
/-- A visitor: what it may turn (T), what stands after so many visits (S). -/
structure Visit (f : FuncId) (caps : Array Value) (T : World → World → Prop) (m : List (List UInt8)) (h : Hd) (d : DS) (key : List UInt8) (S : Nat → World → Prop) : Prop where
  call : ∀ args W, (callFunc f args).run Tryz.prog W = .ok (.enter f args) W
  ext : ∀ j W W', Ext W W' → S j W → S j W'
  trans : ∀ W W' W'', T W W' → T W' W'' → T W W''
  ofExt : ∀ W W', Ext W W' → T W W'
  size : ∀ W W', T W W' → W.heap.size ≤ W'.heap.size
  keep : ∀ W W' b cs t, T W W' → (t = 70 ∨ t = 53 ∨ t = 75) → Blk W b (.cells cs t) → Blk W' b (.cells cs t)
  go : ∀ j, j < h.height.toNat → erTo m h d key (j + 1) = 0 → ∀ W q c B0, S j W → W.ownsRow B0 75 2 (.slice q (ndAt m h d key j).ents.length c) (ndAt m h d key j).ents.length (entCells (ndAt m h d key j).ents) →
    Calls Tryz.prog f (#[.agg #[.int .i64 (ndAt m h d key j).level, .int .i64 (ndAt m h d key j).next, .slice q (ndAt m h d key j).ents.length c], .int .i64 (findNd (ndAt m h d key j).ents key : Nat)] ++ caps) W fun e W' => e = .returned (.tuple #[]) ∧ S (j + 1) W' ∧ T W W'
theorem Visit.own {f : FuncId} {caps : Array Value} {T : World → World → Prop} {m : List (List UInt8)} {h : Hd} {d : DS} {key : List UInt8} {S : Nat → World → Prop} (V : Visit f caps T m h d key S) {w w' : World} {B n : Nat} {v : Value} {xs : List Value}
    (ho : w.ownsRow B 75 2 v n xs) (hT : T w w') : w'.ownsRow B 75 2 v n xs := by
  refine ⟨ho.1, ?_⟩
  rcases ho.2 with hn | ⟨b, cap, cur, rfl, hb, hgb, rest⟩
  · exact .inl hn
  · exact .inr ⟨b, cap, cur, rfl, hb, V.keep _ _ _ _ _ hT (.inr (.inr rfl)) hgb, rest⟩
set_option maxRecDepth 100000 in
set_option maxHeartbeats 4000000 in
theorem descend_any (f : FuncId) (caps : Array Value) (T : World → World → Prop) (p : Option Addr) (cap n : Nat) (m : List (List UInt8)) (h : Hd) (d : DS) (key : List UInt8) (S : Nat → World → Prop) (hV : Visit f caps T m h d key S) (hz : door22 h d = 0) (w : World) (h0 : S 0 w)
    (hs : ∀ W, T w W → Strs W p m) (hn : m.length = n) (hm : Small m) :
    Calls Tryz.prog 27 #[.agg (trC (.slice p n cap) h d), .string ⟨key.toArray⟩, .func (.func f) #[] caps] w fun e w' => e = .returned (.int .i64 (erTo m h d key h.height.toNat)) ∧ T w w' ∧ (erTo m h d key h.height.toNat = 0 → S h.height.toNat w') := by
  obtain ⟨k1, k2, k3, k4, k5, k6, k7⟩ := door22_zero hz
  have HV := Lib.hid hV
  have Hs := Lib.hid hs
  have hcall := hV.call
  have hex := Ext.alloc w (.cells (trC (.slice p n cap) h d) 70)
  have hb := Blk.new w (.cells (trC (.slice p n cap) h d) 70)
  have H0 := Lib.hid (hV.ext 0 w _ hex h0)
  have HL := Lib.hid (fun page level W (hh : Strs W p m) => load22_any p cap n m h d page level W hh hn hm)
  obtain ⟨H, hH⟩ : ∃ H : Nat, h.height = H := ⟨h.height.toNat, by omega⟩
  have hHn : h.height.toNat = H := by omega
  rw [hHn]
  have HHn := Lib.hid hHn
  have HH := Lib.hid hH
  have hH6 : H ≤ 6 := by omega
  clear hV hs hz k1 k2 k3 k4 k5 k6 k7 hHn h0
  go_enter Tryz.func27, Tryz.ntmps27
  go_upto_region 1 with (fail)
  refine wp_name (fun w0 => T w w0 ∧ Blk w0 w.heap.size (.cells (trC (.slice p n cap) h d) 70) ∧ S 0 w0) ⟨HV.out.ofExt _ _ hex, hb, H0.out⟩ ?_
  clear hex hb H0
  rintro w0 ⟨hg0, hb0, hS0⟩
  have c4 : w0.cell? ⟨w.heap.size, 4, none⟩ = some (.int .i64 h.root) := Blk.val hb0 4 _ rfl
  have c5 : w0.cell? ⟨w.heap.size, 5, none⟩ = some (.int .i64 h.height) := Blk.val hb0 5 _ rfl
  have l0 := Blk.lt hb0
  rw [hH] at c5
  clear hH
  go_upto_region 3 with (fail)
  go_loopw [7, 8] (fun pg lv wr => ∃ j : Nat, j ≤ H ∧ pg = .int .i64 (pgAt m h d key j) ∧ lv = .int .i64 ((H - j : Nat) : Int) ∧ erTo m h d key j = 0 ∧ T w wr ∧ Blk wr w.heap.size (.cells (trC (.slice p n cap) h d) 70) ∧ S j wr) (fun _ lv _ => (intOf lv).toNat)
  case atStart => exact ⟨0, Nat.zero_le _, rfl, by simp, rfl, hg0, hb0, hS0⟩
  case round =>
    clear hg0 hb0 hS0 c4 c5 l0
    obtain ⟨j, hj, rfl, rfl, her, hg, hb, hS⟩ := hrel
    by_cases hlt2 : j < H
    · have hpos : (0 : Int) < ((H - j : Nat) : Int) := by omega
      have hlv : h.height - (j : Int) = ((H - j : Nat) : Int) := by have := HH.out; omega
      have hL := HL.out (pgAt m h d key j) ((H - j : Nat) : Int) wr (Hs.out wr hg)
      have hEr := erTo_next her
      have hnd : ndAt m h d key j = (loadD m d (pgAt m h d key j) ((H - j : Nat) : Int)).1 := by unfold ndAt; rw [hlv]
      have hea : erAt m h d key j = (loadD m d (pgAt m h d key j) ((H - j : Nat) : Int)).2 := by unfold erAt; rw [hlv]
      unfold Load22 at hL
      rw [← hnd, ← hea] at hL
      have HLd := Lib.hid hL
      have HB := Lib.hid (And.intro hg (And.intro hb hS))
      by_cases he0 : erAt m h d key j = 0
      · have hsp : NSpec (ndAt m h d key j) := by
          rw [hnd]; exact (load_spec (by rw [← hea]; exact he0)).1
        have hne : (ndAt m h d key j).ents ≠ [] := by have := hsp.l1; intro h9; rw [h9] at this; simp at this
        have hfl := find_lt key hne
        have HF := Lib.hid (fun W q c (hh : Nents W q (ndAt m h d key j).ents) => FindN_any q c (ndAt m h d key j) key W hh (by have := hsp.l2; omega))
        unfold ndV at HF
        have HG := Lib.hid (fun W q c B0 => HV.out.go j (by have := HHn.out; omega) (by rw [hEr]; exact he0) W q c B0)
        have HNe := Lib.hid hne
        have HPg := Lib.hid (pgAt_succ m h d key j)
        have HEr := Lib.hid (hEr.trans he0)
        have hl120 := hsp.l2
        rw [he0] at HLd
        clear hL hEr hnd hea her hg hS he0 hsp hne
        generalize hpg2 : pgAt m h d key (j + 1) = pg' at *
        have HP2 := Lib.hid hpg2
        clear hpg2
        generalize findNd (ndAt m h d key j).ents key = i at *
        generalize ndAt m h d key j = nd at *
        generalize pgAt m h d key j = pg at *
        have hfI : (i : Int) < nd.ents.length := by omega
        go_upto_region 10 with (first
          | ((with_reducible (show wpList _ _ _ (⟨some 23, _, _, _, _, _⟩ :: _) _ _)); refine wpList_row (o := ⟨some 23, _, _, _, _, _⟩) rfl 70 (.tmp 3) rfl _ rfl _ _ _ hb trDesc rfl trSize ?_)
          | (go_at_call 51; refine HLd.out.mono ?_; rintro e w2 ⟨he2, q2, c2, rfl, hn2⟩)
          | (refine wpList_put rfl 53 (.tmp 9) (.tmp 27) rfl _ #[.int .i64 nd.level, .int .i64 nd.next, .slice q2 nd.ents.length c2] rfl rfl _ _ (Blk.new w2 _) ndSize rfl (by simp [Value.oneCell']) ?_; intro w3 hn3 hc3; have hx3 := hc3.ext (Ext.alloc _ _) (Nat.le_refl _); have ho3 := own_ext hn2 hx3)
          | ((with_reducible (show wpList _ _ _ (⟨some 32, _, _, _, _, _⟩ :: _) _ _)); refine wpList_row (o := ⟨some 32, _, _, _, _, _⟩) rfl 53 (.tmp 9) rfl _ rfl _ _ _ hn3 ndDesc rfl ndSize ?_)
          | (go_at_call 52; refine (HF.out _ q2 c2 (own_cellsND ho3)).mono ?_; rintro e w4 ⟨hr4, _, hx4⟩; obtain rfl := hr4 HNe.out; have hn4 := hx4.blk _ _ hn3; have ho4 := own_ext ho3 hx4)
          | ((with_reducible (show wpList _ _ _ (⟨some 36, _, _, _, _, _⟩ :: _) _ _)); refine wpList_row (o := ⟨some 36, _, _, _, _, _⟩) rfl 53 (.tmp 9) rfl _ rfl _ _ _ hn4 ndDesc rfl ndSize ?_)
          | (refine (HG.out _ q2 c2 _ (HV.out.ext _ _ _ hx4 (HV.out.ext _ _ _ hx3 (HV.out.ext _ _ _ he2 HB.out.2.2))) ho4).mono ?_; rintro e w5 ⟨rfl, hS5, hg5⟩))
        have hg3 : T w w5 := HV.out.trans _ _ _ HB.out.1 (HV.out.trans _ _ _ (HV.out.ofExt _ _ ((he2.trans hx3).trans hx4)) hg5)
        have hn5 := HV.out.keep _ _ _ _ _ hg5 (.inr (.inl rfl)) hn4
        have hb5 : Blk w5 w.heap.size (.cells (trC (.slice p n cap) h d) 70) := HV.out.keep _ _ _ _ _ hg5 (.inl rfl) (hx4.blk _ _ (hx3.blk _ _ (he2.blk _ _ HB.out.2.1)))
        have ho5 := HV.out.own ho4 hg5
        obtain ⟨g, rfl, hgl, hcc⟩ : ∃ g, q2 = some ⟨g, 0, none⟩ ∧ g < w5.heap.size ∧ w5.cell? ⟨g, i * 2 + 1, none⟩ = some (.int .i64 (entAt nd.ents i).2) := by
          obtain ⟨g, off, hq, hgl, hcc⟩ := (own_cellsND ho5).at i hfl
          obtain ⟨g', _, hq', _⟩ := own_parts ho5 (by omega)
          rw [hq'] at hq
          simp only [Option.some.injEq, Addr.mk.injEq, and_true] at hq
          obtain ⟨rfl, rfl⟩ := hq
          have := (hcc i hfl).2
          rw [Nat.zero_add] at this
          exact ⟨g', hq', hgl, this⟩
        have c52 := Blk.val hn5 2 _ rfl
        have l52 := Blk.lt hn5
        have HR := Lib.hid (And.intro hg3 (And.intro hb5 hS5))
        clear hg3 hb5 hS5 hg5 hn4 hn3 ho3 ho4 ho5 hx3 hx4 hc3 he2 hn2 hb hn5
        rw [← HPg.out] at hcc
        go_wp2_with fail
        go_roundw
        case rel => exact ⟨j + 1, by omega, by rw [HP2.out], by go_num, HEr.out, HR.out.1, HR.out.2.1, HR.out.2.2⟩
        case measure => simp [intOf]; omega
      · have hst := erTo_stay (M := m) (h := h) (d := d) (key := key) (k := j + 1) (by rw [hEr]; exact he0) H (by omega)
        have HST := Lib.hid (hst.trans hEr)
        have hei : (erAt m h d key j != 0) = true := by simpa using he0
        have HE0 := Lib.hid he0
        clear hL hst hEr hnd hea her hg hS he0
        generalize ndAt m h d key j = nd at *
        generalize erAt m h d key j = er at *
        generalize pgAt m h d key j = pg at *
        go_wp2_with (first
          | ((with_reducible (show wpList _ _ _ (⟨some 23, _, _, _, _, _⟩ :: _) _ _)); refine wpList_row (o := ⟨some 23, _, _, _, _, _⟩) rfl 70 (.tmp 3) rfl _ rfl _ _ _ hb trDesc rfl trSize ?_)
          | (go_at_call 51; refine HLd.out.mono ?_; rintro e w2 ⟨he2, q2, c2, rfl, hn2⟩)
          | (refine wpList_put rfl 53 (.tmp 9) (.tmp 27) rfl _ #[.int .i64 nd.level, .int .i64 nd.next, .slice q2 nd.ents.length c2] rfl rfl _ _ (Blk.new w2 _) ndSize rfl (by simp [Value.oneCell']) ?_; intro w3 hn3 hc3))
        go_ret
        exact ⟨by rw [HST.out]; rfl, HV.out.trans _ _ _ HB.out.1 (HV.out.ofExt _ _ (hc3.ext (he2.trans (Ext.alloc _ _)) he2.size)), fun h9 => absurd (HST.out.symm.trans h9) HE0.out⟩
    · have hjH : j = H := by omega
      subst hjH
      have hpos : decide ((0 : Int) < ((j - j : Nat) : Int)) = false := by simp
      go_wp2
      go_ret
      exact ⟨by rw [her]; rfl, hg, fun _ => hS⟩
end Go.Proofs.YtolmoknjmdmpgaaGreat
