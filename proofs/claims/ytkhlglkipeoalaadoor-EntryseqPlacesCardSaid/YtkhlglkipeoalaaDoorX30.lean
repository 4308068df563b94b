/- The walk of the law EntryseqPlaces. -/
import Derived.Test.YtkhlglkipeoalaaDoorX29
import Derived.Test.YtkhlglkipeoalaaDoorPD
set_option linter.unusedSimpArgs false
set_option linter.unusedVariables false
namespace Go.Proofs.YtkhlglkipeoalaaDoor
open Go.RowKit Dsd

/-- A record of an allowed length. -/
def goodR (d : DS) (r : List UInt8) : Bool := decide (1 ≤ r.length) && decide ((r.length : Int) ≤ d.length)

set_option maxRecDepth 100000 in
set_option maxHeartbeats 4000000 in
theorem EntryseqPlaces_no (p q : Option Addr) (cap n cap2 n2 : Nat) (L M : Recs) (d : DS) (w : World) (hs : Strs w p L) (hn : L.length = n) (hl : L.length ≤ maxLen) (hq : Strs w q M) (hn2 : M.length = n2) (hl2 : M.length ≤ maxLen)
    (hno : (shortB L 20 300 && shortB M 20 300 && validB d && decide (d.org = 1)) = false) :
    Calls Tryd.prog 4 #[.agg #[.int .i64 d.id, .int .i64 d.org, .int .i64 d.format, .int .i64 d.length, .int .i64 d.block, .int .i64 d.keyAt, .int .i64 d.keyLength, .int .i64 d.interval, .int .i64 d.area, .int .i64 d.freeInterval, .int .i64 d.freeArea, .int .i64 d.base, .int .i64 d.altAt, .int .i64 d.altLength, .bool d.unique, .int .i64 d.cls, .string ⟨d.volume.toArray⟩, .string ⟨d.owner.toArray⟩, .int .i64 d.created, .int .i64 d.expires, .bool d.archived], .slice p n cap, .slice q n2 cap2] w fun e w' => e = .returned (.bool true) ∧ Ext w w' := by
  have HS1 : Hid (∀ w, Strs w p L → Calls Tryd.prog 16 #[.slice p n cap, .int .i64 20, .int .i64 300] w fun e w' => e = .returned (.bool (shortB L 20 300)) ∧ w = w') := Lib.hid (fun w h => Short_any p cap n L 20 300 w h hn hl)
  have HS2 : Hid (∀ w, Strs w q M → Calls Tryd.prog 16 #[.slice q n2 cap2, .int .i64 20, .int .i64 300] w fun e w' => e = .returned (.bool (shortB M 20 300)) ∧ w = w') := Lib.hid (fun w h => Short_any q cap2 n2 M 20 300 w h hn2 hl2)
  have Hs := Lib.hid hs
  have Hq := Lib.hid hq
  have HV := Lib.hid (fun w => Valid_ref d w)
  clear hs hq
  generalize shortB L 20 300 = s1 at *
  generalize shortB M 20 300 = s2 at *
  generalize validB d = s3 at *
  have hoI : (d.org != 1) = !decide (d.org = 1) := by by_cases h : d.org = 1 <;> simp [h]
  generalize decide (d.org = 1) = s4 at *
  cases s1
  · clear hno
    go_enter Tryd.func4, Tryd.ntmps4
    go_upto_region 1 with (fail)
    refine wp_name (fun w0 => Ext w w0) (Ext.alloc _ _) ?_
    intro w0 he0
    go_wp2_with (first | (go_at_call 10; refine (awake_any _).mono ?_; rintro e w1 ⟨rfl, he1⟩) | (go_at_call 16; (first | with_reducible refine (HS1.out _ (Hs.out.ext (he0.trans he1))).mono ?_ | with_reducible refine (HS2.out _ (Hq.out.ext (he0.trans he1))).mono ?_); rintro e w2 ⟨rfl, rfl⟩))
    go_ret
    exact ⟨rfl, he0.trans he1⟩
  · cases s2
    · clear hno
      go_enter Tryd.func4, Tryd.ntmps4
      go_upto_region 1 with (fail)
      refine wp_name (fun w0 => Ext w w0 ∧ DsAt w0 w.heap.size d) ⟨Ext.alloc _ _, Blk.new _ _⟩ ?_
      rintro w0 ⟨he0, hb2⟩
      go_wp2_with (first | (go_at_call 10; refine (awake_any _).mono ?_; rintro e w1 ⟨rfl, he1⟩) | (go_at_call 16; (first | with_reducible refine (HS1.out _ (Hs.out.ext (he0.trans he1))).mono ?_ | with_reducible refine (HS2.out _ (Hq.out.ext (he0.trans he1))).mono ?_); rintro e w2 ⟨rfl, rfl⟩) | (refine wpList_ds rfl (.tmp 3) rfl _ rfl d (hb2.ext he1) ?_) | (go_at_call 17; refine (HV.out _).mono ?_; rintro e w3 ⟨rfl, he3⟩; have c1 : w3.cell? ⟨w.heap.size, 1, none⟩ = some (.int .i64 d.org) := Blk.val ((hb2.ext he1).ext he3) 1 _ rfl))
      go_ret
      exact ⟨rfl, he0.trans he1⟩
    · cases s3
      · clear hno
        go_enter Tryd.func4, Tryd.ntmps4
        go_upto_region 1 with (fail)
        refine wp_name (fun w0 => Ext w w0 ∧ DsAt w0 w.heap.size d) ⟨Ext.alloc _ _, Blk.new _ _⟩ ?_
        rintro w0 ⟨he0, hb2⟩
        go_wp2_with (first | (go_at_call 10; refine (awake_any _).mono ?_; rintro e w1 ⟨rfl, he1⟩) | (go_at_call 16; (first | with_reducible refine (HS1.out _ (Hs.out.ext (he0.trans he1))).mono ?_ | with_reducible refine (HS2.out _ (Hq.out.ext (he0.trans he1))).mono ?_); rintro e w2 ⟨rfl, rfl⟩) | (refine wpList_ds rfl (.tmp 3) rfl _ rfl d (hb2.ext he1) ?_) | (go_at_call 17; refine (HV.out _).mono ?_; rintro e w3 ⟨rfl, he3⟩; have c1 : w3.cell? ⟨w.heap.size, 1, none⟩ = some (.int .i64 d.org) := Blk.val ((hb2.ext he1).ext he3) 1 _ rfl))
        go_ret
        exact ⟨rfl, (he0.trans he1).trans he3⟩
      · simp at hno
        subst hno
        go_enter Tryd.func4, Tryd.ntmps4
        go_upto_region 1 with (fail)
        refine wp_name (fun w0 => Ext w w0 ∧ DsAt w0 w.heap.size d) ⟨Ext.alloc _ _, Blk.new _ _⟩ ?_
        rintro w0 ⟨he0, hb2⟩
        go_wp2_with (first | (go_at_call 10; refine (awake_any _).mono ?_; rintro e w1 ⟨rfl, he1⟩) | (go_at_call 16; (first | with_reducible refine (HS1.out _ (Hs.out.ext (he0.trans he1))).mono ?_ | with_reducible refine (HS2.out _ (Hq.out.ext (he0.trans he1))).mono ?_); rintro e w2 ⟨rfl, rfl⟩) | (refine wpList_ds rfl (.tmp 3) rfl _ rfl d (hb2.ext he1) ?_) | (go_at_call 17; refine (HV.out _).mono ?_; rintro e w3 ⟨rfl, he3⟩; have c1 : w3.cell? ⟨w.heap.size, 1, none⟩ = some (.int .i64 d.org) := Blk.val ((hb2.ext he1).ext he3) 1 _ rfl))
        go_ret
        exact ⟨rfl, (he0.trans he1).trans he3⟩

theorem all_good (d : DS) (M : Recs) : M.all (goodR d) = true ↔ ∀ r ∈ M, 1 ≤ r.length ∧ (r.length : Int) ≤ d.length := by simp [goodR, List.all_eq_true]
theorem addrsC_len (size : Int) : ∀ (rs : Recs) (C : List Recs), (addrsC size C rs).length = rs.length
  | [], C => rfl
  | r :: rs, C => by simp [addrsC, addrsC_len size rs]
/-- Records appended, one after the other. -/
def foldC (size : Int) (C : List Recs) (M : Recs) : List Recs := M.foldl (putC size) C
theorem foldC_snoc (size : Int) (M : Recs) (C : List Recs) (j : Nat) (h : j < M.length) : foldC size C (M.take (j + 1)) = putC size (foldC size C (M.take j)) (M.getD j []) := by
  unfold foldC
  rw [List.take_succ_eq_append_getElem h, List.foldl_append]
  simp [List.getD, h]
theorem addrsC_at2 (size : Int) (rs : Recs) (C : List Recs) (j : Nat) (h : j < rs.length) : (addrsC size C rs).getD j 0 = addrP size (foldC size C (rs.take j)) (rs.getD j []) := addrsC_at size rs C j h
theorem foldC_made (d : DS) (hv : validB d = true) : ∀ (rs : Recs) (C : List Recs), Made d C → (∀ r ∈ rs, 1 ≤ r.length ∧ (r.length : Int) ≤ d.length) →
    Made d (foldC d.interval C rs) ∧ ((foldC d.interval C rs).map List.length).sum = (C.map List.length).sum + rs.length
  | [], C, h, _ => ⟨h, by simp [foldC]⟩
  | r :: rs, C, h, hg => by
    obtain ⟨h1, h2⟩ := hg r (by simp)
    obtain ⟨h3, h4⟩ := foldC_made d hv rs (putC d.interval C r) (h.put hv h1 h2) (fun s hs => hg s (by simp [hs]))
    exact ⟨h3, by
      show ((foldC d.interval (putC d.interval C r) rs).map List.length).sum = _
      rw [h4, count_put]; simp; omega⟩

set_option maxRecDepth 100000 in
set_option maxHeartbeats 4000000 in
theorem EntryseqPlaces_yes (p q : Option Addr) (cap n cap2 n2 : Nat) (L M : Recs) (d : DS) (w : World) (hs : Strs w p L) (hn : L.length = n) (hq : Strs w q M) (hn2 : M.length = n2)
    (h1 : shortB L 20 300 = true) (h2 : shortB M 20 300 = true) (hv : validB d = true) (ho : d.org = 1) :
    Calls Tryd.prog 4 #[.agg #[.int .i64 d.id, .int .i64 d.org, .int .i64 d.format, .int .i64 d.length, .int .i64 d.block, .int .i64 d.keyAt, .int .i64 d.keyLength, .int .i64 d.interval, .int .i64 d.area, .int .i64 d.freeInterval, .int .i64 d.freeArea, .int .i64 d.base, .int .i64 d.altAt, .int .i64 d.altLength, .bool d.unique, .int .i64 d.cls, .string ⟨d.volume.toArray⟩, .string ⟨d.owner.toArray⟩, .int .i64 d.created, .int .i64 d.expires, .bool d.archived], .slice p n cap, .slice q n2 cap2] w fun e w' => e = .returned (.bool true) ∧ Ext w w' := by
  obtain ⟨hL, hLs⟩ := short_at h1
  obtain ⟨hM, hMs⟩ := short_at h2
  have HS1 : Hid (∀ w, Strs w p L → Calls Tryd.prog 16 #[.slice p n cap, .int .i64 20, .int .i64 300] w fun e w' => e = .returned (.bool (shortB L 20 300)) ∧ w = w') := Lib.hid (fun w h => Short_any p cap n L 20 300 w h hn (by unfold maxLen; omega))
  have HS2 : Hid (∀ w, Strs w q M → Calls Tryd.prog 16 #[.slice q n2 cap2, .int .i64 20, .int .i64 300] w fun e w' => e = .returned (.bool (shortB M 20 300)) ∧ w = w') := Lib.hid (fun w h => Short_any q cap2 n2 M 20 300 w h hn2 (by unfold maxLen; omega))
  rw [h1] at HS1
  rw [h2] at HS2
  have HV := Lib.hid (fun w => Valid_ref d w)
  rw [hv] at HV
  have hMd := (builtC_made d hv L.length L (Nat.le_refl _))
  rw [List.take_length] at hMd
  obtain ⟨hMd, hcnt⟩ := hMd
  have HBu := Lib.hid (fun w h => build_any p cap n L d w h hn hv ho (by omega) hLs)
  have HPl := Lib.hid (places_made M hMd hv ho (by omega))
  have Hs := Lib.hid hs
  have Hq := Lib.hid hq
  have HMd := Lib.hid hMd
  have Hv := Lib.hid hv
  have Ho := Lib.hid ho
  have HMs := Lib.hid hMs
  subst hn hn2
  have hoI : (d.org != 1) = false := by simp [ho]
  generalize builtC d L = C at *
  clear hs hq h1 h2 hv ho hMd hLs hMs
  go_enter Tryd.func4, Tryd.ntmps4
  go_upto_region 1 with (fail)
  refine wp_name (fun w0 => Ext w w0 ∧ DsAt w0 w.heap.size d) ⟨Ext.alloc _ _, Blk.new _ _⟩ ?_
  rintro w0 ⟨he0, hb2⟩
  go_upto_region 5 with (first | (go_at_call 10; refine (awake_any _).mono ?_; rintro e w1 ⟨rfl, he1⟩) | (go_at_call 16; (first | with_reducible refine (HS1.out _ (Hs.out.ext (he0.trans he1))).mono ?_ | with_reducible refine (HS2.out _ (Hq.out.ext (he0.trans he1))).mono ?_); rintro e w2 ⟨rfl, rfl⟩) | (refine wpList_ds rfl (.tmp 3) rfl _ rfl d (hb2.ext he1) ?_) | (go_at_call 17; refine (HV.out _).mono ?_; rintro e w3 ⟨rfl, he3⟩; have c1 : w3.cell? ⟨w.heap.size, 1, none⟩ = some (.int .i64 d.org) := Blk.val ((hb2.ext he1).ext he3) 1 _ rfl))
  refine wp_name (fun w4 => Ext w w4 ∧ DsAt w4 w.heap.size d) ⟨(he0.trans he1).trans he3, (hb2.ext he1).ext he3⟩ ?_
  clear hb2 he0 he1 he3 c1
  rintro w4 ⟨he4, hb4⟩
  go_upto_region 6 with (first | (refine wpList_ds rfl (.tmp 3) rfl _ rfl d hb4 ?_) | (go_at_call 18; refine (HBu.out _ (Hs.out.ext he4)).mono ?_; rintro e w5 ⟨he5, q1, k1, c1, q2, k2, c2, rfl, ho1, ho2⟩) | (refine wpList_put rfl 28 (.tmp 7) (.tmp 45) rfl _ #[.int .i64 (hdOf C).applied, .int .i64 (hdOf C).count, .int .i64 (hdOf C).fin, .int .i64 (hdOf C).root, .int .i64 (hdOf C).height, .int .i64 (hdOf C).splits, .int .i64 (hdOf C).areas] rfl rfl _ _ (Blk.new w5 _) hdSize rfl (hd_one (hdOf C)) ?_; intro w6 hb6 hc6))
  have hx5 := he4.trans he5
  obtain ⟨q1', c1', hq1⟩ := own_slice ho1
  cases hq1
  refine wp_name (fun w7 => AppIn w w5.heap.size d (hdOf C, memOf d.interval C) (.slice q1 (memOf d.interval C).length c1) w7 ∧ w5.heap.size < w7.heap.size) ⟨⟨hc6.ext (hx5.trans (Ext.alloc _ _)) hx5.size, hb6, hc6.blk (Blk.alloc (hb4.ext he5) _) (by have := Blk.lt (hb4.ext he5); omega), own_chgT (own_le (own_ext ho1 (Ext.alloc _ _)) he4.size) (by decide) (Blk.new w5 _) hc6⟩, Blk.lt hb6⟩ ?_
  have hhb := hx5.size
  have hwb : w.heap.size < w5.heap.size := Blk.lt (hb4.ext he5)
  generalize w5.heap.size = hb at *
  clear he4 he5 hx5 hb4 ho1 ho2 hb6 hc6
  rintro w7 ⟨hin, hhb7⟩
  have Hin := Lib.hid hin
  clear hin
  go_upto_region 7 with (fail)
  refine wp_name (fun w8 => Ext w7 w8 ∧ w8.ownsRow w7.heap.size 3 1 (.slice (some ⟨w7.heap.size, 0, none⟩) 0 0) 0 [] ∧ w7.heap.size < w8.heap.size) ⟨Ext.alloc _ _, World.ownsRow_made w7 #[] 0 (Nat.le_refl _) (by simp) rfl, by simp⟩ ?_
  rintro w8 ⟨he8, hr8, hz8⟩
  have Hr8 := Lib.hid hr8
  clear hr8
  go_wp2_with fail
  go_loopw [11, 12, 13] (fun v b i wr => ∃ j : Nat, j ≤ M.length ∧ i = .int .i64 j ∧ b = .bool ((M.take j).all (goodR d)) ∧ Ext w7 wr ∧ wr.ownsRow w7.heap.size 3 1 v j (((M.take j).map fun r => (r.length : Int)).map (Value.int .i64))) (fun _ _ i _ => M.length - (intOf i).toNat)
  case atStart => exact ⟨0, Nat.zero_le _, rfl, rfl, he8, by simpa using Hr8.out⟩
  case round =>
    obtain ⟨j, hj, rfl, rfl, hext, hrow⟩ := hrel
    by_cases hlt : j < M.length
    · have hltI : (j : Int) < M.length := by omega
      obtain ⟨b, off, rfl, hbb, hc⟩ := (Hq.out.ext Hin.out.1).at j hlt
      have hck7 := hc j hlt
      have hck := (hext.cell b _ hbb).trans hck7
      have hbbr := Nat.lt_of_lt_of_le hbb hext.size
      have hrl := HMs.out j
      have HT := Lib.hid (show (M.take (j + 1)).all (goodR d) = ((M.take j).all (goodR d) && goodR d (M.getD j [])) by rw [List.take_succ_eq_append_getElem hlt, List.all_append]; simp [List.getD, hlt])
      have HU := Lib.hid (show ((M.take (j + 1)).map fun r => (r.length : Int)) = ((M.take j).map fun r => (r.length : Int)) ++ [((M.getD j []).length : Int)] by rw [List.take_succ_eq_append_getElem hlt, List.map_append]; simp [List.getD, hlt])
      have hgd : goodR d (M.getD j []) = (decide (1 ≤ (M.getD j []).length) && decide (((M.getD j []).length : Int) ≤ d.length)) := rfl
      generalize M.getD j [] = r at *
      generalize (M.take j).all (goodR d) = fine at *
      have Hrow := Lib.hid hrow
      have Hext := Lib.hid hext
      have hwz := hext.size
      clear hc hrow hext
      go_upto_region 11 with (first | (at_builtin; go_must (refine wpList_app rfl (.tmp 56) (.tmp 62) 43 3 rfl w7.heap.size (.int .i64 0) 1 8 Tryd.underlying43 infoInt rfl (by decide) _ _ _ rfl (own_ext Hrow.out (Ext.alloc _ _)) _ [.int .i64 (r.length : Int)] rfl (Blk.new _ _) rfl (by intro u hu; simp at hu; subst hu; rfl) (by omega) (by decide) (by simp; omega) ?_; intro v9 w9 hout9 hgr9)))
      have hE9 := Ext.trans' (Hext.out.trans (Ext.alloc wr (.cells #[.int .i64 (r.length : Int)] 3))) (Below.of_grown (B := w7.heap.size) hgr9 (own_ext Hrow.out (Ext.alloc _ _)) (Nat.le_refl _) (by simp; omega))
      refine wp_name (fun wx => Ext w7 wx ∧ wx.ownsRow w7.heap.size 3 1 v9 (j + 1) (((M.take (j + 1)).map fun r => (r.length : Int)).map (Value.int .i64))) ⟨hE9, by rw [HU.out, List.map_append]; exact hout9⟩ ?_
      clear hE9 hout9 hgr9
      rintro wx ⟨hEx, hox⟩
      have Hox := Lib.hid hox
      have HEx := Lib.hid hEx
      have HGD := Lib.hid hgd
      have hckx := (hEx.cell b _ hbb).trans hck7
      have hbbx := Nat.lt_of_lt_of_le hbb hEx.size
      have c3 : wx.cell? ⟨w.heap.size, 3, none⟩ = some (.int .i64 d.length) := Blk.val (Hin.out.2.2.1.ext hEx) 3 _ rfl
      clear hEx hox hgd hck hck7 hbb hbbr
      cases fine
      · go_quiet (fail)
        go_wp2_with fail
        go_roundw
        case rel => exact ⟨j + 1, by omega, by go_num, by rw [HT.out]; rfl, HEx.out.trans (Ext.drewN _ _), own_drewN Hox.out⟩
        case measure => simp [intOf]; omega
      · by_cases hr1 : 1 ≤ r.length
        · have hl1I : decide ((1 : Int) ≤ r.length) = true := decide_eq_true (by omega)
          have hl1N : decide (1 ≤ r.length) = true := decide_eq_true hr1
          by_cases hr2 : (r.length : Int) ≤ d.length
          · have hl2I : decide ((r.length : Int) ≤ d.length) = true := decide_eq_true hr2
            have HG2 : Hid (goodR d r = true) := Lib.hid (by rw [HGD.out, hl1N, hl2I]; rfl)
            go_quiet (fail)
            go_wp2_with fail
            go_roundw
            case rel => exact ⟨j + 1, by omega, by go_num, by rw [HT.out, HG2.out]; rfl, HEx.out.trans (Ext.drewN _ _), own_drewN Hox.out⟩
            case measure => simp [intOf]; omega
          · have hl2I : decide ((r.length : Int) ≤ d.length) = false := decide_eq_false hr2
            have HG2 : Hid (goodR d r = false) := Lib.hid (by rw [HGD.out, hl1N, hl2I]; rfl)
            go_quiet (fail)
            go_wp2_with fail
            go_roundw
            case rel => exact ⟨j + 1, by omega, by go_num, by rw [HT.out, HG2.out]; rfl, HEx.out.trans (Ext.drewN _ _), own_drewN Hox.out⟩
            case measure => simp [intOf]; omega
        · have hl1I : decide ((1 : Int) ≤ r.length) = false := decide_eq_false (by omega)
          have hl1N : decide (1 ≤ r.length) = false := decide_eq_false hr1
          have HG2 : Hid (goodR d r = false) := Lib.hid (by rw [HGD.out, hl1N]; rfl)
          go_quiet (fail)
          go_wp2_with fail
          go_roundw
          case rel => exact ⟨j + 1, by omega, by go_num, by rw [HT.out, HG2.out]; rfl, HEx.out.trans (Ext.drewN _ _), own_drewN Hox.out⟩
          case measure => simp [intOf]; omega
    · obtain rfl : j = M.length := by omega
      have hltI : decide ((M.length : Int) < M.length) = false := decide_eq_false (by omega)
      rw [List.take_length] at hrow
      rw [List.take_length]
      obtain ⟨q8, c8, rfl, hq8, hl8⟩ := own_ints hrow
      obtain ⟨hin1, hb7, hd7, hm7⟩ := Hin.out
      have hm8 := own_ext hm7 hext
      obtain ⟨q1', c1', he1, hsq, _, _, _⟩ := own_strs_p hm8
      cases he1
      have hcl := count_len C (fun M hM => (HMd.out.good M hM).1)
      have hMs := memOf_small d.interval C (by omega)
      have HPc := Lib.hid (Places_own q1 q8 (memOf d.interval C).length c1 M.length c8 (memOf d.interval C) (hdOf C) d (M.map fun r => (r.length : Int)) wr hsq rfl hMs hq8 (by simp) (by omega))
      have hb7 := hb7.ext hext
      have hd7 := hd7.ext hext
      have Hext := Lib.hid hext
      have Hm8 := Lib.hid hm8
      have HIn1 := Lib.hid hin1
      obtain ⟨H, hH⟩ : ∃ H : Hd, H = hdOf C := ⟨_, rfl⟩
      rw [← hH] at HPc hb7
      have HHd := Lib.hid hH
      clear hext hm8 hsq hm7 hin1 hH hq8 hMs
      by_cases hgood : ∀ r ∈ M, 1 ≤ r.length ∧ (r.length : Int) ≤ d.length
      · have hall : M.all (goodR d) = true := (all_good d M).2 hgood
        have HR := HPl.out
        rw [if_pos hgood, ← HHd.out] at HR
        rw [HR] at HPc
        rw [hall]
        have hal2 : (addrsC d.interval C M).length = M.length := addrsC_len d.interval M C
        have HAt := Lib.hid (fun j hj => addrsC_at2 d.interval M C j hj)
        have HF := Lib.hid (fun j (h : j ≤ M.length) => foldC_made d Hv.out (M.take j) C HMd.out (fun r hr => hgood r (List.mem_of_mem_take hr)))
        have HG := Lib.hid hgood
        generalize addrsC d.interval C M = A at *
        clear hall HR hgood
        go_wp2_with (first | (refine wpList_hd rfl (.tmp 7) rfl _ rfl H hb7 ?_) | (refine wpList_ds rfl (.tmp 3) rfl _ rfl d hd7 ?_) | (go_at_call 19; refine HPc.out.mono ?_; rintro e w12 ⟨⟨he12, q14, k14, c14, rfl, hk14, hi14⟩, how14⟩))
        have how := own_le (how14 _ _ _ _ rfl) (Nat.zero_le _)
        simp only at hk14 how
        rw [hal2] at hk14
        subst hk14
        have Hstart := Lib.hid (show AppIn w hb d (hdOf (foldC d.interval C (M.take 0)), memOf d.interval (foldC d.interval C (M.take 0))) (.slice q1 (memOf d.interval C).length c1) w12 ∧ w12.ownsRow 0 3 1 (.slice q14 M.length c14) M.length (A.map (Value.int .i64)) from ⟨⟨(HIn1.out.trans Hext.out).trans he12, by simpa [foldC, ← HHd.out] using hb7.ext he12, hd7.ext he12, by simpa [foldC] using own_ext Hm8.out he12⟩, how⟩)
        clear hb7 hd7 hi14 how14 how he12
        go_loopw [8, 16] (fun v i wr2 => ∃ j : Nat, j ≤ M.length ∧ i = .int .i64 j ∧ AppIn w hb d (hdOf (foldC d.interval C (M.take j)), memOf d.interval (foldC d.interval C (M.take j))) v wr2 ∧ wr2.ownsRow 0 3 1 (.slice q14 M.length c14) M.length (A.map (Value.int .i64))) (fun _ i _ => M.length - (intOf i).toNat)
        case atStart => exact ⟨0, Nat.zero_le _, rfl, Hstart.out⟩
        case round =>
          obtain ⟨j, hj, rfl, hin2, hadr⟩ := hrel
          by_cases hlt : j < M.length
          · have hltI : (j : Int) < M.length := by omega
            obtain ⟨hMj, hcj⟩ := HF.out j hj
            have hlj : (M.take j).length = j := by simp; omega
            rw [hlj] at hcj
            have HSn := Lib.hid (foldC_snoc d.interval M C j hlt)
            have HA := Lib.hid (HAt.out j hlt)
            have hrl := HMs.out j
            have hgj := HG.out (M.getD j []) (by simp [List.getD, hlt])
            generalize foldC d.interval C (M.take j) = D at *
            have hcl2 := count_len D (fun M hM => (hMj.good M hM).1)
            obtain ⟨hext, hb5, hb2, hrow⟩ := hin2
            simp only at hb5 hrow
            have hMs := memOf_small d.interval D (by omega)
            have hmp : 0 < (memOf d.interval D).length := by rw [length_memOf]; omega
            have hml : (memOf d.interval D).length ≤ 1000 := by rw [length_memOf]; omega
            obtain ⟨qm, cm, rfl, hsq, _, _, _⟩ := own_strs_p hrow
            obtain ⟨ad, rfl⟩ := Option.isSome_iff_exists.1 (own_nonil hrow hmp)
            obtain ⟨b, off, rfl, hbb, hc⟩ := (Hq.out.ext hext).at j hlt
            have hck := hc j hlt
            obtain ⟨q14', c14', he14, hi14, _⟩ := own_ints hadr
            cases he14
            obtain ⟨b4, o4, rfl, hb4, hc4⟩ := hi14.at j (by omega)
            have hca := hc4 j (by omega)
            rw [HA.out] at hca
            generalize M.getD j [] = r at *
            have hAM := append_made (r := r) hMj Hv.out Ho.out (by omega)
            rw [if_pos hgj] at hAM
            have HA1 := Lib.hid (fun w' (e : Ext wr w') => (Append_any (some ad) (memOf d.interval D).length cm (memOf d.interval D) (hdOf D) d r w' (hsq.ext e) rfl hMs (by omega)).mono (fun e w'' a => appOut_F a))
            rw [hAM] at HA1
            have HPu := Lib.hid (fun w' (e : Ext wr w') q c WA (hw : Wrts w' q WA) (hl : WA.length ≤ 100) => (Put_any ad q (memOf d.interval D).length cm WA.length c (memOf d.interval D) WA w' (hsq.ext e) rfl hw rfl (by omega) hl).mono (show ∀ (e : Ending) (w'' : World), (Ext w' w'' ∧ ∃ v, e = .returned v ∧ w''.ownsRow w'.heap.size 9 1 v (putsP (memOf d.interval D) WA).length ((putsP (memOf d.interval D) WA).map fun s => .string ⟨s.toArray⟩)) → (∃ v, e = .returned v ∧ Ext w' w'' ∧ RowsF 9 w.heap.size 1 (putsP (memOf d.interval D) WA).length ((putsP (memOf d.interval D) WA).map fun s => .string ⟨s.toArray⟩) v w'') from fun e' w'' ⟨h1, v, h2, h3⟩ => ⟨v, h2, h1, by obtain ⟨q2, c2, rfl⟩ := own_slice h3; exact ⟨q2, c2, rfl, own_le h3 (hext.trans e).size⟩⟩))
            have HPM := Lib.hid (puts_made (size := d.interval) (C := D) (r := r) (by omega))
            generalize putC d.interval D r = D' at *
            generalize encStr d.interval (D'.headD []) = es at *
            generalize addrP d.interval D r = AT at *
            obtain ⟨G, hG⟩ : ∃ G : Hd, G = hdOf D' := ⟨_, rfl⟩
            obtain ⟨H2, hH2⟩ : ∃ H : Hd, H = hdOf D := ⟨_, rfl⟩
            obtain ⟨WA, hWA⟩ : ∃ WA : List (Int × List UInt8), WA = [((D'.length : Int), es)] := ⟨_, rfl⟩
            rw [← hG, ← hH2, ← hWA] at HA1
            rw [← hH2] at hb5
            rw [← hWA] at HPM
            have hl1 : WA.length ≤ 100 := by rw [hWA]; simp
            have HGd := Lib.hid hG
            have Hb5 := Lib.hid hb5
            have Hb2 := Lib.hid hb2
            have Hrow := Lib.hid hrow
            have Hext2 := Lib.hid hext
            have Hadr := Lib.hid hadr
            have hhb2 : hb < wr.heap.size := Blk.lt hb5
            clear hc hc4 hMs hsq hb5 hb2 hrow hext hadr hAM hG hH2 hWA hi14 hgj
            go_upto_region 18 with (fail)
            refine wp_region_pk 200 [(15, [(14, 17)])] (Ext.refl wr) (by kernel_rfl) (by kernel_rfl) (by kernel_rfl) (by kernel_rfl) (by kernel_rfl) (by kernel_rfl) (gok_one _ _ 15 14 17 (TChg wr.heap.size 28) (PtrF wr.heap.size (.cells #[.int .i64 G.applied, .int .i64 G.count, .int .i64 G.fin, .int .i64 G.root, .int .i64 G.height, .int .i64 G.splits, .int .i64 G.areas] 28)) (fun _ _ h => h.below) (PtrF.stable _ _) (by kernel_rfl)) ?_
            simp only [List.take_succ_cons, List.take_zero, List.take_nil, List.drop_succ_cons, List.drop_zero, List.drop_nil, List.map_cons, List.map_nil]
            repeat (first
              | (refine wpPL_step (o := ⟨some 17, _, _, _, _, _⟩) (PtrF wr.heap.size (.cells #[.int .i64 0, .int .i64 0, .int .i64 0, .int .i64 0, .int .i64 0, .int .i64 0, .int .i64 0] 28)) (PtrF.stable _ _) (by first | exact .inr (AppF.strong _ _ _ _ (by decide)) | exact .inr (WrF.strong _ _ _ _ (by decide)) | exact .inr (RowsF.strong _ _ _ _ _ _ _ _ (by decide)) | exact .inr (Fresh.strong _ _ _ _ _ _ _ (by decide)) | exact .inr (IfcF.strong (Fresh.strong _ _ _ _ _ _ _ (by decide)) _) | exact .inl (by kernel_rfl)) (by kernel_rfl) (by first | exact .inl rfl | exact .inr ⟨_, _, _, rfl, rfl, rfl⟩) ?_ ?_
                 · intro a w' he hr K hK
                   go_simp
                   exact hK _ _ (Ext.alloc _ _) ⟨_, rfl, Blk.new _ _, he.size⟩
                 simp only [setL, List.set_cons_succ, List.set_cons_zero])
              | (refine wpPL_det (o := ⟨some 120, _, _, _, _, _⟩) (v := .agg #[.int .i64 H2.applied, .int .i64 H2.count, .int .i64 H2.fin, .int .i64 H2.root, .int .i64 H2.height, .int .i64 H2.splits, .int .i64 H2.areas]) (by kernel_rfl) (by first | exact .inl rfl | exact .inr ⟨_, _, _, rfl, rfl, rfl⟩) ?_ ?_
                 · intro a w' he hr K hK
                   simp [Reads, Oper.looksAt, Op.operands, factAt, Is] at hr
                   exact wp_load_row 28 (.tmp 7) rfl (hb) (by go_simp) _ _ _ _ (he.blk _ _ Hb5.out) hdDesc rfl hdSize (hK _ (Ext.refl _))
                 simp only [setL, List.set_cons_succ, List.set_cons_zero])
              | (refine wpPL_det (o := ⟨some 121, _, _, _, _, _⟩) (v := .agg #[.int .i64 d.id, .int .i64 d.org, .int .i64 d.format, .int .i64 d.length, .int .i64 d.block, .int .i64 d.keyAt, .int .i64 d.keyLength, .int .i64 d.interval, .int .i64 d.area, .int .i64 d.freeInterval, .int .i64 d.freeArea, .int .i64 d.base, .int .i64 d.altAt, .int .i64 d.altLength, .bool d.unique, .int .i64 d.cls, .string ⟨d.volume.toArray⟩, .string ⟨d.owner.toArray⟩, .int .i64 d.created, .int .i64 d.expires, .bool d.archived]) (by kernel_rfl) (by first | exact .inl rfl | exact .inr ⟨_, _, _, rfl, rfl, rfl⟩) ?_ ?_
                 · intro a w' he hr K hK
                   simp [Reads, Oper.looksAt, Op.operands, factAt, Is] at hr
                   exact wp_load_row 23 (.tmp 3) rfl (w.heap.size) (by go_simp) _ _ _ _ (he.blk _ _ Hb2.out) dsDesc rfl dsSize (hK _ (Ext.refl _))
                 simp only [setL, List.set_cons_succ, List.set_cons_zero])
              | (refine wpPL_step (o := ⟨some 126, _, _, _, _, _⟩) (AppF ⟨G, WA, AT, 0⟩) (AppF.stable _) (by first | exact .inr (AppF.strong _ _ _ _ (by decide)) | exact .inr (WrF.strong _ _ _ _ (by decide)) | exact .inr (RowsF.strong _ _ _ _ _ _ _ _ (by decide)) | exact .inr (Fresh.strong _ _ _ _ _ _ _ (by decide)) | exact .inr (IfcF.strong (Fresh.strong _ _ _ _ _ _ _ (by decide)) _) | exact .inl (by kernel_rfl)) (by kernel_rfl) (by first | exact .inl rfl | exact .inr ⟨_, _, _, rfl, rfl, rfl⟩) ?_ ?_
                 · intro a w' he hr K hK
                   simp [Reads, Oper.looksAt, Op.operands, Call.operands, factAt, Is] at hr
                   go_simp
                   refine ((HA1.out w' he)).mono ?_
                   rintro e w'' ⟨v, rfl, he', hf⟩
                   exact hK _ _ he' hf
                 simp only [setL, List.set_cons_succ, List.set_cons_zero])
              | (refine wpPL_det (o := ⟨some 127, _, _, _, _, _⟩) (v := .agg #[.int .i64 G.applied, .int .i64 G.count, .int .i64 G.fin, .int .i64 G.root, .int .i64 G.height, .int .i64 G.splits, .int .i64 G.areas]) (by kernel_rfl) (by first | exact .inl rfl | exact .inr ⟨_, _, _, rfl, rfl, rfl⟩) ?_ ?_
                 · intro a w' he hr K hK
                   obtain ⟨q1, k1, c1, h1, h2, h3⟩ := hr 117 (by simp [Oper.looksAt, Op.operands])
                   simp at h1
                   go_simp
                   exact hK _ (Ext.refl _)
                 simp only [setL, List.set_cons_succ, List.set_cons_zero])
              | (refine wpPL_det (o := ⟨some 129, _, _, _, _, _⟩) (v := .int .i64 AT) (by kernel_rfl) (by first | exact .inl rfl | exact .inr ⟨_, _, _, rfl, rfl, rfl⟩) ?_ ?_
                 · intro a w' he hr K hK
                   obtain ⟨q1, k1, c1, h1, h2, h3⟩ := hr 117 (by simp [Oper.looksAt, Op.operands])
                   simp at h1
                   go_simp
                   exact hK _ (Ext.refl _)
                 simp only [setL, List.set_cons_succ, List.set_cons_zero])
              | (refine wpPL_det (o := ⟨some 130, _, _, _, _, _⟩) (v := .int .i64 0) (by kernel_rfl) (by first | exact .inl rfl | exact .inr ⟨_, _, _, rfl, rfl, rfl⟩) ?_ ?_
                 · intro a w' he hr K hK
                   obtain ⟨q1, k1, c1, h1, h2, h3⟩ := hr 117 (by simp [Oper.looksAt, Op.operands])
                   simp at h1
                   go_simp
                   exact hK _ (Ext.refl _)
                 simp only [setL, List.set_cons_succ, List.set_cons_zero])
              | (refine wpPL_step (o := ⟨some 128, _, _, _, _, _⟩) (WrF WA) (WrF.stable _) (by first | exact .inr (AppF.strong _ _ _ _ (by decide)) | exact .inr (WrF.strong _ _ _ _ (by decide)) | exact .inr (RowsF.strong _ _ _ _ _ _ _ _ (by decide)) | exact .inr (Fresh.strong _ _ _ _ _ _ _ (by decide)) | exact .inr (IfcF.strong (Fresh.strong _ _ _ _ _ _ _ (by decide)) _) | exact .inl (by kernel_rfl)) (by kernel_rfl) (by first | exact .inl rfl | exact .inr ⟨_, _, _, rfl, rfl, rfl⟩) ?_ ?_
                 · intro a w' he hr K hK
                   obtain ⟨q1, k1, c1, h1, rfl, h3⟩ := hr 117 (by simp [Oper.looksAt, Op.operands])
                   simp at h1
                   go_simp
                   exact hK _ _ (Ext.refl _) ⟨q1, c1, rfl, h3⟩
                 simp only [setL, List.set_cons_succ, List.set_cons_zero])
              | (refine wpPL_pivot (o := ⟨none, _, _, _, _, _⟩) Any Any.stable (.inr Any.strong) (by kernel_rfl) (by first | exact .inl rfl | exact .inr ⟨_, _, _, rfl, rfl, rfl⟩) ?_ ?_
                 · intro a w' he hr K hK
                   obtain ⟨b, h1, h2, h3⟩ := hr 17 (by simp [Oper.looksAt, Op.operands])
                   have hv := hr 127 (by simp [Oper.looksAt, Op.operands])
                   refine wp_store_row 28 (.tmp 17) (.tmp 127) rfl b #[.int .i64 G.applied, .int .i64 G.count, .int .i64 G.fin, .int .i64 G.root, .int .i64 G.height, .int .i64 G.splits, .int .i64 G.areas] h1 hv _ _ h2 hdSize rfl (hd_one G) ?_
                   exact hK _ _ ⟨b, _, h3, h2, Chg.setRow⟩ trivial (fun x hx _ y hy => by simp at hx; subst hx; simp at hy; subst hy; exact ⟨b, h1, Blk.setRow h2, h3⟩)
                 simp only [setL, List.set_cons_succ, List.set_cons_zero])
              | (refine wpPL_move _ _ (by kernel_rfl) (by first | exact .inl rfl | exact .inr ⟨_, _, _, rfl, rfl, rfl⟩) (by first | exact .inl rfl | exact .inr rfl) rfl (by first | exact Is.stable _ | exact RowsF.stable _ _ _ _ _ | exact NoneF.stable _ _ | exact Fresh.stable _ _ _ | exact AppF.stable _ | exact WrF.stable _ | exact PtrF.stable _ _ | exact PlF.stable _ _) (by first | exact .inr (Is.strong _ _ _) | exact .inr (AppF.strong _ _ _ _ (by decide)) | exact .inr (WrF.strong _ _ _ _ (by decide)) | exact .inr (RowsF.strong _ _ _ _ _ _ _ _ (by decide)) | exact .inl (by kernel_rfl)) ?_
                 simp only [setL, List.set_cons_succ, List.set_cons_zero, List.getD_cons_succ, List.getD_cons_zero])
              | (apply wpPL_det (by kernel_rfl) (by first | exact .inl rfl | exact .inr ⟨_, _, _, rfl, rfl, rfl⟩)
                 · intro a w' he hr K hK
                   simp [Reads, Oper.looksAt, Op.operands, Call.operands, factAt, Is] at hr
                   have hx := he.cell
                   go_simp
                   try go_bits
                   try (rw [if_neg (by omega)]; go_simp)
                   first
                     | exact hK _ (Ext.refl _)
                 simp only [setL, List.set_cons_succ, List.set_cons_zero]))
            intro w2 he2
            simp only [killL, killIn, List.foldl_cons, List.foldl_nil, List.set_cons_succ, List.set_cons_zero]
            repeat (first | with_reducible refine rest_is _ _ _ _ ?_ | (with_reducible refine rest_fact _ _ _ _ ?_; intro _ _) | with_reducible refine rest_end _ _ ?_)
            simp only [List.reverse_cons, List.reverse_nil, List.nil_append, List.cons_append]
            rename_i x17 h17 x18 h18 x117 h117 x126 h126 x128 h128
            obtain ⟨b17, rfl, hb17, hB17⟩ := h17
            obtain ⟨q18, c18, rfl, hw18⟩ := h18
            clear h117 h126 h128
            obtain ⟨wa, rfl⟩ : ∃ wa : World, wa = w2 := ⟨_, rfl⟩
            have hcaa := (he2.cell b4 _ hb4).trans hca
            have hb4a : b4 < wa.heap.size := Nat.lt_of_lt_of_le hb4 he2.size
            have HEa := Lib.hid he2
            have Hb17 := Lib.hid hb17
            have Hw18 := Lib.hid hw18
            have hz17 := Blk.lt hb17
            have hhb3 := Nat.lt_of_lt_of_le hhb2 he2.size
            clear he2 hck hbb hb17 hw18 hca hb4
            go_upto_region 21 with (fail)
            refine wp_region_mk 4 (Ext.refl wa) (by kernel_rfl) (by kernel_rfl) (by kernel_rfl) ?_
            simp only [List.take_succ_cons, List.take_zero, List.take_nil, List.drop_succ_cons, List.drop_zero, List.drop_nil, List.map_cons, List.map_nil]
            repeat (first
              | (refine wpML_det (o := ⟨some 141, _, _, _, _, _⟩) (v := .agg #[.int .i64 G.applied, .int .i64 G.count, .int .i64 G.fin, .int .i64 G.root, .int .i64 G.height, .int .i64 G.splits, .int .i64 G.areas]) rfl ?_ ?_
                 · intro a w' he hr K hK
                   simp [Reads, Oper.looksAt, Op.operands, factAt, Is] at hr
                   exact wp_load_row 28 (.tmp 17) rfl (b17) (by go_simp) _ _ _ _ (he.blk _ _ Hb17.out) hdDesc rfl hdSize (hK _ (Ext.refl _))
                 simp only [setL, List.set_cons_succ, List.set_cons_zero])
              | (refine wpML_move _ _ rfl (by first | exact .inl rfl | exact .inr rfl) rfl (by first | exact Is.stable _ | exact AppF.stable _ | exact WrF.stable _ | exact PtrF.stable _ _ | exact IfcF.stable (Fresh.stable _ _ _) _ | exact PairF.stable (RowF.stable _ _ _ _) _ | exact RowF.stable _ _ _ _ | exact Fresh.stable _ _ _) ?_
                 simp only [setL, List.set_cons_succ, List.set_cons_zero, List.getD_cons_succ, List.getD_cons_zero])
              | (refine wpML_moveC _ rfl (by first | exact .inl rfl | exact .inr rfl) ?_
                 simp only [setL, List.set_cons_succ, List.set_cons_zero])
              | (apply wpML_det rfl
                 · intro a w' he hr K hK
                   simp [Reads, Oper.looksAt, Op.operands, Call.operands, factAt, Is] at hr
                   have hx := he.cell
                   go_simp
                   try go_bits
                   try (rw [if_neg (by omega)]; go_simp)
                   first
                     | exact hK _ (Ext.refl _)
                 simp only [setL, List.set_cons_succ, List.set_cons_zero])
              | (refine wpML_fact (o := ⟨some 144, _, _, _, _, _⟩) (RowsF 9 w.heap.size 1 (putsP (memOf d.interval D) WA).length ((putsP (memOf d.interval D) WA).map fun s => .string ⟨s.toArray⟩)) (RowsF.stable _ _ _ _ _) rfl ?_ ?_
                 · intro a w' he hr K hK
                   simp [Reads, Oper.looksAt, Op.operands, Call.operands, factAt, Is] at hr
                   go_simp
                   refine ((HPu.out w' (HEa.out.trans he) q18 c18 WA (Hw18.out.ext he) hl1)).mono ?_
                   rintro e w'' ⟨v, rfl, he', hf⟩
                   exact hK _ _ he' hf
                 simp only [setL, List.set_cons_succ, List.set_cons_zero])
              | (apply wpML_det rfl
                 · intro a w' he hr K hK
                   simp [Reads, Oper.looksAt, Op.operands, Call.operands, factAt, Fresh] at hr
                   obtain ⟨b, hr1, hr2⟩ := hr
                   go_simp
                   exact hK _ (Ext.refl _)
                 simp only [setL, List.set_cons_succ, List.set_cons_zero]))
            intro w2 he2
            repeat (first | with_reducible refine rest_is _ _ _ _ ?_ | (with_reducible refine rest_fact _ _ _ _ ?_; intro _ _) | with_reducible refine rest_end _ _ ?_)
            simp only [List.reverse_cons, List.reverse_nil, List.nil_append, List.cons_append]
            rename_i x144 h144
            obtain ⟨q8, c8, rfl, hown8⟩ := h144
            have hE2 := HEa.out.trans he2
            have hb9 : HdAt w2 hb H2 := Hb5.out.ext hE2
            have Hown8 := Lib.hid hown8
            have HE9 := Lib.hid hE2
            have hhb4 := Nat.lt_of_lt_of_le hhb3 he2.size
            clear hown8 hE2 he2
            go_wp2_with (first | (refine wpList_put (o := ⟨none, _, _, _, _, _⟩) rfl 28 (.tmp 7) (.tmp 141) rfl _ #[.int .i64 G.applied, .int .i64 G.count, .int .i64 G.fin, .int .i64 G.root, .int .i64 G.height, .int .i64 G.splits, .int .i64 G.areas] rfl rfl _ _ hb9 hdSize rfl (hd_one G) ?_; intro w6 hb6 hc6))
            go_roundw
            case rel => exact ⟨j + 1, by omega, by go_num, by rw [HSn.out, ← HPM.out, ← HGd.out]; exact ⟨hc6.ext (Hext2.out.trans HE9.out) (by omega), hb6, hc6.blk (Hb2.out.ext HE9.out) (by omega), own_chgT Hown8.out (by decide) hb9 hc6⟩, own_chgT (own_ext Hadr.out HE9.out) (by decide) hb9 hc6⟩
            case measure => simp [intOf]; omega
          · obtain rfl : j = M.length := by omega
            have hltI2 : decide ((M.length : Int) < M.length) = false := decide_eq_false (by omega)
            go_wp2_with fail
            go_ret
            exact ⟨rfl, hin2.1⟩
      · have hall : M.all (goodR d) = false := Bool.eq_false_iff.2 (fun h => hgood ((all_good d M).1 h))
        have HR := HPl.out
        rw [if_neg hgood, ← HHd.out] at HR
        rw [HR] at HPc
        rw [hall]
        clear hall HR hgood
        go_wp2_with (first | (refine wpList_hd rfl (.tmp 7) rfl _ rfl H hb7 ?_) | (refine wpList_ds rfl (.tmp 3) rfl _ rfl d hd7 ?_) | (go_at_call 19; refine HPc.out.mono ?_; rintro e w12 ⟨⟨he12, q14, k14, c14, rfl, hk14, hi14⟩, how14⟩))
        go_loopw [8, 16] (fun v i wr2 => i = .int .i64 0 ∧ wr2 = w12) (fun _ _ _ => 0)
        case atStart => exact ⟨rfl, rfl⟩
        case round =>
          obtain ⟨rfl, rfl⟩ := hrel
          go_wp2_with fail
          go_ret
          exact ⟨rfl, (HIn1.out.trans Hext.out).trans he12⟩
theorem EntryseqPlaces_any (p : Option Addr) (cap n : Nat) (L : Recs) (q : Option Addr) (cap2 n2 : Nat) (M : Recs) (d : DS) (w : World) (hs : Strs w p L) (hn : L.length = n) (hcap : n ≤ cap) (hcm : cap ≤ maxLen) (hq : Strs w q M) (hn2 : M.length = n2) (hcap2 : n2 ≤ cap2) (hcm2 : cap2 ≤ maxLen) :
    Calls Tryd.prog 4 #[.agg #[.int .i64 d.id, .int .i64 d.org, .int .i64 d.format, .int .i64 d.length, .int .i64 d.block, .int .i64 d.keyAt, .int .i64 d.keyLength, .int .i64 d.interval, .int .i64 d.area, .int .i64 d.freeInterval, .int .i64 d.freeArea, .int .i64 d.base, .int .i64 d.altAt, .int .i64 d.altLength, .bool d.unique, .int .i64 d.cls, .string ⟨d.volume.toArray⟩, .string ⟨d.owner.toArray⟩, .int .i64 d.created, .int .i64 d.expires, .bool d.archived], .slice p n cap, .slice q n2 cap2] w fun e w' => e = .returned (.bool true) ∧ Ext w w' := by
  cases hc : (shortB L 20 300 && shortB M 20 300 && validB d && decide (d.org = 1))
  · exact EntryseqPlaces_no p q cap n cap2 n2 L M d w hs hn (by omega) hq hn2 (by omega) hc
  · simp at hc
    obtain ⟨⟨⟨h1, h2⟩, h3⟩, h4⟩ := hc
    exact EntryseqPlaces_yes p q cap n cap2 n2 L M d w hs hn hq hn2 h1 h2 h3 h4
end Go.Proofs.YtkhlglkipeoalaaDoor
