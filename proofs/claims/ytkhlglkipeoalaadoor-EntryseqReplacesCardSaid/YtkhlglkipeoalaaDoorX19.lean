/- The walk of the reference's Append. -/
import Derived.Test.YtkhlglkipeoalaaDoorX18
import Derived.Test.YtkhlglkipeoalaaDoorApp0
import Derived.RegionTactic
import Derived.BigRegion
import Derived.Deep.RegionHeld3
set_option linter.unusedSimpArgs false
set_option linter.unusedVariables false
namespace Go.Proofs.YtkhlglkipeoalaaDoor
open Go.RowKit Dsd

theorem Fits_r (p : Option Addr) (cap n : Nat) (L : List (List UInt8)) (size : Int) (w : World) (hs : Strs w p L) (hn : L.length = n) (hm : Small L) :
    Calls Tryd.prog 42 #[.int .i64 size, .slice p n cap] w fun e w' => e = .returned (.bool (fitsB size L)) ∧ Ext w w' := Fits_ref p cap n L size w hs hn hm
theorem own_empty {w : World} {b base : Nat} {e : TypeId} (h : Blk w b (.cells #[] e)) (hb : base ≤ b) : w.ownsRow base e 1 (.slice (some ⟨b, 0, none⟩) 0 0) 0 [] :=
  ⟨by simp, .inr ⟨b, 0, #[], rfl, hb, h, Nat.le_refl _, by simp, rfl, by simp⟩⟩
theorem own_nonil {w : World} {base : Nat} {e : TypeId} {q : Option Addr} {n c : Nat} {xs : List Value} (h : w.ownsRow base e 1 (.slice q n c) n xs) (hn : 0 < n) : q.isSome = true := by
  obtain ⟨hl, ⟨h1, h2⟩ | ⟨g, cap, cur, h1, _⟩⟩ := h
  · omega
  · simp at h1; rw [h1.1]; rfl
theorem endOfC_ne {m : List (List UInt8)} {size fin : Int} (h : fin ≠ 0) (h2 : (endOfC m size fin).2 = 0) : 0 < (endOfC m size fin).1.length := by
  unfold endOfC at *
  rw [if_neg h] at *
  have := (loadOf_ok h2).2.2
  exact List.length_pos_iff.2 this
theorem endOfC_small (m : List (List UInt8)) (size fin : Int) : Small (endOfC m size fin).1 ∧ sumLen (endOfC m size fin).1 ≤ 512 := by
  unfold endOfC
  split
  · exact ⟨⟨by simp, by simp⟩, by simp [sumLen]⟩
  · exact loadOf_small m size fin

set_option maxRecDepth 100000 in
set_option maxHeartbeats 4000000 in
theorem Append_ref_main (p : Option Addr) (n cap : Nat) (m : List (List UInt8)) (h : Hd) (d : DS) (r : List UInt8) (w : World) (hs : Strs w p m) (hn : m.length = n) (hm : Small m) (hd : doorOf h d 1 = 0) (hl1 : 1 ≤ r.length) (hl2 : (r.length : Int) ≤ d.length) (hx : (endOfC m d.interval h.fin).2 = 0) :
    Calls Tryd.prog 13 #[.slice p n cap, .agg #[.int .i64 h.applied, .int .i64 h.count, .int .i64 h.fin, .int .i64 h.root, .int .i64 h.height, .int .i64 h.splits, .int .i64 h.areas], .agg #[.int .i64 d.id, .int .i64 d.org, .int .i64 d.format, .int .i64 d.length, .int .i64 d.block, .int .i64 d.keyAt, .int .i64 d.keyLength, .int .i64 d.interval, .int .i64 d.area, .int .i64 d.freeInterval, .int .i64 d.freeArea, .int .i64 d.base, .int .i64 d.altAt, .int .i64 d.altLength, .bool d.unique, .int .i64 d.cls, .string ⟨d.volume.toArray⟩, .string ⟨d.owner.toArray⟩, .int .i64 d.created, .int .i64 d.expires, .bool d.archived], .string ⟨r.toArray⟩] w (AppOut m h d r w) := by
  have HR : Hid (appendOf m h d r = ⟨{ h with count := h.count + 1, fin := (addOf d.interval (endOfC m d.interval h.fin).1 h.fin r).2 }, [((addOf d.interval (endOfC m d.interval h.fin).1 h.fin r).2, encStr d.interval (addOf d.interval (endOfC m d.interval h.fin).1 h.fin r).1)], addAt d.interval (endOfC m d.interval h.fin).1 h.fin r, 0⟩) := Lib.hid (by
          unfold appendOf; rw [if_neg (by simp [hd]), if_neg (by omega), if_neg (by simp [hx])])
  have Hs := Lib.hid hs
  have hdo := Door_any h d 1
  rw [hd] at hdo
  have Hdo := Lib.hid hdo
  have Hlo := Lib.hid (fun w hs => Load_ref p cap n m d h.fin w hs hn hm)
  obtain ⟨hva, hpl, hor⟩ := door_zero hd
  obtain ⟨v1, v2, v3, v4, v5, v6⟩ := valid_spec hva
  obtain ⟨p1, p2, p3, p4⟩ := plain_spec hpl
  have hiv : 128 ≤ d.interval ∧ d.interval ≤ 512 := by rcases isSize_spec v3 with h | h | h <;> omega
  obtain ⟨hi0, hi1⟩ := hiv
  have hl1N : decide (r.length < 1) = false := decide_eq_false (by omega)
  have hl1I : decide ((r.length : Int) < 1) = false := decide_eq_false (by omega)
  have hl2I : decide (d.length < (r.length : Int)) = false := decide_eq_false (by omega)
  have hLn := Lib.hid (fun e => @endOfC_ne m d.interval h.fin e hx)
  have hLs := endOfC_small m d.interval h.fin
  have hLl := endOfC_len m d.interval h.fin
  have HLo : Hid (h.fin ≠ 0 → loadOf m d.interval h.fin = ((endOfC m d.interval h.fin).1, 0)) := Lib.hid (fun e => by unfold endOfC at hx ⊢; rw [if_neg e] at hx ⊢; rw [← hx])
  have HL0 : Hid (h.fin = 0 → (endOfC m d.interval h.fin).1 = []) := Lib.hid (fun e => by unfold endOfC; rw [if_pos e])
  have HK := Lib.hid (addOf_kept d.interval h.fin (endOfC m d.interval h.fin).1 r)
  generalize (endOfC m d.interval h.fin).1 = L at *
  clear hs hdo hd hva hpl hor v1 v2 v3 v6 hx
  go_enter Tryd.func13, Tryd.ntmps13
  go_upto_region 1 with (fail)
  refine wp_name (fun w0 => Ext w w0 ∧ HdAt w0 w.heap.size h ∧ DsAt w0 (w.heap.size + 1) d ∧ Blk w0 (w.heap.size + 1 + 1) (.cells #[.int .i64 0, .int .i64 0, .int .i64 0, .int .i64 0, .int .i64 0, .int .i64 0, .int .i64 0] 28)) (hd_ds_cl w h d _ _) ?_
  rintro w0 ⟨he0, hb1, hb2, hb3⟩
  go_upto_region 7 with (first | (refine wpList_ds rfl (.tmp 6) rfl _ rfl d hb2 ?_) | (refine wpList_hd rfl (.tmp 5) rfl _ rfl h hb1 ?_) | (go_at_call 40; refine (Hdo.out _).mono ?_; rintro e w1 ⟨rfl, he1⟩; have hb1 := hb1.ext he1; have hb2 := hb2.ext he1; have hb3 := he1.blk _ _ hb3; have c3 := Blk.val hb2 3 _ rfl))
  have hz1 := (he0.trans he1).size
  refine wp_name (fun w2 => Ext w w2 ∧ HdAt w2 w.heap.size h ∧ DsAt w2 (w.heap.size + 1) d ∧ Blk w2 (w.heap.size + 1 + 1) (.cells #[.int .i64 0, .int .i64 0, .int .i64 0, .int .i64 0, .int .i64 0, .int .i64 0, .int .i64 0] 28) ∧ w2.ownsRow w.heap.size 9 1 (.slice (some ⟨w1.heap.size, 0, none⟩) 0 0) 0 []) ⟨(he0.trans he1).trans (Ext.alloc _ _), hb1.alloc _, hb2.alloc _, hb3.alloc _, World.ownsRow_made w1 #[] 0 hz1 (by simp) rfl⟩ ?_
  rintro w2 ⟨he2, hb1, hb2, hb3, hown2⟩
  clear c3
  have hl2z := Blk.lt hb3
  generalize w1.heap.size = ob at *
  have h2 : w2.cell? ⟨w.heap.size, 2, none⟩ = some (.int .i64 h.fin) := Blk.val hb1 2 _ rfl
  have Hown2 := Lib.hid hown2
  have HE2 := Lib.hid he2
  clear hown2 he2 he0 he1 hz1 Hdo hl1N hl1I hl2I
  go_upto_if 41 with (fail)
  go_cut [13] (fun v wx => Ext w wx ∧ HdAt wx w.heap.size h ∧ DsAt wx (w.heap.size + 1) d ∧ Blk wx (w.heap.size + 1 + 1) (.cells #[.int .i64 0, .int .i64 0, .int .i64 0, .int .i64 0, .int .i64 0, .int .i64 0, .int .i64 0] 28) ∧ wx.ownsRow w.heap.size 9 1 v L.length (L.map fun s => .string ⟨s.toArray⟩))
  case first =>
    by_cases h0 : h.fin = 0
    · have h0I : decide (0 < h.fin) = false := decide_eq_false (by omega)
      have h0P : ¬ 0 < h.fin := by omega
      have e := HL0.out h0
      subst e
      clear h0
      go_wp2_with fail
      go_meet
      exact ⟨HE2.out, hb1, hb2, hb3, Hown2.out⟩
    · have h0I : decide (0 < h.fin) = true := decide_eq_true (by omega)
      have h0P : 0 < h.fin := by omega
      have HL := Lib.hid (HLo.out h0)
      clear h0
      go_wp2_with (first | (refine wpList_ds rfl (.tmp 6) rfl _ rfl d hb2 ?_) | (go_at_call 41; refine (Hlo.out _ (Hs.out.ext HE2.out)).mono ?_; rintro e w3 ⟨he3, hc⟩; rw [HL.out] at hc; rcases hc with ⟨h3, _⟩ | ⟨_, q, cq, rfl, hsm, hown⟩; exact absurd rfl h3; have Hown3 := Lib.hid (own_le hown HE2.out.size); clear hown))
      go_meet
      exact ⟨HE2.out.trans he3, hb1.ext he3, hb2.ext he3, he3.blk _ _ hb3, Hown3.out⟩
  case rest =>
    obtain ⟨he3, hb1, hb2, hb3, hown3⟩ := hcut
    obtain ⟨q, k, rfl⟩ := own_slice hown3
    have HRS : Hid (resetB d.interval h.fin L r = (decide (h.fin = 0) || !fitsB d.interval (L ++ [r]))) := Lib.hid rfl
    have HKL : Hid (keptL d.interval h.fin L r = if resetB d.interval h.fin L r then [] else L) := Lib.hid rfl
    have HFL : Hid (finL d.interval h.fin L r = if resetB d.interval h.fin L r then h.fin + 1 else h.fin) := Lib.hid rfl
    have hfl : 0 ≤ finL d.interval h.fin L r ∧ finL d.interval h.fin L r ≤ 20000001 := by unfold finL; split <;> omega
    have HSMR : Hid (Small (L ++ [r])) := Lib.hid ⟨by simp; omega, fun s hs => by rw [List.mem_append] at hs; rcases hs with hs | hs; exact hLs.1.2 s hs; simp at hs; subst hs; omega⟩
    generalize resetB d.interval h.fin L r = rst at *
    generalize keptL d.interval h.fin L r = KL at *
    generalize finL d.interval h.fin L r = FL at *
    generalize hft : fitsB d.interval (L ++ [r]) = ft at *
    have HFT := Lib.hid hft
    have Hown3 := Lib.hid hown3
    have HE3 := Lib.hid he3
    have Hb1 := Lib.hid hb1
    have Hb2 := Lib.hid hb2
    have Hb3 := Lib.hid hb3
    have c2 : wc.cell? ⟨w.heap.size, 2, none⟩ = some (.int .i64 h.fin) := Blk.val hb1 2 _ rfl
    have c7 : wc.cell? ⟨w.heap.size + 1, 7, none⟩ = some (.int .i64 d.interval) := Blk.val hb2 7 _ rfl
    have hl3z : w.heap.size + 1 + 1 < wc.heap.size := Blk.lt hb3
    have hb1z : w.heap.size < wc.heap.size := by omega
    have hb2z : w.heap.size + 1 < wc.heap.size := by omega
    have hsq : Strs wc q L := by
      obtain ⟨q', k', he, hq, _⟩ := own_strs2 hown3
      simp at he; obtain ⟨rfl, rfl⟩ := he; exact hq
    have Hsq := Lib.hid hsq
    have hll : L.length ≤ 600 := hLl
    have HLs := Lib.hid hLs
    clear hown3 he3 hb1 hb2 hb3 hft hsq h2 hLs
    go_upto_region 12 with (fail)
    obtain ⟨W, rfl⟩ : ∃ W : World, W = wc := ⟨_, rfl⟩
    go_cut [69] (fun s wx => s = .bool rst ∧ Ext W wx)
    case first =>
      by_cases h0 : h.fin = 0
      · have hrs : rst = true := by rw [HRS.out]; simp [h0]
        subst hrs
        have h0I : (h.fin == 0) = true := by simp [h0]
        clear h0
        go_quiet (fail)
        go_wp2_with fail
        go_meet
        exact ⟨rfl, Ext.drewN _ _⟩
      · have hrs : rst = !ft := by rw [HRS.out]; simp [h0]
        subst hrs
        have h0I : (h.fin == 0) = false := by simpa using h0
        have hqs : q.isSome = true := own_nonil Hown3.out (hLn.out h0)
        clear h0
        go_wp2_with fail
        have hE0 : ∀ w', Ext W w' → w'.cell? ⟨w.heap.size, 2, none⟩ = some (.int .i64 h.fin) ∧ w'.cell? ⟨w.heap.size + 1, 7, none⟩ = some (.int .i64 d.interval) := fun w' he => ⟨(he.cell _ 2 hb1z).trans c2, (he.cell _ 7 hb2z).trans c7⟩
        have Hft := Lib.hid (fun q1 c1 w' hsq => Fits_r q1 c1 (L.length + 1) (L ++ [r]) d.interval w' hsq (by simp) HSMR.out)
        rw [HFT.out] at Hft
        refine wp_region_pk 200 [(11, [(6, 61), (8, 63), (10, 65)])] (Ext.refl W) (by kernel_rfl) (by kernel_rfl) (by kernel_rfl) (by kernel_rfl) (by kernel_rfl) (by kernel_rfl) (gok_any _ _ _) ?_
        simp only [List.take_succ_cons, List.take_zero, List.take_nil, List.drop_succ_cons, List.drop_zero, List.drop_nil, List.map_cons, List.map_nil]
        repeat (first
          | (refine wpPL_step (o := ⟨some 61, _, _, _, _, _⟩) (NoneF 9 W.heap.size) (NoneF.stable _ _) (.inl (by kernel_rfl)) (by kernel_rfl) (by first | exact .inl rfl | exact .inr ⟨_, _, _, rfl, rfl, rfl⟩) ?_ ?_
             · intro a w' he hr K hK
               go_simp
               exact hK _ _ (Ext.alloc _ _) ⟨_, rfl, Blk.new _ _, he.size⟩
             simp only [setL, List.set_cons_succ, List.set_cons_zero])
          | (refine wpPL_step (o := ⟨some 63, _, _, _, _, _⟩) (RowsF 9 W.heap.size 1 L.length (L.map fun s : List UInt8 => Value.string ⟨s.toArray⟩)) (RowsF.stable _ _ _ _ _) (.inl (by kernel_rfl)) (by kernel_rfl) (by first | exact .inl rfl | exact .inr ⟨_, _, _, rfl, rfl, rfl⟩) ?_ ?_
             · intro a w' he hr K hK
               obtain ⟨b, hb1, hb2, hb3⟩ := hr 61 (by simp [Oper.looksAt, Op.operands, Call.operands])
               have hs := hr 62 (by simp [Oper.looksAt, Op.operands, Call.operands])
               refine wp_append0 (.tmp 61) (.tmp 62) 24 9 rfl W.heap.size (.string ByteArray.empty) 1 16 Tryd.underlying24 infoStr rfl b hb1 hb2 hb3 _ L.length _ (L.map fun s : List UInt8 => Value.string ⟨s.toArray⟩) hs (by simp) (strs_src (Strs.ext Hsq.out he)) (by omega) (by decide) he.size ?_
               intro v' w'' ho' he'
               obtain ⟨q', c', rfl⟩ := own_slice ho'
               exact hK _ _ he' ⟨q', c', rfl, ho'⟩
             simp only [setL, List.set_cons_succ, List.set_cons_zero])
          | (refine wpPL_step (o := ⟨some 65, _, _, _, _, _⟩) (Fresh 1 1 (.cells #[.string ⟨r.toArray⟩] 9)) (Fresh.stable _ _ _) (.inl (by kernel_rfl)) (by kernel_rfl) (by first | exact .inl rfl | exact .inr ⟨_, _, _, rfl, rfl, rfl⟩) ?_ ?_
             · intro a w' he hr K hK
               simp [Reads, Oper.looksAt, Op.operands, Call.operands, factAt, Is] at hr
               go_simp
               exact hK _ _ (Ext.alloc _ _) (Fresh.new _ _ _ _)
             simp only [setL, List.set_cons_succ, List.set_cons_zero])
          | (refine wpPL_pivot (o := ⟨some 66, _, _, _, _, _⟩) (RowsF 9 W.heap.size 1 (L.length + 1) ((L ++ [r]).map fun s : List UInt8 => Value.string ⟨s.toArray⟩)) (RowsF.stable _ _ _ _ _) (.inl (by kernel_rfl)) (by kernel_rfl) (by first | exact .inl rfl | exact .inr ⟨_, _, _, rfl, rfl, rfl⟩) ?_ ?_
             · intro a w' he hr K hK
               obtain ⟨q1, c1, h1, ho1⟩ := hr 63 (by simp [Oper.looksAt, Op.operands, Call.operands])
               obtain ⟨b, hb1, hb2⟩ := hr 65 (by simp [Oper.looksAt, Op.operands, Call.operands])
               refine wp_app (.tmp 63) (.tmp 65) 24 9 rfl W.heap.size (.string ByteArray.empty) 1 16 Tryd.underlying24 infoStr rfl (by decide) _ L.length _ h1 ho1 b [.string ⟨r.toArray⟩] hb1 hb2 rfl (by intro u hu; simp at hu; subst hu; rfl) (by omega) (by decide) he.size ?_
               intro v' w'' ho' hg
               have hbl := Below.of_grown (B := W.heap.size) hg ho1 (Nat.le_refl _) he.size
               obtain ⟨q', c', rfl⟩ := own_slice ho'
               exact hK _ _ hbl ⟨q', c', rfl, by rw [List.map_append]; exact ho'⟩ (turned_any _ _ _ _)
             simp only [setL, List.set_cons_succ, List.set_cons_zero])
          | (refine wpPL_det (o := ⟨some 67, _, _, _, _, _⟩) (v := .bool ft) (by kernel_rfl) (by first | exact .inl rfl | exact .inr ⟨_, _, _, rfl, rfl, rfl⟩) ?_ ?_
             · intro a w' he hr K hK
               obtain ⟨q1, c1, h1, ho1⟩ := hr 66 (by simp [Oper.looksAt, Op.operands, Call.operands])
               simp [Reads, Oper.looksAt, Op.operands, Call.operands, factAt, Is] at hr
               simp at h1
               obtain ⟨q2, c2, hv2, hsq, hll, hk1, hk2⟩ := own_strs_p ho1
               simp at hv2
               obtain ⟨rfl, rfl⟩ := hv2
               clear ho1
               go_simp
               refine (Hft.out _ _ _ hsq).mono ?_
               rintro e w'' ⟨rfl, he'⟩
               exact hK _ he'
             simp only [setL, List.set_cons_succ, List.set_cons_zero])
          | (refine wpPL_move _ _ (by kernel_rfl) (by first | exact .inl rfl | exact .inr ⟨_, _, _, rfl, rfl, rfl⟩) (by first | exact .inl rfl | exact .inr rfl) rfl (by first | exact Is.stable _ | exact RowsF.stable _ _ _ _ _ | exact NoneF.stable _ _ | exact Fresh.stable _ _ _ | exact AppF.stable _ | exact WrF.stable _ | exact PtrF.stable _ _ | exact PlF.stable _ _) (by first | exact .inr (Is.strong _ _ _) | exact .inr (AppF.strong _ _ _ _ (by decide)) | exact .inr (WrF.strong _ _ _ _ (by decide)) | exact .inr (RowsF.strong _ _ _ _ _ _ _ _ (by decide)) | exact .inl (by kernel_rfl)) ?_
             simp only [setL, List.set_cons_succ, List.set_cons_zero, List.getD_cons_succ, List.getD_cons_zero])
          | (apply wpPL_det (by kernel_rfl) (by first | exact .inl rfl | exact .inr ⟨_, _, _, rfl, rfl, rfl⟩)
             · intro a w' he hr K hK
               simp [Reads, Oper.looksAt, Op.operands, Call.operands, factAt, Is] at hr
               have hx := he.cell
               go_simp
               try go_bits
               try (rw [if_neg (by omega)]; go_simp)
               first
                 | exact hK _ (Ext.refl _)
             simp only [setL, List.set_cons_succ, List.set_cons_zero]))
        intro w2 he2
        simp only [killL, killIn, List.foldl_cons, List.foldl_nil, List.set_cons_succ, List.set_cons_zero]
        repeat (first | with_reducible refine rest_is _ _ _ _ ?_ | (with_reducible refine rest_fact _ _ _ _ ?_; intro _ _) | with_reducible refine rest_end _ _ ?_)
        simp only [List.reverse_cons, List.reverse_nil, List.nil_append, List.cons_append]
        go_wp2_with fail
        go_meet
        exact ⟨rfl, he2⟩
    case rest =>
      obtain ⟨rfl, hE⟩ := hcut
      have hb1 := Hb1.out.ext hE
      have hb2 := Hb2.out.ext hE
      have hb3 := hE.blk _ _ Hb3.out
      have hown4 := own_ext Hown3.out hE
      have hE4 := HE3.out.trans hE
      have c2 : wc.cell? ⟨w.heap.size, 2, none⟩ = some (.int .i64 h.fin) := Blk.val hb1 2 _ rfl
      have f2 := Blk.free hb1 2
      have Hb1 := Lib.hid hb1
      have Hb2 := Lib.hid hb2
      have Hb3 := Lib.hid hb3
      have Hown4 := Lib.hid hown4
      have HE4 := Lib.hid hE4
      have hl4z : w.heap.size + 1 + 1 < wc.heap.size := Blk.lt hb3
      have hb1z : w.heap.size < wc.heap.size := by omega
      clear hb1 hb2 hb3 hown4 hE4 hE Hsq
      go_upto_if 69 with (fail)
      go_cut [13] (fun v wx => HdAt wx w.heap.size { h with fin := FL } ∧ DsAt wx (w.heap.size + 1) d ∧ Blk wx (w.heap.size + 1 + 1) (.cells #[.int .i64 0, .int .i64 0, .int .i64 0, .int .i64 0, .int .i64 0, .int .i64 0, .int .i64 0] 28) ∧ wx.ownsRow w.heap.size 9 1 v KL.length (KL.map fun s => .string ⟨s.toArray⟩) ∧ Ext w wx)
      case first =>
        cases rst
        · have e1 := HKL.out
          have e2 := HFL.out
          simp only [Bool.false_eq_true, if_false] at e1 e2
          subst e1 e2
          go_wp2_with fail
          go_meet
          exact ⟨Hb1.out, Hb2.out, Hb3.out, Hown4.out, HE4.out⟩
        · have e1 := HKL.out
          have e2 := HFL.out
          simp only [if_true] at e1 e2
          subst e1 e2
          go_wp2_with fail
          go_region
          all_goals go_wp2_with fail
          all_goals go_meet
          all_goals exact ⟨Blk.setCell (i := 2) (v := .int .i64 (h.fin + 1)) Hb1.out, (Chg.setCell).blk Hb2.out (by omega), (Chg.setCell).blk Hb3.out (by omega), World.ownsRow_nil _ _ _ _, ((Chg.setCell).ext HE4.out (Nat.le_refl _)).trans (Ext.drew _)⟩
      case rest =>
        obtain ⟨hb5, hb6, hb7, hown5, hE5⟩ := hcut
        obtain ⟨q5, k5, rfl⟩ := own_slice hown5
        have Hb5 := Lib.hid hb5
        have Hb6 := Lib.hid hb6
        have Hb7 := Lib.hid hb7
        have Hown5 := Lib.hid hown5
        have HE5 := Lib.hid hE5
        have d2 : wc.cell? ⟨w.heap.size, 2, none⟩ = some (.int .i64 FL) := Blk.val hb5 2 _ rfl
        have d1 : wc.cell? ⟨w.heap.size, 1, none⟩ = some (.int .i64 h.count) := Blk.val hb5 1 _ rfl
        have g1 := Blk.free hb5 1
        have d7 : wc.cell? ⟨w.heap.size + 1, 7, none⟩ = some (.int .i64 d.interval) := Blk.val hb6 7 _ rfl
        obtain ⟨hfl1, hfl2⟩ := hfl
        have hm1 : 0 ≤ FL * d.interval := Int.mul_nonneg hfl1 (by omega)
        have hm2 : FL * d.interval ≤ 20000001 * 512 := Int.mul_le_mul hfl2 hi1 (by omega) (by omega)
        obtain ⟨M, hM⟩ : ∃ M, FL * d.interval = M := ⟨_, rfl⟩
        rw [hM] at hm1 hm2
        have HM := Lib.hid hM
        have hMw : IntKind.i64.wrap M = M := IntWalk.i64_in _ (by omega)
        have hkl : KL.length ≤ 600 ∧ (∀ s ∈ KL, s.length ≤ 1000000) ∧ sumLen KL ≤ 512 := by
          rw [HKL.out]
          split
          · simp [sumLen]
          · exact ⟨hLl, HLs.out.1.2, HLs.out.2⟩
        obtain ⟨hkl1, hkl2, hkl3⟩ := hkl
        have Hkl2 := Lib.hid hkl2
        have hsq5 : Strs wc q5 KL := by
          obtain ⟨q', k', he, hq, _⟩ := own_strs2 hown5
          simp at he; obtain ⟨rfl, rfl⟩ := he; exact hq
        have Hsq5 := Lib.hid hsq5
        have hl5z : w.heap.size + 1 + 1 < wc.heap.size := Blk.lt hb7
        clear hkl2 hsq5 hb5 hb6 hb7 hown5 hE5 c2 f2 c7 Hb1 Hb2 Hb3 Hown4 HE4 Hown3 HE3 HE2 Hown2
        go_wp2_with fail
        clear hM hMw
        go_loop [16, 17] (fun at' i => ∃ j : Nat, j ≤ KL.length ∧ i = .int .i64 j ∧ at' = .int .i64 (M + (sumLen (KL.take j) : Int))) (fun _ i => KL.length - (intOf i).toNat)
        case atStart => exact ⟨0, Nat.zero_le _, rfl, by simp [sumLen]⟩
        case round =>
          obtain ⟨j, hj, rfl, rfl⟩ := hrel
          have hsb : sumLen (KL.take j) ≤ 512 := by
            have h1 := sumLen_append (KL.take j) (KL.drop j)
            rw [List.take_append_drop] at h1
            omega
          by_cases hlt : j < KL.length
          · have hltI : (j : Int) < KL.length := by omega
            obtain ⟨b, off, rfl, hb, hc⟩ := Hsq5.out.at j hlt
            have hcj := hc j hlt
            have HT := Lib.hid (sumLen_take6 KL j hlt)
            have hxl : (KL.getD j []).length ≤ 1000000 := by
              have e : KL.getD j [] = KL[j] := by simp [List.getD, hlt]
              rw [e]; exact Hkl2.out _ (List.getElem_mem hlt)
            clear hc
            generalize KL.getD j [] = x at *
            go_wp2
            go_round
            case rel => exact ⟨j + 1, by omega, by go_num, by rw [HT.out]; go_num⟩
            case measure => simp [intOf]; omega
          · have hltI : decide ((j : Int) < KL.length) = false := by simp; omega
            have hjl : KL.take j = KL := List.take_of_length_le (by omega)
            rw [hjl] at hsb ⊢
            clear hjl
            go_upto_region 20 with (fail)
            obtain ⟨H, hH⟩ : ∃ H : Hd, H = { h with count := h.count + 1, fin := FL } := ⟨_, rfl⟩
            have Hsm5 : Hid (Small (KL ++ [r])) := Lib.hid ⟨by simp; omega, fun s hs => by rw [List.mem_append] at hs; rcases hs with hs | hs; exact Hkl2.out s hs; simp at hs; subst hs; omega⟩
            have Hen := Lib.hid (fun q1 c1 w' hsq => Encode_ref q1 c1 (KL.length + 1) (KL ++ [r]) d.interval w' hsq (by simp) Hsm5.out)
            have HR2 : Hid (appendOf m h d r = ⟨H, [(H.fin, encStr d.interval (KL ++ [r]))], M + (sumLen KL : Int), 0⟩) := Lib.hid (by rw [HR.out, HK.out.1, HK.out.2, HM.out, hH])
            generalize encStr d.interval (KL ++ [r]) = es at *
            generalize encErr d.interval (KL ++ [r]) = ee at *
            refine wp_name (fun w5 => Ext w w5 ∧ HdAt w5 w.heap.size H ∧ DsAt w5 (w.heap.size + 1) d ∧ Blk w5 (w.heap.size + 1 + 1) (.cells #[.int .i64 0, .int .i64 0, .int .i64 0, .int .i64 0, .int .i64 0, .int .i64 0, .int .i64 0] 28) ∧ Strs w5 q5 KL) ⟨(Chg.setCell).ext HE5.out (Nat.le_refl _), by rw [hH]; exact Blk.setCell (i := 1) (v := .int .i64 (h.count + 1)) Hb5.out, (Chg.setCell).blk Hb6.out (by omega), (Chg.setCell).blk Hb7.out (by omega), (by
              have ho : (wc.setCell ⟨w.heap.size, 1, none⟩ (.int .i64 (h.count + 1))).ownsRow w.heap.size 9 1 (.slice q5 KL.length k5) KL.length (KL.map fun s : List UInt8 => Value.string ⟨s.toArray⟩) := own_setRow Hown5.out w.heap.size 1 _ (fun e => by
                have hx := Lib.ownBlock_ne (T := 28) (fr := (0, 0)) Hown5.out Hb5.out (by decide)
                exact hx e)
              obtain ⟨q', k', he, hq, _⟩ := own_strs2 ho
              simp at he; obtain ⟨rfl, rfl⟩ := he; exact hq)⟩ ?_
            clear d2 d1 g1 d7 hltI
            rintro w5 ⟨he5, hb5, hb6, hb7, hsq6⟩
            have hFl : H.fin = FL := by rw [hH]
            have d7 : w5.cell? ⟨w.heap.size + 1, 7, none⟩ = some (.int .i64 d.interval) := Blk.val hb6 7 _ rfl
            have hz5 : w.heap.size + 1 + 1 < w5.heap.size := Blk.lt hb7
            have hz5b : w.heap.size + 1 < w5.heap.size := by omega
            have He5 := Lib.hid he5
            have Hb5' := Lib.hid hb5
            have Hb7' := Lib.hid hb7
            have Hsq6 := Lib.hid hsq6
            have HFl := Lib.hid hFl
            clear he5 hb5 hb6 hb7 hsq6 hH hFl Hsq5 hl5z hl4z hl3z
            refine wp_region_pk 200 [(7, [(2, 99), (4, 101), (6, 103)])] (Ext.refl w5) (by kernel_rfl) (by kernel_rfl) (by kernel_rfl) (by kernel_rfl) (by kernel_rfl) (by kernel_rfl) (gok_any _ _ _) ?_
            simp only [List.take_succ_cons, List.take_zero, List.take_nil, List.drop_succ_cons, List.drop_zero, List.drop_nil, List.map_cons, List.map_nil]
            repeat (first
              | (refine wpPL_step (o := ⟨some 99, _, _, _, _, _⟩) (NoneF 9 w5.heap.size) (NoneF.stable _ _) (.inl (by kernel_rfl)) (by kernel_rfl) (by first | exact .inl rfl | exact .inr ⟨_, _, _, rfl, rfl, rfl⟩) ?_ ?_
                 · intro a w' he hr K hK
                   go_simp
                   exact hK _ _ (Ext.alloc _ _) ⟨_, rfl, Blk.new _ _, he.size⟩
                 simp only [setL, List.set_cons_succ, List.set_cons_zero])
              | (refine wpPL_step (o := ⟨some 101, _, _, _, _, _⟩) (RowsF 9 w5.heap.size 1 KL.length (KL.map fun s : List UInt8 => Value.string ⟨s.toArray⟩)) (RowsF.stable _ _ _ _ _) (.inl (by kernel_rfl)) (by kernel_rfl) (by first | exact .inl rfl | exact .inr ⟨_, _, _, rfl, rfl, rfl⟩) ?_ ?_
                 · intro a w' he hr K hK
                   obtain ⟨b, hb1, hb2, hb3⟩ := hr 99 (by simp [Oper.looksAt, Op.operands, Call.operands])
                   have hs := hr 100 (by simp [Oper.looksAt, Op.operands, Call.operands])
                   refine wp_append0 (.tmp 99) (.tmp 100) 24 9 rfl w5.heap.size (.string ByteArray.empty) 1 16 Tryd.underlying24 infoStr rfl b hb1 hb2 hb3 _ KL.length _ (KL.map fun s : List UInt8 => Value.string ⟨s.toArray⟩) hs (by simp) (strs_src (Strs.ext Hsq6.out he)) (by omega) (by decide) he.size ?_
                   intro v' w'' ho' he'
                   obtain ⟨q', c', rfl⟩ := own_slice ho'
                   exact hK _ _ he' ⟨q', c', rfl, ho'⟩
                 simp only [setL, List.set_cons_succ, List.set_cons_zero])
              | (refine wpPL_step (o := ⟨some 103, _, _, _, _, _⟩) (Fresh 1 1 (.cells #[.string ⟨r.toArray⟩] 9)) (Fresh.stable _ _ _) (.inl (by kernel_rfl)) (by kernel_rfl) (by first | exact .inl rfl | exact .inr ⟨_, _, _, rfl, rfl, rfl⟩) ?_ ?_
                 · intro a w' he hr K hK
                   simp [Reads, Oper.looksAt, Op.operands, Call.operands, factAt, Is] at hr
                   go_simp
                   exact hK _ _ (Ext.alloc _ _) (Fresh.new _ _ _ _)
                 simp only [setL, List.set_cons_succ, List.set_cons_zero])
              | (refine wpPL_pivot (o := ⟨some 104, _, _, _, _, _⟩) (RowsF 9 w5.heap.size 1 (KL.length + 1) ((KL ++ [r]).map fun s : List UInt8 => Value.string ⟨s.toArray⟩)) (RowsF.stable _ _ _ _ _) (.inl (by kernel_rfl)) (by kernel_rfl) (by first | exact .inl rfl | exact .inr ⟨_, _, _, rfl, rfl, rfl⟩) ?_ ?_
                 · intro a w' he hr K hK
                   obtain ⟨q1, c1, h1, ho1⟩ := hr 101 (by simp [Oper.looksAt, Op.operands, Call.operands])
                   obtain ⟨b, hb1, hb2⟩ := hr 103 (by simp [Oper.looksAt, Op.operands, Call.operands])
                   refine wp_app (.tmp 101) (.tmp 103) 24 9 rfl w5.heap.size (.string ByteArray.empty) 1 16 Tryd.underlying24 infoStr rfl (by decide) _ KL.length _ h1 ho1 b [.string ⟨r.toArray⟩] hb1 hb2 rfl (by intro u hu; simp at hu; subst hu; rfl) (by omega) (by decide) he.size ?_
                   intro v' w'' ho' hg
                   have hbl := Below.of_grown (B := w5.heap.size) hg ho1 (Nat.le_refl _) he.size
                   obtain ⟨q', c', rfl⟩ := own_slice ho'
                   exact hK _ _ hbl ⟨q', c', rfl, by rw [List.map_append]; exact ho'⟩ (turned_any _ _ _ _)
                 simp only [setL, List.set_cons_succ, List.set_cons_zero])
              | (refine wpPL_det (o := ⟨some 105, _, _, _, _, _⟩) (v := .tuple #[.string ⟨es.toArray⟩, .int .i64 ee]) (by kernel_rfl) (by first | exact .inl rfl | exact .inr ⟨_, _, _, rfl, rfl, rfl⟩) ?_ ?_
                 · intro a w' he hr K hK
                   obtain ⟨q1, c1, h1, ho1⟩ := hr 104 (by simp [Oper.looksAt, Op.operands, Call.operands])
                   simp [Reads, Oper.looksAt, Op.operands, Call.operands, factAt, Is] at hr
                   simp at h1
                   obtain ⟨q2, c2, hv2, hsq, hll, hk1, hk2⟩ := own_strs_p ho1
                   simp at hv2
                   obtain ⟨rfl, rfl⟩ := hv2
                   clear ho1
                   go_simp
                   refine (Hen.out _ _ _ hsq).mono ?_
                   rintro e w'' ⟨rfl, he'⟩
                   exact hK _ he'
                 simp only [setL, List.set_cons_succ, List.set_cons_zero])
              | (refine wpPL_move _ _ (by kernel_rfl) (by first | exact .inl rfl | exact .inr ⟨_, _, _, rfl, rfl, rfl⟩) (by first | exact .inl rfl | exact .inr rfl) rfl (by first | exact Is.stable _ | exact RowsF.stable _ _ _ _ _ | exact NoneF.stable _ _ | exact Fresh.stable _ _ _ | exact AppF.stable _ | exact WrF.stable _ | exact PtrF.stable _ _ | exact PlF.stable _ _) (by first | exact .inr (Is.strong _ _ _) | exact .inr (AppF.strong _ _ _ _ (by decide)) | exact .inr (WrF.strong _ _ _ _ (by decide)) | exact .inr (RowsF.strong _ _ _ _ _ _ _ _ (by decide)) | exact .inl (by kernel_rfl)) ?_
                 simp only [setL, List.set_cons_succ, List.set_cons_zero, List.getD_cons_succ, List.getD_cons_zero])
              | (apply wpPL_det (by kernel_rfl) (by first | exact .inl rfl | exact .inr ⟨_, _, _, rfl, rfl, rfl⟩)
                 · intro a w' he hr K hK
                   simp [Reads, Oper.looksAt, Op.operands, Call.operands, factAt, Is] at hr
                   have hx := he.cell
                   go_simp
                   try go_bits
                   try (rw [if_neg (by omega)]; go_simp)
                   first
                     | exact hK _ (Ext.refl _)
                 simp only [setL, List.set_cons_succ, List.set_cons_zero]))
            intro w2 he2
            simp only [killL, killIn, List.foldl_cons, List.foldl_nil, List.set_cons_succ, List.set_cons_zero]
            repeat (first | with_reducible refine rest_is _ _ _ _ ?_ | (with_reducible refine rest_fact _ _ _ _ ?_; intro _ _) | with_reducible refine rest_end _ _ ?_)
            simp only [List.reverse_cons, List.reverse_nil, List.nil_append, List.cons_append]
            have hb8 := Hb5'.out.ext he2
            have hb9 := he2.blk _ _ Hb7'.out
            have HE7 := Lib.hid (He5.out.trans he2)
            have hz7 : w.heap.size + 1 + 1 < w2.heap.size := Blk.lt hb9
            have hne : w.heap.size ≠ w.heap.size + 1 + 1 := by omega
            have hz7b : w.heap.size < w2.heap.size := by omega
            have e1 : w2.cell? ⟨w.heap.size, 0, none⟩ = some (.int .i64 H.applied) := Blk.val hb8 0 _ rfl
            have e2 : w2.cell? ⟨w.heap.size, 1, none⟩ = some (.int .i64 H.count) := Blk.val hb8 1 _ rfl
            have e3 : w2.cell? ⟨w.heap.size, 2, none⟩ = some (.int .i64 H.fin) := Blk.val hb8 2 _ rfl
            have e4 : w2.cell? ⟨w.heap.size, 3, none⟩ = some (.int .i64 H.root) := Blk.val hb8 3 _ rfl
            have e5 : w2.cell? ⟨w.heap.size, 4, none⟩ = some (.int .i64 H.height) := Blk.val hb8 4 _ rfl
            have e6 : w2.cell? ⟨w.heap.size, 5, none⟩ = some (.int .i64 H.splits) := Blk.val hb8 5 _ rfl
            have e7 : w2.cell? ⟨w.heap.size, 6, none⟩ = some (.int .i64 H.areas) := Blk.val hb8 6 _ rfl
            have z0 : w2.cell? ⟨w.heap.size + 1 + 1, 0, none⟩ = some (.int .i64 0) := Blk.val hb9 0 _ rfl
            have g0 : w2.frozen? ⟨w.heap.size + 1 + 1, 0, none⟩ = false := Blk.free hb9 0
            have z1 : w2.cell? ⟨w.heap.size + 1 + 1, 1, none⟩ = some (.int .i64 0) := Blk.val hb9 1 _ rfl
            have g1 : w2.frozen? ⟨w.heap.size + 1 + 1, 1, none⟩ = false := Blk.free hb9 1
            have z2 : w2.cell? ⟨w.heap.size + 1 + 1, 2, none⟩ = some (.int .i64 0) := Blk.val hb9 2 _ rfl
            have g2 : w2.frozen? ⟨w.heap.size + 1 + 1, 2, none⟩ = false := Blk.free hb9 2
            have z3 : w2.cell? ⟨w.heap.size + 1 + 1, 3, none⟩ = some (.int .i64 0) := Blk.val hb9 3 _ rfl
            have g3 : w2.frozen? ⟨w.heap.size + 1 + 1, 3, none⟩ = false := Blk.free hb9 3
            have z4 : w2.cell? ⟨w.heap.size + 1 + 1, 4, none⟩ = some (.int .i64 0) := Blk.val hb9 4 _ rfl
            have g4 : w2.frozen? ⟨w.heap.size + 1 + 1, 4, none⟩ = false := Blk.free hb9 4
            have z5 : w2.cell? ⟨w.heap.size + 1 + 1, 5, none⟩ = some (.int .i64 0) := Blk.val hb9 5 _ rfl
            have g5 : w2.frozen? ⟨w.heap.size + 1 + 1, 5, none⟩ = false := Blk.free hb9 5
            have z6 : w2.cell? ⟨w.heap.size + 1 + 1, 6, none⟩ = some (.int .i64 0) := Blk.val hb9 6 _ rfl
            have g6 : w2.frozen? ⟨w.heap.size + 1 + 1, 6, none⟩ = false := Blk.free hb9 6
            have hset : ∀ (W : World) (i : Nat) (v : Value) (j : Nat), (W.setCell ⟨w.heap.size + 1 + 1, i, none⟩ v).cell? ⟨w.heap.size, j, none⟩ = W.cell? ⟨w.heap.size, j, none⟩ := fun W i v j => World.cell?_of_block (heap_setCell_other W ⟨w.heap.size + 1 + 1, i, none⟩ w.heap.size v hne)
            have Hb9 := Lib.hid hb9
            clear hb8 hb9 he2 d7
            go_wp2_with fail
            go_region_held3 (fun w' => w'.cell? ⟨w.heap.size, 0, none⟩ = some (.int .i64 H.applied) ∧ w'.cell? ⟨w.heap.size, 1, none⟩ = some (.int .i64 H.count) ∧ w'.cell? ⟨w.heap.size, 2, none⟩ = some (.int .i64 H.fin) ∧ w'.cell? ⟨w.heap.size, 3, none⟩ = some (.int .i64 H.root) ∧ w'.cell? ⟨w.heap.size, 4, none⟩ = some (.int .i64 H.height) ∧ w'.cell? ⟨w.heap.size, 5, none⟩ = some (.int .i64 H.splits) ∧ w'.cell? ⟨w.heap.size, 6, none⟩ = some (.int .i64 H.areas))
              (go_keep) (fail)
            all_goals go_wp2_with fail
            all_goals
              obtain ⟨hbF, hcF⟩ := hd_set7 Hb9.out H
              exact bodyPost_ret (results_row3 Tryd.results13 _ _ _ _ _ _ rfl ((Ext.drew _).blk _ _ ((Ext.alloc _ _).blk _ _ hbF)) hdDesc rfl hdSize) rfl (appOut_yes (((hcF.ext HE7.out (by omega)).trans (Ext.alloc _ _)).trans (Ext.drew _)) HR2.out ((wrts_one (Blk.new1 _ _ _ (by simp))).ext (Ext.drew _)))
end Go.Proofs.YtkhlglkipeoalaaDoor
