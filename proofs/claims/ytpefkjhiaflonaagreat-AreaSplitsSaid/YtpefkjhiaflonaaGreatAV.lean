/- The walk of area.middle: a place where both parts of an interval fit. -/
import Derived.Test.YtpefkjhiaflonaaGreatAQ
import Derived.Test.YtpefkjhiaflonaaGreatMonoG
set_option linter.unusedSimpArgs false
set_option linter.unusedVariables false
namespace Go.Proofs.YtpefkjhiaflonaaGreat
open Go.RowKit Dsd
theorem fitsA_any (q : Option Addr) (c n : Nat) (L : Recs) (size : Int) (W : World) (h : Strs W q L) (hn : L.length = n) (h1 : n ≤ c) (h2 : c ≤ maxLen) (hm : Small L) (b : Bool) (hb : fitsB size L = b) : Calls Tryz.prog 41 #[.int .i64 size, .slice q n c] W fun e w' => e = .returned (.bool b) ∧ Ext W w' := by
  refine (Fits_any q c n L size W h hn h1 h2 hm).mono ?_
  rintro e w' ⟨rfl, he⟩
  subst hb
  exact ⟨rfl, he⟩
theorem _root_.Dsd.Strs.take {w : World} {p : Option Addr} {L : Recs} (h : Strs w p L) (k : Nat) : Strs w p (L.take k) := by
  unfold Strs at *
  rw [List.map_take]
  exact Cells.take h k
def absD (x : Int) : Int := if x < -x then -x else x
/-- What the loop of middle has found ahead of k: the place (0: none yet) and its difference. -/
def midSt (size : Int) (L : Recs) : Nat → Nat × Int
  | 0 => (0, 0)
  | k + 1 => if k = 0 then (0, 0) else
    let s := midSt size L k
    if fitsB size (L.take k) = true ∧ fitsB size (L.drop k) = true then
      let x := absD ((sizeL (L.take k) : Int) - sizeL (L.drop k))
      if s.1 = 0 ∨ x < s.2 then (k, x) else s
    else s
def midD (size : Int) (L : Recs) : Nat := (midSt size L L.length).1
def Mid (size : Int) (L : Recs) (m : Nat) : Prop := fitsB size (L.take m) = true ∧ fitsB size (L.drop m) = true
set_option maxRecDepth 100000 in
set_option maxHeartbeats 2000000 in
theorem middle_any (d : DS) (q : Option Addr) (c : Nat) (L : Recs) (w : World) (hs : Strs w q L) (hlc : L.length ≤ c) (hcm : c ≤ maxLen) (hm : Small L) (hex : ∃ m, 1 ≤ m ∧ m < L.length ∧ Mid d.interval L m) :
    Calls Tryz.prog 43 #[.agg #[.int .i64 d.id, .int .i64 d.org, .int .i64 d.format, .int .i64 d.length, .int .i64 d.block, .int .i64 d.keyAt, .int .i64 d.keyLength, .int .i64 d.interval, .int .i64 d.area, .int .i64 d.freeInterval, .int .i64 d.freeArea, .int .i64 d.base, .int .i64 d.altAt, .int .i64 d.altLength, .bool d.unique, .int .i64 d.cls, .string ⟨d.volume.toArray⟩, .string ⟨d.owner.toArray⟩, .int .i64 d.created, .int .i64 d.expires, .bool d.archived], .slice q L.length c] w fun e w' => (∃ m : Nat, e = .returned (.int .i64 m) ∧ 1 ≤ m ∧ m < L.length ∧ Mid d.interval L m ∧ m = midD d.interval L) ∧ Ext w w' := by
  have hl2 : 2 ≤ L.length := by obtain ⟨m, h1, h2, _⟩ := hex; omega
  have hl6 : L.length ≤ 1000000 := hm.1
  have Hs := Lib.hid hs
  have Hex := Lib.hid hex
  have Hm := Lib.hid hm
  have HcM := Lib.hid hcm
  obtain ⟨b, off, rfl, _, _⟩ := hs.at 0 (by omega)
  clear hs hex hm hcm
  go_enter Tryz.func43, Tryz.ntmps43
  go_upto_region 1 with (fail)
  refine wp_name (fun w0 => Ext w w0 ∧ DsAt w0 w.heap.size d) ⟨Ext.alloc _ _, Blk.new w _⟩ ?_
  rintro w0 ⟨he0, hd0⟩
  have Hd0 := Lib.hid hd0
  have Hs0 := Lib.hid (Hs.out.ext he0)
  have HE0 := Lib.hid he0
  clear hd0 he0
  go_wp2_with fail
  go_loopw [5, 6, 7] (fun bv lv kv wr => ∃ (k B : Nat) (z : Int), 1 ≤ k ∧ k ≤ L.length ∧ kv = .int .i64 k ∧ bv = .int .i64 B ∧ lv = .int .i64 z ∧ Hid ((B = 0 ∧ ∀ m, 1 ≤ m → m < k → ¬ Mid d.interval L m) ∨ (1 ≤ B ∧ B < k ∧ Mid d.interval L B)) ∧ Ext w0 wr ∧ Hid (midSt d.interval L k = (B, z))) (fun _ _ kv _ => L.length - (intOf kv).toNat)
  case atStart => exact ⟨1, 0, 0, Nat.le_refl _, by omega, rfl, rfl, rfl, Lib.hid (.inl ⟨rfl, fun m h1 h2 => by omega⟩), Ext.refl _, Lib.hid rfl⟩
  case round =>
    obtain ⟨k, B, z, hk1, hk, rfl, rfl, rfl, hI, hx, hSt⟩ := hrel
    have HS9 : Hid (midSt d.interval L (k + 1) = if fitsB d.interval (L.take k) = true ∧ fitsB d.interval (L.drop k) = true then (if B = 0 ∨ absD ((sizeL (L.take k) : Int) - sizeL (L.drop k)) < z then (k, absD ((sizeL (L.take k) : Int) - sizeL (L.drop k))) else (B, z)) else (B, z)) := Lib.hid (by
      rw [midSt, if_neg (by omega), hSt.out])
    by_cases hlt : k < L.length
    · have hltI : (k : Int) < L.length := by omega
      have hkc : k ≤ c := by omega
      have Hx := Lib.hid hx
      have hdr := Hd0.out.ext hx
      have d7 := Blk.val hdr 7 _ rfl
      have ld := Blk.lt hdr
      have hck : ¬ c = k := by omega
      have hsr := Hs0.out.ext hx
      have HF1 := Lib.hid (fun W (e : Ext wr W) b1 hb => fitsA_any (some ⟨b, off, none⟩) c k (L.take k) d.interval W ((hsr.take k).ext e) (by rw [List.length_take]; omega) hkc HcM.out ⟨by rw [List.length_take]; omega, fun s hs => Hm.out.2 s (List.mem_of_mem_take hs)⟩ b1 hb)
      have HF2 := Lib.hid (fun W (e : Ext wr W) b1 hb => fitsA_any (some ⟨b, off + k, none⟩) (c - k) (L.length - k) (L.drop k) d.interval W ((hsr.drop k).ext e) List.length_drop (by omega) (by have := HcM.out; omega) ⟨by rw [List.length_drop]; omega, fun s hs => Hm.out.2 s (List.mem_of_mem_drop hs)⟩ b1 hb)
      have HM : Hid (∀ b1 b2, fitsB d.interval (L.take k) = b1 → fitsB d.interval (L.drop k) = b2 → (b1 && b2) = false → (B = 0 ∧ ∀ m, 1 ≤ m → m < k + 1 → ¬ Mid d.interval L m) ∨ (1 ≤ B ∧ B < k + 1 ∧ Mid d.interval L B)) := Lib.hid (fun b1 b2 h1 h2 h3 => by
        rcases hI.out with ⟨h4, h5⟩ | ⟨h4, h5, h6⟩
        · refine .inl ⟨h4, fun m g1 g2 => ?_⟩
          by_cases hmk : m = k
          · subst hmk
            rintro ⟨g3, g4⟩
            rw [g3] at h1; rw [g4] at h2
            subst h1; subst h2
            simp at h3
          · exact h5 m g1 (by omega)
        · exact .inr ⟨h4, by omega, h6⟩)
      clear hsr hx hdr
      go_upto_region 5 with (fail)
      cases hb1 : fitsB d.interval (L.take k)
      · have H1 := Lib.hid (fun W e => HF1.out W e _ hb1)
        have HN := Lib.hid (HM.out _ _ hb1 rfl rfl)
        have HZ := Lib.hid (HS9.out.trans (if_neg (by rw [hb1]; simp)))
        clear hb1 HM HS9
        refine wp_region_mk 200 (Ext.refl wr) (by kernel_rfl) (by kernel_rfl) (by kernel_rfl) ?_
        simp only [List.take_succ_cons, List.take_zero, List.take_nil, List.drop_succ_cons, List.drop_zero, List.drop_nil, List.map_cons, List.map_nil]
        repeat (first
          | (refine wpML_det (o := ⟨some 20, _, _, _, _, _⟩) (v := .bool false) rfl ?_ ?_
             · intro a w' he hr K hK
               simp [Reads, Oper.looksAt, Op.operands, Call.operands, factAt, Is] at hr
               go_simp
               refine (H1.out _ he).mono ?_
               rintro e w'' ⟨rfl, he''⟩
               exact hK _ he''
             simp only [setL, List.set_cons_succ, List.set_cons_zero])
          | (refine wpML_skip rfl rfl rfl rfl ?_
             simp only [setL, List.set_cons_succ, List.set_cons_zero])
          | (apply wpML_detg rfl rfl rfl rfl
             · intro a w' he hr K hK
               simp [Reads, Oper.looksAt, Op.operands, Call.operands, factAt, Is] at hr
               have hx := he.cell
               go_simp
               try go_bits
               try (rw [if_neg (by omega)]; go_simp)
               first
                 | exact hK _ (Ext.refl _)
             simp only [setL, List.set_cons_succ, List.set_cons_zero])
          | (refine wpML_move _ _ rfl (by first | exact .inl rfl | exact .inr rfl) rfl (by first | exact Is.stable _ | exact AppF.stable _ | exact WrF.stable _ | exact PtrF.stable _ _ | exact IfcF.stable (Fresh.stable _ _ _) _ | exact PairF.stable (RowF.stable _ _ _ _) _ | exact RowF.stable _ _ _ _ | exact Fresh.stable _ _ _) ?_
             simp only [setL, List.set_cons_succ, List.set_cons_zero, List.getD_cons_succ, List.getD_cons_zero])
          | (refine wpML_moveC _ rfl (by first | exact .inl rfl | exact .inr rfl) ?_
             simp only [setL, List.set_cons_succ, List.set_cons_zero])
          | (apply wpML_det rfl
             · intro a w' he hr K hK
               simp [Reads, Oper.looksAt, Op.operands, Call.operands, factAt, Is] at hr
               have hx := he.cell
               go_simp
               try go_bits
               try (rw [if_neg (by omega)]; go_simp)
               first
                 | exact hK _ (Ext.refl _)
             simp only [setL, List.set_cons_succ, List.set_cons_zero])
          | (apply wpML_det rfl
             · intro a w' he hr K hK
               simp [Reads, Oper.looksAt, Op.operands, Call.operands, factAt, Fresh] at hr
               obtain ⟨b, hr1, hr2⟩ := hr
               go_simp
               exact hK _ (Ext.refl _)
             simp only [setL, List.set_cons_succ, List.set_cons_zero]))
        intro w2 he2
        repeat (first | with_reducible refine rest_is _ _ _ _ ?_ | (with_reducible refine rest_fact _ _ _ _ ?_; intro _ _) | with_reducible refine rest_end _ _ ?_)
        simp only [List.reverse_cons, List.reverse_nil, List.nil_append, List.cons_append]
        clear hltI hkc
        go_wp2_with fail
        go_roundw
        case rel => exact ⟨k + 1, B, z, by omega, by omega, by go_num, rfl, rfl, Lib.hid HN.out, Hx.out.trans he2, Lib.hid HZ.out⟩
        case measure => simp [intOf]; omega
      · cases hb2 : fitsB d.interval (L.drop k)
        · have H1 := Lib.hid (fun W e => HF1.out W e _ hb1)
          have H2 := Lib.hid (fun W e => HF2.out W e _ hb2)
          have HN := Lib.hid (HM.out _ _ hb1 hb2 rfl)
          have HZ := Lib.hid (HS9.out.trans (if_neg (by rw [hb2]; simp)))
          clear hb1 hb2 HM HS9
          refine wp_region_mk 200 (Ext.refl wr) (by kernel_rfl) (by kernel_rfl) (by kernel_rfl) ?_
          simp only [List.take_succ_cons, List.take_zero, List.take_nil, List.drop_succ_cons, List.drop_zero, List.drop_nil, List.map_cons, List.map_nil]
          repeat (first
            | (refine wpML_det (o := ⟨some 20, _, _, _, _, _⟩) (v := .bool true) rfl ?_ ?_
               · intro a w' he hr K hK
                 simp [Reads, Oper.looksAt, Op.operands, Call.operands, factAt, Is] at hr
                 go_simp
                 refine (H1.out _ he).mono ?_
                 rintro e w'' ⟨rfl, he''⟩
                 exact hK _ he''
               simp only [setL, List.set_cons_succ, List.set_cons_zero])
            | (refine wpML_detg (o := ⟨some 28, _, _, _, _, _⟩) (x := .bool false) rfl rfl rfl rfl ?_ ?_
               · intro a w' he hr K hK
                 simp [Reads, Oper.looksAt, Op.operands, Call.operands, factAt, Is] at hr
                 go_simp
                 refine (H2.out _ he).mono ?_
                 rintro e w'' ⟨rfl, he''⟩
                 exact hK _ he''
               simp only [setL, List.set_cons_succ, List.set_cons_zero])
            | (refine wpML_skip rfl rfl rfl rfl ?_
               simp only [setL, List.set_cons_succ, List.set_cons_zero])
            | (apply wpML_detg rfl rfl rfl rfl
               · intro a w' he hr K hK
                 simp [Reads, Oper.looksAt, Op.operands, Call.operands, factAt, Is] at hr
                 have hx := he.cell
                 go_simp
                 try go_bits
                 try (rw [if_neg (by omega)]; go_simp)
                 first
                   | exact hK _ (Ext.refl _)
               simp only [setL, List.set_cons_succ, List.set_cons_zero])
            | (refine wpML_move _ _ rfl (by first | exact .inl rfl | exact .inr rfl) rfl (by first | exact Is.stable _ | exact AppF.stable _ | exact WrF.stable _ | exact PtrF.stable _ _ | exact IfcF.stable (Fresh.stable _ _ _) _ | exact PairF.stable (RowF.stable _ _ _ _) _ | exact RowF.stable _ _ _ _ | exact Fresh.stable _ _ _) ?_
               simp only [setL, List.set_cons_succ, List.set_cons_zero, List.getD_cons_succ, List.getD_cons_zero])
            | (refine wpML_moveC _ rfl (by first | exact .inl rfl | exact .inr rfl) ?_
               simp only [setL, List.set_cons_succ, List.set_cons_zero])
            | (apply wpML_det rfl
               · intro a w' he hr K hK
                 simp [Reads, Oper.looksAt, Op.operands, Call.operands, factAt, Is] at hr
                 have hx := he.cell
                 go_simp
                 try go_bits
                 try (rw [if_neg (by omega)]; go_simp)
                 first
                   | exact hK _ (Ext.refl _)
               simp only [setL, List.set_cons_succ, List.set_cons_zero])
            | (apply wpML_det rfl
               · intro a w' he hr K hK
                 simp [Reads, Oper.looksAt, Op.operands, Call.operands, factAt, Fresh] at hr
                 obtain ⟨b, hr1, hr2⟩ := hr
                 go_simp
                 exact hK _ (Ext.refl _)
               simp only [setL, List.set_cons_succ, List.set_cons_zero]))
          intro w2 he2
          repeat (first | with_reducible refine rest_is _ _ _ _ ?_ | (with_reducible refine rest_fact _ _ _ _ ?_; intro _ _) | with_reducible refine rest_end _ _ ?_)
          simp only [List.reverse_cons, List.reverse_nil, List.nil_append, List.cons_append]
          clear hltI hkc
          go_wp2_with fail
          go_roundw
          case rel => exact ⟨k + 1, B, z, by omega, by omega, by go_num, rfl, rfl, Lib.hid HN.out, Hx.out.trans he2, Lib.hid HZ.out⟩
          case measure => simp [intOf]; omega
        · have H1 := Lib.hid (fun W e => HF1.out W e _ hb1)
          have H2 := Lib.hid (fun W e => HF2.out W e _ hb2)
          have HN : Hid (Mid d.interval L k) := Lib.hid ⟨hb1, hb2⟩
          have HZ := Lib.hid (HS9.out.trans (if_pos ⟨hb1, hb2⟩))
          clear HS9
          have hz1 := (fits_spec hb1).2.2
          have hz2 := (fits_spec hb2).2.2
          have hz3 := isSize_le (fits_spec hb1).1
          clear HM
          refine wp_region_mk 200 (Ext.refl wr) (by kernel_rfl) (by kernel_rfl) (by kernel_rfl) ?_
          simp only [List.take_succ_cons, List.take_zero, List.take_nil, List.drop_succ_cons, List.drop_zero, List.drop_nil, List.map_cons, List.map_nil]
          repeat (first
            | (refine wpML_det (o := ⟨some 20, _, _, _, _, _⟩) (v := .bool true) rfl ?_ ?_
               · intro a w' he hr K hK
                 simp [Reads, Oper.looksAt, Op.operands, Call.operands, factAt, Is] at hr
                 go_simp
                 refine (H1.out _ he).mono ?_
                 rintro e w'' ⟨rfl, he''⟩
                 exact hK _ he''
               simp only [setL, List.set_cons_succ, List.set_cons_zero])
            | (refine wpML_detg (o := ⟨some 28, _, _, _, _, _⟩) (x := .bool true) rfl rfl rfl rfl ?_ ?_
               · intro a w' he hr K hK
                 simp [Reads, Oper.looksAt, Op.operands, Call.operands, factAt, Is] at hr
                 go_simp
                 refine (H2.out _ he).mono ?_
                 rintro e w'' ⟨rfl, he''⟩
                 exact hK _ he''
               simp only [setL, List.set_cons_succ, List.set_cons_zero])
            | (refine wpML_skip rfl rfl rfl rfl ?_
               simp only [setL, List.set_cons_succ, List.set_cons_zero])
            | (apply wpML_detg rfl rfl rfl rfl
               · intro a w' he hr K hK
                 simp [Reads, Oper.looksAt, Op.operands, Call.operands, factAt, Is] at hr
                 have hx := he.cell
                 go_simp
                 try go_bits
                 try (rw [if_neg (by omega)]; go_simp)
                 first
                   | exact hK _ (Ext.refl _)
               simp only [setL, List.set_cons_succ, List.set_cons_zero])
            | (refine wpML_move _ _ rfl (by first | exact .inl rfl | exact .inr rfl) rfl (by first | exact Is.stable _ | exact AppF.stable _ | exact WrF.stable _ | exact PtrF.stable _ _ | exact IfcF.stable (Fresh.stable _ _ _) _ | exact PairF.stable (RowF.stable _ _ _ _) _ | exact RowF.stable _ _ _ _ | exact Fresh.stable _ _ _) ?_
               simp only [setL, List.set_cons_succ, List.set_cons_zero, List.getD_cons_succ, List.getD_cons_zero])
            | (refine wpML_moveC _ rfl (by first | exact .inl rfl | exact .inr rfl) ?_
               simp only [setL, List.set_cons_succ, List.set_cons_zero])
            | (apply wpML_det rfl
               · intro a w' he hr K hK
                 simp [Reads, Oper.looksAt, Op.operands, Call.operands, factAt, Is] at hr
                 have hx := he.cell
                 go_simp
                 try go_bits
                 try (rw [if_neg (by omega)]; go_simp)
                 first
                   | exact hK _ (Ext.refl _)
               simp only [setL, List.set_cons_succ, List.set_cons_zero])
            | (apply wpML_det rfl
               · intro a w' he hr K hK
                 simp [Reads, Oper.looksAt, Op.operands, Call.operands, factAt, Fresh] at hr
                 obtain ⟨b, hr1, hr2⟩ := hr
                 go_simp
                 exact hK _ (Ext.refl _)
               simp only [setL, List.set_cons_succ, List.set_cons_zero]))
          intro w2 he2
          repeat (first | with_reducible refine rest_is _ _ _ _ ?_ | (with_reducible refine rest_fact _ _ _ _ ?_; intro _ _) | with_reducible refine rest_end _ _ ?_)
          simp only [List.reverse_cons, List.reverse_nil, List.nil_append, List.cons_append]
          have hsr := Hs0.out.ext (Hx.out.trans he2)
          have HS1 := Lib.hid (fun W (e : Ext w2 W) => Size_any (some ⟨b, off, none⟩) c k (L.take k) W ((hsr.take k).ext e) (by rw [List.length_take]; omega) hkc HcM.out ⟨by rw [List.length_take]; omega, fun s hs => Hm.out.2 s (List.mem_of_mem_take hs)⟩)
          have HS2 := Lib.hid (fun W (e : Ext w2 W) => Size_any (some ⟨b, off + k, none⟩) (c - k) (L.length - k) (L.drop k) W ((hsr.drop k).ext e) List.length_drop (by omega) (by have := HcM.out; omega) ⟨by rw [List.length_drop]; omega, fun s hs => Hm.out.2 s (List.mem_of_mem_drop hs)⟩)
          generalize sizeL (L.take k) = s1 at *
          generalize sizeL (L.drop k) = s2 at *
          have Hx2 := Lib.hid (Hx.out.trans he2)
          clear hsr he2 hb1 hb2 H1 H2 HF1 HF2 Hx
          go_upto_region 6 with (fail)
          refine wp_region_mk 200 (Ext.refl w2) (by kernel_rfl) (by kernel_rfl) (by kernel_rfl) ?_
          simp only [List.take_succ_cons, List.take_zero, List.take_nil, List.drop_succ_cons, List.drop_zero, List.drop_nil, List.map_cons, List.map_nil]
          repeat (first
            | (refine wpML_det (o := ⟨some 34, _, _, _, _, _⟩) (v := .int .i64 (s1 : Nat)) rfl ?_ ?_
               · intro a w' he hr K hK
                 simp [Reads, Oper.looksAt, Op.operands, Call.operands, factAt, Is] at hr
                 go_simp
                 refine (HS1.out _ he).mono ?_
                 rintro e w'' ⟨rfl, he''⟩
                 exact hK _ he''
               simp only [setL, List.set_cons_succ, List.set_cons_zero])
            | (refine wpML_det (o := ⟨some 38, _, _, _, _, _⟩) (v := .int .i64 (s2 : Nat)) rfl ?_ ?_
               · intro a w' he hr K hK
                 simp [Reads, Oper.looksAt, Op.operands, Call.operands, factAt, Is] at hr
                 go_simp
                 refine (HS2.out _ he).mono ?_
                 rintro e w'' ⟨rfl, he''⟩
                 exact hK _ he''
               simp only [setL, List.set_cons_succ, List.set_cons_zero])
            | (refine wpML_move _ _ rfl (by first | exact .inl rfl | exact .inr rfl) rfl (by first | exact Is.stable _ | exact AppF.stable _ | exact WrF.stable _ | exact PtrF.stable _ _ | exact IfcF.stable (Fresh.stable _ _ _) _ | exact PairF.stable (RowF.stable _ _ _ _) _ | exact RowF.stable _ _ _ _ | exact Fresh.stable _ _ _) ?_
               simp only [setL, List.set_cons_succ, List.set_cons_zero, List.getD_cons_succ, List.getD_cons_zero])
            | (refine wpML_moveC _ rfl (by first | exact .inl rfl | exact .inr rfl) ?_
               simp only [setL, List.set_cons_succ, List.set_cons_zero])
            | (apply wpML_det rfl
               · intro a w' he hr K hK
                 simp [Reads, Oper.looksAt, Op.operands, Call.operands, factAt, Is] at hr
                 have hx := he.cell
                 go_simp
                 try go_bits
                 try (rw [if_neg (by omega)]; go_simp)
                 first
                   | exact hK _ (Ext.refl _)
               simp only [setL, List.set_cons_succ, List.set_cons_zero])
            | (apply wpML_det rfl
               · intro a w' he hr K hK
                 simp [Reads, Oper.looksAt, Op.operands, Call.operands, factAt, Fresh] at hr
                 obtain ⟨b, hr1, hr2⟩ := hr
                 go_simp
                 exact hK _ (Ext.refl _)
               simp only [setL, List.set_cons_succ, List.set_cons_zero]))
          intro w2 he2
          repeat (first | with_reducible refine rest_is _ _ _ _ ?_ | (with_reducible refine rest_fact _ _ _ _ ?_; intro _ _) | with_reducible refine rest_end _ _ ?_)
          simp only [List.reverse_cons, List.reverse_nil, List.nil_append, List.cons_append]
          have hs12 : (s1 : Int) ≤ 512 ∧ (s2 : Int) ≤ 512 := by omega
          have Hx3 := Lib.hid (Hx2.out.trans he2)
          obtain ⟨hs1, hs2⟩ := hs12
          clear hz1 hz2 hz3 HS1 HS2 Hx2 he2
          rcases Nat.eq_zero_or_pos B with hB | hB
          · have b0 : ((B : Int) == 0) = true := by rw [hB]; rfl
            go_wp2_with fail
            go_roundw
            case rel => exact ⟨k + 1, k, _, by omega, by omega, by go_num, rfl, rfl, Lib.hid (.inr ⟨hk1, by omega, HN.out⟩), Hx3.out, Lib.hid (HZ.out.trans (by unfold absD; simp_all))⟩
            case measure => simp [intOf]; omega
          · have b0 : ((B : Int) == 0) = false := beq_eq_false_iff_ne.2 (by omega)
            have HB := Lib.hid (show 1 ≤ B ∧ B < k ∧ Mid d.interval L B by
              rcases hI.out with ⟨h, _⟩ | h
              · omega
              · exact h)
            go_wp2_with fail
            · go_roundw
              case rel => exact ⟨k + 1, k, _, by omega, by omega, by go_num, rfl, rfl, Lib.hid (.inr ⟨hk1, by omega, HN.out⟩), Hx3.out, Lib.hid (HZ.out.trans (by unfold absD; simp_all))⟩
              case measure => simp [intOf]; omega
            · go_roundw
              case rel => exact ⟨k + 1, B, _, by omega, by omega, by go_num, rfl, rfl, Lib.hid (.inr ⟨HB.out.1, by have := HB.out.2.1; omega, HB.out.2.2⟩), Hx3.out, Lib.hid (HZ.out.trans (if_neg (by
                rintro (h | h)
                · have := HB.out.1; omega
                · exact absurd h (Int.not_lt.2 (by unfold absD; assumption)))))⟩
              case measure => simp [intOf]; omega
    · have hltI : decide ((k : Int) < L.length) = false := by simp; omega
      go_wp2_with fail
      go_ret
      refine ⟨⟨B, rfl, ?_⟩, HE0.out.trans hx⟩
      rcases hI.out with ⟨_, h⟩ | ⟨h1, h2, h3⟩
      · obtain ⟨m, h1, h2, h3⟩ := Hex.out
        exact absurd h3 (h m h1 (by omega))
      · exact ⟨h1, by omega, h3, by
          have e : k = L.length := by omega
          unfold midD
          rw [← e, hSt.out]⟩
end Go.Proofs.YtpefkjhiaflonaaGreat
