/- A part of the proof. -/
import Derived.Test.YtifmbcjbccedfaaGreatDoorAO

set_option linter.unusedSimpArgs false
set_option linter.unusedVariables false
namespace Go.Proofs.YtifmbcjbccedfaaGreatDoor
open Go.RowKit Dsd
theorem fitsI_any (q : Option Addr) (c : Nat) (L : Recs) (size : Int) (W : World) (h : Strs W q L) (h1 : L.length ≤ c) (h2 : c ≤ maxLen) (hf : fitsB size L = true) : Calls Tryz.prog 38 #[.int .i64 size, .slice q L.length c] W fun e w' => e = .returned (.bool true) ∧ Ext W w' := by
 obtain ⟨g1, g2⟩ := fits_small hf
 refine (Fits_any q c L.length L size W h rfl h1 h2 ⟨by omega, fun s hs => by have := g2 s hs; omega⟩).mono ?_
 rintro e w' ⟨rfl, he⟩
 unfold fitsB at hf
 exact ⟨by rw [hf], he⟩
set_option maxRecDepth 100000 in
set_option maxHeartbeats 4000000 in
theorem ValidA_anyW (d : DS) (a : Ar) (q : Option Addr) (c : Nat) (p : Option Addr) (m : Nat) (w : World) (s : ASpec d a) (hv : ArW w a q c p m) :
   Calls Tryz.prog 10 #[.agg #[.int .i64 d.id, .int .i64 d.org, .int .i64 d.format, .int .i64 d.length, .int .i64 d.block, .int .i64 d.keyAt, .int .i64 d.keyLength, .int .i64 d.interval, .int .i64 d.area, .int .i64 d.freeInterval, .int .i64 d.freeArea, .int .i64 d.base, .int .i64 d.altAt, .int .i64 d.altLength, .bool d.unique, .int .i64 d.cls, .string ⟨d.volume.toArray⟩, .string ⟨d.owner.toArray⟩, .int .i64 d.created, .int .i64 d.expires, .bool d.archived], .agg (arC a q c p m)] w fun e w' => e = .returned (.bool true) ∧ Ext w w' := by
 have HD := Lib.hid (described_any d)
 rw [s.keyed] at HD
 have HS := Lib.hid (fun W (e : Ext w W) => shaped_anyW d a q c p m W s (hv.ext e))
 have Hs := Lib.hid s
 have Hkd := Lib.hid s.keyed
 have Hv := Lib.hid hv
 have hln : ((a.ivs.length : Int) != (a.nd.ents.length : Int)) = false := by rw [s.len]; simp
 have hl120 : a.ivs.length ≤ 120 := by rw [s.len]; exact (node_iff.1 s.node).l2
 have hle : a.nd.ents.length = a.ivs.length := s.len.symm
 clear s hv
 go_enter Tryz.func10, Tryz.ntmps10
 go_upto_region 1 with (fail)
 refine wp_name (fun w0 => Ext w w0 ∧ DsAt w0 w.heap.size d ∧ ArAt w0 (w.heap.size + 1) a q c p m) (ds_ar w d a q c p m) ?_
 rintro w0 ⟨he0, hd0, ha0⟩
 go_upto_region 3 with (first
   | (refine wpList_ds (o := ⟨some 12, _, _, _, _, _⟩) rfl (.tmp 2) rfl _ rfl d hd0 ?_)
   | (go_at_call 29; refine (HD.out _).mono ?_; rintro e w1 ⟨rfl, he1⟩; have hd1 := hd0.ext he1; have ha1 := ha0.ext he1)
   | (refine wpList_ds (o := ⟨some 16, _, _, _, _, _⟩) rfl (.tmp 2) rfl _ rfl d hd1 ?_)
   | (refine wpList_row (o := ⟨some 17, _, _, _, _, _⟩) rfl 29 (.tmp 3) rfl _ rfl _ _ _ ha1 arDesc rfl arSize ?_)
   | (go_at_call 32; refine (HS.out _ (he0.trans he1)).mono ?_; rintro e w2 ⟨rfl, he2⟩; have ha2 := ha1.ext he2; obtain ⟨e0, e1, e2, e3, e4, la⟩ := ha2.cells))
 have Hd2 := Lib.hid (hd1.ext he2)
 have Ha2 := Lib.hid ha2
 have Hx2 := Lib.hid ((he0.trans he1).trans he2)
 have Hv2 := Lib.hid (Hv.out.ext Hx2.out)
 clear hd0 ha0 hd1 ha1 he0 he1 he2 ha2 hln
 go_upto_region 5 with (fail)
 clear e0 e1 e2 e3 e4 la
 go_loopw [34, 5] (fun i lo wr => ∃ k : Nat, k ≤ a.ivs.length ∧ i = .int .i64 k ∧ lo = .string ⟨(lowAt a.nd.ents k).toArray⟩ ∧ Ext w2 wr) (fun i _ _ => a.ivs.length - (intOf i).toNat)
 case atStart => exact ⟨0, Nat.zero_le _, rfl, rfl, Ext.refl _⟩
 case round =>
   obtain ⟨k, hk, rfl, rfl, hex⟩ := hrel
   have Hex := Lib.hid hex
   by_cases hlt : k < a.ivs.length
   · have hltI : (k : Int) < a.ivs.length := by omega
     obtain ⟨hf, hE, hIv, hInc⟩ := Hs.out.iv hlt
     have HIv := Lib.hid hIv
     have HInc := Lib.hid hInc
     obtain ⟨ib, io, iv, rfl, hib, hcell, qi, ci, rfl, hrow, hr1, hr2, hr3⟩ := (Hv2.out.ivs.ext hex).at k hlt
     obtain ⟨gb, go, rfl, hgb, hcc⟩ := (Hv2.out.ents.ext hex).at k (by omega)
     obtain ⟨hck, _⟩ := hcc k (by omega)
     have hkE : (k : Int) < a.nd.ents.length := by omega
     have HFt := Lib.hid (fun W (e : Ext wr W) => fitsI_any qi ci (a.ivs.getD k []) d.interval W (hrow.ext e) hr1 hr2 hf)
     have hdr := Hd2.out.ext hex
     have har := Ha2.out.ext hex
     obtain ⟨e0, e1, e2, e3, e4, la⟩ := har.cells
     have e7 := Blk.val hdr 7 _ rfl
     have ld := Blk.lt hdr
     have HLow := Lib.hid (lowAt_succ a.nd.ents k)
     have hsm := (fits_small hf).1
     clear hf hIv hInc hcc hr3 hex
     generalize a.ivs.getD k [] = L at *
     generalize (entAt a.nd.ents k).1 = bel at *
     generalize lowAt a.nd.ents k = low at *
     by_cases hL0 : L.length = 0
     · have i1 : ((L.length : Int) == 0) = true := by rw [hL0]; rfl
       have i2 : decide (1 < (a.ivs.length : Int)) = false := decide_eq_false (by have h9 := hE (List.eq_nil_of_length_eq_zero hL0); rw [h9]; decide)
       clear hE hL0
       go_upto_region 10 with (first
         | (go_at_call 38; refine (HFt.out _ (Ext.refl _)).mono ?_; rintro e w4 ⟨rfl, he4⟩))
       have Hr4 := Lib.hid (hrow.ext he4)
       have Hd4 := Lib.hid (hdr.ext he4)
       have Hex4 := Lib.hid (Hex.out.trans he4)
       clear e0 e1 e2 e3 e4 la e7 ld hcell hck hrow hdr har i1 i2
       go_upto_region 11 with (fail)
       go_loopw [64] (fun i wr => ∃ j : Nat, j ≤ L.length ∧ i = .int .i64 j ∧ Ext w4 wr) (fun i _ => L.length - (intOf i).toNat)
       case atStart => exact ⟨0, Nat.zero_le _, rfl, Ext.refl _⟩
       case round =>
         obtain ⟨j, hj, rfl, hxj⟩ := hrel
         have Hxj := Lib.hid hxj
         by_cases hlj : j < L.length
         · have hljI : (j : Int) < L.length := by omega
           obtain ⟨rb, ro, rfl, hrb, hrc⟩ := (Hr4.out.ext hxj).at j hlj
           obtain ⟨g1, g2, g3⟩ := HIv.out _ (getD_mem hlj)
           have hcj := hrc j hlj
           have hp : Hid (0 < j → recB d (L.getD (j - 1) []) = true ∧ bl (keyD d (L.getD (j - 1) [])) (keyD d (L.getD j [])) = true) := Lib.hid (fun h0 => ⟨(HIv.out _ (getD_mem (by omega))).1, inc_lt HInc.out (by omega) hlj⟩)
           generalize hx : L.getD j [] = x at g1 g2 g3 hcj hp
           generalize hy : L.getD (j - 1) [] = y at hp
           have HY := Lib.hid hy
           clear hx hy
           have HA := Lib.hid (allowedA_any d x Hkd.out)
           rw [g1] at HA
           have HK := Lib.hid (keyOf_any d x Hkd.out g1)
           have hd5 := Hd4.out.ext hxj
           generalize hkx : keyD d x = kx at g2 g3 hp HK
           clear hkx
           have u1 : Go.Op.bytesLess kx low = false := g2
           clear g1 g2 hxj hrc
           go_upto_region 16 with (first
             | (with_reducible show wpList _ _ _ (⟨some 69, _, _, _, _, _⟩ :: _) _ _; refine wpList_ds rfl (.tmp 2) rfl _ rfl d hd5 ?_)
             | (go_at_call 39; refine (HA.out _).mono ?_; rintro e w6 ⟨rfl, he6⟩; have hd6 := hd5.ext he6)
             | (with_reducible show wpList _ _ _ (⟨some 73, _, _, _, _, _⟩ :: _) _ _; refine wpList_ds rfl (.tmp 2) rfl _ rfl d hd6 ?_)
             | (go_at_call 40; refine (HK.out _).mono ?_; rintro e w7 ⟨rfl, he7⟩))
           have Hd7 := Lib.hid (hd6.ext he7)
           have Hx7 := Lib.hid (Hxj.out.trans (he6.trans he7))
           have Hr7 := Lib.hid (Hr4.out.ext Hx7.out)
           clear hd5 hd6 he6 he7 hcj hrb
           rcases Nat.eq_zero_or_pos j with hj0 | hj0
           · have v1 : decide (0 < (j : Int)) = false := decide_eq_false (by omega)
             rcases g3 with hb | hb
             · subst hb
               refine wp_region_mk 200 (Ext.refl w7) (by kernel_rfl) (by kernel_rfl) (by kernel_rfl) ?_
               simp only [List.take_succ_cons, List.take_zero, List.take_nil, List.drop_succ_cons, List.drop_zero, List.drop_nil, List.map_cons, List.map_nil]
               repeat (first
                 | (refine wpML_skip rfl rfl rfl rfl ?_
                    simp only [setL, List.set_cons_succ, List.set_cons_zero])
                 | (apply wpML_detg rfl rfl rfl rfl
                    · intro a w' he hr K hK
                      simp [Reads, Oper.looksAt, Op.operands, Call.operands, factAt, Is] at hr
                      have hx := he.cell
                      go_simp
                      try go_bits
                      try (rw [if_neg (by omega)]; go_simp)
                      first
                        | exact hK _ (Ext.refl _)
                    simp only [setL, List.set_cons_succ, List.set_cons_zero])
                 | (refine wpML_move _ _ rfl (by first | exact .inl rfl | exact .inr rfl) rfl (by first | exact Is.stable _ | exact AppF.stable _ | exact WrF.stable _ | exact PtrF.stable _ _ | exact IfcF.stable (Fresh.stable _ _ _) _ | exact PairF.stable (RowF.stable _ _ _ _) _ | exact RowF.stable _ _ _ _ | exact Fresh.stable _ _ _) ?_
                    simp only [setL, List.set_cons_succ, List.set_cons_zero, List.getD_cons_succ, List.getD_cons_zero])
                 | (refine wpML_moveC _ rfl (by first | exact .inl rfl | exact .inr rfl) ?_
                    simp only [setL, List.set_cons_succ, List.set_cons_zero])
                 | (apply wpML_det rfl
                    · intro a w' he hr K hK
                      simp [Reads, Oper.looksAt, Op.operands, Call.operands, factAt, Is] at hr
                      have hx := he.cell
                      go_simp
                      try go_bits
                      try (rw [if_neg (by omega)]; go_simp)
                      first
                        | exact hK _ (Ext.refl _)
                    simp only [setL, List.set_cons_succ, List.set_cons_zero])
                 | (apply wpML_det rfl
                    · intro a w' he hr K hK
                      simp [Reads, Oper.looksAt, Op.operands, Call.operands, factAt, Fresh] at hr
                      obtain ⟨b, hr1, hr2⟩ := hr
                      go_simp
                      exact hK _ (Ext.refl _)
                    simp only [setL, List.set_cons_succ, List.set_cons_zero]))
               intro w2 he2
               repeat (first | with_reducible refine rest_is _ _ _ _ ?_ | (with_reducible refine rest_fact _ _ _ _ ?_; intro _ _) | with_reducible refine rest_end _ _ ?_)
               simp only [List.reverse_cons, List.reverse_nil, List.nil_append, List.cons_append]
               clear v1
               go_wp2_with fail
               go_roundw
               case rel => exact ⟨j + 1, by omega, by go_num, Hx7.out.trans he2⟩
               case measure => simp [intOf]; omega
             · have u2 : (bel != []) = true := by cases bel with
                 | nil => rw [bl_nil] at hb; cases hb
                 | cons => rfl
               have u4 : (bel == []) = false := by cases bel with
                 | nil => rw [bl_nil] at hb; cases hb
                 | cons => rfl
               have u3 : Go.Op.bytesLess kx bel = true := hb
               refine wp_region_mk 200 (Ext.refl w7) (by kernel_rfl) (by kernel_rfl) (by kernel_rfl) ?_
               simp only [List.take_succ_cons, List.take_zero, List.take_nil, List.drop_succ_cons, List.drop_zero, List.drop_nil, List.map_cons, List.map_nil]
               repeat (first
                 | (refine wpML_skip rfl rfl rfl rfl ?_
                    simp only [setL, List.set_cons_succ, List.set_cons_zero])
                 | (apply wpML_detg rfl rfl rfl rfl
                    · intro a w' he hr K hK
                      simp [Reads, Oper.looksAt, Op.operands, Call.operands, factAt, Is] at hr
                      have hx := he.cell
                      go_simp
                      try go_bits
                      try (rw [if_neg (by omega)]; go_simp)
                      first
                        | exact hK _ (Ext.refl _)
                    simp only [setL, List.set_cons_succ, List.set_cons_zero])
                 | (refine wpML_move _ _ rfl (by first | exact .inl rfl | exact .inr rfl) rfl (by first | exact Is.stable _ | exact AppF.stable _ | exact WrF.stable _ | exact PtrF.stable _ _ | exact IfcF.stable (Fresh.stable _ _ _) _ | exact PairF.stable (RowF.stable _ _ _ _) _ | exact RowF.stable _ _ _ _ | exact Fresh.stable _ _ _) ?_
                    simp only [setL, List.set_cons_succ, List.set_cons_zero, List.getD_cons_succ, List.getD_cons_zero])
                 | (refine wpML_moveC _ rfl (by first | exact .inl rfl | exact .inr rfl) ?_
                    simp only [setL, List.set_cons_succ, List.set_cons_zero])
                 | (apply wpML_det rfl
                    · intro a w' he hr K hK
                      simp [Reads, Oper.looksAt, Op.operands, Call.operands, factAt, Is] at hr
                      have hx := he.cell
                      go_simp
                      try go_bits
                      try (rw [if_neg (by omega)]; go_simp)
                      first
                        | exact hK _ (Ext.refl _)
                    simp only [setL, List.set_cons_succ, List.set_cons_zero])
                 | (apply wpML_det rfl
                    · intro a w' he hr K hK
                      simp [Reads, Oper.looksAt, Op.operands, Call.operands, factAt, Fresh] at hr
                      obtain ⟨b, hr1, hr2⟩ := hr
                      go_simp
                      exact hK _ (Ext.refl _)
                    simp only [setL, List.set_cons_succ, List.set_cons_zero]))
               intro w2 he2
               repeat (first | with_reducible refine rest_is _ _ _ _ ?_ | (with_reducible refine rest_fact _ _ _ _ ?_; intro _ _) | with_reducible refine rest_end _ _ ?_)
               simp only [List.reverse_cons, List.reverse_nil, List.nil_append, List.cons_append]
               clear v1
               go_wp2_with fail
               go_roundw
               case rel => exact ⟨j + 1, by omega, by go_num, Hx7.out.trans he2⟩
               case measure => simp [intOf]; omega
           · have v1 : decide (0 < (j : Int)) = true := decide_eq_true (by omega)
             have v3 : (j : Int) - 1 = ((j - 1 : Nat) : Int) := by omega
             have v4 : ((j - 1 : Nat) : Int) < (L.length : Int) := by omega
             obtain ⟨hp1, hp2⟩ := hp.out hj0
             have HK2 := Lib.hid (keyOf_any d y Hkd.out hp1)
             generalize hky : keyD d y = ky at hp2 HK2
             have v2 : Go.Op.bytesLess ky kx = true := hp2
             clear hky hp1 hp2
             obtain ⟨rb', ro', hq, _, hrc2⟩ := Hr7.out.at (j - 1) (by omega)
             have hcy := hrc2 (j - 1) (by omega)
             rw [HY.out] at hcy
             clear hrc2
             simp only [Option.some.injEq, Addr.mk.injEq, and_true] at hq
             obtain ⟨rfl, rfl⟩ := hq
             have lrb := (show rb < w7.heap.size by assumption)
             rcases g3 with hb | hb
             · subst hb
               refine wp_region_mk 200 (Ext.refl w7) (by kernel_rfl) (by kernel_rfl) (by kernel_rfl) ?_
               simp only [List.take_succ_cons, List.take_zero, List.take_nil, List.drop_succ_cons, List.drop_zero, List.drop_nil, List.map_cons, List.map_nil]
               repeat (first
                 | (refine wpML_detg (o := ⟨some 92, _, _, _, _, _⟩) (x := .agg #[.int .i64 d.id, .int .i64 d.org, .int .i64 d.format, .int .i64 d.length, .int .i64 d.block, .int .i64 d.keyAt, .int .i64 d.keyLength, .int .i64 d.interval, .int .i64 d.area, .int .i64 d.freeInterval, .int .i64 d.freeArea, .int .i64 d.base, .int .i64 d.altAt, .int .i64 d.altLength, .bool d.unique, .int .i64 d.cls, .string ⟨d.volume.toArray⟩, .string ⟨d.owner.toArray⟩, .int .i64 d.created, .int .i64 d.expires, .bool d.archived]) rfl rfl rfl rfl ?_ ?_
                    · intro a w' he hr K hK
                      simp [Reads, Oper.looksAt, Op.operands, factAt, Is] at hr
                      exact wp_load_row 23 (.tmp 2) rfl (w.heap.size) (by go_simp) _ _ _ _ (he.blk _ _ Hd7.out) dsDesc rfl dsSize (hK _ (Ext.refl _))
                    simp only [setL, List.set_cons_succ, List.set_cons_zero])
                 | (refine wpML_skip rfl rfl rfl rfl ?_
                    simp only [setL, List.set_cons_succ, List.set_cons_zero])
                 | (apply wpML_detg rfl rfl rfl rfl
                    · intro a w' he hr K hK
                      simp [Reads, Oper.looksAt, Op.operands, Call.operands, factAt, Is] at hr
                      have hx := he.cell
                      go_simp
                      try go_bits
                      try (rw [if_neg (by omega)]; go_simp)
                      first
                        | exact hK _ (Ext.refl _)
                        | (go_at_call 40; refine (HK2.out _).mono ?_; rintro e w'' ⟨rfl, he''⟩; exact hK _ he'')
                    simp only [setL, List.set_cons_succ, List.set_cons_zero])
                 | (refine wpML_move _ _ rfl (by first | exact .inl rfl | exact .inr rfl) rfl (by first | exact Is.stable _ | exact AppF.stable _ | exact WrF.stable _ | exact PtrF.stable _ _ | exact IfcF.stable (Fresh.stable _ _ _) _ | exact PairF.stable (RowF.stable _ _ _ _) _ | exact RowF.stable _ _ _ _ | exact Fresh.stable _ _ _) ?_
                    simp only [setL, List.set_cons_succ, List.set_cons_zero, List.getD_cons_succ, List.getD_cons_zero])
                 | (refine wpML_moveC _ rfl (by first | exact .inl rfl | exact .inr rfl) ?_
                    simp only [setL, List.set_cons_succ, List.set_cons_zero])
                 | (apply wpML_det rfl
                    · intro a w' he hr K hK
                      simp [Reads, Oper.looksAt, Op.operands, Call.operands, factAt, Is] at hr
                      have hx := he.cell
                      go_simp
                      try go_bits
                      try (rw [if_neg (by omega)]; go_simp)
                      first
                        | exact hK _ (Ext.refl _)
                        | (go_at_call 40; refine (HK2.out _).mono ?_; rintro e w'' ⟨rfl, he''⟩; exact hK _ he'')
                    simp only [setL, List.set_cons_succ, List.set_cons_zero])
                 | (apply wpML_det rfl
                    · intro a w' he hr K hK
                      simp [Reads, Oper.looksAt, Op.operands, Call.operands, factAt, Fresh] at hr
                      obtain ⟨b, hr1, hr2⟩ := hr
                      go_simp
                      exact hK _ (Ext.refl _)
                    simp only [setL, List.set_cons_succ, List.set_cons_zero]))
               intro w2 he2
               repeat (first | with_reducible refine rest_is _ _ _ _ ?_ | (with_reducible refine rest_fact _ _ _ _ ?_; intro _ _) | with_reducible refine rest_end _ _ ?_)
               simp only [List.reverse_cons, List.reverse_nil, List.nil_append, List.cons_append]
               clear v1 v2 v3 v4 HK2 hcy
               go_wp2_with fail
               go_roundw
               case rel => exact ⟨j + 1, by omega, by go_num, Hx7.out.trans he2⟩
               case measure => simp [intOf]; omega
             · have u2 : (bel != []) = true := by cases bel with
                 | nil => rw [bl_nil] at hb; cases hb
                 | cons => rfl
               have u4 : (bel == []) = false := by cases bel with
                 | nil => rw [bl_nil] at hb; cases hb
                 | cons => rfl
               have u3 : Go.Op.bytesLess kx bel = true := hb
               refine wp_region_mk 200 (Ext.refl w7) (by kernel_rfl) (by kernel_rfl) (by kernel_rfl) ?_
               simp only [List.take_succ_cons, List.take_zero, List.take_nil, List.drop_succ_cons, List.drop_zero, List.drop_nil, List.map_cons, List.map_nil]
               repeat (first
                 | (refine wpML_detg (o := ⟨some 92, _, _, _, _, _⟩) (x := .agg #[.int .i64 d.id, .int .i64 d.org, .int .i64 d.format, .int .i64 d.length, .int .i64 d.block, .int .i64 d.keyAt, .int .i64 d.keyLength, .int .i64 d.interval, .int .i64 d.area, .int .i64 d.freeInterval, .int .i64 d.freeArea, .int .i64 d.base, .int .i64 d.altAt, .int .i64 d.altLength, .bool d.unique, .int .i64 d.cls, .string ⟨d.volume.toArray⟩, .string ⟨d.owner.toArray⟩, .int .i64 d.created, .int .i64 d.expires, .bool d.archived]) rfl rfl rfl rfl ?_ ?_
                    · intro a w' he hr K hK
                      simp [Reads, Oper.looksAt, Op.operands, factAt, Is] at hr
                      exact wp_load_row 23 (.tmp 2) rfl (w.heap.size) (by go_simp) _ _ _ _ (he.blk _ _ Hd7.out) dsDesc rfl dsSize (hK _ (Ext.refl _))
                    simp only [setL, List.set_cons_succ, List.set_cons_zero])
                 | (refine wpML_skip rfl rfl rfl rfl ?_
                    simp only [setL, List.set_cons_succ, List.set_cons_zero])
                 | (apply wpML_detg rfl rfl rfl rfl
                    · intro a w' he hr K hK
                      simp [Reads, Oper.looksAt, Op.operands, Call.operands, factAt, Is] at hr
                      have hx := he.cell
                      go_simp
                      try go_bits
                      try (rw [if_neg (by omega)]; go_simp)
                      first
                        | exact hK _ (Ext.refl _)
                        | (go_at_call 40; refine (HK2.out _).mono ?_; rintro e w'' ⟨rfl, he''⟩; exact hK _ he'')
                    simp only [setL, List.set_cons_succ, List.set_cons_zero])
                 | (refine wpML_move _ _ rfl (by first | exact .inl rfl | exact .inr rfl) rfl (by first | exact Is.stable _ | exact AppF.stable _ | exact WrF.stable _ | exact PtrF.stable _ _ | exact IfcF.stable (Fresh.stable _ _ _) _ | exact PairF.stable (RowF.stable _ _ _ _) _ | exact RowF.stable _ _ _ _ | exact Fresh.stable _ _ _) ?_
                    simp only [setL, List.set_cons_succ, List.set_cons_zero, List.getD_cons_succ, List.getD_cons_zero])
                 | (refine wpML_moveC _ rfl (by first | exact .inl rfl | exact .inr rfl) ?_
                    simp only [setL, List.set_cons_succ, List.set_cons_zero])
                 | (apply wpML_det rfl
                    · intro a w' he hr K hK
                      simp [Reads, Oper.looksAt, Op.operands, Call.operands, factAt, Is] at hr
                      have hx := he.cell
                      go_simp
                      try go_bits
                      try (rw [if_neg (by omega)]; go_simp)
                      first
                        | exact hK _ (Ext.refl _)
                        | (go_at_call 40; refine (HK2.out _).mono ?_; rintro e w'' ⟨rfl, he''⟩; exact hK _ he'')
                    simp only [setL, List.set_cons_succ, List.set_cons_zero])
                 | (apply wpML_det rfl
                    · intro a w' he hr K hK
                      simp [Reads, Oper.looksAt, Op.operands, Call.operands, factAt, Fresh] at hr
                      obtain ⟨b, hr1, hr2⟩ := hr
                      go_simp
                      exact hK _ (Ext.refl _)
                    simp only [setL, List.set_cons_succ, List.set_cons_zero]))
               intro w2 he2
               repeat (first | with_reducible refine rest_is _ _ _ _ ?_ | (with_reducible refine rest_fact _ _ _ _ ?_; intro _ _) | with_reducible refine rest_end _ _ ?_)
               simp only [List.reverse_cons, List.reverse_nil, List.nil_append, List.cons_append]
               clear v1 v2 v3 v4 HK2 hcy
               go_wp2_with fail
               go_roundw
               case rel => exact ⟨j + 1, by omega, by go_num, Hx7.out.trans he2⟩
               case measure => simp [intOf]; omega
         · have hljI : decide ((j : Int) < L.length) = false := by simp; omega
           go_wp2_with fail
           go_roundw
           case rel => exact ⟨k + 1, by omega, by go_num, by rw [HLow.out], Hex4.out.trans Hxj.out⟩
           case measure => simp [intOf]; omega
     · have i1 : ((L.length : Int) == 0) = false := beq_eq_false_iff_ne.2 (by omega)
       clear hE hL0
       go_upto_region 10 with (first
         | (go_at_call 38; refine (HFt.out _ (Ext.refl _)).mono ?_; rintro e w4 ⟨rfl, he4⟩))
       have Hr4 := Lib.hid (hrow.ext he4)
       have Hd4 := Lib.hid (hdr.ext he4)
       have Hex4 := Lib.hid (Hex.out.trans he4)
       clear e0 e1 e2 e3 e4 la e7 ld hcell hck hrow hdr har i1
       go_upto_region 11 with (fail)
       go_loopw [64] (fun i wr => ∃ j : Nat, j ≤ L.length ∧ i = .int .i64 j ∧ Ext w4 wr) (fun i _ => L.length - (intOf i).toNat)
       case atStart => exact ⟨0, Nat.zero_le _, rfl, Ext.refl _⟩
       case round =>
         obtain ⟨j, hj, rfl, hxj⟩ := hrel
         have Hxj := Lib.hid hxj
         by_cases hlj : j < L.length
         · have hljI : (j : Int) < L.length := by omega
           obtain ⟨rb, ro, rfl, hrb, hrc⟩ := (Hr4.out.ext hxj).at j hlj
           obtain ⟨g1, g2, g3⟩ := HIv.out _ (getD_mem hlj)
           have hcj := hrc j hlj
           have hp : Hid (0 < j → recB d (L.getD (j - 1) []) = true ∧ bl (keyD d (L.getD (j - 1) [])) (keyD d (L.getD j [])) = true) := Lib.hid (fun h0 => ⟨(HIv.out _ (getD_mem (by omega))).1, inc_lt HInc.out (by omega) hlj⟩)
           generalize hx : L.getD j [] = x at g1 g2 g3 hcj hp
           generalize hy : L.getD (j - 1) [] = y at hp
           have HY := Lib.hid hy
           clear hx hy
           have HA := Lib.hid (allowedA_any d x Hkd.out)
           rw [g1] at HA
           have HK := Lib.hid (keyOf_any d x Hkd.out g1)
           have hd5 := Hd4.out.ext hxj
           generalize hkx : keyD d x = kx at g2 g3 hp HK
           clear hkx
           have u1 : Go.Op.bytesLess kx low = false := g2
           clear g1 g2 hxj hrc
           go_upto_region 16 with (first
             | (with_reducible show wpList _ _ _ (⟨some 69, _, _, _, _, _⟩ :: _) _ _; refine wpList_ds rfl (.tmp 2) rfl _ rfl d hd5 ?_)
             | (go_at_call 39; refine (HA.out _).mono ?_; rintro e w6 ⟨rfl, he6⟩; have hd6 := hd5.ext he6)
             | (with_reducible show wpList _ _ _ (⟨some 73, _, _, _, _, _⟩ :: _) _ _; refine wpList_ds rfl (.tmp 2) rfl _ rfl d hd6 ?_)
             | (go_at_call 40; refine (HK.out _).mono ?_; rintro e w7 ⟨rfl, he7⟩))
           have Hd7 := Lib.hid (hd6.ext he7)
           have Hx7 := Lib.hid (Hxj.out.trans (he6.trans he7))
           have Hr7 := Lib.hid (Hr4.out.ext Hx7.out)
           clear hd5 hd6 he6 he7 hcj hrb
           rcases Nat.eq_zero_or_pos j with hj0 | hj0
           · have v1 : decide (0 < (j : Int)) = false := decide_eq_false (by omega)
             rcases g3 with hb | hb
             · subst hb
               refine wp_region_mk 200 (Ext.refl w7) (by kernel_rfl) (by kernel_rfl) (by kernel_rfl) ?_
               simp only [List.take_succ_cons, List.take_zero, List.take_nil, List.drop_succ_cons, List.drop_zero, List.drop_nil, List.map_cons, List.map_nil]
               repeat (first
                 | (refine wpML_skip rfl rfl rfl rfl ?_
                    simp only [setL, List.set_cons_succ, List.set_cons_zero])
                 | (apply wpML_detg rfl rfl rfl rfl
                    · intro a w' he hr K hK
                      simp [Reads, Oper.looksAt, Op.operands, Call.operands, factAt, Is] at hr
                      have hx := he.cell
                      go_simp
                      try go_bits
                      try (rw [if_neg (by omega)]; go_simp)
                      first
                        | exact hK _ (Ext.refl _)
                    simp only [setL, List.set_cons_succ, List.set_cons_zero])
                 | (refine wpML_move _ _ rfl (by first | exact .inl rfl | exact .inr rfl) rfl (by first | exact Is.stable _ | exact AppF.stable _ | exact WrF.stable _ | exact PtrF.stable _ _ | exact IfcF.stable (Fresh.stable _ _ _) _ | exact PairF.stable (RowF.stable _ _ _ _) _ | exact RowF.stable _ _ _ _ | exact Fresh.stable _ _ _) ?_
                    simp only [setL, List.set_cons_succ, List.set_cons_zero, List.getD_cons_succ, List.getD_cons_zero])
                 | (refine wpML_moveC _ rfl (by first | exact .inl rfl | exact .inr rfl) ?_
                    simp only [setL, List.set_cons_succ, List.set_cons_zero])
                 | (apply wpML_det rfl
                    · intro a w' he hr K hK
                      simp [Reads, Oper.looksAt, Op.operands, Call.operands, factAt, Is] at hr
                      have hx := he.cell
                      go_simp
                      try go_bits
                      try (rw [if_neg (by omega)]; go_simp)
                      first
                        | exact hK _ (Ext.refl _)
                    simp only [setL, List.set_cons_succ, List.set_cons_zero])
                 | (apply wpML_det rfl
                    · intro a w' he hr K hK
                      simp [Reads, Oper.looksAt, Op.operands, Call.operands, factAt, Fresh] at hr
                      obtain ⟨b, hr1, hr2⟩ := hr
                      go_simp
                      exact hK _ (Ext.refl _)
                    simp only [setL, List.set_cons_succ, List.set_cons_zero]))
               intro w2 he2
               repeat (first | with_reducible refine rest_is _ _ _ _ ?_ | (with_reducible refine rest_fact _ _ _ _ ?_; intro _ _) | with_reducible refine rest_end _ _ ?_)
               simp only [List.reverse_cons, List.reverse_nil, List.nil_append, List.cons_append]
               clear v1
               go_wp2_with fail
               go_roundw
               case rel => exact ⟨j + 1, by omega, by go_num, Hx7.out.trans he2⟩
               case measure => simp [intOf]; omega
             · have u2 : (bel != []) = true := by cases bel with
                 | nil => rw [bl_nil] at hb; cases hb
                 | cons => rfl
               have u4 : (bel == []) = false := by cases bel with
                 | nil => rw [bl_nil] at hb; cases hb
                 | cons => rfl
               have u3 : Go.Op.bytesLess kx bel = true := hb
               refine wp_region_mk 200 (Ext.refl w7) (by kernel_rfl) (by kernel_rfl) (by kernel_rfl) ?_
               simp only [List.take_succ_cons, List.take_zero, List.take_nil, List.drop_succ_cons, List.drop_zero, List.drop_nil, List.map_cons, List.map_nil]
               repeat (first
                 | (refine wpML_skip rfl rfl rfl rfl ?_
                    simp only [setL, List.set_cons_succ, List.set_cons_zero])
                 | (apply wpML_detg rfl rfl rfl rfl
                    · intro a w' he hr K hK
                      simp [Reads, Oper.looksAt, Op.operands, Call.operands, factAt, Is] at hr
                      have hx := he.cell
                      go_simp
                      try go_bits
                      try (rw [if_neg (by omega)]; go_simp)
                      first
                        | exact hK _ (Ext.refl _)
                    simp only [setL, List.set_cons_succ, List.set_cons_zero])
                 | (refine wpML_move _ _ rfl (by first | exact .inl rfl | exact .inr rfl) rfl (by first | exact Is.stable _ | exact AppF.stable _ | exact WrF.stable _ | exact PtrF.stable _ _ | exact IfcF.stable (Fresh.stable _ _ _) _ | exact PairF.stable (RowF.stable _ _ _ _) _ | exact RowF.stable _ _ _ _ | exact Fresh.stable _ _ _) ?_
                    simp only [setL, List.set_cons_succ, List.set_cons_zero, List.getD_cons_succ, List.getD_cons_zero])
                 | (refine wpML_moveC _ rfl (by first | exact .inl rfl | exact .inr rfl) ?_
                    simp only [setL, List.set_cons_succ, List.set_cons_zero])
                 | (apply wpML_det rfl
                    · intro a w' he hr K hK
                      simp [Reads, Oper.looksAt, Op.operands, Call.operands, factAt, Is] at hr
                      have hx := he.cell
                      go_simp
                      try go_bits
                      try (rw [if_neg (by omega)]; go_simp)
                      first
                        | exact hK _ (Ext.refl _)
                    simp only [setL, List.set_cons_succ, List.set_cons_zero])
                 | (apply wpML_det rfl
                    · intro a w' he hr K hK
                      simp [Reads, Oper.looksAt, Op.operands, Call.operands, factAt, Fresh] at hr
                      obtain ⟨b, hr1, hr2⟩ := hr
                      go_simp
                      exact hK _ (Ext.refl _)
                    simp only [setL, List.set_cons_succ, List.set_cons_zero]))
               intro w2 he2
               repeat (first | with_reducible refine rest_is _ _ _ _ ?_ | (with_reducible refine rest_fact _ _ _ _ ?_; intro _ _) | with_reducible refine rest_end _ _ ?_)
               simp only [List.reverse_cons, List.reverse_nil, List.nil_append, List.cons_append]
               clear v1
               go_wp2_with fail
               go_roundw
               case rel => exact ⟨j + 1, by omega, by go_num, Hx7.out.trans he2⟩
               case measure => simp [intOf]; omega
           · have v1 : decide (0 < (j : Int)) = true := decide_eq_true (by omega)
             have v3 : (j : Int) - 1 = ((j - 1 : Nat) : Int) := by omega
             have v4 : ((j - 1 : Nat) : Int) < (L.length : Int) := by omega
             obtain ⟨hp1, hp2⟩ := hp.out hj0
             have HK2 := Lib.hid (keyOf_any d y Hkd.out hp1)
             generalize hky : keyD d y = ky at hp2 HK2
             have v2 : Go.Op.bytesLess ky kx = true := hp2
             clear hky hp1 hp2
             obtain ⟨rb', ro', hq, _, hrc2⟩ := Hr7.out.at (j - 1) (by omega)
             have hcy := hrc2 (j - 1) (by omega)
             rw [HY.out] at hcy
             clear hrc2
             simp only [Option.some.injEq, Addr.mk.injEq, and_true] at hq
             obtain ⟨rfl, rfl⟩ := hq
             have lrb := (show rb < w7.heap.size by assumption)
             rcases g3 with hb | hb
             · subst hb
               refine wp_region_mk 200 (Ext.refl w7) (by kernel_rfl) (by kernel_rfl) (by kernel_rfl) ?_
               simp only [List.take_succ_cons, List.take_zero, List.take_nil, List.drop_succ_cons, List.drop_zero, List.drop_nil, List.map_cons, List.map_nil]
               repeat (first
                 | (refine wpML_detg (o := ⟨some 92, _, _, _, _, _⟩) (x := .agg #[.int .i64 d.id, .int .i64 d.org, .int .i64 d.format, .int .i64 d.length, .int .i64 d.block, .int .i64 d.keyAt, .int .i64 d.keyLength, .int .i64 d.interval, .int .i64 d.area, .int .i64 d.freeInterval, .int .i64 d.freeArea, .int .i64 d.base, .int .i64 d.altAt, .int .i64 d.altLength, .bool d.unique, .int .i64 d.cls, .string ⟨d.volume.toArray⟩, .string ⟨d.owner.toArray⟩, .int .i64 d.created, .int .i64 d.expires, .bool d.archived]) rfl rfl rfl rfl ?_ ?_
                    · intro a w' he hr K hK
                      simp [Reads, Oper.looksAt, Op.operands, factAt, Is] at hr
                      exact wp_load_row 23 (.tmp 2) rfl (w.heap.size) (by go_simp) _ _ _ _ (he.blk _ _ Hd7.out) dsDesc rfl dsSize (hK _ (Ext.refl _))
                    simp only [setL, List.set_cons_succ, List.set_cons_zero])
                 | (refine wpML_skip rfl rfl rfl rfl ?_
                    simp only [setL, List.set_cons_succ, List.set_cons_zero])
                 | (apply wpML_detg rfl rfl rfl rfl
                    · intro a w' he hr K hK
                      simp [Reads, Oper.looksAt, Op.operands, Call.operands, factAt, Is] at hr
                      have hx := he.cell
                      go_simp
                      try go_bits
                      try (rw [if_neg (by omega)]; go_simp)
                      first
                        | exact hK _ (Ext.refl _)
                        | (go_at_call 40; refine (HK2.out _).mono ?_; rintro e w'' ⟨rfl, he''⟩; exact hK _ he'')
                    simp only [setL, List.set_cons_succ, List.set_cons_zero])
                 | (refine wpML_move _ _ rfl (by first | exact .inl rfl | exact .inr rfl) rfl (by first | exact Is.stable _ | exact AppF.stable _ | exact WrF.stable _ | exact PtrF.stable _ _ | exact IfcF.stable (Fresh.stable _ _ _) _ | exact PairF.stable (RowF.stable _ _ _ _) _ | exact RowF.stable _ _ _ _ | exact Fresh.stable _ _ _) ?_
                    simp only [setL, List.set_cons_succ, List.set_cons_zero, List.getD_cons_succ, List.getD_cons_zero])
                 | (refine wpML_moveC _ rfl (by first | exact .inl rfl | exact .inr rfl) ?_
                    simp only [setL, List.set_cons_succ, List.set_cons_zero])
                 | (apply wpML_det rfl
                    · intro a w' he hr K hK
                      simp [Reads, Oper.looksAt, Op.operands, Call.operands, factAt, Is] at hr
                      have hx := he.cell
                      go_simp
                      try go_bits
                      try (rw [if_neg (by omega)]; go_simp)
                      first
                        | exact hK _ (Ext.refl _)
                        | (go_at_call 40; refine (HK2.out _).mono ?_; rintro e w'' ⟨rfl, he''⟩; exact hK _ he'')
                    simp only [setL, List.set_cons_succ, List.set_cons_zero])
                 | (apply wpML_det rfl
                    · intro a w' he hr K hK
                      simp [Reads, Oper.looksAt, Op.operands, Call.operands, factAt, Fresh] at hr
                      obtain ⟨b, hr1, hr2⟩ := hr
                      go_simp
                      exact hK _ (Ext.refl _)
                    simp only [setL, List.set_cons_succ, List.set_cons_zero]))
               intro w2 he2
               repeat (first | with_reducible refine rest_is _ _ _ _ ?_ | (with_reducible refine rest_fact _ _ _ _ ?_; intro _ _) | with_reducible refine rest_end _ _ ?_)
               simp only [List.reverse_cons, List.reverse_nil, List.nil_append, List.cons_append]
               clear v1 v2 v3 v4 HK2 hcy
               go_wp2_with fail
               go_roundw
               case rel => exact ⟨j + 1, by omega, by go_num, Hx7.out.trans he2⟩
               case measure => simp [intOf]; omega
             · have u2 : (bel != []) = true := by cases bel with
                 | nil => rw [bl_nil] at hb; cases hb
                 | cons => rfl
               have u4 : (bel == []) = false := by cases bel with
                 | nil => rw [bl_nil] at hb; cases hb
                 | cons => rfl
               have u3 : Go.Op.bytesLess kx bel = true := hb
               refine wp_region_mk 200 (Ext.refl w7) (by kernel_rfl) (by kernel_rfl) (by kernel_rfl) ?_
               simp only [List.take_succ_cons, List.take_zero, List.take_nil, List.drop_succ_cons, List.drop_zero, List.drop_nil, List.map_cons, List.map_nil]
               repeat (first
                 | (refine wpML_detg (o := ⟨some 92, _, _, _, _, _⟩) (x := .agg #[.int .i64 d.id, .int .i64 d.org, .int .i64 d.format, .int .i64 d.length, .int .i64 d.block, .int .i64 d.keyAt, .int .i64 d.keyLength, .int .i64 d.interval, .int .i64 d.area, .int .i64 d.freeInterval, .int .i64 d.freeArea, .int .i64 d.base, .int .i64 d.altAt, .int .i64 d.altLength, .bool d.unique, .int .i64 d.cls, .string ⟨d.volume.toArray⟩, .string ⟨d.owner.toArray⟩, .int .i64 d.created, .int .i64 d.expires, .bool d.archived]) rfl rfl rfl rfl ?_ ?_
                    · intro a w' he hr K hK
                      simp [Reads, Oper.looksAt, Op.operands, factAt, Is] at hr
                      exact wp_load_row 23 (.tmp 2) rfl (w.heap.size) (by go_simp) _ _ _ _ (he.blk _ _ Hd7.out) dsDesc rfl dsSize (hK _ (Ext.refl _))
                    simp only [setL, List.set_cons_succ, List.set_cons_zero])
                 | (refine wpML_skip rfl rfl rfl rfl ?_
                    simp only [setL, List.set_cons_succ, List.set_cons_zero])
                 | (apply wpML_detg rfl rfl rfl rfl
                    · intro a w' he hr K hK
                      simp [Reads, Oper.looksAt, Op.operands, Call.operands, factAt, Is] at hr
                      have hx := he.cell
                      go_simp
                      try go_bits
                      try (rw [if_neg (by omega)]; go_simp)
                      first
                        | exact hK _ (Ext.refl _)
                        | (go_at_call 40; refine (HK2.out _).mono ?_; rintro e w'' ⟨rfl, he''⟩; exact hK _ he'')
                    simp only [setL, List.set_cons_succ, List.set_cons_zero])
                 | (refine wpML_move _ _ rfl (by first | exact .inl rfl | exact .inr rfl) rfl (by first | exact Is.stable _ | exact AppF.stable _ | exact WrF.stable _ | exact PtrF.stable _ _ | exact IfcF.stable (Fresh.stable _ _ _) _ | exact PairF.stable (RowF.stable _ _ _ _) _ | exact RowF.stable _ _ _ _ | exact Fresh.stable _ _ _) ?_
                    simp only [setL, List.set_cons_succ, List.set_cons_zero, List.getD_cons_succ, List.getD_cons_zero])
                 | (refine wpML_moveC _ rfl (by first | exact .inl rfl | exact .inr rfl) ?_
                    simp only [setL, List.set_cons_succ, List.set_cons_zero])
                 | (apply wpML_det rfl
                    · intro a w' he hr K hK
                      simp [Reads, Oper.looksAt, Op.operands, Call.operands, factAt, Is] at hr
                      have hx := he.cell
                      go_simp
                      try go_bits
                      try (rw [if_neg (by omega)]; go_simp)
                      first
                        | exact hK _ (Ext.refl _)
                        | (go_at_call 40; refine (HK2.out _).mono ?_; rintro e w'' ⟨rfl, he''⟩; exact hK _ he'')
                    simp only [setL, List.set_cons_succ, List.set_cons_zero])
                 | (apply wpML_det rfl
                    · intro a w' he hr K hK
                      simp [Reads, Oper.looksAt, Op.operands, Call.operands, factAt, Fresh] at hr
                      obtain ⟨b, hr1, hr2⟩ := hr
                      go_simp
                      exact hK _ (Ext.refl _)
                    simp only [setL, List.set_cons_succ, List.set_cons_zero]))
               intro w2 he2
               repeat (first | with_reducible refine rest_is _ _ _ _ ?_ | (with_reducible refine rest_fact _ _ _ _ ?_; intro _ _) | with_reducible refine rest_end _ _ ?_)
               simp only [List.reverse_cons, List.reverse_nil, List.nil_append, List.cons_append]
               clear v1 v2 v3 v4 HK2 hcy
               go_wp2_with fail
               go_roundw
               case rel => exact ⟨j + 1, by omega, by go_num, Hx7.out.trans he2⟩
               case measure => simp [intOf]; omega
         · have hljI : decide ((j : Int) < L.length) = false := by simp; omega
           go_wp2_with fail
           go_roundw
           case rel => exact ⟨k + 1, by omega, by go_num, by rw [HLow.out], Hex4.out.trans Hxj.out⟩
           case measure => simp [intOf]; omega
   · have hltI : decide ((k : Int) < a.ivs.length) = false := by simp; omega
     go_wp2
     go_ret
     exact ⟨rfl, Hx2.out.trans Hex.out⟩
theorem ValidA_any (d : DS) (a : Ar) (q : Option Addr) (c : Nat) (p : Option Addr) (m : Nat) (w : World) (s : ASpec d a) (hv : ArV w a q c p m) :
   Calls Tryz.prog 10 #[.agg #[.int .i64 d.id, .int .i64 d.org, .int .i64 d.format, .int .i64 d.length, .int .i64 d.block, .int .i64 d.keyAt, .int .i64 d.keyLength, .int .i64 d.interval, .int .i64 d.area, .int .i64 d.freeInterval, .int .i64 d.freeArea, .int .i64 d.base, .int .i64 d.altAt, .int .i64 d.altLength, .bool d.unique, .int .i64 d.cls, .string ⟨d.volume.toArray⟩, .string ⟨d.owner.toArray⟩, .int .i64 d.created, .int .i64 d.expires, .bool d.archived], .agg (arC a q c p m)] w fun e w' => e = .returned (.bool true) ∧ Ext w w' := ValidA_anyW d a q c p m w s hv.x
end Go.Proofs.YtifmbcjbccedfaaGreatDoor
