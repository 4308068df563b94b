/- The walk of AreaHalves: the halves of an area. -/
import Derived.Test.YtjoaidnbkkmlpaaBF0
import Derived.Test.YtjoaidnbkkmlpaaXH
set_option linter.unusedSimpArgs false
set_option linter.unusedVariables false
namespace Go.Proofs.Ytjoaidnbkkmlpaa
open Go.RowKit Dsd
set_option maxRecDepth 100000 in
set_option maxHeartbeats 4000000 in
theorem AreaHalves_any (p : Option Addr) (cap n : Nat) (L : List AOp) (d : DS) (base : Int) (w : World) (hs : AOps w p L) (hn : L.length = n) (hcap : n ≤ cap) (hcm : cap ≤ maxLen) :
    Calls Try.prog 4 #[.agg #[.int .i64 d.id, .int .i64 d.org, .int .i64 d.format, .int .i64 d.length, .int .i64 d.block, .int .i64 d.keyAt, .int .i64 d.keyLength, .int .i64 d.interval, .int .i64 d.area, .int .i64 d.freeInterval, .int .i64 d.freeArea, .int .i64 d.base, .int .i64 d.altAt, .int .i64 d.altLength, .bool d.unique, .int .i64 d.cls, .string ⟨d.volume.toArray⟩, .string ⟨d.owner.toArray⟩, .int .i64 d.created, .int .i64 d.expires, .bool d.archived], .slice p n cap, .int .i64 base] w fun e w' => e = .returned (.bool true) ∧ Ext w w' := by
  subst hn
  have hmx : L.length ≤ 9223372036854775807 := by unfold maxLen at hcm; omega
  have Hs := Lib.hid hs
  have HK := Lib.hid (fun W => IsKeyedR_any d W)
  have HSh := Lib.hid (fun W (h : AOps W p L) => ShortA_any p cap L 60 W h hmx)
  clear hs hcap hcm hmx
  go_enter Try.func4, Try.ntmps4
  go_upto_region 1 with (fail)
  refine wp_name (fun w0 => Ext w w0 ∧ DsAt w0 w.heap.size d) ⟨Ext.alloc _ _, Blk.new w _⟩ ?_
  rintro w0 ⟨he0, hb3⟩
  go_upto_region 3 with (go_at_call 6; refine (awakeA_any _).mono ?_; rintro e w1 ⟨rfl, he1⟩)
  have Hd := Lib.hid (hb3.ext he1)
  have HE1 := Lib.hid (he0.trans he1)
  have hd1 := Hd.out
  clear hb3 he0 he1
  cases hk : keyedB d
  · rw [hk] at HK
    clear hk
    go_wp2_with (first
      | ((with_reducible (show wpList _ _ _ (⟨some 18, _, _, _, _, _⟩ :: _) _ _)); refine wpList_ds (o := ⟨some 18, _, _, _, _, _⟩) rfl (.tmp 3) rfl _ rfl d hd1 ?_)
      | (go_at_call 7; refine (HK.out _).mono ?_; rintro e w2 ⟨rfl, he2⟩))
    go_ret
    exact ⟨rfl, HE1.out.trans he2⟩
  · rw [hk] at HK
    have Hk := Lib.hid hk
    clear hk
    cases hsh : shortA L 60
    · rw [hsh] at HSh
      clear hsh
      go_wp2_with (first
        | ((with_reducible (show wpList _ _ _ (⟨some 18, _, _, _, _, _⟩ :: _) _ _)); refine wpList_ds (o := ⟨some 18, _, _, _, _, _⟩) rfl (.tmp 3) rfl _ rfl d hd1 ?_)
        | (go_at_call 7; refine (HK.out _).mono ?_; rintro e w2 ⟨rfl, he2⟩)
        | (go_at_call 8; refine (HSh.out _ (Hs.out.ext (HE1.out.trans he2))).mono ?_; rintro e w3 ⟨rfl, rfl⟩))
      go_ret
      exact ⟨rfl, HE1.out.trans he2⟩
    · rw [hsh] at HSh
      have Hsh := Lib.hid hsh
      clear hsh
      by_cases hb1 : base < 1
      · have h1 : decide (base < 1) = true := decide_eq_true hb1
        clear hb1
        go_wp2_with (first
          | ((with_reducible (show wpList _ _ _ (⟨some 18, _, _, _, _, _⟩ :: _) _ _)); refine wpList_ds (o := ⟨some 18, _, _, _, _, _⟩) rfl (.tmp 3) rfl _ rfl d hd1 ?_)
          | (go_at_call 7; refine (HK.out _).mono ?_; rintro e w2 ⟨rfl, he2⟩)
          | (go_at_call 8; refine (HSh.out _ (Hs.out.ext (HE1.out.trans he2))).mono ?_; rintro e w3 ⟨rfl, rfl⟩))
        go_ret
        exact ⟨rfl, HE1.out.trans he2⟩
      · by_cases hb2 : 16777208 < base
        · have h1 : decide (base < 1) = false := decide_eq_false hb1
          have h2 : decide (16777208 < base) = true := decide_eq_true hb2
          clear hb1 hb2
          go_wp2_with (first
            | ((with_reducible (show wpList _ _ _ (⟨some 18, _, _, _, _, _⟩ :: _) _ _)); refine wpList_ds (o := ⟨some 18, _, _, _, _, _⟩) rfl (.tmp 3) rfl _ rfl d hd1 ?_)
            | (go_at_call 7; refine (HK.out _).mono ?_; rintro e w2 ⟨rfl, he2⟩)
            | (go_at_call 8; refine (HSh.out _ (Hs.out.ext (HE1.out.trans he2))).mono ?_; rintro e w3 ⟨rfl, rfl⟩))
          go_ret
          exact ⟨rfl, HE1.out.trans he2⟩
        · have h1 : decide (base < 1) = false := decide_eq_false hb1
          have h2 : decide (16777208 < base) = false := decide_eq_false hb2
          have hbb : isBaseB base = true := by unfold isBaseB; rw [decide_eq_true (show 1 ≤ base by omega), decide_eq_true (show base ≤ 16777208 by omega)]; rfl
          have Hbb := Lib.hid hbb
          have HRun := Lib.hid (fun W (h : AOps W p L) => RunA_ok p cap L d 60 (Int.le_refl _) Hk.out Hsh.out W h)
          clear hb1 hb2 hbb
          go_upto_region 5 with (first
            | ((with_reducible (show wpList _ _ _ (⟨some 18, _, _, _, _, _⟩ :: _) _ _)); refine wpList_ds (o := ⟨some 18, _, _, _, _, _⟩) rfl (.tmp 3) rfl _ rfl d hd1 ?_)
            | (go_at_call 7; refine (HK.out _).mono ?_; rintro e w2 ⟨rfl, he2⟩)
            | (go_at_call 8; refine (HSh.out _ (Hs.out.ext (HE1.out.trans he2))).mono ?_; rintro e w3 ⟨rfl, rfl⟩))
          clear h1 h2
          have hd2 := Hd.out.ext he2
          have Hs2 := Lib.hid (Hs.out.ext (HE1.out.trans he2))
          go_upto_region 6 with (first
            | ((with_reducible (show wpList _ _ _ (⟨some 35, _, _, _, _, _⟩ :: _) _ _)); refine wpList_ds (o := ⟨some 35, _, _, _, _, _⟩) rfl (.tmp 3) rfl _ rfl d hd2 ?_)
            | (go_at_call 9; refine (HRun.out _ Hs2.out).mono ?_; rintro e w5 ⟨he5, a, q, c, p0, m, mb, nn, rfl, hv, hI, hba, hnx, hM⟩)
            | (refine wpList_put rfl 33 (.tmp 7) (.tmp 38) rfl _ (arC a q c p0 m) rfl rfl _ _ (Blk.new w5 _) arSize rfl (ar_one ..) ?_; intro w6 ha6 hc6))
          have hE56 : Ext w5 w6 := hc6.ext (Ext.alloc _ _) (Nat.le_refl _)
          refine wp_name (fun w7 => Ext w w7 ∧ DsAt w7 w.heap.size d ∧ ArAt w7 w5.heap.size a q c p0 m ∧ ArV w7 a q c p0 m) ⟨((HE1.out.trans he2).trans he5).trans hE56, ((hd2.ext he5).ext hE56), ha6, hv.ext hE56⟩ ?_
          have HI := Lib.hid hI
          clear hE56 hc6 ha6 hv he5 hd2 he2 Hs2 HRun hM hd1 Hd HE1 HK HSh hI
          rintro w7 ⟨he7, hd7, ha7, hv7⟩
          generalize w5.heap.size = ab at *
          have HSp := Lib.hid (SplitA_any d a q c p0 m base)
          have hlen := HI.out.spec.len
          have HB := Lib.hid (And.intro he7 (And.intro hd7 (And.intro ha7 hv7)))
          have lab := Blk.lt ha7
          clear he7 hv7
          by_cases h1 : a.ivs.length = 1
          · have h1e : decide (1 < (a.nd.ents.length : Int)) = false := decide_eq_false (by omega)
            go_upto_region 7 with (first
              | ((with_reducible (show wpList _ _ _ (⟨some 42, _, _, _, _, _⟩ :: _) _ _)); refine wpList_ds (o := ⟨some 42, _, _, _, _, _⟩) rfl (.tmp 3) rfl _ rfl d hd7 ?_)
              | ((with_reducible (show wpList _ _ _ (⟨some 43, _, _, _, _, _⟩ :: _) _ _)); refine wpList_row (o := ⟨some 43, _, _, _, _, _⟩) rfl 33 (.tmp 7) rfl _ rfl _ _ _ ha7 arDesc rfl arSize ?_)
              | (go_at_call 13; refine (HSp.out _ HI.out HB.out.2.2.2 Hbb.out).mono ?_; rintro e w8 ⟨he8, ho8⟩; rw [if_pos h1] at ho8; subst ho8)
              | (refine wpList_put rfl 33 (.tmp 10) (.tmp 46) rfl _ arZ rfl rfl _ _ ((Ext.alloc (w8.alloc (.cells arZ 33)) (.cells arZ 33)).blk _ _ (Blk.new w8 _)) arSize rfl (by simp [arZ, Value.oneCell']) ?_; intro w9 hx9 hc9)
              | (refine wpList_put rfl 33 (.tmp 11) (.tmp 47) rfl _ arZ rfl rfl _ _ (hc9.blk (Blk.new1 _ _ _ (by simp)) (by omega)) arSize rfl (by simp [arZ, Value.oneCell']) ?_; intro w10 hx10 hc10))
            have hE8 : Ext w8 w10 := hc10.ext (hc9.ext ((Ext.alloc _ _).trans (Ext.alloc _ _)) (Nat.le_refl _)) (by omega)
            have hE7 : Ext w7 w10 := he8.trans hE8
            refine wp_name (fun w11 => Ext w w11 ∧ ArAt w11 ab a q c p0 m) ⟨HB.out.1.trans hE7, ha7.ext hE7⟩ ?_
            clear hE7 hE8 hc9 hc10 hx9 hx10 he8 hd7 ha7 HSp HI h1 hlen lab
            rintro w11 ⟨hx11, ha11⟩
            obtain ⟨_, _, _, k3, _, lab⟩ := ha11.cells
            go_wp2
            go_ret
            exact ⟨rfl, hx11⟩
          · have h1e : decide (1 < (a.nd.ents.length : Int)) = true := decide_eq_true (by have := HI.out.spec.ne; have := List.length_pos_iff.2 this; omega)
            have h1n : 1 < a.nd.ents.length := by have := of_decide_eq_true h1e; omega
            have HOK := Lib.hid (split_ok HI.out Hbb.out h1n)
            go_upto_region 7 with (first
              | ((with_reducible (show wpList _ _ _ (⟨some 42, _, _, _, _, _⟩ :: _) _ _)); refine wpList_ds (o := ⟨some 42, _, _, _, _, _⟩) rfl (.tmp 3) rfl _ rfl d hd7 ?_)
              | ((with_reducible (show wpList _ _ _ (⟨some 43, _, _, _, _, _⟩ :: _) _ _)); refine wpList_row (o := ⟨some 43, _, _, _, _, _⟩) rfl 33 (.tmp 7) rfl _ rfl _ _ _ ha7 arDesc rfl arSize ?_)
              | (go_at_call 13; refine (HSp.out _ HI.out HB.out.2.2.2 Hbb.out).mono ?_; rintro e w8 ⟨he8, ho8⟩; rw [if_neg h1] at ho8; obtain ⟨qx, cx, px, mx, qy, cy, py, my, rfl, hvx, hvy⟩ := ho8)
              | (refine wpList_put rfl 33 (.tmp 10) (.tmp 46) rfl _ (arC (leftA a base) qx cx px mx) rfl rfl _ _ ((Ext.alloc (w8.alloc (.cells arZ 33)) (.cells arZ 33)).blk _ _ (Blk.new w8 _)) arSize rfl (ar_one ..) ?_; intro w9 hx9 hc9)
              | (refine wpList_put rfl 33 (.tmp 11) (.tmp 47) rfl _ (arC (rightA a base) qy cy py my) rfl rfl _ _ (hc9.blk (Blk.new1 _ _ _ (by simp)) (by omega)) arSize rfl (ar_one ..) ?_; intro w10 hx10 hc10))
            have hE8 : Ext w8 w10 := hc10.ext (hc9.ext ((Ext.alloc _ _).trans (Ext.alloc _ _)) (Nat.le_refl _)) (by omega)
            have hE7 : Ext w7 w10 := he8.trans hE8
            have hx9' := hc10.blk hx9 (by omega)
            refine wp_name (fun w11 => Ext w w11 ∧ DsAt w11 w.heap.size d ∧ ArAt w11 ab a q c p0 m ∧ ArV w11 a q c p0 m ∧ ArAt w11 w8.heap.size (leftA a base) qx cx px mx ∧ ArAt w11 (w8.heap.size + 1) (rightA a base) qy cy py my ∧ ArV w11 (leftA a base) qx cx px mx ∧ ArV w11 (rightA a base) qy cy py my)
              ⟨HB.out.1.trans hE7, hd7.ext hE7, ha7.ext hE7, HB.out.2.2.2.ext hE7, hx9', hx10, hvx.ext hE8, hvy.ext hE8⟩ ?_
            clear hE7 hE8 hc9 hc10 hx9 hx9' hx10 he8 hd7 ha7 HSp h1 lab hvx hvy HB
            generalize w8.heap.size = xb at *
            rintro w11 ⟨hx11, hd11, ha11, hva, hxl, hxr, hvl, hvr⟩
            have HB := Lib.hid (And.intro hx11 (And.intro hd11 (And.intro ha11 (And.intro hva (And.intro hxl (And.intro hxr (And.intro hvl hvr)))))))
            obtain ⟨k0, _, k2, k3, _, lab⟩ := ha11.cells
            clear hx11 hva hvl hvr
            go_upto_region 11 with (fail)
            have HPl : Hid (∀ W, Ext w11 W → Calls Try.prog 10 #[.agg #[.int .i64 d.id, .int .i64 d.org, .int .i64 d.format, .int .i64 d.length, .int .i64 d.block, .int .i64 d.keyAt, .int .i64 d.keyLength, .int .i64 d.interval, .int .i64 d.area, .int .i64 d.freeInterval, .int .i64 d.freeArea, .int .i64 d.base, .int .i64 d.altAt, .int .i64 d.altLength, .bool d.unique, .int .i64 d.cls, .string ⟨d.volume.toArray⟩, .string ⟨d.owner.toArray⟩, .int .i64 d.created, .int .i64 d.expires, .bool d.archived], .agg (arC (leftA a base) qx cx px mx)] W fun e W' => ∃ v, e = .returned v ∧ RowsF 41 w11.heap.size 2 (recsOf (leftA a base)).length (prCells (pairsD d (recsOf (leftA a base)))) v W' ∧ Ext W W') :=
              Lib.hid (fun W e => (PairsA_any d (leftA a base) qx cx px mx W HOK.out.1.spec (HB.out.2.2.2.2.2.2.1.ext e)).mono (fun e' W' ⟨h1, v, h2, h3⟩ => by obtain ⟨q', c', rfl⟩ := own_slice h3; exact ⟨_, h2, ⟨q', c', rfl, own_le h3 e.size⟩, h1⟩))
            have HPr : Hid (∀ W, Ext w11 W → Calls Try.prog 10 #[.agg #[.int .i64 d.id, .int .i64 d.org, .int .i64 d.format, .int .i64 d.length, .int .i64 d.block, .int .i64 d.keyAt, .int .i64 d.keyLength, .int .i64 d.interval, .int .i64 d.area, .int .i64 d.freeInterval, .int .i64 d.freeArea, .int .i64 d.base, .int .i64 d.altAt, .int .i64 d.altLength, .bool d.unique, .int .i64 d.cls, .string ⟨d.volume.toArray⟩, .string ⟨d.owner.toArray⟩, .int .i64 d.created, .int .i64 d.expires, .bool d.archived], .agg (arC (rightA a base) qy cy py my)] W fun e W' => ∃ v, e = .returned v ∧ RowsF 41 w11.heap.size 2 (recsOf (rightA a base)).length (prCells (pairsD d (recsOf (rightA a base)))) v W' ∧ Ext W W') :=
              Lib.hid (fun W e => (PairsA_any d (rightA a base) qy cy py my W HOK.out.2.1.spec (HB.out.2.2.2.2.2.2.2.ext e)).mono (fun e' W' ⟨h1, v, h2, h3⟩ => by obtain ⟨q', c', rfl⟩ := own_slice h3; exact ⟨_, h2, ⟨q', c', rfl, own_le h3 e.size⟩, h1⟩))
            refine wp_region_mk 200 (Ext.refl w11) (by kernel_rfl) (by kernel_rfl) (by kernel_rfl) ?_
            simp only [List.take_succ_cons, List.take_zero, List.take_nil, List.drop_succ_cons, List.drop_zero, List.drop_nil, List.map_cons, List.map_nil]
            repeat (first
              | (refine wpML_det (o := ⟨some 66, _, _, _, _, _⟩) (v := .agg #[.int .i64 d.id, .int .i64 d.org, .int .i64 d.format, .int .i64 d.length, .int .i64 d.block, .int .i64 d.keyAt, .int .i64 d.keyLength, .int .i64 d.interval, .int .i64 d.area, .int .i64 d.freeInterval, .int .i64 d.freeArea, .int .i64 d.base, .int .i64 d.altAt, .int .i64 d.altLength, .bool d.unique, .int .i64 d.cls, .string ⟨d.volume.toArray⟩, .string ⟨d.owner.toArray⟩, .int .i64 d.created, .int .i64 d.expires, .bool d.archived]) rfl ?_ ?_
                 · intro a w' he hr K hK
                   simp [Reads, Oper.looksAt, Op.operands, factAt, Is] at hr
                   exact wp_load_row 23 (.tmp 3) rfl (w.heap.size) (by go_simp) _ _ _ _ (he.blk _ _ hd11) dsDesc rfl dsSize (hK _ (Ext.refl _))
                 simp only [setL, List.set_cons_succ, List.set_cons_zero])
              | (refine wpML_det (o := ⟨some 69, _, _, _, _, _⟩) (v := .agg #[.int .i64 d.id, .int .i64 d.org, .int .i64 d.format, .int .i64 d.length, .int .i64 d.block, .int .i64 d.keyAt, .int .i64 d.keyLength, .int .i64 d.interval, .int .i64 d.area, .int .i64 d.freeInterval, .int .i64 d.freeArea, .int .i64 d.base, .int .i64 d.altAt, .int .i64 d.altLength, .bool d.unique, .int .i64 d.cls, .string ⟨d.volume.toArray⟩, .string ⟨d.owner.toArray⟩, .int .i64 d.created, .int .i64 d.expires, .bool d.archived]) rfl ?_ ?_
                 · intro a w' he hr K hK
                   simp [Reads, Oper.looksAt, Op.operands, factAt, Is] at hr
                   exact wp_load_row 23 (.tmp 3) rfl (w.heap.size) (by go_simp) _ _ _ _ (he.blk _ _ hd11) dsDesc rfl dsSize (hK _ (Ext.refl _))
                 simp only [setL, List.set_cons_succ, List.set_cons_zero])
              | (refine wpML_det (o := ⟨some 67, _, _, _, _, _⟩) (v := .agg (arC (leftA a base) qx cx px mx)) rfl ?_ ?_
                 · intro a w' he hr K hK
                   simp [Reads, Oper.looksAt, Op.operands, factAt, Is] at hr
                   exact wp_load_row 33 (.tmp 10) rfl (xb) (by go_simp) _ _ _ _ (he.blk _ _ hxl) arDesc rfl arSize (hK _ (Ext.refl _))
                 simp only [setL, List.set_cons_succ, List.set_cons_zero])
              | (refine wpML_det (o := ⟨some 70, _, _, _, _, _⟩) (v := .agg (arC (rightA a base) qy cy py my)) rfl ?_ ?_
                 · intro a w' he hr K hK
                   simp [Reads, Oper.looksAt, Op.operands, factAt, Is] at hr
                   exact wp_load_row 33 (.tmp 11) rfl ((xb + 1)) (by go_simp) _ _ _ _ (he.blk _ _ hxr) arDesc rfl arSize (hK _ (Ext.refl _))
                 simp only [setL, List.set_cons_succ, List.set_cons_zero])
              | (refine wpML_move _ _ rfl (by first | exact .inl rfl | exact .inr rfl) rfl (by first | exact Is.stable _ | exact AllF.stable _ _ | exact RowsF.stable _ _ _ _ _ | exact AppF.stable _ | exact WrF.stable _ | exact PtrF.stable _ _ | exact IfcF.stable (Fresh.stable _ _ _) _ | exact PairF.stable (RowF.stable _ _ _ _) _ | exact RowF.stable _ _ _ _ | exact Fresh.stable _ _ _) ?_
                 simp only [setL, List.set_cons_succ, List.set_cons_zero, List.getD_cons_succ, List.getD_cons_zero])
              | (refine wpML_moveC _ rfl (by first | exact .inl rfl | exact .inr rfl) ?_
                 simp only [setL, List.set_cons_succ, List.set_cons_zero])
              | (apply wpML_det rfl
                 · intro a w' he hr K hK
                   simp [Reads, Oper.looksAt, Op.operands, Call.operands, factAt, Is] at hr
                   have hx := he.cell
                   go_simp
                   try go_bits
                   try (rw [if_neg (by omega)]; go_simp)
                   first
                     | exact hK _ (Ext.refl _)
                 simp only [setL, List.set_cons_succ, List.set_cons_zero])
              | (refine wpML_fact (o := ⟨some 68, _, _, _, _, _⟩) (RowsF 41 w11.heap.size 2 (recsOf (leftA a base)).length (prCells (pairsD d (recsOf (leftA a base))))) (RowsF.stable _ _ _ _ _) rfl ?_ ?_
                 · intro a w' he hr K hK
                   simp [Reads, Oper.looksAt, Op.operands, Call.operands, factAt, Is] at hr
                   go_simp
                   refine ((HPl.out w' he)).mono ?_
                   rintro e w'' ⟨v, rfl, hf, he'⟩
                   exact hK _ _ he' hf
                 simp only [setL, List.set_cons_succ, List.set_cons_zero])
              | (refine wpML_fact (o := ⟨some 71, _, _, _, _, _⟩) (RowsF 41 w11.heap.size 2 (recsOf (rightA a base)).length (prCells (pairsD d (recsOf (rightA a base))))) (RowsF.stable _ _ _ _ _) rfl ?_ ?_
                 · intro a w' he hr K hK
                   simp [Reads, Oper.looksAt, Op.operands, Call.operands, factAt, Is] at hr
                   go_simp
                   refine ((HPr.out w' he)).mono ?_
                   rintro e w'' ⟨v, rfl, hf, he'⟩
                   exact hK _ _ he' hf
                 simp only [setL, List.set_cons_succ, List.set_cons_zero])
              | (apply wpML_det rfl
                 · intro a w' he hr K hK
                   simp [Reads, Oper.looksAt, Op.operands, Call.operands, factAt, Fresh] at hr
                   obtain ⟨b, hr1, hr2⟩ := hr
                   go_simp
                   exact hK _ (Ext.refl _)
                 simp only [setL, List.set_cons_succ, List.set_cons_zero]))
            intro w2 he2
            repeat (first | with_reducible refine rest_is _ _ _ _ ?_ | (with_reducible refine rest_fact _ _ _ _ ?_; intro _ _) | with_reducible refine rest_end _ _ ?_)
            simp only [List.reverse_cons, List.reverse_nil, List.nil_append, List.cons_append]
            rename_i x14 h14 x15 h15 x68 h68 x71 h71
            obtain ⟨ql, cl, rfl, hol⟩ := h14
            obtain ⟨qr, cr, rfl, hor⟩ := h15
            have hd2 := hd11.ext he2
            have ha2 := ha11.ext he2
            have hl2 := hxl.ext he2
            have hr2 := hxr.ext he2
            have HVl := Lib.hid (fun W (e : Ext w2 W) => ValidA_any d (leftA a base) qx cx px mx W HOK.out.1.spec (HB.out.2.2.2.2.2.2.1.ext (he2.trans e)))
            have HVr := Lib.hid (fun W (e : Ext w2 W) => ValidA_any d (rightA a base) qy cy py my W HOK.out.2.1.spec (HB.out.2.2.2.2.2.2.2.ext (he2.trans e)))
            have z1 : (((recsOf (leftA a base)).length : Int) == 0) = false := beq_eq_false_iff_ne.2 (by have := List.length_pos_iff.2 HOK.out.2.2.2.2.2.1; omega)
            have z2 : (((recsOf (rightA a base)).length : Int) == 0) = false := beq_eq_false_iff_ne.2 (by have := List.length_pos_iff.2 HOK.out.2.2.2.2.2.2.1; omega)
            have HO := Lib.hid (And.intro hol hor)
            clear h68 h71 k0 k2 k3 lab hol hor
            go_upto_region 14 with (first
              | ((with_reducible (show wpList _ _ _ (⟨some 72, _, _, _, _, _⟩ :: _) _ _)); refine wpList_ds (o := ⟨some 72, _, _, _, _, _⟩) rfl (.tmp 3) rfl _ rfl d hd2 ?_)
              | ((with_reducible (show wpList _ _ _ (⟨some 73, _, _, _, _, _⟩ :: _) _ _)); refine wpList_row (o := ⟨some 73, _, _, _, _, _⟩) rfl 33 (.tmp 10) rfl _ rfl _ _ _ hl2 arDesc rfl arSize ?_)
              | (go_at_call 11; (with_reducible refine (HVl.out _ (Ext.refl _)).mono ?_); rintro e w3 ⟨rfl, he3⟩; have hd3 := hd2.ext he3; have hr3 := hr2.ext he3)
              | ((with_reducible (show wpList _ _ _ (⟨some 77, _, _, _, _, _⟩ :: _) _ _)); refine wpList_ds (o := ⟨some 77, _, _, _, _, _⟩) rfl (.tmp 3) rfl _ rfl d hd3 ?_)
              | ((with_reducible (show wpList _ _ _ (⟨some 78, _, _, _, _, _⟩ :: _) _ _)); refine wpList_row (o := ⟨some 78, _, _, _, _, _⟩) rfl 33 (.tmp 11) rfl _ rfl _ _ _ hr3 arDesc rfl arSize ?_)
              | (go_at_call 11; (with_reducible refine (HVr.out _ he3).mono ?_); rintro e w4 ⟨rfl, he4⟩; have l0 : w4.cell? ⟨xb, 0, none⟩ = some (.int .i64 a.base) := ((hl2.ext he3).ext he4).cells.1; have l2 : w4.cell? ⟨xb, 2, none⟩ = some (.int .i64 base) := ((hl2.ext he3).ext he4).cells.2.2.1; have r0 : w4.cell? ⟨xb + 1, 0, none⟩ = some (.int .i64 base) := (hr3.ext he4).cells.1; have r2 : w4.cell? ⟨xb + 1, 2, none⟩ = some (.int .i64 a.nd.next) := (hr3.ext he4).cells.2.2.1; have lr := Blk.lt (hr3.ext he4); obtain ⟨a0, _, a2, _, _, la⟩ := ((ha2.ext he3).ext he4).cells))
            have HE4 := Lib.hid (he2.trans (he3.trans he4))
            have HO4 := Lib.hid (And.intro (own_ext (own_ext HO.out.1 he3) he4) (own_ext (own_ext HO.out.2 he3) he4))
            have HPa : Hid (∀ W, Ext w11 W → w4.heap.size ≤ W.heap.size → Calls Try.prog 10 #[.agg #[.int .i64 d.id, .int .i64 d.org, .int .i64 d.format, .int .i64 d.length, .int .i64 d.block, .int .i64 d.keyAt, .int .i64 d.keyLength, .int .i64 d.interval, .int .i64 d.area, .int .i64 d.freeInterval, .int .i64 d.freeArea, .int .i64 d.base, .int .i64 d.altAt, .int .i64 d.altLength, .bool d.unique, .int .i64 d.cls, .string ⟨d.volume.toArray⟩, .string ⟨d.owner.toArray⟩, .int .i64 d.created, .int .i64 d.expires, .bool d.archived], .agg (arC a q c p0 m)] W fun e W' => ∃ v, e = .returned v ∧ RowsF 41 w4.heap.size 2 (recsOf a).length (prCells (pairsD d (recsOf a))) v W' ∧ Ext W W') :=
              Lib.hid (fun W e hz => (PairsA_any d a q c p0 m W HI.out.spec (HB.out.2.2.2.1.ext e)).mono (fun e' W' ⟨h1, v, h2, h3⟩ => by obtain ⟨q', c', rfl⟩ := own_slice h3; exact ⟨_, h2, ⟨q', c', rfl, own_le h3 hz⟩, h1⟩))
            have hw11 := HB.out.1
            have Hla := Lib.hid (recs_len HI.out.spec)
            obtain ⟨o1, o2, o3, o4, o5, o6, o7, _⟩ := HOK.out
            have Hsum := Lib.hid o3
            clear HOK HVl HVr HPl HPr HO hd2 ha2 hl2 hr2 hd3 hr3 l0 l2 r0 r2 a0 a2 la lr z1 z2 he2 he3 he4 HB o1 o2 hxl hxr h1e h1n hlen
            generalize recsOf (leftA a base) = XL at *
            generalize recsOf (rightA a base) = XR at *
            obtain ⟨k, hk⟩ : ∃ k, XL.length = k + 1 := ⟨XL.length - 1, by have := List.length_pos_iff.2 o6; omega⟩
            have hr0 : 0 < XR.length := List.length_pos_iff.2 o7
            obtain ⟨g1, cu1, rfl, hg1, hb1, _⟩ := own_parts HO4.out.1 (by omega)
            obtain ⟨g2, cu2, rfl, hg2, hb2, _⟩ := own_parts HO4.out.2 hr0
            have s1 : bl (keyD d (XL.getD k [])) (midA a) = true := o4 _ (getD_mem (by omega))
            have s2 : (bl (midA a) (keyD d (XR.getD 0 [])) || midA a == keyD d (XR.getD 0 [])) = true := by rw [ble_iff, o5 _ (getD_mem (by omega))]; rfl
            rw [hk] at HO4 ⊢
            have HkL : Hid (((pairsD d XL).getD k ([], [])).1 = keyD d (XL.getD k [])) := Lib.hid (pairs_key (by omega))
            have HkR : Hid (((pairsD d XR).getD 0 ([], [])).1 = keyD d (XR.getD 0 [])) := Lib.hid (pairs_key hr0)
            have HlL : Hid ((pairsD d XL).length = k + 1) := Lib.hid (by rw [pairs_len, hk])
            have HlR : Hid ((pairsD d XR).length = XR.length) := Lib.hid (pairs_len d XR)
            have HlA : Hid ((pairsD d (recsOf a)).length = (recsOf a).length) := Lib.hid (pairs_len _ _)
            have HlS : Hid (k + 1 + XR.length = (recsOf a).length) := Lib.hid (by rw [← Hsum.out, List.length_append, hk])
            have Hsm : Hid (k + 1 + XR.length ≤ 120000) := Lib.hid (by rw [HlS.out]; exact Hla.out)
            have Happ : Hid (pairsD d XL ++ pairsD d XR = pairsD d (recsOf a)) := Lib.hid (by rw [← Hsum.out, pairs_app])
            have hkb : k < 120000 := by have := Hsm.out; omega
            generalize keyD d (XL.getD k []) = kl at *
            generalize keyD d (XR.getD 0 []) = kr at *
            clear hk o4 o5 o6 o7 o3 Hsum
            generalize pairsD d XL = PL at *
            generalize pairsD d XR = PR at *
            generalize pairsD d (recsOf a) = PA at *
            generalize XR.length = nr at *
            generalize (recsOf a).length = na at *
            generalize midA a = mid at *
            have Hb1 := Lib.hid hb1
            have Hwk : Hid (IntKind.i64.wrap (k : Int) = k) := Lib.hid (IntWalk.i64_in _ (by omega))
            refine Pre.wp_region_pk 200 [(20, []), (26, [])] (HE4.out) (by kernel_rfl) (by kernel_rfl) (by kernel_rfl) (by kernel_rfl) (by kernel_rfl) (by kernel_rfl) (gok_row (B := w4.heap.size) (row := (Value.slice (some ⟨g1, 0, none⟩) (k + 1) cl).ownBlock) _ w11 20 26 HE4.out.size (fun g hg => by simp [Value.ownBlock] at hg; omega)) (prok_row (p := 20) (s := 26) (B := w4.heap.size) (row := (Value.slice (some ⟨g1, 0, none⟩) (k + 1) cl).ownBlock) (Pw := fun W => W.ownsRow w11.heap.size 41 2 (.slice (some ⟨g1, 0, none⟩) (k + 1) cl) (k + 1) (prCells PL) ∧ W.ownsRow w11.heap.size 41 2 (.slice (some ⟨g2, 0, none⟩) nr cr) nr (prCells PR)) (by kernel_rfl) (by decide) (fun _ _ e h => ⟨own_ext h.1 e, own_ext h.2 e⟩)) (fun p hp => by simp [pivB] at hp; rcases hp with rfl | rfl; (unfold PrG; rw [if_pos rfl]; exact ⟨HO4.out, Nat.le_refl _⟩); (unfold PrG; rw [if_neg (by decide)]; exact Nat.le_refl _)) ?_
            simp only [List.take_succ_cons, List.take_zero, List.take_nil, List.drop_succ_cons, List.drop_zero, List.drop_nil, List.map_cons, List.map_nil]
            repeat (first
              | (refine Pre.wpPL_step (o := ⟨some 124, _, _, _, _, _⟩) (Is (.int .i64 (k : Int))) (Is.stable _) (Pre.KeepsP.is _ _ _ _ _ _) (by kernel_rfl) (by first | exact .inl rfl | exact .inr ⟨_, _, _, rfl, rfl, rfl⟩) ?_ ?_
                 · intro a w' he0 hp hr K hK
                   simp [Reads, Oper.looksAt, Op.operands, Call.operands, factAt, Is] at hr
                   go_simp
                   rw [Hwk.out]
                   exact hK _ _ (Ext.refl _) rfl
                 simp only [setL, List.set_cons_succ, List.set_cons_zero])
              | (refine Pre.wpPL_step (o := ⟨some 125, _, _, _, _, _⟩) (Is (.pointer (some ⟨g1, k * 2, none⟩))) (Is.stable _) (Pre.KeepsP.is _ _ _ _ _ _) (by kernel_rfl) (by first | exact .inl rfl | exact .inr ⟨_, _, _, rfl, rfl, rfl⟩) ?_ ?_
                 · intro a w' he0 hp hr K hK
                   simp [Reads, Oper.looksAt, Op.operands, Call.operands, factAt, Is] at hr
                   go_simp
                   rw [if_pos (by omega)]
                   go_simp
                   exact hK _ _ (Ext.refl _) rfl
                 simp only [setL, List.set_cons_succ, List.set_cons_zero])
              | (refine Pre.wpPL_step (o := ⟨some 127, _, _, _, _, _⟩) (Is (.string ⟨kl.toArray⟩)) (Is.stable _) (Pre.KeepsP.is _ _ _ _ _ _) (by kernel_rfl) (by first | exact .inl rfl | exact .inr ⟨_, _, _, rfl, rfl, rfl⟩) ?_ ?_
                 · intro a w' he0 hp hr K hK
                   obtain ⟨kp, _⟩ := PrG.at (hp 20 (by kernel_rfl) (by kernel_rfl))
                   obtain ⟨c0, lc⟩ := own_key kp.1 (i := k) (by rw [HlL.out]; omega)
                   rw [HkL.out] at c0
                   simp [Reads, Oper.looksAt, Op.operands, Call.operands, factAt, Is] at hr
                   go_simp
                   exact hK _ _ (Ext.refl _) rfl
                 simp only [setL, List.set_cons_succ, List.set_cons_zero])
              | (refine Pre.wpPL_step (o := ⟨some 135, _, _, _, _, _⟩) (Is (.string ⟨kr.toArray⟩)) (Is.stable _) (Pre.KeepsP.is _ _ _ _ _ _) (by kernel_rfl) (by first | exact .inl rfl | exact .inr ⟨_, _, _, rfl, rfl, rfl⟩) ?_ ?_
                 · intro a w' he0 hp hr K hK
                   obtain ⟨kp, _⟩ := PrG.at (hp 20 (by kernel_rfl) (by kernel_rfl))
                   obtain ⟨c0, lc⟩ := own_key kp.2 (i := 0) (by rw [HlR.out]; omega)
                   rw [HkR.out] at c0
                   simp [Reads, Oper.looksAt, Op.operands, Call.operands, factAt, Is] at hr
                   go_simp
                   exact hK _ _ (Ext.refl _) rfl
                 simp only [setL, List.set_cons_succ, List.set_cons_zero])
              | (refine Pre.wpPL_pivot (o := ⟨some 141, _, _, _, _, _⟩) (RowsF 41 w11.heap.size 2 (k + 1 + nr) (prCells PL ++ prCells PR)) (RowsF.stable _ _ _ _ _) (own_keeps (by decide)) (by kernel_rfl) (by first | exact .inl rfl | exact .inr ⟨_, _, _, rfl, rfl, rfl⟩) ?_ ?_
                 · intro a w' he0 hp hr K hK
                   obtain ⟨kp, hz⟩ := PrG.at (hp 20 (by kernel_rfl) (by kernel_rfl))
                   have h1 := hr 139 (by simp [Oper.looksAt, Op.operands, Call.operands])
                   have h2 := hr 140 (by simp [Oper.looksAt, Op.operands, Call.operands])
                   refine wp_appk (.tmp 139) (.tmp 140) 37 41 rfl w11.heap.size _ 2 32 Try.underlying37 infoPairA rfl (by decide) _ (k + 1) _ h1 kp.1 (some ⟨g2, 0, none⟩) nr cr (prCells PR) h2 rfl (by rw [prCells_len, HlR.out]; omega) (own_cellsK kp.2).1 (pr_one PR) (by have := Hsm.out; omega) (by decide) he0.size ?_
                   intro v' w'' ho' hg
                   obtain ⟨q', c', rfl⟩ := own_slice ho'
                   exact hK _ _ (by unfold RG2; rw [if_pos rfl]; exact ⟨hz, hg⟩) ⟨q', c', rfl, ho'⟩ (fun x hx hxi y hy => by simp at hx; rcases hx with rfl | rfl <;> simp at hy)
                 simp only [setL, List.set_cons_succ, List.set_cons_zero])
              | (refine Pre.wpPL_step (o := ⟨some 142, _, _, _, _, _⟩) (Is (.agg #[.int .i64 d.id, .int .i64 d.org, .int .i64 d.format, .int .i64 d.length, .int .i64 d.block, .int .i64 d.keyAt, .int .i64 d.keyLength, .int .i64 d.interval, .int .i64 d.area, .int .i64 d.freeInterval, .int .i64 d.freeArea, .int .i64 d.base, .int .i64 d.altAt, .int .i64 d.altLength, .bool d.unique, .int .i64 d.cls, .string ⟨d.volume.toArray⟩, .string ⟨d.owner.toArray⟩, .int .i64 d.created, .int .i64 d.expires, .bool d.archived])) (Is.stable _) (Pre.KeepsP.is _ _ _ _ _ _) (by kernel_rfl) (by first | exact .inl rfl | exact .inr ⟨_, _, _, rfl, rfl, rfl⟩) ?_ ?_
                 · intro a w' he0 hp hr K hK
                   simp [Reads, Oper.looksAt, Op.operands, factAt, Is] at hr
                   exact wp_load_row 23 (.tmp 3) rfl w.heap.size (by go_simp) _ _ _ _ (hd11.ext he0) dsDesc rfl dsSize (hK _ _ (Ext.refl _) rfl)
                 simp only [setL, List.set_cons_succ, List.set_cons_zero])
              | (refine Pre.wpPL_step (o := ⟨some 143, _, _, _, _, _⟩) (Is (.agg (arC a q c p0 m))) (Is.stable _) (Pre.KeepsP.is _ _ _ _ _ _) (by kernel_rfl) (by first | exact .inl rfl | exact .inr ⟨_, _, _, rfl, rfl, rfl⟩) ?_ ?_
                 · intro a w' he0 hp hr K hK
                   simp [Reads, Oper.looksAt, Op.operands, factAt, Is] at hr
                   exact wp_load_row 33 (.tmp 7) rfl ab (by go_simp) _ _ _ _ (ha11.ext he0) arDesc rfl arSize (hK _ _ (Ext.refl _) rfl)
                 simp only [setL, List.set_cons_succ, List.set_cons_zero])
              | (refine Pre.wpPL_step (o := ⟨some 144, _, _, _, _, _⟩) (RowsF 41 w4.heap.size 2 na (prCells PA)) (RowsF.stable _ _ _ _ _) (rows_keeps (by intro g hg; simp [Value.ownBlock] at hg; have := Blk.lt Hb1.out; omega)) (by kernel_rfl) (by first | exact .inl rfl | exact .inr ⟨_, _, _, rfl, rfl, rfl⟩) ?_ ?_
                 · intro a w' he0 hp hr K hK
                   have hz := PrG.size (by decide) (hp 26 (by kernel_rfl) (by kernel_rfl))
                   simp [Reads, Oper.looksAt, Op.operands, Call.operands, factAt, Is] at hr
                   go_simp
                   refine (HPa.out w' he0 hz).mono ?_
                   rintro e w'' ⟨v, rfl, hf, he'⟩
                   exact hK _ _ he' hf
                 simp only [setL, List.set_cons_succ, List.set_cons_zero])
              | (refine Pre.wpPL_step (o := ⟨some 145, _, _, _, _, _⟩) (Is (.bool true)) (Is.stable _) (Pre.KeepsP.is _ _ _ _ _ _) (by kernel_rfl) (by first | exact .inl rfl | exact .inr ⟨_, _, _, rfl, rfl, rfl⟩) ?_ ?_
                 · intro a w' he0 hp hr K hK
                   obtain ⟨q1, c1, h1, ho1⟩ := hr 141 (by simp [Oper.looksAt, Op.operands, Call.operands])
                   obtain ⟨q2, c2, h2, ho2⟩ := hr 144 (by simp [Oper.looksAt, Op.operands, Call.operands])
                   simp at h1 h2
                   rw [← prCells_app, Happ.out] at ho1
                   obtain ⟨q3, c3, e3, hp3, _⟩ := own_prs ho1
                   obtain ⟨q4, c4, e4, hp4, _⟩ := own_prs ho2
                   simp at e3 e4
                   obtain ⟨rfl, rfl⟩ := e3
                   obtain ⟨rfl, rfl⟩ := e4
                   go_simp
                   refine (SamePairs_any q1 q2 c1 (k + 1 + nr) c2 na PA PA w' hp3 hp4 (by have := HlS.out; have := HlA.out; omega) HlA.out (by have := HlA.out; have := Hla.out; omega) (by have := HlA.out; have := Hla.out; omega)).mono ?_
                   rintro e w'' ⟨rfl, n9, rfl⟩
                   exact hK _ _ (Ext.drewN _ _) (by simp [Is])
                 simp only [setL, List.set_cons_succ, List.set_cons_zero])
              | (refine Pre.wpPL_pivot (o := ⟨some 6, _, _, _, _, _⟩) (Is (.bool true)) (Is.stable _) (Pre.KeepsP.is _ _ _ _ _ _) (by kernel_rfl) (by first | exact .inl rfl | exact .inr ⟨_, _, _, rfl, rfl, rfl⟩) ?_ ?_
                 · intro a w' he0 hp hr K hK
                   simp [Reads, Oper.looksAt, Op.operands, Call.operands, factAt, Is] at hr
                   go_simp
                   exact hK _ _ (by unfold RG2; rw [if_neg (by decide)]) rfl (fun x hx hxi y hy => by simp at hx; rcases hx with rfl | rfl <;> simp at hy)
                 simp only [setL, List.set_cons_succ, List.set_cons_zero])
              | (refine Pre.wpPL_move _ _ (by kernel_rfl) (by first | exact .inl rfl | exact .inr ⟨_, _, _, rfl, rfl, rfl⟩) (by first | exact .inl rfl | exact .inr rfl) rfl (by first | exact Is.stable _ | exact RowsF.stable _ _ _ _ _ | exact NoneF.stable _ _ | exact Fresh.stable _ _ _ | exact AppF.stable _ | exact WrF.stable _ | exact PtrF.stable _ _ | exact PlF.stable _ _) (by first | exact Pre.KeepsP.is _ _ _ _ _ _ ) ?_
                 simp only [setL, List.set_cons_succ, List.set_cons_zero, List.getD_cons_succ, List.getD_cons_zero])
              | (apply Pre.wpPL_det (fun k v => Pre.KeepsP.is _ _ _ _ k v) (by kernel_rfl) (by first | exact .inl rfl | exact .inr ⟨_, _, _, rfl, rfl, rfl⟩)
                 · intro a w' he0 hp hr K hK
                   have he := (fun (_ : 0 = 0) (_ : 0 = 0) => he0) (by kernel_rfl) (by kernel_rfl)
                   simp [Reads, Oper.looksAt, Op.operands, Call.operands, factAt, Is] at hr
                   have hx := he.cell
                   go_simp
                   try go_bits
                   try (rw [if_neg (by omega)]; go_simp)
                   first
                     | exact hK _ (Ext.refl _)
                 simp only [setL, List.set_cons_succ, List.set_cons_zero]))
            intro w2 he2
            simp only [killL, killIn, List.foldl_cons, List.foldl_nil, List.set_cons_succ, List.set_cons_zero]
            repeat (first | with_reducible refine rest_is _ _ _ _ ?_ | (with_reducible refine rest_fact _ _ _ _ ?_; intro _ _) | with_reducible refine rest_end _ _ ?_)
            simp only [List.reverse_cons, List.reverse_nil, List.nil_append, List.cons_append]
            go_wp2_with fail
            go_ret
            exact ⟨rfl, hw11.trans he2⟩
end Go.Proofs.Ytjoaidnbkkmlpaa
