/- The walk of AreaKeeps: an area contains the records of a map. -/
import Derived.Test.YtjoaidnbkkmlpaaBK
import Derived.Test.YtjoaidnbkkmlpaaBG0
set_option linter.unusedSimpArgs false
set_option linter.unusedVariables false
namespace Go.Proofs.Ytjoaidnbkkmlpaa
open Go.RowKit Dsd
/-- len(m) and m[x], where the operation is wanted, and as a step. -/
theorem wpList_wantS_len {ops : Array Oper} {rest : List Oper} {o : Oper} {a : Act} {w : World} {Q : Exit → Act → World → Prop} {mb n sz : Nat} {g : List UInt8 → Option (List UInt8)} (hw : Region.wanted o (yielded ops a.tmps) = true) (m : Operand) (hop : o.op = Op.call { callee := Callee.builtin Builtin.len, args := #[m], argTypes := #[34] }) (hm : a.eval m = .map (some mb)) (h : MapAt wantStr w mb n g sz)
    (hK : wpList Try.prog ops Q rest (a.put o.dst (.int .i64 sz)) w) : wpList Try.prog ops Q (o :: rest) a w := by
  obtain ⟨D, hown, hs⟩ := h
  refine BigFrame.wpList_want hw fun K' hK' => ?_
  have hl := hown.len wantStr.map o.type
  rw [hs.size] at hl
  unfold Oper.wp
  simp [execOp, hop, resolve, invoke, builtin, hm, hl, Result.andThen]
  exact hK' _ _ hK
theorem wp_wantS_get {o : Oper} {a : Act} {w : World} {K : Act → World → Prop} {Q : Exit → Act → World → Prop} {mb n sz : Nat} {g : List UInt8 → Option (List UInt8)} (m x : Operand) (hop : o.op = Op.lookup 34 m x false) (hm : a.eval m = .map (some mb)) (h : MapAt wantStr w mb n g sz) (y : List UInt8)
    (hx : a.eval x = .string ⟨y.toArray⟩) (hy : y.length ≤ maxLen) (v : List UInt8) (hv : (g y).getD [] = v) (hK : K (a.put o.dst (.string ⟨v.toArray⟩)) w) : o.wp Try.prog a w K Q := by
  obtain ⟨D, hown, hs⟩ := h
  obtain ⟨v', ps, hrun, hv'⟩ := hown.lookup wantStr.keyed wantStr.map (wantStr.zero w) (wantStr.enc _ wantStr.okz) (wantStr.keyOf y hy)
  rw [mapG_val (M := wantStr) hs hv'] at hrun
  have hx2 : a.eval x = wantStr.kv y := hx
  have hv2 : wantStr.ev ((g y).getD wantStr.ez) = .string ⟨v.toArray⟩ := by rw [← hv]; rfl
  rw [hv2] at hrun
  unfold Oper.wp
  simp [execOp, hop, hm, hx2, hrun, Result.andThen]
  exact hK
theorem rows_small {d : DS} {a : Ar} (s : ASpec d a) (i : Nat) : Small (a.ivs.getD i []) := by
  by_cases hi : i < a.ivs.length
  · obtain ⟨h1, h2⟩ := fits_small (s.iv hi).1
    exact ⟨by omega, fun x hx => by have := h2 x hx; omega⟩
  · rw [List.getD_eq_getElem?_getD, List.getElem?_eq_none (by omega)]
    exact ⟨by simp, by simp⟩
theorem pairs_snd {d : DS} {L : Recs} {i : Nat} (h : i < L.length) : ((pairsD d L).getD i ([], [])).2 = L.getD i [] := by
  simp [pairsD, List.getD, h]
theorem recs_key {d : DS} {a : Ar} (s : ASpec d a) {i : Nat} (hi : i < (recsOf a).length) : (keyD d ((recsOf a).getD i [])).length ≤ maxLen := by
  have hm := getD_mem hi
  unfold recsOf at hm
  obtain ⟨L, hL, hs⟩ := List.mem_flatten.1 hm
  have h1 := keyD_len s.keyed ((ivs_mem s.ivs L hL).2.1 _ hs)
  have h2 := keyed_spec s.keyed
  have h3 := isSize_le s.size
  unfold recsOf
  unfold maxLen
  omega
set_option maxRecDepth 100000 in
set_option maxHeartbeats 8000000 in
theorem AreaKeeps_any (p : Option Addr) (cap n : Nat) (L : List AOp) (d : DS) (w : World) (hs : AOps w p L) (hn : L.length = n) (hcap : n ≤ cap) (hcm : cap ≤ maxLen) :
    Calls Try.prog 3 #[.agg #[.int .i64 d.id, .int .i64 d.org, .int .i64 d.format, .int .i64 d.length, .int .i64 d.block, .int .i64 d.keyAt, .int .i64 d.keyLength, .int .i64 d.interval, .int .i64 d.area, .int .i64 d.freeInterval, .int .i64 d.freeArea, .int .i64 d.base, .int .i64 d.altAt, .int .i64 d.altLength, .bool d.unique, .int .i64 d.cls, .string ⟨d.volume.toArray⟩, .string ⟨d.owner.toArray⟩, .int .i64 d.created, .int .i64 d.expires, .bool d.archived], .slice p n cap] w fun e w' => e = .returned (.bool true) ∧ Ext w w' := by
  subst hn
  have hmx : L.length ≤ 9223372036854775807 := by unfold maxLen at hcm; omega
  have Hs := Lib.hid hs
  have HK := Lib.hid (fun W => IsKeyedR_any d W)
  have HSh := Lib.hid (fun W (h : AOps W p L) => ShortA_any p cap L 60 W h hmx)
  clear hs hcap hcm hmx
  go_enter Try.func3, Try.ntmps3
  go_upto_region 1 with (fail)
  refine wp_name (fun w0 => Ext w w0 ∧ DsAt w0 w.heap.size d) ⟨Ext.alloc _ _, Blk.new w _⟩ ?_
  rintro w0 ⟨he0, hb3⟩
  go_upto_region 3 with (go_at_call 6; refine (awakeA_any _).mono ?_; rintro e w1 ⟨rfl, he1⟩)
  have Hd := Lib.hid (hb3.ext he1)
  have HE1 := Lib.hid (he0.trans he1)
  have hd1 := Hd.out
  clear hb3 he0 he1
  cases hk : keyedB d
  · rw [hk] at HK
    clear hk
    go_wp2_with (first
      | ((with_reducible (show wpList _ _ _ (⟨some 13, _, _, _, _, _⟩ :: _) _ _)); refine wpList_ds (o := ⟨some 13, _, _, _, _, _⟩) rfl (.tmp 2) rfl _ rfl d hd1 ?_)
      | (go_at_call 7; refine (HK.out _).mono ?_; rintro e w2 ⟨rfl, he2⟩))
    go_ret
    exact ⟨rfl, HE1.out.trans he2⟩
  · rw [hk] at HK
    have Hk := Lib.hid hk
    clear hk
    cases hsh : shortA L 60
    · rw [hsh] at HSh
      clear hsh
      go_wp2_with (first
        | ((with_reducible (show wpList _ _ _ (⟨some 13, _, _, _, _, _⟩ :: _) _ _)); refine wpList_ds (o := ⟨some 13, _, _, _, _, _⟩) rfl (.tmp 2) rfl _ rfl d hd1 ?_)
        | (go_at_call 7; refine (HK.out _).mono ?_; rintro e w2 ⟨rfl, he2⟩)
        | (go_at_call 8; refine (HSh.out _ (Hs.out.ext (HE1.out.trans he2))).mono ?_; rintro e w3 ⟨rfl, rfl⟩))
      go_ret
      exact ⟨rfl, HE1.out.trans he2⟩
    · rw [hsh] at HSh
      have Hsh := Lib.hid hsh
      clear hsh
      have HRun := Lib.hid (fun W (h : AOps W p L) => RunA_ok p cap L d 60 (Int.le_refl _) Hk.out Hsh.out W h)
      go_upto_region 5 with (first
        | ((with_reducible (show wpList _ _ _ (⟨some 13, _, _, _, _, _⟩ :: _) _ _)); refine wpList_ds (o := ⟨some 13, _, _, _, _, _⟩) rfl (.tmp 2) rfl _ rfl d hd1 ?_)
        | (go_at_call 7; refine (HK.out _).mono ?_; rintro e w2 ⟨rfl, he2⟩)
        | (go_at_call 8; refine (HSh.out _ (Hs.out.ext (HE1.out.trans he2))).mono ?_; rintro e w3 ⟨rfl, rfl⟩))
      have hd2 := Hd.out.ext he2
      have Hs2 := Lib.hid (Hs.out.ext (HE1.out.trans he2))
      go_upto_region 6 with (first
        | ((with_reducible (show wpList _ _ _ (⟨some 22, _, _, _, _, _⟩ :: _) _ _)); refine wpList_ds (o := ⟨some 22, _, _, _, _, _⟩) rfl (.tmp 2) rfl _ rfl d hd2 ?_)
        | (go_at_call 9; refine (HRun.out _ Hs2.out).mono ?_; rintro e w5 ⟨he5, a, q, c, p0, m, mb, nn, rfl, hv, hI, hba, hnx, hM⟩)
        | (refine wpList_put rfl 33 (.tmp 5) (.tmp 25) rfl _ (arC a q c p0 m) rfl rfl _ _ (Blk.new w5 _) arSize rfl (ar_one ..) ?_; intro w6 ha6 hc6))
      have hE56 : Ext w5 w6 := hc6.ext (Ext.alloc _ _) (Nat.le_refl _)
      refine wp_name (fun w7 => Ext w w7 ∧ DsAt w7 w.heap.size d ∧ ArAt w7 w5.heap.size a q c p0 m ∧ ArV w7 a q c p0 m ∧ MapAt wantStr w7 mb nn (wantA d (recsOf a)) (recsOf a).length) ⟨((HE1.out.trans he2).trans he5).trans hE56, ((hd2.ext he5).ext hE56), ha6, hv.ext hE56, hM.ext hE56⟩ ?_
      have HI := Lib.hid hI
      clear hE56 hc6 ha6 hv he5 hd2 he2 Hs2 HRun hM hd1 Hd HE1 HK HSh hI hba hnx
      rintro w7 ⟨he7, hd7, ha7, hv7, hM7⟩
      generalize w5.heap.size = ab at *
      have HB := Lib.hid (And.intro he7 (And.intro hd7 (And.intro ha7 (And.intro hv7 hM7))))
      have HPr := Lib.hid (PairsA_any d a q c p0 m w7 HI.out.spec hv7)
      clear he7 hv7 hM7
      go_upto_region 7 with (first
        | ((with_reducible (show wpList _ _ _ (⟨some 28, _, _, _, _, _⟩ :: _) _ _)); refine wpList_ds (o := ⟨some 28, _, _, _, _, _⟩) rfl (.tmp 2) rfl _ rfl d hd7 ?_)
        | ((with_reducible (show wpList _ _ _ (⟨some 29, _, _, _, _, _⟩ :: _) _ _)); refine wpList_row (o := ⟨some 29, _, _, _, _, _⟩) rfl 33 (.tmp 5) rfl _ rfl _ _ _ ha7 arDesc rfl arSize ?_)
        | (go_at_call 10; refine HPr.out.mono ?_; rintro e w8 ⟨he8, v8, rfl, ho8⟩; obtain ⟨q8, c8, rfl⟩ := own_slice ho8))
      have hd8 := hd7.ext he8
      have ha8 := ha7.ext he8
      have HV8 := Lib.hid (fun W (e : Ext w8 W) => ValidA_any d a q c p0 m W HI.out.spec (HB.out.2.2.2.1.ext (he8.trans e)))
      obtain ⟨n1, n2, n3, n4, n5⟩ := inv_small HI.out.spec
      have HR8 : Hid (∀ W, Ext w8 W → Calls Try.prog 12 #[.agg #[.int .i64 d.id, .int .i64 d.org, .int .i64 d.format, .int .i64 d.length, .int .i64 d.block, .int .i64 d.keyAt, .int .i64 d.keyLength, .int .i64 d.interval, .int .i64 d.area, .int .i64 d.freeInterval, .int .i64 d.freeArea, .int .i64 d.base, .int .i64 d.altAt, .int .i64 d.altLength, .bool d.unique, .int .i64 d.cls, .string ⟨d.volume.toArray⟩, .string ⟨d.owner.toArray⟩, .int .i64 d.created, .int .i64 d.expires, .bool d.archived], .agg (arC a q c p0 m)] W fun e w' => e = .returned (.bool true) ∧ Ext W w') := Lib.hid (fun W (e : Ext w8 W) => by
        have h := ValidAR_any d a q c p0 m W (HB.out.2.2.2.1.ext (he8.trans e)) (by omega) (by omega) (rows_small HI.out.spec)
        rw [area_iff.2 HI.out.spec] at h
        exact h)
      have HM8 := Lib.hid (HB.out.2.2.2.2.ext he8)
      have HX8 := Lib.hid (HB.out.1.trans he8)
      have HO8 := Lib.hid ho8
      clear ho8 he8 hd7 ha7 HPr n1 n2 n3 n4 n5
      go_upto_region 9 with (first
        | ((with_reducible (show wpList _ _ _ (⟨some 34, _, _, _, _, _⟩ :: _) _ _)); refine wpList_ds (o := ⟨some 34, _, _, _, _, _⟩) rfl (.tmp 2) rfl _ rfl d hd8 ?_)
        | ((with_reducible (show wpList _ _ _ (⟨some 35, _, _, _, _, _⟩ :: _) _ _)); refine wpList_row (o := ⟨some 35, _, _, _, _, _⟩) rfl 33 (.tmp 5) rfl _ rfl _ _ _ ha8 arDesc rfl arSize ?_)
        | (go_at_call 11; refine (HV8.out _ (Ext.refl _)).mono ?_; rintro e w9 ⟨rfl, he9⟩; have hd9 := hd8.ext he9; have ha9 := ha8.ext he9)
        | ((with_reducible (show wpList _ _ _ (⟨some 40, _, _, _, _, _⟩ :: _) _ _)); refine wpList_ds (o := ⟨some 40, _, _, _, _, _⟩) rfl (.tmp 2) rfl _ rfl d hd9 ?_)
        | ((with_reducible (show wpList _ _ _ (⟨some 41, _, _, _, _, _⟩ :: _) _ _)); refine wpList_row (o := ⟨some 41, _, _, _, _, _⟩) rfl 33 (.tmp 5) rfl _ rfl _ _ _ ha9 arDesc rfl arSize ?_)
        | (go_at_call 12; refine (HR8.out _ he9).mono ?_; rintro e w10 ⟨rfl, he10⟩; have hM10 := HM8.out.ext (he9.trans he10))
        | ((with_reducible (show wpList _ _ _ (⟨some 49, _, _, _, _, _⟩ :: _) _ _)); refine wpList_wantS_len (o := ⟨some 49, _, _, _, _, _⟩) rfl (.tmp 48) rfl rfl hM10 ?_))
      have HX10 := Lib.hid (HX8.out.trans (he9.trans he10))
      have HO10 := Lib.hid (own_ext HO8.out (he9.trans he10))
      have HM10 := Lib.hid hM10
      have HInc := Lib.hid HI.out.spec.inc
      have HKl : Hid (∀ i, i < (recsOf a).length → (keyD d ((recsOf a).getD i [])).length ≤ maxLen) := Lib.hid (fun i hi => recs_key HI.out.spec hi)
      have Hrl := Lib.hid (recs_len HI.out.spec)
      clear hd8 ha8 hd9 ha9 HV8 HR8 HM8 HX8 HO8 he9 he10 hM10 HB HI
      generalize recsOf a = R at *
      go_upto_region 10 with (fail)
      go_loopw [54] (fun i wr => ∃ j : Nat, j ≤ R.length ∧ i = .int .i64 j ∧ Ext w10 wr) (fun i _ => R.length - (intOf i).toNat)
      case atStart => exact ⟨0, Nat.zero_le _, rfl, Ext.refl _⟩
      case round =>
        obtain ⟨j, hj, rfl, he⟩ := hrel
        by_cases hlt : j < R.length
        · have hltI : (j : Int) < R.length := by omega
          obtain ⟨g, cu, rfl, _⟩ := own_parts HO10.out (by omega)
          obtain ⟨c0, c1, lg⟩ := own_pair (own_ext HO10.out he) (i := j) (by rw [pairs_len]; exact hlt)
          rw [pairs_key hlt] at c0
          rw [pairs_snd hlt] at c1
          have HP : Hid (0 < j → wr.cell? ⟨g, (j - 1) * 2, none⟩ = some (.string ⟨(keyD d (R.getD (j - 1) [])).toArray⟩) ∧ bl (keyD d (R.getD (j - 1) [])) (keyD d (R.getD j [])) = true) := Lib.hid (fun h => by
            obtain ⟨b0, _, _⟩ := own_pair (own_ext HO10.out he) (i := j - 1) (by rw [pairs_len]; omega)
            rw [pairs_key (by omega)] at b0
            exact ⟨b0, inc_lt HInc.out (by omega) hlt⟩)
          have Hw : Hid (wantA d R (keyD d (R.getD j [])) = some (R.getD j [])) := Lib.hid ((wantA_some HInc.out).2 ⟨getD_mem hlt, rfl⟩)
          have Hkl := Lib.hid (HKl.out j hlt)
          have He := Lib.hid he
          have hrl : R.length ≤ 120000 := Hrl.out
          clear he
          generalize R.getD j [] = r at *
          generalize keyD d r = kx at *
          go_upto_region 12 with (first
            | ((with_reducible (show wpList _ _ _ (⟨some 58, _, _, _, _, _⟩ :: _) _ _)); refine wpList_pair (o := ⟨some 58, _, _, _, _, _⟩) rfl (.tmp 57) rfl g (j * 2) (by go_simp) kx r c0 c1 ?_)
            | (refine wpList_put rfl 41 (.tmp 10) (.tmp 58) rfl _ #[.string ⟨kx.toArray⟩, .string ⟨r.toArray⟩] rfl rfl _ _ (Blk.new wr _) pairSizeA rfl (pair_oneA kx r) ?_; intro wz hxz hcz))
          have hrz : Ext wr wz := hcz.ext (Ext.alloc _ _) (Nat.le_refl _)
          have HXz := Lib.hid (He.out.trans hrz)
          have HMz := Lib.hid (HM10.out.ext HXz.out)
          have v0 : wz.cell? ⟨wr.heap.size, 0, none⟩ = some (.string ⟨kx.toArray⟩) := Blk.val hxz 0 _ rfl
          have v1 : wz.cell? ⟨wr.heap.size, 1, none⟩ = some (.string ⟨r.toArray⟩) := Blk.val hxz 1 _ rfl
          have lv := Blk.lt hxz
          have lgz := Nat.lt_of_lt_of_le lg hrz.size
          have HPz := Lib.hid (fun (h : 0 < j) => (hrz.cell g _ lg).trans (HP.out h).1)
          clear hrz hxz hcz c0 c1 lg
          generalize wr.heap.size = vb at *
          rcases Nat.eq_zero_or_pos j with hj0 | hj0
          · have z1 : decide (0 < (j : Int)) = false := decide_eq_false (by omega)
            have z1' : ¬ 0 < j := by omega
            clear hj0
            refine wp_region_mk 200 (Ext.refl wz) (by kernel_rfl) (by kernel_rfl) (by kernel_rfl) ?_
            simp only [List.take_succ_cons, List.take_zero, List.take_nil, List.drop_succ_cons, List.drop_zero, List.drop_nil, List.map_cons, List.map_nil]
            repeat (first
              | (refine wpML_det (o := ⟨some 62, _, _, _, _, _⟩) (v := .string ⟨r.toArray⟩) rfl ?_ ?_
                 · intro a w' he hr K hK
                   simp [Reads, Oper.looksAt, Op.operands, Call.operands, factAt, Is] at hr
                   exact wp_wantS_get (.tmp 59) (.tmp 61) rfl (by go_simp) (HMz.out.ext he) kx (by go_simp) Hkl.out r (by rw [Hw.out]; rfl) (hK _ (Ext.refl _))
                 simp only [setL, List.set_cons_succ, List.set_cons_zero])
              | (refine wpML_skip rfl rfl rfl rfl ?_
                 simp only [setL, List.set_cons_succ, List.set_cons_zero])
              | (apply wpML_detg rfl rfl rfl rfl
                 · intro a w' he hr K hK
                   simp [Reads, Oper.looksAt, Op.operands, Call.operands, factAt, Is] at hr
                   have hx := he.cell
                   go_simp
                   try go_bits
                   try (rw [if_neg (by omega)]; go_simp)
                   first
                     | exact hK _ (Ext.refl _)
                 simp only [setL, List.set_cons_succ, List.set_cons_zero])
              | (refine wpML_move _ _ rfl (by first | exact .inl rfl | exact .inr rfl) rfl (by first | exact Is.stable _ | exact AppF.stable _ | exact WrF.stable _ | exact PtrF.stable _ _ | exact IfcF.stable (Fresh.stable _ _ _) _ | exact PairF.stable (RowF.stable _ _ _ _) _ | exact RowF.stable _ _ _ _ | exact Fresh.stable _ _ _) ?_
                 simp only [setL, List.set_cons_succ, List.set_cons_zero, List.getD_cons_succ, List.getD_cons_zero])
              | (refine wpML_moveC _ rfl (by first | exact .inl rfl | exact .inr rfl) ?_
                 simp only [setL, List.set_cons_succ, List.set_cons_zero])
              | (apply wpML_det rfl
                 · intro a w' he hr K hK
                   simp [Reads, Oper.looksAt, Op.operands, Call.operands, factAt, Is] at hr
                   have hx := he.cell
                   go_simp
                   try go_bits
                   try (rw [if_neg (by omega)]; go_simp)
                   first
                     | exact hK _ (Ext.refl _)
                 simp only [setL, List.set_cons_succ, List.set_cons_zero])
              | (apply wpML_det rfl
                 · intro a w' he hr K hK
                   simp [Reads, Oper.looksAt, Op.operands, Call.operands, factAt, Fresh] at hr
                   obtain ⟨b, hr1, hr2⟩ := hr
                   go_simp
                   exact hK _ (Ext.refl _)
                 simp only [setL, List.set_cons_succ, List.set_cons_zero]))
            intro w2 he2
            repeat (first | with_reducible refine rest_is _ _ _ _ ?_ | (with_reducible refine rest_fact _ _ _ _ ?_; intro _ _) | with_reducible refine rest_end _ _ ?_)
            simp only [List.reverse_cons, List.reverse_nil, List.nil_append, List.cons_append]
            go_wp2_with fail
            go_roundw
            case rel => exact ⟨j + 1, by omega, by go_num, HXz.out.trans he2⟩
            case measure => simp [intOf]; omega
          · have z1 : decide (0 < (j : Int)) = true := decide_eq_true (by omega)
            have z1' : 0 < j := hj0
            have z3 : (j : Int) - 1 = ((j - 1 : Nat) : Int) := by omega
            have z4 : ((j - 1 : Nat) : Int) < (R.length : Int) := by omega
            have hcy := HPz.out hj0
            have z2 : Go.Op.bytesLess (keyD d (R.getD (j - 1) [])) kx = true := (HP.out hj0).2
            clear hj0 HPz HP
            generalize keyD d (R.getD (j - 1) []) = ky at *
            refine wp_region_mk 200 (Ext.refl wz) (by kernel_rfl) (by kernel_rfl) (by kernel_rfl) ?_
            simp only [List.take_succ_cons, List.take_zero, List.take_nil, List.drop_succ_cons, List.drop_zero, List.drop_nil, List.map_cons, List.map_nil]
            repeat (first
              | (refine wpML_det (o := ⟨some 62, _, _, _, _, _⟩) (v := .string ⟨r.toArray⟩) rfl ?_ ?_
                 · intro a w' he hr K hK
                   simp [Reads, Oper.looksAt, Op.operands, Call.operands, factAt, Is] at hr
                   exact wp_wantS_get (.tmp 59) (.tmp 61) rfl (by go_simp) (HMz.out.ext he) kx (by go_simp) Hkl.out r (by rw [Hw.out]; rfl) (hK _ (Ext.refl _))
                 simp only [setL, List.set_cons_succ, List.set_cons_zero])
              | (refine wpML_skip rfl rfl rfl rfl ?_
                 simp only [setL, List.set_cons_succ, List.set_cons_zero])
              | (apply wpML_detg rfl rfl rfl rfl
                 · intro a w' he hr K hK
                   simp [Reads, Oper.looksAt, Op.operands, Call.operands, factAt, Is] at hr
                   have hx := he.cell
                   go_simp
                   try go_bits
                   try (rw [if_neg (by omega)]; go_simp)
                   first
                     | exact hK _ (Ext.refl _)
                 simp only [setL, List.set_cons_succ, List.set_cons_zero])
              | (refine wpML_move _ _ rfl (by first | exact .inl rfl | exact .inr rfl) rfl (by first | exact Is.stable _ | exact AppF.stable _ | exact WrF.stable _ | exact PtrF.stable _ _ | exact IfcF.stable (Fresh.stable _ _ _) _ | exact PairF.stable (RowF.stable _ _ _ _) _ | exact RowF.stable _ _ _ _ | exact Fresh.stable _ _ _) ?_
                 simp only [setL, List.set_cons_succ, List.set_cons_zero, List.getD_cons_succ, List.getD_cons_zero])
              | (refine wpML_moveC _ rfl (by first | exact .inl rfl | exact .inr rfl) ?_
                 simp only [setL, List.set_cons_succ, List.set_cons_zero])
              | (apply wpML_det rfl
                 · intro a w' he hr K hK
                   simp [Reads, Oper.looksAt, Op.operands, Call.operands, factAt, Is] at hr
                   have hx := he.cell
                   go_simp
                   try go_bits
                   try (rw [if_neg (by omega)]; go_simp)
                   first
                     | exact hK _ (Ext.refl _)
                 simp only [setL, List.set_cons_succ, List.set_cons_zero])
              | (apply wpML_det rfl
                 · intro a w' he hr K hK
                   simp [Reads, Oper.looksAt, Op.operands, Call.operands, factAt, Fresh] at hr
                   obtain ⟨b, hr1, hr2⟩ := hr
                   go_simp
                   exact hK _ (Ext.refl _)
                 simp only [setL, List.set_cons_succ, List.set_cons_zero]))
            intro w2 he2
            repeat (first | with_reducible refine rest_is _ _ _ _ ?_ | (with_reducible refine rest_fact _ _ _ _ ?_; intro _ _) | with_reducible refine rest_end _ _ ?_)
            simp only [List.reverse_cons, List.reverse_nil, List.nil_append, List.cons_append]
            go_wp2_with fail
            go_roundw
            case rel => exact ⟨j + 1, by omega, by go_num, HXz.out.trans he2⟩
            case measure => simp [intOf]; omega
        · have hltI : decide ((j : Int) < R.length) = false := decide_eq_false (by omega)
          go_wp2_with fail
          go_ret
          exact ⟨rfl, HX10.out.trans he⟩
end Go.Proofs.Ytjoaidnbkkmlpaa
