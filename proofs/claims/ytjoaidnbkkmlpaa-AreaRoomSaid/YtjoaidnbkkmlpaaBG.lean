/- The walk of AreaRoom: an area is full only if it uses all of its pages; then its half has room. -/
import Derived.Test.YtjoaidnbkkmlpaaBG0
set_option linter.unusedSimpArgs false
set_option linter.unusedVariables false
namespace Go.Proofs.Ytjoaidnbkkmlpaa
open Go.RowKit Dsd
set_option maxRecDepth 100000 in
set_option maxHeartbeats 8000000 in
theorem AreaRoom_any (p : Option Addr) (cap n : Nat) (L : List AOp) (d : DS) (r : List UInt8) (w : World) (hs : AOps w p L) (hn : L.length = n) (hcap : n ≤ cap) (hcm : cap ≤ maxLen) :
    Calls Try.prog 5 #[.agg #[.int .i64 d.id, .int .i64 d.org, .int .i64 d.format, .int .i64 d.length, .int .i64 d.block, .int .i64 d.keyAt, .int .i64 d.keyLength, .int .i64 d.interval, .int .i64 d.area, .int .i64 d.freeInterval, .int .i64 d.freeArea, .int .i64 d.base, .int .i64 d.altAt, .int .i64 d.altLength, .bool d.unique, .int .i64 d.cls, .string ⟨d.volume.toArray⟩, .string ⟨d.owner.toArray⟩, .int .i64 d.created, .int .i64 d.expires, .bool d.archived], .slice p n cap, .string ⟨r.toArray⟩] w fun e w' => e = .returned (.bool true) ∧ Ext w w' := by
  subst hn
  have hmx : L.length ≤ 9223372036854775807 := by unfold maxLen at hcm; omega
  have Hs := Lib.hid hs
  have HK := Lib.hid (fun W => IsKeyedR_any d W)
  have HSh := Lib.hid (fun W (h : AOps W p L) => ShortA_any p cap L 60 W h hmx)
  clear hs hcap hcm hmx
  go_enter Try.func5, Try.ntmps5
  go_upto_region 1 with (fail)
  refine wp_name (fun w0 => Ext w w0 ∧ DsAt w0 w.heap.size d) ⟨Ext.alloc _ _, Blk.new w _⟩ ?_
  rintro w0 ⟨he0, hb3⟩
  go_upto_region 3 with (go_at_call 6; refine (awakeA_any _).mono ?_; rintro e w1 ⟨rfl, he1⟩)
  have Hd := Lib.hid (hb3.ext he1)
  have HE1 := Lib.hid (he0.trans he1)
  have hd1 := Hd.out
  clear hb3 he0 he1
  cases hk : keyedB d
  · rw [hk] at HK
    clear hk
    go_wp2_with (first
      | ((with_reducible (show wpList _ _ _ (⟨some 24, _, _, _, _, _⟩ :: _) _ _)); refine wpList_ds (o := ⟨some 24, _, _, _, _, _⟩) rfl (.tmp 3) rfl _ rfl d hd1 ?_)
      | (go_at_call 7; refine (HK.out _).mono ?_; rintro e w2 ⟨rfl, he2⟩))
    go_ret
    exact ⟨rfl, HE1.out.trans he2⟩
  · rw [hk] at HK
    have HR := Lib.hid (IsRecordR_any d r hk)
    have Hk := Lib.hid hk
    clear hk
    cases hsh : shortA L 60
    · rw [hsh] at HSh
      clear hsh
      go_wp2_with (first
        | ((with_reducible (show wpList _ _ _ (⟨some 24, _, _, _, _, _⟩ :: _) _ _)); refine wpList_ds (o := ⟨some 24, _, _, _, _, _⟩) rfl (.tmp 3) rfl _ rfl d hd1 ?_)
        | (go_at_call 7; refine (HK.out _).mono ?_; rintro e w2 ⟨rfl, he2⟩)
        | (go_at_call 8; refine (HSh.out _ (Hs.out.ext (HE1.out.trans he2))).mono ?_; rintro e w3 ⟨rfl, rfl⟩))
      go_ret
      exact ⟨rfl, HE1.out.trans he2⟩
    · rw [hsh] at HSh
      have Hsh := Lib.hid hsh
      clear hsh
      cases hr : recB d r
      · rw [hr] at HR
        clear hr
        go_wp2_with (first
          | ((with_reducible (show wpList _ _ _ (⟨some 24, _, _, _, _, _⟩ :: _) _ _)); refine wpList_ds (o := ⟨some 24, _, _, _, _, _⟩) rfl (.tmp 3) rfl _ rfl d hd1 ?_)
          | (go_at_call 7; refine (HK.out _).mono ?_; rintro e w2 ⟨rfl, he2⟩; have hd2 := Hd.out.ext he2)
          | (go_at_call 8; refine (HSh.out _ (Hs.out.ext (HE1.out.trans he2))).mono ?_; rintro e w3 ⟨rfl, rfl⟩)
          | ((with_reducible (show wpList _ _ _ (⟨some 33, _, _, _, _, _⟩ :: _) _ _)); refine wpList_ds (o := ⟨some 33, _, _, _, _, _⟩) rfl (.tmp 3) rfl _ rfl d hd2 ?_)
          | (go_at_call 15; refine (HR.out _).mono ?_; rintro e w4 ⟨rfl, he4⟩))
        go_ret
        exact ⟨rfl, (HE1.out.trans he2).trans he4⟩
      · rw [hr] at HR
        have Hr := Lib.hid hr
        clear hr
        have HRun := Lib.hid (fun W (h : AOps W p L) => RunA_ok p cap L d 60 (Int.le_refl _) Hk.out Hsh.out W h)
        go_upto_region 5 with (first
          | ((with_reducible (show wpList _ _ _ (⟨some 24, _, _, _, _, _⟩ :: _) _ _)); refine wpList_ds (o := ⟨some 24, _, _, _, _, _⟩) rfl (.tmp 3) rfl _ rfl d hd1 ?_)
          | (go_at_call 7; refine (HK.out _).mono ?_; rintro e w2 ⟨rfl, he2⟩; have hd2 := Hd.out.ext he2)
          | (go_at_call 8; refine (HSh.out _ (Hs.out.ext (HE1.out.trans he2))).mono ?_; rintro e w3 ⟨rfl, rfl⟩)
          | ((with_reducible (show wpList _ _ _ (⟨some 33, _, _, _, _, _⟩ :: _) _ _)); refine wpList_ds (o := ⟨some 33, _, _, _, _, _⟩) rfl (.tmp 3) rfl _ rfl d hd2 ?_)
          | (go_at_call 15; refine (HR.out _).mono ?_; rintro e w4 ⟨rfl, he4⟩))
        have hd4 := hd2.ext he4
        have Hs4 := Lib.hid (Hs.out.ext ((HE1.out.trans he2).trans he4))
        go_upto_region 6 with (first
          | ((with_reducible (show wpList _ _ _ (⟨some 39, _, _, _, _, _⟩ :: _) _ _)); refine wpList_ds (o := ⟨some 39, _, _, _, _, _⟩) rfl (.tmp 3) rfl _ rfl d hd4 ?_)
          | (go_at_call 9; refine (HRun.out _ Hs4.out).mono ?_; rintro e w5 ⟨he5, a, q, c, p0, m, mb, nn, rfl, hv, hI, hba, hnx, hM⟩)
          | (refine wpList_put rfl 33 (.tmp 7) (.tmp 42) rfl _ (arC a q c p0 m) rfl rfl _ _ (Blk.new w5 _) arSize rfl (ar_one ..) ?_; intro w6 ha6 hc6))
        have hE56 : Ext w5 w6 := hc6.ext (Ext.alloc _ _) (Nat.le_refl _)
        refine wp_name (fun w7 => Ext w w7 ∧ DsAt w7 w.heap.size d ∧ ArAt w7 w5.heap.size a q c p0 m ∧ ArV w7 a q c p0 m) ⟨(((HE1.out.trans he2).trans he4).trans he5).trans hE56, ((hd4.ext he5).ext hE56), ha6, hv.ext hE56⟩ ?_
        have HI := Lib.hid hI
        clear hE56 hc6 ha6 hv he5 hd2 hd4 he2 he4 Hs4 HRun hM hd1 Hd HE1 HK HSh hI HR hba hnx
        rintro w7 ⟨he7, hd7, ha7, hv7⟩
        generalize w5.heap.size = ab at *
        have HP := Lib.hid (PutA_any d a q c p0 m r w7 HI.out hv7)
        have HB := Lib.hid (And.intro he7 (And.intro hd7 (And.intro ha7 hv7)))
        have lab := Blk.lt ha7
        clear he7 hv7
        go_upto_region 7 with (first
          | ((with_reducible (show wpList _ _ _ (⟨some 46, _, _, _, _, _⟩ :: _) _ _)); refine wpList_ds (o := ⟨some 46, _, _, _, _, _⟩) rfl (.tmp 3) rfl _ rfl d hd7 ?_)
          | ((with_reducible (show wpList _ _ _ (⟨some 47, _, _, _, _, _⟩ :: _) _ _)); refine wpList_row (o := ⟨some 47, _, _, _, _, _⟩) rfl 33 (.tmp 7) rfl _ rfl _ _ _ ha7 arDesc rfl arSize ?_)
          | (go_at_call 16; refine HP.out.mono ?_; rintro e w8 ⟨he8, ho8⟩; rw [if_pos Hr.out] at ho8; obtain ⟨a2, ok, q2, c2, p2, m2, rfl, hv2, hI2, _, _, _, hno, _⟩ := ho8)
          | (refine wpList_put rfl 33 (.tmp 10) (.tmp 50) rfl _ (arC a2 q2 c2 p2 m2) rfl rfl _ _ (Blk.new w8 _) arSize rfl (ar_one ..) ?_; intro w9 hx9 hc9))
        have hE9 : Ext w7 w9 := he8.trans (hc9.ext (Ext.alloc _ _) (Nat.le_refl _))
        refine wp_name (fun w10 => Ext w w10 ∧ DsAt w10 w.heap.size d ∧ ArAt w10 ab a q c p0 m ∧ ArV w10 a q c p0 m) ⟨HB.out.1.trans hE9, hd7.ext hE9, ha7.ext hE9, HB.out.2.2.2.ext hE9⟩ ?_
        clear hE9 hc9 hx9 he8 hd7 ha7 HB HP hv2 hI2
        rintro w10 ⟨he10, hd10, ha10, hv10⟩
        cases ok
        · obtain ⟨_, hun⟩ := hno rfl
          have hfl := full_len HI.out.spec hun
          have hk8 := keyed_spec Hk.out
          have h1n : 1 < a.nd.ents.length := by omega
          have h1 : ¬ a.ivs.length = 1 := by have := HI.out.spec.len; omega
          have hbb : isBaseB 100 = true := by decide
          have hOK := split_ok HI.out hbb h1n
          have HL := Lib.hid (And.intro hOK.1 (show ((leftA a 100).nd.ents.length : Int) < d.area by have := left_len a 100 h1n; omega))
          have HRt := Lib.hid (And.intro hOK.2.1 (show ((rightA a 100).nd.ents.length : Int) < d.area by have := right_len a 100 h1n; omega))
          have HSp := Lib.hid (SplitA_any d a q c p0 m 100 w10 HI.out hv10 hbb)
          have hne : ((a.nd.ents.length : Int) != d.area) = false := by rw [hfl]; simp
          have Hh1 := Lib.hid h1
          have Hx := Lib.hid he10
          clear hno hun hfl hk8 h1n h1 hbb hOK he10 hv10
          go_upto_region 12 with (first
            | ((with_reducible (show wpList _ _ _ (⟨some 61, _, _, _, _, _⟩ :: _) _ _)); refine wpList_ds (o := ⟨some 61, _, _, _, _, _⟩) rfl (.tmp 3) rfl _ rfl d hd10 ?_)
            | ((with_reducible (show wpList _ _ _ (⟨some 62, _, _, _, _, _⟩ :: _) _ _)); refine wpList_row (o := ⟨some 62, _, _, _, _, _⟩) rfl 33 (.tmp 7) rfl _ rfl _ _ _ ha10 arDesc rfl arSize ?_)
            | (go_at_call 13; refine HSp.out.mono ?_; rintro e w11 ⟨he11, ho11⟩; rw [if_neg Hh1.out] at ho11; obtain ⟨qx, cx, px, mx, qy, cy, py, my, rfl, hvx, hvy⟩ := ho11)
            | (refine wpList_put rfl 33 (.tmp 13) (.tmp 64) rfl _ (arC (leftA a 100) qx cx px mx) rfl rfl _ _ ((Ext.alloc (w11.alloc (.cells arZ 33)) (.cells arZ 33)).blk _ _ (Blk.new w11 _)) arSize rfl (ar_one ..) ?_; intro w12 hx12 hc12)
            | (refine wpList_put rfl 33 (.tmp 14) (.tmp 65) rfl _ (arC (rightA a 100) qy cy py my) rfl rfl _ _ (hc12.blk (Blk.new1 _ _ _ (by simp)) (by omega)) arSize rfl (ar_one ..) ?_; intro w13 hx13 hc13))
          have hE11 : Ext w11 w13 := hc13.ext (hc12.ext ((Ext.alloc _ _).trans (Ext.alloc _ _)) (Nat.le_refl _)) (by omega)
          have hE10 : Ext w10 w13 := he11.trans hE11
          have hx12' := hc13.blk hx12 (by omega)
          refine wp_name (fun w14 => Ext w w14 ∧ DsAt w14 w.heap.size d ∧ ArAt w14 ab a q c p0 m ∧ ArAt w14 w11.heap.size (leftA a 100) qx cx px mx ∧ ArAt w14 (w11.heap.size + 1) (rightA a 100) qy cy py my ∧ ArV w14 (leftA a 100) qx cx px mx ∧ ArV w14 (rightA a 100) qy cy py my)
            ⟨Hx.out.trans hE10, hd10.ext hE10, ha10.ext hE10, hx12', hx13, hvx.ext hE11, hvy.ext hE11⟩ ?_
          clear hE10 hE11 hc12 hc13 hx12 hx12' hx13 he11 hd10 ha10 HSp hvx hvy Hx
          generalize w11.heap.size = xb at *
          rintro w14 ⟨he14, hd14, ha14, hl14, hr14, hvl, hvr⟩
          obtain ⟨_, _, _, k3, _, lab14⟩ := ha14.cells
          have hd8 : w14.cell? ⟨w.heap.size, 8, none⟩ = some (.int .i64 d.area) := Blk.val hd14 8 _ rfl
          have hld := Blk.lt hd14
          have HKey := Lib.hid (fun W => KeyR_any d r false Hk.out W)
          have hkey : opKey d r = keyD d r := by unfold opKey; rw [if_pos Hr.out]
          rw [hkey] at HKey
          have HV := Lib.hid (And.intro hvl hvr)
          have Hx := Lib.hid he14
          clear he14 hvl hvr hkey lab
          generalize midA a = mid at *
          cases hlt : bl (keyD d r) mid
          · skip
            go_upto_region 18 with (first
              | ((with_reducible (show wpList _ _ _ (⟨some 79, _, _, _, _, _⟩ :: _) _ _)); refine wpList_ds (o := ⟨some 79, _, _, _, _, _⟩) rfl (.tmp 3) rfl _ rfl d hd14 ?_)
              | ((with_reducible (show wpList _ _ _ (⟨some 81, _, _, _, _, _⟩ :: _) _ _)); refine wpList_bld (o := ⟨some 81, _, _, _, _, _⟩) rfl 53 #[(0, .tmp 80)] rfl [(0, .string ⟨r.toArray⟩)] rfl _ (aopBuilt r) ?_)
              | (go_at_call 17; refine (HKey.out _).mono ?_; rintro e w15 ⟨rfl, he15⟩; have hr15 := hr14.ext he15; have hl15 := hl14.ext he15)
              | ((with_reducible (show wpList _ _ _ (⟨some 83, _, _, _, _, _⟩ :: _) _ _)); refine wpList_row (o := ⟨some 83, _, _, _, _, _⟩) rfl 33 (.tmp 14) rfl _ rfl _ _ _ hr15 arDesc rfl arSize ?_)
              | (refine wpList_put rfl 33 (.tmp 17) (.tmp 83) rfl _ (arC (rightA a 100) qy cy py my) rfl rfl _ _ (Blk.new w15 _) arSize rfl (ar_one ..) ?_; intro w16 hx16 hc16; have hE16 := hc16.ext (Ext.alloc _ _) (Nat.le_refl _); have hl16 := hl15.ext hE16)
              | ((with_reducible (show wpList _ _ _ (⟨some 87, _, _, _, _, _⟩ :: _) _ _)); refine wpList_row (o := ⟨some 87, _, _, _, _, _⟩) rfl 33 (.tmp 13) rfl _ rfl _ _ _ hl16 arDesc rfl arSize ?_)
              | (refine wpList_put rfl 33 (.tmp 17) (.tmp 87) rfl _ (arC (leftA a 100) qx cx px mx) rfl rfl _ _ (hx16) arSize rfl (ar_one ..) ?_; intro w17 hx17 hc17))
            refine wp_name (fun w18 => Ext w w18 ∧ DsAt w18 w.heap.size d ∧ ArAt w18 w15.heap.size (rightA a 100) qy cy py my ∧ ArV w18 (rightA a 100) qy cy py my) ⟨Hx.out.trans (he15.trans hE16), hd14.ext (he15.trans hE16), hx16, (HV.out.2).ext (he15.trans hE16)⟩ ?_
            clear hd14 ha14 hl14 hr14 hl15 hr15 k3 hd8 lab14 HKey hne hlt
            generalize w15.heap.size = hb at *
            rintro w18 ⟨he18, hd18, hh18, hv18⟩
            have HP18 := Lib.hid (PutA_room HRt.out.1 hv18 Hr.out HRt.out.2)
            have Hx18 := Lib.hid he18
            clear he18 hv18
            go_upto_region 20 with (first
              | ((with_reducible (show wpList _ _ _ (⟨some 89, _, _, _, _, _⟩ :: _) _ _)); refine wpList_ds (o := ⟨some 89, _, _, _, _, _⟩) rfl (.tmp 3) rfl _ rfl d hd18 ?_)
              | ((with_reducible (show wpList _ _ _ (⟨some 90, _, _, _, _, _⟩ :: _) _ _)); refine wpList_row (o := ⟨some 90, _, _, _, _, _⟩) rfl 33 (.tmp 17) rfl _ rfl _ _ _ hh18 arDesc rfl arSize ?_)
              | (go_at_call 16; refine HP18.out.mono ?_; rintro e w19 ⟨he19, b, qb, cb, pb, mb2, rfl, hvb, hIb, hrb⟩)
              | (refine wpList_put rfl 33 (.tmp 18) (.tmp 93) rfl _ (arC b qb cb pb mb2) rfl rfl _ _ (Blk.new w19 _) arSize rfl (ar_one ..) ?_; intro w20 hx20 hc20))
            have hE20 : Ext w19 w20 := hc20.ext (Ext.alloc _ _) (Nat.le_refl _)
            refine wp_name (fun w21 => Ext w w21 ∧ DsAt w21 w.heap.size d ∧ ArAt w21 w19.heap.size b qb cb pb mb2 ∧ ArV w21 b qb cb pb mb2) ⟨Hx18.out.trans (he19.trans hE20), (hd18.ext he19).ext hE20, hx20, hvb.ext hE20⟩ ?_
            clear hE20 hc20 hx20 he19 hd18 hh18 hvb HP18
            generalize w19.heap.size = bb at *
            rintro w21 ⟨he21, hd21, hb21, hv21⟩
            have HPr := Lib.hid (PairsA_any d b qb cb pb mb2 w21 hIb.spec hv21)
            have Hany : Hid ((pairsD d (recsOf b)).any (fun z => z == (keyD d r, r)) = true) := Lib.hid (by rw [hrb]; exact put_pair)
            have HlP : Hid ((pairsD d (recsOf b)).length = (recsOf b).length) := Lib.hid (pairs_len _ _)
            have Hsm := Lib.hid (recs_len hIb.spec)
            have Hx21 := Lib.hid he21
            clear he21 hv21 hrb hIb
            generalize pairsD d (recsOf b) = PL at *
            generalize (recsOf b).length = nl at *
            generalize keyD d r = kk at *
            go_upto_region 21 with (first
              | ((with_reducible (show wpList _ _ _ (⟨some 96, _, _, _, _, _⟩ :: _) _ _)); refine wpList_ds (o := ⟨some 96, _, _, _, _, _⟩) rfl (.tmp 3) rfl _ rfl d hd21 ?_)
              | ((with_reducible (show wpList _ _ _ (⟨some 97, _, _, _, _, _⟩ :: _) _ _)); refine wpList_row (o := ⟨some 97, _, _, _, _, _⟩) rfl 33 (.tmp 18) rfl _ rfl _ _ _ hb21 arDesc rfl arSize ?_)
              | (go_at_call 10; refine HPr.out.mono ?_; rintro e w22 ⟨he22, v22, rfl, ho22⟩; obtain ⟨q22, c22, rfl⟩ := own_slice ho22))
            have hnl : 0 < nl := by
              rcases Nat.eq_zero_or_pos nl with h | h
              · exfalso
                have h1 := HlP.out
                rw [h] at h1
                have h2 := Hany.out
                rw [List.length_eq_zero_iff.1 h1] at h2
                cases h2
              · exact h
            obtain ⟨g, cu, rfl, hg, hgb, _⟩ := own_parts ho22 hnl
            have HO := Lib.hid ho22
            have HX := Lib.hid (Hx21.out.trans he22)
            clear hd21 hb21 HPr ho22 he22 hgb
            go_loopw [19, 100] (fun f i wr => ∃ j : Nat, j ≤ nl ∧ i = .int .i64 j ∧ f = .bool ((PL.take j).any fun z => z == (kk, r)) ∧ Ext w22 wr) (fun _ i _ => nl - (intOf i).toNat)
            case atStart => exact ⟨0, Nat.zero_le _, rfl, rfl, Ext.refl _⟩
            case round =>
              obtain ⟨j, hj, rfl, rfl, he⟩ := hrel
              by_cases hltn : j < nl
              · have hltI : (j : Int) < nl := by omega
                have hjP : j < PL.length := by rw [HlP.out]; exact hltn
                obtain ⟨c0, c1, lg⟩ := own_pair (own_ext HO.out he) hjP
                have HT := Lib.hid (any_take (fun z => z == (kk, r)) PL ([], []) hjP)
                have He := Lib.hid he
                have hjb : j < 120000 := by have := Hsm.out; omega
                clear he hjP
                generalize PL.getD j ([], []) = z at *
                obtain ⟨u, v⟩ := z
                simp only at c0 c1
                generalize (PL.take j).any (fun z => z == (kk, r)) = f at *
                have hG := pairGuard
                have hE := pair_equal u kk v r
                cases f
                · go_wp2_with (first
                    | ((with_reducible (show wpList _ _ _ (⟨some 103, _, _, _, _, _⟩ :: _) _ _)); refine wpList_pair (o := ⟨some 103, _, _, _, _, _⟩) rfl (.tmp 102) rfl g (j * 2) (by go_simp) u v c0 c1 ?_)
                    | (refine wpList_put rfl 41 (.tmp 21) (.tmp 103) rfl _ #[.string ⟨u.toArray⟩, .string ⟨v.toArray⟩] rfl rfl _ _ (Blk.new wr _) pairSizeA rfl (pair_oneA u v) ?_; intro wz hxz hcz)
                    | ((with_reducible (show wpList _ _ _ (⟨some 106, _, _, _, _, _⟩ :: _) _ _)); refine wpList_row (o := ⟨some 106, _, _, _, _, _⟩) rfl 41 (.tmp 21) rfl _ rfl _ _ _ hxz pairDescA rfl pairSizeA ?_)
                    | ((with_reducible (show wpList _ _ _ (⟨some 109, _, _, _, _, _⟩ :: _) _ _)); refine wpList_bld (o := ⟨some 109, _, _, _, _, _⟩) rfl 41 #[(0, .tmp 107), (1, .tmp 108)] rfl [(0, .string ⟨kk.toArray⟩), (1, .string ⟨r.toArray⟩)] rfl _ (pairBuilt kk r) ?_))
                  go_roundw
                  case rel => exact ⟨j + 1, by omega, by go_num, by rw [HT.out]; rfl, hcz.ext (He.out.trans (Ext.alloc _ _)) He.out.size⟩
                  case measure => simp [intOf]; omega
                · go_wp2_with (first
                    | ((with_reducible (show wpList _ _ _ (⟨some 103, _, _, _, _, _⟩ :: _) _ _)); refine wpList_pair (o := ⟨some 103, _, _, _, _, _⟩) rfl (.tmp 102) rfl g (j * 2) (by go_simp) u v c0 c1 ?_)
                    | (refine wpList_put rfl 41 (.tmp 21) (.tmp 103) rfl _ #[.string ⟨u.toArray⟩, .string ⟨v.toArray⟩] rfl rfl _ _ (Blk.new wr _) pairSizeA rfl (pair_oneA u v) ?_; intro wz hxz hcz))
                  go_roundw
                  case rel => exact ⟨j + 1, by omega, by go_num, by rw [HT.out]; rfl, hcz.ext (He.out.trans (Ext.alloc _ _)) He.out.size⟩
                  case measure => simp [intOf]; omega
              · have hje : j = nl := by omega
                subst hje
                have hall : (PL.take j).any (fun z => z == (kk, r)) = true := by rw [List.take_of_length_le (by rw [HlP.out]; exact Nat.le_refl _)]; exact Hany.out
                rw [hall]
                clear hall
                go_wp2_with fail
                go_ret
                exact ⟨rfl, HX.out.trans he⟩
          · skip
            go_upto_region 18 with (first
              | ((with_reducible (show wpList _ _ _ (⟨some 79, _, _, _, _, _⟩ :: _) _ _)); refine wpList_ds (o := ⟨some 79, _, _, _, _, _⟩) rfl (.tmp 3) rfl _ rfl d hd14 ?_)
              | ((with_reducible (show wpList _ _ _ (⟨some 81, _, _, _, _, _⟩ :: _) _ _)); refine wpList_bld (o := ⟨some 81, _, _, _, _, _⟩) rfl 53 #[(0, .tmp 80)] rfl [(0, .string ⟨r.toArray⟩)] rfl _ (aopBuilt r) ?_)
              | (go_at_call 17; refine (HKey.out _).mono ?_; rintro e w15 ⟨rfl, he15⟩; have hr15 := hr14.ext he15; have hl15 := hl14.ext he15)
              | ((with_reducible (show wpList _ _ _ (⟨some 83, _, _, _, _, _⟩ :: _) _ _)); refine wpList_row (o := ⟨some 83, _, _, _, _, _⟩) rfl 33 (.tmp 14) rfl _ rfl _ _ _ hr15 arDesc rfl arSize ?_)
              | (refine wpList_put rfl 33 (.tmp 17) (.tmp 83) rfl _ (arC (rightA a 100) qy cy py my) rfl rfl _ _ (Blk.new w15 _) arSize rfl (ar_one ..) ?_; intro w16 hx16 hc16; have hE16 := hc16.ext (Ext.alloc _ _) (Nat.le_refl _); have hl16 := hl15.ext hE16)
              | ((with_reducible (show wpList _ _ _ (⟨some 87, _, _, _, _, _⟩ :: _) _ _)); refine wpList_row (o := ⟨some 87, _, _, _, _, _⟩) rfl 33 (.tmp 13) rfl _ rfl _ _ _ hl16 arDesc rfl arSize ?_)
              | (refine wpList_put rfl 33 (.tmp 17) (.tmp 87) rfl _ (arC (leftA a 100) qx cx px mx) rfl rfl _ _ (hx16) arSize rfl (ar_one ..) ?_; intro w17 hx17 hc17))
            refine wp_name (fun w18 => Ext w w18 ∧ DsAt w18 w.heap.size d ∧ ArAt w18 w15.heap.size (leftA a 100) qx cx px mx ∧ ArV w18 (leftA a 100) qx cx px mx) ⟨Hx.out.trans (hc17.ext (he15.trans hE16) he15.size), hd14.ext (hc17.ext (he15.trans hE16) he15.size), hx17, (HV.out.1).ext (hc17.ext (he15.trans hE16) he15.size)⟩ ?_
            clear hd14 ha14 hl14 hr14 hl15 hr15 k3 hd8 lab14 HKey hne hlt
            generalize w15.heap.size = hb at *
            rintro w18 ⟨he18, hd18, hh18, hv18⟩
            have HP18 := Lib.hid (PutA_room HL.out.1 hv18 Hr.out HL.out.2)
            have Hx18 := Lib.hid he18
            clear he18 hv18
            go_upto_region 20 with (first
              | ((with_reducible (show wpList _ _ _ (⟨some 89, _, _, _, _, _⟩ :: _) _ _)); refine wpList_ds (o := ⟨some 89, _, _, _, _, _⟩) rfl (.tmp 3) rfl _ rfl d hd18 ?_)
              | ((with_reducible (show wpList _ _ _ (⟨some 90, _, _, _, _, _⟩ :: _) _ _)); refine wpList_row (o := ⟨some 90, _, _, _, _, _⟩) rfl 33 (.tmp 17) rfl _ rfl _ _ _ hh18 arDesc rfl arSize ?_)
              | (go_at_call 16; refine HP18.out.mono ?_; rintro e w19 ⟨he19, b, qb, cb, pb, mb2, rfl, hvb, hIb, hrb⟩)
              | (refine wpList_put rfl 33 (.tmp 18) (.tmp 93) rfl _ (arC b qb cb pb mb2) rfl rfl _ _ (Blk.new w19 _) arSize rfl (ar_one ..) ?_; intro w20 hx20 hc20))
            have hE20 : Ext w19 w20 := hc20.ext (Ext.alloc _ _) (Nat.le_refl _)
            refine wp_name (fun w21 => Ext w w21 ∧ DsAt w21 w.heap.size d ∧ ArAt w21 w19.heap.size b qb cb pb mb2 ∧ ArV w21 b qb cb pb mb2) ⟨Hx18.out.trans (he19.trans hE20), (hd18.ext he19).ext hE20, hx20, hvb.ext hE20⟩ ?_
            clear hE20 hc20 hx20 he19 hd18 hh18 hvb HP18
            generalize w19.heap.size = bb at *
            rintro w21 ⟨he21, hd21, hb21, hv21⟩
            have HPr := Lib.hid (PairsA_any d b qb cb pb mb2 w21 hIb.spec hv21)
            have Hany : Hid ((pairsD d (recsOf b)).any (fun z => z == (keyD d r, r)) = true) := Lib.hid (by rw [hrb]; exact put_pair)
            have HlP : Hid ((pairsD d (recsOf b)).length = (recsOf b).length) := Lib.hid (pairs_len _ _)
            have Hsm := Lib.hid (recs_len hIb.spec)
            have Hx21 := Lib.hid he21
            clear he21 hv21 hrb hIb
            generalize pairsD d (recsOf b) = PL at *
            generalize (recsOf b).length = nl at *
            generalize keyD d r = kk at *
            go_upto_region 21 with (first
              | ((with_reducible (show wpList _ _ _ (⟨some 96, _, _, _, _, _⟩ :: _) _ _)); refine wpList_ds (o := ⟨some 96, _, _, _, _, _⟩) rfl (.tmp 3) rfl _ rfl d hd21 ?_)
              | ((with_reducible (show wpList _ _ _ (⟨some 97, _, _, _, _, _⟩ :: _) _ _)); refine wpList_row (o := ⟨some 97, _, _, _, _, _⟩) rfl 33 (.tmp 18) rfl _ rfl _ _ _ hb21 arDesc rfl arSize ?_)
              | (go_at_call 10; refine HPr.out.mono ?_; rintro e w22 ⟨he22, v22, rfl, ho22⟩; obtain ⟨q22, c22, rfl⟩ := own_slice ho22))
            have hnl : 0 < nl := by
              rcases Nat.eq_zero_or_pos nl with h | h
              · exfalso
                have h1 := HlP.out
                rw [h] at h1
                have h2 := Hany.out
                rw [List.length_eq_zero_iff.1 h1] at h2
                cases h2
              · exact h
            obtain ⟨g, cu, rfl, hg, hgb, _⟩ := own_parts ho22 hnl
            have HO := Lib.hid ho22
            have HX := Lib.hid (Hx21.out.trans he22)
            clear hd21 hb21 HPr ho22 he22 hgb
            go_loopw [19, 100] (fun f i wr => ∃ j : Nat, j ≤ nl ∧ i = .int .i64 j ∧ f = .bool ((PL.take j).any fun z => z == (kk, r)) ∧ Ext w22 wr) (fun _ i _ => nl - (intOf i).toNat)
            case atStart => exact ⟨0, Nat.zero_le _, rfl, rfl, Ext.refl _⟩
            case round =>
              obtain ⟨j, hj, rfl, rfl, he⟩ := hrel
              by_cases hltn : j < nl
              · have hltI : (j : Int) < nl := by omega
                have hjP : j < PL.length := by rw [HlP.out]; exact hltn
                obtain ⟨c0, c1, lg⟩ := own_pair (own_ext HO.out he) hjP
                have HT := Lib.hid (any_take (fun z => z == (kk, r)) PL ([], []) hjP)
                have He := Lib.hid he
                have hjb : j < 120000 := by have := Hsm.out; omega
                clear he hjP
                generalize PL.getD j ([], []) = z at *
                obtain ⟨u, v⟩ := z
                simp only at c0 c1
                generalize (PL.take j).any (fun z => z == (kk, r)) = f at *
                have hG := pairGuard
                have hE := pair_equal u kk v r
                cases f
                · go_wp2_with (first
                    | ((with_reducible (show wpList _ _ _ (⟨some 103, _, _, _, _, _⟩ :: _) _ _)); refine wpList_pair (o := ⟨some 103, _, _, _, _, _⟩) rfl (.tmp 102) rfl g (j * 2) (by go_simp) u v c0 c1 ?_)
                    | (refine wpList_put rfl 41 (.tmp 21) (.tmp 103) rfl _ #[.string ⟨u.toArray⟩, .string ⟨v.toArray⟩] rfl rfl _ _ (Blk.new wr _) pairSizeA rfl (pair_oneA u v) ?_; intro wz hxz hcz)
                    | ((with_reducible (show wpList _ _ _ (⟨some 106, _, _, _, _, _⟩ :: _) _ _)); refine wpList_row (o := ⟨some 106, _, _, _, _, _⟩) rfl 41 (.tmp 21) rfl _ rfl _ _ _ hxz pairDescA rfl pairSizeA ?_)
                    | ((with_reducible (show wpList _ _ _ (⟨some 109, _, _, _, _, _⟩ :: _) _ _)); refine wpList_bld (o := ⟨some 109, _, _, _, _, _⟩) rfl 41 #[(0, .tmp 107), (1, .tmp 108)] rfl [(0, .string ⟨kk.toArray⟩), (1, .string ⟨r.toArray⟩)] rfl _ (pairBuilt kk r) ?_))
                  go_roundw
                  case rel => exact ⟨j + 1, by omega, by go_num, by rw [HT.out]; rfl, hcz.ext (He.out.trans (Ext.alloc _ _)) He.out.size⟩
                  case measure => simp [intOf]; omega
                · go_wp2_with (first
                    | ((with_reducible (show wpList _ _ _ (⟨some 103, _, _, _, _, _⟩ :: _) _ _)); refine wpList_pair (o := ⟨some 103, _, _, _, _, _⟩) rfl (.tmp 102) rfl g (j * 2) (by go_simp) u v c0 c1 ?_)
                    | (refine wpList_put rfl 41 (.tmp 21) (.tmp 103) rfl _ #[.string ⟨u.toArray⟩, .string ⟨v.toArray⟩] rfl rfl _ _ (Blk.new wr _) pairSizeA rfl (pair_oneA u v) ?_; intro wz hxz hcz))
                  go_roundw
                  case rel => exact ⟨j + 1, by omega, by go_num, by rw [HT.out]; rfl, hcz.ext (He.out.trans (Ext.alloc _ _)) He.out.size⟩
                  case measure => simp [intOf]; omega
              · have hje : j = nl := by omega
                subst hje
                have hall : (PL.take j).any (fun z => z == (kk, r)) = true := by rw [List.take_of_length_le (by rw [HlP.out]; exact Nat.le_refl _)]; exact Hany.out
                rw [hall]
                clear hall
                go_wp2_with fail
                go_ret
                exact ⟨rfl, HX.out.trans he⟩
        · go_wp2_with fail
          go_ret
          exact ⟨rfl, he10⟩
end Go.Proofs.Ytjoaidnbkkmlpaa
