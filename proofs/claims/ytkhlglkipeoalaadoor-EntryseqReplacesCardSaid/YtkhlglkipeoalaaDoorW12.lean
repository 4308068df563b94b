/- The walk of the program's Decode. -/
import Derived.Test.YtkhlglkipeoalaaDoorW11
import Derived.Test.YtkhlglkipeoalaaDoorW4
set_option linter.unusedSimpArgs false
set_option linter.unusedVariables false
namespace Go.Proofs.YtkhlglkipeoalaaDoor
open Go.RowKit Dsd

theorem twoAt_int (l : List UInt8) (i : Int) (h0 : 0 ≤ i) (hi : i + 1 < l.length) (hs : l.length ≤ 1000000) (w : World) :
    Calls Tryd.prog 86 #[.string ⟨l.toArray⟩, .int .i64 i] w fun e w' => e = .returned (.int .i64 (two l i.toNat : Nat)) ∧ ∃ n, w' = w.drewN n := by
  obtain ⟨i, rfl⟩ := Int.eq_ofNat_of_zero_le h0
  rw [Int.toNat_natCast]
  exact twoAt_any l i (by omega) hs w

set_option maxRecDepth 100000 in
set_option maxHeartbeats 2000000 in
theorem Decode_main (n : Nat) (h128 : 128 ≤ n) (h512 : n ≤ 512) (hsz : isSizeB n = true) (d : List UInt8) (hd : d.length = n) (hu : (d == List.replicate d.length 0) = false) (w : World) :
    Calls Tryd.prog 77 #[.int .i64 n, .string ⟨d.toArray⟩] w (DecOut n d w) := by
  have hE : Hid (decErr n d = 11) := Lib.hid (by unfold decErr; rw [hsz, hu, hd]; simp)
  have hC : checkErr n d = 0 := by unfold checkErr; rw [hu, hd]; simp
  have hdl : d.length ≤ 1000000 := by omega
  have hch := check_any n d hdl
  rw [hC] at hch
  have Hch := Lib.hid hch
  have Hd := Lib.hid hd
  have t1 := twoAt_int d ((n : Int) - 4) (by omega) (by omega) hdl
  have t2 := twoAt_int d ((n : Int) - 2) (by omega) (by omega) hdl
  have e1 : ((n : Int) - 4).toNat = n - 4 := by omega
  have e2 : ((n : Int) - 2).toNat = n - 2 := by omega
  rw [e1] at t1
  rw [e2] at t2
  have T1 := Lib.hid t1
  have T2 := Lib.hid t2
  have b1 := two_lt d (n - 4)
  have b2 := two_lt d (n - 2)
  have i1 : IntKind.i64.wrap ((n : Int) - 4) = n - 4 := IntWalk.i64_in _ (by omega)
  have i2 : IntKind.i64.wrap ((n : Int) - 2) = n - 2 := IntWalk.i64_in _ (by omega)
  have hen : Hid (two d (n - 4) + two d (n - 2) = endOf d n) := Lib.hid rfl
  generalize two d (n - 4) = u1 at *
  generalize two d (n - 2) = u2 at *
  have i3 : IntKind.i64.wrap ((u1 : Int) + u2) = ((u1 + u2 : Nat) : Int) := by rw [IntWalk.i64_in _ (by omega)]; omega
  obtain ⟨S, hS⟩ : ∃ S, S = w.heap.size := ⟨_, rfl⟩
  have HS := Lib.hid hS
  clear hch t1 t2 e1 e2 hd hu hC
  go_enter Tryd.func77, Tryd.ntmps77
  go_wp2_with (first | (go_at_call 55; refine (isSize_any _ _).mono ?_; rintro e w' ⟨rfl, rfl⟩) | (go_at_call 85; refine (Hch.out _).mono ?_; rintro e w1 ⟨rfl, hq1⟩))
  have hs1 : w1.heap.size = S + 2 := by obtain ⟨k, rfl⟩ := hq1; rw [hS]; simp
  have he1 := Ext.of_drawn hq1
  have hw1 : Ext w w1 := ((Ext.alloc w _).trans (Ext.alloc _ _)).trans he1
  have bS : Blk w1 S (.cells #[.int .i64 n] 3) := he1.blk _ _ (Blk.alloc (by rw [hS]; exact Blk.new w _) _)
  have bD : Blk w1 (S + 1) (.cells #[.string ⟨d.toArray⟩] 9) := he1.blk _ _ (by
    have := Blk.new (w.alloc (.cells #[.int .i64 n] 3)) (.cells #[.string ⟨d.toArray⟩] 9)
    rw [hS]; simpa using this)
  have c1 := Blk.cell bS
  have c2 := Blk.cell bD
  clear hq1 he1
  rw [← hS]
  clear hS
  go_quiet ((go_at_call 86; first | with_reducible exact Calls.quiet_of (T1.out _) | with_reducible exact Calls.quiet_of (T2.out _)))
  clear i1 i2
  obtain ⟨w2, hq2⟩ : ∃ w2, w2 = w1.drewN nq := ⟨_, rfl⟩
  have he2 := Ext.of_drawn ⟨nq, hq2⟩
  have bS := he2.blk _ _ bS
  have bD := he2.blk _ _ bD
  have c1 := Blk.cell bS
  have c2 := Blk.cell bD
  have hs2 : w2.heap.size = S + 2 := by rw [hq2]; simpa using hs1
  rw [← hq2]
  have hw2 := hw1.trans he2
  clear hs1 hw1 he2 hq2
  have hlt1 : S < w2.heap.size := by omega
  have hlt2 : S + 1 < w2.heap.size := by omega
  go_wp2
  have hst0 : TakeSt S (S + 2 + 1) (S + 2 + 1 + 1) (S + 2) n d 0 (.slice (some ⟨S + 2, 0, none⟩) 0 0) [] (((w2.alloc (.cells #[] 9)).alloc (.cells #[.slice (some ⟨S + 2, 0, none⟩) 0 0] 24)).alloc (.cells #[.int .i64 0] 3)) := by
    have z1 : (w2.alloc (.cells #[] 9)).heap.size = S + 2 + 1 := by simp [hs2]
    have z2 : ((w2.alloc (.cells #[] 9)).alloc (.cells #[.slice (some ⟨S + 2, 0, none⟩) 0 0] 24)).heap.size = S + 2 + 1 + 1 := by simp [hs2]
    refine ⟨Blk.alloc (Blk.alloc (Blk.alloc bS _) _) _, Blk.alloc (Blk.alloc (Blk.alloc bD _) _) _, ?_, ?_, ?_, by omega, by omega, by omega, by omega, ?_, by simp, rfl, by omega, by simp, by simp⟩
    · have := Blk.alloc (Blk.new (w2.alloc (.cells #[] 9)) (.cells #[.slice (some ⟨S + 2, 0, none⟩) 0 0] 24)) (.cells #[.int .i64 0] 3)
      rw [z1] at this; exact this
    · have := Blk.new ((w2.alloc (.cells #[] 9)).alloc (.cells #[.slice (some ⟨S + 2, 0, none⟩) 0 0] 24)) (.cells #[.int .i64 0] 3)
      rw [z2] at this; exact this
    · have := ((World.ownsRow_made (base := S + 2) (e := 9) (size := 1) w2 #[] 0 (by rw [hs2]; exact Nat.le_refl _) (by simp) rfl).alloc (.cells #[.slice (some ⟨S + 2, 0, none⟩) 0 0] 24)).alloc (.cells #[.int .i64 0] 3)
      rw [hs2] at this
      simpa [strRow] using this
    · simp [hs2]
  have hw3 : Ext w (((w2.alloc (.cells #[] 9)).alloc (.cells #[.slice (some ⟨S + 2, 0, none⟩) 0 0] 24)).alloc (.cells #[.int .i64 0] 3)) := hw2.trans (((Ext.alloc _ _).trans (Ext.alloc _ _)).trans (Ext.alloc _ _))
  rw [← Int.natCast_add]
  have hEn := hen.out
  have b3 : u1 + u2 < 131072 := by omega
  clear b1 b2 hen i3 c1 c2 bS bD hs2 hw2 hlt1 hlt2
  generalize hE2 : u1 + u2 = E at *
  have HEn := Lib.hid hEn
  clear hEn hE2
  generalize (((w2.alloc (.cells #[] 9)).alloc (.cells #[.slice (some ⟨S + 2, 0, none⟩) 0 0] 24)).alloc (.cells #[.int .i64 0] 3)) = w3 at *
  obtain ⟨bo, hbo⟩ : ∃ bo, bo = S + 2 + 1 := ⟨_, rfl⟩
  obtain ⟨ba, hba⟩ : ∃ ba, ba = S + 2 + 1 + 1 := ⟨_, rfl⟩
  obtain ⟨q, hq⟩ : ∃ q, q = S + 2 := ⟨_, rfl⟩
  rw [← hba, ← hbo, ← hq]
  rw [← hba, ← hbo, ← hq] at hst0
  clear hbo hba hq
  have Hw3 := Lib.hid hw3
  have Hst0 := Lib.hid hst0
  clear hw3 hst0
  go_loopw [10, 12] (fun len left wr => ∃ (x : Int) (pend a : Nat) (v : Value) (out : List (List UInt8)), left = .int .i64 x ∧ len = .int .i64 pend ∧ -3 ≤ x ∧ x ≤ n - 7 ∧ pend < 65536 ∧ TakeSt S bo ba q n d a v out wr ∧ Ext w wr ∧
      ∀ L, Enc n L d → PInv (endOf d n) L x pend (out.map List.length)) (fun _ left _ => (intOf left + 3).toNat)
  case atStart => exact ⟨n - 7, 0, 0, _, [], by congr 1; omega, rfl, by omega, by omega, by omega, Hst0.out, Hw3.out, fun L hL => pinv_start hL h512⟩
  case round =>
    obtain ⟨x, pend, a, v, out, rfl, rfl, hx1, hx2, hpd, hst, hext, hpi⟩ := hrel
    have c1 := Blk.cell hst.size
    have c2 := Blk.cell hst.data
    have c3 := Blk.cell hst.var
    have Hst := Lib.hid hst
    have Hpi := Lib.hid hpi
    have hsum : (out.map List.length).sum = a := by rw [← hst.len, length_flatten_eq]; rfl
    have Hsum := Lib.hid hsum
    clear hst hpi hsum
    by_cases hxe : (E : Int) ≤ x
    · obtain ⟨x, rfl⟩ := Int.eq_ofNat_of_zero_le (show 0 ≤ x by omega)
      have t3 := twoAt_int d ((x : Int) + 1) (by omega) (by have := Hd.out; omega) hdl
      have e1 : ((x : Int) + 1).toNat = x + 1 := by omega
      rw [e1] at t3
      have T3 := Lib.hid t3
      have hu3 := two_lt d (x + 1)
      have hb8 := byt_lt d x
      have hxd : (x : Int) < d.length := by have := Hd.out; omega
      have hExt : Hid (endOf d n ≤ x) := Lib.hid (by have := HEn.out; omega)
      have Hmany : Hid (0 < pend → ∀ L, Enc n L d → byt d x = 8 ∧ 1 ≤ two d (x + 1) ∧ 1 ≤ pend ∧ (out.map List.length).sum + two d (x + 1) * pend ≤ n ∧ PInv (endOf d n) L ((x : Int) - 3) 0 (out.map List.length ++ List.replicate (two d (x + 1)) pend)) :=
        Lib.hid fun hp L hL => pinv_many hL h512 hp (Hpi.out L hL)
      have Hnext : Hid (pend = 0 → ∀ L, Enc n L d → (byt d x = 64 ∧ 1 ≤ two d (x + 1) ∧ PInv (endOf d n) L ((x : Int) - 3) (two d (x + 1)) (out.map List.length)) ∨
          (byt d x = 0 ∧ 1 ≤ two d (x + 1) ∧ (out.map List.length).sum + two d (x + 1) ≤ n ∧ PInv (endOf d n) L ((x : Int) - 3) 0 (out.map List.length ++ List.replicate 1 (two d (x + 1))))) :=
        Lib.hid fun hp L hL => by subst hp; exact pinv_next hL h512 hExt.out (Hpi.out L hL)
      clear t3 e1
      generalize hu : two d (x + 1) = u at *
      clear hu
      by_cases hp : 0 < pend
      · have hpI : (0 : Int) < pend := by omega
        by_cases hb : byt d x = 8
        · have hbI : ((byt d x : Int) == 8) = true := by simp [hb]
          go_wp2_with (first | (go_at_call 86; refine (T3.out _).mono ?_; rintro e w4 ⟨rfl, nq4, rfl⟩))
          refine (take_any S bo ba q n d Hd.out h512 a v out u pend (by omega) (by omega) _ (Hst.out.ext (Ext.drewN wr nq4))).mono ?_
          rintro e w5 ⟨hbel, ⟨rfl, v2, out2, hst2, hml2⟩ | ⟨rfl, hno⟩⟩
          · have HX5 := Lib.hid (Ext.trans' (hext.trans (Ext.drewN wr nq4)) (Below.mono hbel (by rw [← HS.out]; omega)))
            have Hst2 := Lib.hid hst2
            have Hml2 := Lib.hid hml2
            have d1 := Blk.cell hst2.size
            have d2 := Blk.cell hst2.data
            clear c1 c2 c3 hst2 hml2 hbel
            go_wp2_with fail
            go_roundw
            case rel => exact ⟨x - 3, 0, a + u * pend, v2, out2, by go_num, rfl, by omega, by omega, by omega, Hst2.out, HX5.out, fun L hL => by rw [Hml2.out]; exact (Hmany.out hp L hL).2.2.2.2⟩
            case measure => simp [intOf]; omega
          · have HX5 := Lib.hid (Ext.trans' (hext.trans (Ext.drewN wr nq4)) (Below.mono hbel (by rw [← HS.out]; omega)))
            have Hno := Lib.hid hno
            clear c1 c2 c3 hbel hno
            go_wp2_with fail
            go_ret2
            exact decOut_no HX5.out hE.out.symm (fun L hL => by
              obtain ⟨_, h1, h2, h3, _⟩ := Hmany.out hp L hL
              rw [Hsum.out] at h3
              exact Hno.out h1 h2 h3)
        · have hbI : ((byt d x : Int) == 8) = false := by simp; omega
          go_wp2_with (first | (go_at_call 86; refine (T3.out _).mono ?_; rintro e w4 ⟨rfl, nq4, rfl⟩))
          go_ret2
          exact decOut_no (hext.trans (Ext.drewN wr _)) hE.out.symm (fun L hL => hb (Hmany.out hp L hL).1)
      · have hp0 : pend = 0 := by omega
        subst hp0
        by_cases hb : byt d x = 64
        · have hbI : ((byt d x : Int) == 64) = true := by simp [hb]
          go_wp2_with (first | (go_at_call 86; refine (T3.out _).mono ?_; rintro e w4 ⟨rfl, nq4, rfl⟩))
          go_roundw
          case rel => exact ⟨x - 3, u, a, v, out, by go_num, rfl, by omega, by omega, by omega, Hst.out.ext (Ext.drewN wr _), hext.trans (Ext.drewN wr _), fun L hL => by
            rcases Hnext.out trivial L hL with h | h
            · exact h.2.2
            · omega⟩
          case measure => simp [intOf]; omega
        · have hbI : ((byt d x : Int) == 64) = false := by simp; omega
          by_cases hb0 : byt d x = 0
          · have hb0I : ((byt d x : Int) == 0) = true := by simp [hb0]
            go_wp2_with (first | (go_at_call 86; refine (T3.out _).mono ?_; rintro e w4 ⟨rfl, nq4, rfl⟩))
            refine (take_any S bo ba q n d Hd.out h512 a v out 1 u (by omega) (by omega) _ (Hst.out.ext (Ext.drewN wr nq4))).mono ?_
            rintro e w5 ⟨hbel, ⟨rfl, v2, out2, hst2, hml2⟩ | ⟨rfl, hno⟩⟩
            · have HX5 := Lib.hid (Ext.trans' (hext.trans (Ext.drewN wr nq4)) (Below.mono hbel (by rw [← HS.out]; omega)))
              have Hst2 := Lib.hid hst2
              have Hml2 := Lib.hid hml2
              have d1 := Blk.cell hst2.size
              have d2 := Blk.cell hst2.data
              clear c1 c2 c3 hst2 hml2 hbel
              go_wp2_with fail
              go_roundw
              case rel => exact ⟨x - 3, 0, a + 1 * u, v2, out2, by go_num, rfl, by omega, by omega, by omega, Hst2.out, HX5.out, fun L hL => by
                rw [Hml2.out]
                rcases Hnext.out trivial L hL with h | h
                · omega
                · exact h.2.2.2⟩
              case measure => simp [intOf]; omega
            · have HX5 := Lib.hid (Ext.trans' (hext.trans (Ext.drewN wr nq4)) (Below.mono hbel (by rw [← HS.out]; omega)))
              have Hno := Lib.hid hno
              clear c1 c2 c3 hbel hno
              go_wp2_with fail
              go_ret2
              exact decOut_no HX5.out hE.out.symm (fun L hL => by
                rcases Hnext.out trivial L hL with h | h
                · omega
                · obtain ⟨_, h2, h3, _⟩ := h
                  rw [Hsum.out] at h3
                  exact Hno.out (by omega) h2 (by omega))
          · have hb0I : ((byt d x : Int) == 0) = false := by simp; omega
            go_wp2_with (first | (go_at_call 86; refine (T3.out _).mono ?_; rintro e w4 ⟨rfl, nq4, rfl⟩))
            go_ret2
            exact decOut_no (hext.trans (Ext.drewN wr _)) hE.out.symm (fun L hL => by
              rcases Hnext.out trivial L hL with h | h
              · exact hb h.1
              · exact hb0 h.1)
    · have hxI : decide ((E : Int) ≤ x) = false := by simpa using hxe
      have HEQ : Hid (∀ L, Enc n L d → out = L) := Lib.hid fun L hL => pinv_out hL h512 (by have := HEn.out; omega) (Hpi.out L hL) Hst.out.flat Hst.out.len
      obtain ⟨p', cp, hv, hcs, hcp1, hcp2⟩ := own_cells Hst.out.row
      have hsl : (strRow out).length = out.length := by simp [strRow]
      rw [hsl] at hv hcp1
      have Hsq : Hid (Strs wr p' out) := Lib.hid hcs
      have HSM : Hid (Small out) := Lib.hid ⟨by have := Hst.out.pos; have := Hst.out.le; omega, Hst.out.small⟩
      subst hv
      clear hcs hsl
      by_cases h1 : encErr n out = 0
      · have h1' : ((encErr n out) != 0) = false := by simp [h1]
        by_cases h2 : encStr n out = d
        · have h2' : (encStr n out == d) = true := by simp [h2]
          have HOK : Hid (Enc n out d) := Lib.hid ⟨h1, h2⟩
          have hen := Encode_any p' cp out.length out n
          generalize encErr n out = ee at *
          generalize encStr n out = es at *
          have Hen := Lib.hid hen
          clear hen h1 h2
          go_wp2_with (first | (go_at_call 39; refine (Hen.out _ Hsq.out rfl hcp1 hcp2 HSM.out).mono ?_; rintro e w3 ⟨rfl, he3⟩; have k1 := Blk.cell (he3.blk _ _ Hst.out.size); have k2 := Blk.cell (he3.blk _ _ Hst.out.data); have k3 := Blk.cell (he3.blk _ _ Hst.out.var)))
          go_ret2
          exact ⟨hext.trans he3, .inl ⟨p', cp, out, rfl, Hsq.out.ext he3, HSM.out, HOK.out, hcp1, hcp2, own_le (own_ext Hst.out.row he3) (by have := Hst.out.qS; rw [← HS.out]; omega)⟩⟩
        · have h2' : (encStr n out == d) = false := by simpa using h2
          have HNO : Hid (∀ L, ¬ Enc n L d) := Lib.hid fun L hL => by have := HEQ.out L hL; subst this; exact h2 hL.2
          have hen := Encode_any p' cp out.length out n
          generalize encErr n out = ee at *
          generalize encStr n out = es at *
          have Hen := Lib.hid hen
          clear hen h1 h2
          go_wp2_with (first | (go_at_call 39; refine (Hen.out _ Hsq.out rfl hcp1 hcp2 HSM.out).mono ?_; rintro e w3 ⟨rfl, he3⟩; have k1 := Blk.cell (he3.blk _ _ Hst.out.size); have k2 := Blk.cell (he3.blk _ _ Hst.out.data); have k3 := Blk.cell (he3.blk _ _ Hst.out.var)))
          go_ret2
          exact decOut_no (hext.trans he3) hE.out.symm HNO.out
      · have h1' : ((encErr n out) != 0) = true := by simpa using h1
        have HNO : Hid (∀ L, ¬ Enc n L d) := Lib.hid fun L hL => by have := HEQ.out L hL; subst this; exact h1 hL.1
        have hen := Encode_any p' cp out.length out n
        generalize encErr n out = ee at *
        generalize encStr n out = es at *
        have Hen := Lib.hid hen
        clear hen h1
        go_wp2_with (first | (go_at_call 39; refine (Hen.out _ Hsq.out rfl hcp1 hcp2 HSM.out).mono ?_; rintro e w3 ⟨rfl, he3⟩; have k1 := Blk.cell (he3.blk _ _ Hst.out.size); have k2 := Blk.cell (he3.blk _ _ Hst.out.data); have k3 := Blk.cell (he3.blk _ _ Hst.out.var)))
        go_ret2
        exact decOut_no (hext.trans he3) hE.out.symm HNO.out

theorem decErr_check {size : Int} {d : List UInt8} (h : isSizeB size = true) (h2 : checkErr size d ≠ 0) : decErr size d = checkErr size d := by
  unfold decErr checkErr at *
  rw [h]
  simp only [Bool.true_eq_false, if_false]
  split
  · rfl
  · rename_i h3
    rw [if_neg h3] at h2
    split
    · rfl
    · rename_i h4; rw [if_neg h4] at h2; exact absurd rfl h2

set_option maxRecDepth 100000 in
/-- Decode, for any bytes. -/
theorem Decode_any (size : Int) (d : List UInt8) (hd : d.length ≤ 1000000) (w : World) :
    Calls Tryd.prog 77 #[.int .i64 size, .string ⟨d.toArray⟩] w (DecOut size d w) := by
  by_cases h1 : isSizeB size = true
  · obtain ⟨n, rfl, hn⟩ := isSize_nat h1
    by_cases h2 : checkErr n d = 0
    · have h3 : d.length = n := by
        unfold checkErr at h2; split at h2
        · cases h2
        · omega
      have h4 : (d == List.replicate d.length 0) = false := by
        unfold checkErr at h2; rw [if_neg (by simp [h3])] at h2
        cases h : d == List.replicate d.length 0 with
        | false => rfl
        | true => rw [h] at h2; cases h2
      exact Decode_main n (by omega) (by omega) h1 d h3 h4 w
    · have HE : Hid (checkErr n d = decErr n d) := Lib.hid (decErr_check h1 h2).symm
      have HN : Hid (∀ L, ¬ Enc n L d) := Lib.hid fun L hL => by
        have a1 := enc_length hL
        have a2 := enc_used (by omega) (by omega) hL
        apply h2; unfold checkErr; rw [if_neg (by omega), a2]; rfl
      have hch := check_any n d hd
      have h2' : (checkErr n d != 0) = true := by simpa using h2
      generalize checkErr n d = ce at *
      have Hch := Lib.hid hch
      clear hch h2
      go_enter Tryd.func77, Tryd.ntmps77
      go_wp2_with (first | (go_at_call 55; refine (isSize_any _ _).mono ?_; rintro e w' ⟨rfl, rfl⟩) | (go_at_call 85; refine (Hch.out _).mono ?_; rintro e w1 ⟨rfl, hq1⟩; have he1 := Lib.hid (((Ext.alloc w _).trans (Ext.alloc _ _)).trans (Ext.of_drawn hq1)); clear hq1))
      go_ret2
      exact decOut_no he1.out HE.out HN.out
  · have h1' : isSizeB size = false := by simpa using h1
    have HE : Hid (decErr size d = 1) := Lib.hid (by unfold decErr; rw [if_pos h1'])
    have HN : Hid (∀ L, ¬ Enc size L d) := Lib.hid (enc_not_size h1')
    clear h1
    go_enter Tryd.func77, Tryd.ntmps77
    go_wp2_with (first | (go_at_call 55; refine (isSize_any _ _).mono ?_; rintro e w' ⟨rfl, rfl⟩))
    go_ret2
    exact decOut_no ((Ext.alloc w _).trans (Ext.alloc _ _)) HE.out.symm HN.out
end Go.Proofs.YtkhlglkipeoalaaDoor
