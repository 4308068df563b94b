/- The walks of the laws IntervalEncodes and IntervalInverts. -/
import Derived.Test.YtadeohkcaaoflaaDoorW14
namespace Go.Proofs.YtadeohkcaaoflaaDoor
open Go.RowKit Dsd

theorem short_small {L : List (List UInt8)} (h : shortB L 200 600 = true) : Small L := by
  unfold shortB at h
  simp at h
  exact ⟨by omega, fun s hs => by have := h.2 s hs; omega⟩
theorem encErr_lt (size : Int) (L : List (List UInt8)) (h : encErr size L ≠ 0) : encStr size L = [] := by unfold encStr; rw [if_neg h]
theorem enc_len_le {size : Int} {L : List (List UInt8)} : (encStr size L).length ≤ 512 := by
  by_cases h : encErr size L = 0
  · have h1 := enc_length (size := size) (L := L) ⟨h, rfl⟩
    obtain ⟨n, rfl, hn⟩ := isSize_nat (encErr_zero h).1
    omega
  · rw [encErr_lt size L h]; simp
theorem enc_used' {size : Int} {L : List (List UInt8)} {d : List UInt8} (h : Enc size L d) : (d == List.replicate d.length 0) = false := by
  obtain ⟨n, rfl, hn⟩ := isSize_nat (encErr_zero h.1).1
  exact enc_used (by omega) (by omega) h
theorem fits_err (size : Int) (L : List (List UInt8)) : (isSizeB size && allowedB L && decide ((sizeL L : Int) ≤ size)) = (encErr size L == 0) := by
  unfold encErr
  cases h1 : isSizeB size <;> cases h2 : allowedB L <;> simp
  by_cases h3 : size < sizeL L
  · rw [if_pos h3]; simp; omega
  · rw [if_neg h3]; simp; omega

set_option maxRecDepth 100000 in
set_option maxHeartbeats 1000000 in
theorem IntervalEncodes_any (p : Option Addr) (cap m : Nat) (L : List (List UInt8)) (size : Int) (w : World) (hs : Strs w p L) (hm : L.length = m) (hcap : m ≤ cap) (hcm : cap ≤ maxLen) :
    Calls Tryd.prog 5 #[.int .i64 size, .slice p m cap] w fun e w' => e = .returned (.bool true) ∧ Ext w w' := by
  have Hs := Lib.hid hs
  have hlm : L.length ≤ maxLen := by omega
  cases hsh : shortB L 200 600
  · clear hs
    go_enter Tryd.func5, Tryd.ntmps5
    go_wp2_with (first | (go_at_call 10; refine (awake_any _).mono ?_; rintro e w1 ⟨rfl, he1⟩) | (go_at_call 17; refine (few_any p cap m L _ (Hs.out.ext he1) hm hlm).mono ?_; rintro e w2 ⟨rfl, rfl⟩))
    go_ret
    exact ⟨rfl, he1⟩
  · have hsm := short_small hsh
    have Hpa := Lib.hid (fun w h => Encode_any p cap m L size w h hm hcap hcm hsm)
    have Hrb := Lib.hid (fun w h => Encode_ref p cap m L size w h hm hsm)
    have hle := enc_len_le (size := size) (L := L)
    have Hu1 := Lib.hid (Unused_any (encStr size L) (by omega))
    have Hu2 := Lib.hid (Unused_ref (encStr size L) (by omega))
    generalize encStr size L = es at *
    generalize encErr size L = ee at *
    generalize (es == List.replicate es.length 0) = z at *
    have HZ := Lib.hid (fun w h => Size_any p cap m L w h hm hcap hcm hsm)
    have HZ2 := Lib.hid (fun w h => Size_ref p cap m L w h hm hsm)
    have HF := Lib.hid (fun w h => Fits_any p cap m L size w h hm hcap hcm hsm)
    have HF2 := Lib.hid (fun w h => Fits_ref p cap m L size w h hm hsm)
    generalize (isSizeB size && allowedB L && decide ((sizeL L : Int) ≤ size)) = fb at *
    generalize sizeL L = sz at *
    clear hs
    go_enter Tryd.func5, Tryd.ntmps5
    go_wp2_with (first | (go_at_call 10; refine (awake_any _).mono ?_; rintro e w1 ⟨rfl, he1⟩) | (go_at_call 17; refine (few_any p cap m L _ (Hs.out.ext he1) hm hlm).mono ?_; rintro e w2 ⟨rfl, rfl⟩) | (go_at_call 16; refine (Hpa.out _ (Hs.out.ext he1)).mono ?_; rintro e w3 ⟨rfl, he3⟩; have e3 := he1.trans he3) | (go_at_call 18; refine (Hrb.out _ (Hs.out.ext e3)).mono ?_; rintro e w4 ⟨rfl, he4⟩; have e4 := e3.trans he4) | (go_at_call 19; refine (HZ.out _ (Hs.out.ext e4)).mono ?_; rintro e w5 ⟨rfl, he5⟩; have e5 := e4.trans he5) | (go_at_call 20; refine (HZ2.out _ (Hs.out.ext e5)).mono ?_; rintro e w6 ⟨rfl, he6⟩; have e6 := e5.trans he6) | (go_at_call 21; refine (HF.out _ (Hs.out.ext e6)).mono ?_; rintro e w7 ⟨rfl, he7⟩; have e7 := e6.trans he7) | (go_at_call 22; refine (HF2.out _ (Hs.out.ext e7)).mono ?_; rintro e w8 ⟨rfl, he8⟩; have e8 := e7.trans he8) | (go_at_call 14; refine (Hu1.out _).mono ?_; rintro e w9 ⟨rfl, hq9⟩; have e9 := e8.trans (Ext.of_drawn hq9)) | (go_at_call 15; refine (Hu2.out _).mono ?_; rintro e w10 ⟨rfl, he10⟩; have e10 := e9.trans he10))
    go_ret
    exact ⟨ret_bool (by simp), e10⟩

set_option maxRecDepth 100000 in
set_option maxHeartbeats 1000000 in
theorem IntervalInverts_any (p : Option Addr) (cap m : Nat) (L : List (List UInt8)) (size : Int) (w : World) (hs : Strs w p L) (hm : L.length = m) (hcap : m ≤ cap) (hcm : cap ≤ maxLen) :
    Calls Tryd.prog 6 #[.int .i64 size, .slice p m cap] w fun e w' => e = .returned (.bool true) ∧ Ext w w' := by
  have Hs := Lib.hid hs
  have hlm : L.length ≤ maxLen := by omega
  cases hsh : shortB L 200 600
  · clear hs
    go_enter Tryd.func6, Tryd.ntmps6
    go_wp2_with (first | (go_at_call 10; refine (awake_any _).mono ?_; rintro e w1 ⟨rfl, he1⟩) | (go_at_call 17; refine (few_any p cap m L _ (Hs.out.ext he1) hm hlm).mono ?_; rintro e w2 ⟨rfl, rfl⟩))
    go_ret
    exact ⟨rfl, he1⟩
  · have hsm := short_small hsh
    have hpa := fun w h => Encode_any p cap m L size w h hm hcap hcm hsm
    have hF := fun w h => Fits_any p cap m L size w h hm hcap hcm hsm
    rw [fits_err] at hF
    have hle := enc_len_le (size := size) (L := L)
    have hdl : (encStr size L).length ≤ 1000000 := by omega
    by_cases h0 : encErr size L = 0
    · have hE : Enc size L (encStr size L) := ⟨h0, rfl⟩
      have hused : (encStr size L == List.replicate (encStr size L).length 0) = false := enc_used' hE
      have hlen := enc_length hE
      have hu := Unused_any (encStr size L) hdl
      rw [hused] at hu
      rw [h0] at hpa hF
      have Hpd := Lib.hid (Decode_any size (encStr size L) hdl)
      have HE := Lib.hid hE
      have Hu := Lib.hid hu
      have Hpa := Lib.hid hpa
      have HF := Lib.hid hF
      generalize encStr size L = es at *
      clear hs hpa hF hE hu hused h0
      go_enter Tryd.func6, Tryd.ntmps6
      go_wp2_with (first | (go_at_call 10; refine (awake_any _).mono ?_; rintro e w1 ⟨rfl, he1⟩) | (go_at_call 17; refine (few_any p cap m L _ (Hs.out.ext he1) hm hlm).mono ?_; rintro e w2 ⟨rfl, rfl⟩) | (go_at_call 16; refine (Hpa.out _ (Hs.out.ext he1)).mono ?_; rintro e w3 ⟨rfl, he3⟩; have e3 := he1.trans he3) | (go_at_call 21; refine (HF.out _ (Hs.out.ext e3)).mono ?_; rintro e w4 ⟨rfl, he4⟩; have e4 := e3.trans he4))
      refine (Hpd.out _).mono ?_
      rintro e w5 ⟨he5, ⟨p', cap', L', rfl, hsl, hsm', hel, hc1, hc2⟩ | ⟨rfl, hno⟩⟩
      · have hLL := enc_inj' HE.out hel
        subst hLL
        have hbb : (L' == L') = true := by simp
        have Hsl := Lib.hid hsl
        have e5 := e4.trans he5
        clear hsl hel
        go_wp2_with (first | (go_at_call 13; go_must (refine (Texts_any p' p cap' m cap m L' L' _ Hsl.out (Hs.out.ext e5) hm hm (small_max hsm) (small_max hsm)).mono ?_; rintro e w6 ⟨rfl, hq6⟩; have e6 := e5.trans (Ext.of_drawn hq6))) | (go_at_call 14; go_must (refine (Hu.out _).mono ?_; rintro e w7 ⟨rfl, hq7⟩; have e7 := e6.trans (Ext.of_drawn hq7))))
        go_ret
        exact ⟨ret_bool (by simp), e7⟩
      · exact absurd HE.out (hno _)
    · have hes := encErr_lt size L h0
      have hb0 : (encErr size L == 0) = false := by simpa using h0
      have hb1 : (encErr size L != 0) = true := by simpa using h0
      rw [hes] at hpa
      rw [hb0] at hF
      generalize encErr size L = ee at *
      have Hpa := Lib.hid hpa
      have HF := Lib.hid hF
      clear hs hpa hF h0 hes
      go_enter Tryd.func6, Tryd.ntmps6
      go_wp2_with (first | (go_at_call 10; refine (awake_any _).mono ?_; rintro e w1 ⟨rfl, he1⟩) | (go_at_call 17; refine (few_any p cap m L _ (Hs.out.ext he1) hm hlm).mono ?_; rintro e w2 ⟨rfl, rfl⟩) | (go_at_call 16; refine (Hpa.out _ (Hs.out.ext he1)).mono ?_; rintro e w3 ⟨rfl, he3⟩; have e3 := he1.trans he3) | (go_at_call 21; refine (HF.out _ (Hs.out.ext e3)).mono ?_; rintro e w4 ⟨rfl, he4⟩; have e4 := e3.trans he4))
      go_ret
      exact ⟨rfl, e4⟩
end Go.Proofs.YtadeohkcaaoflaaDoor
