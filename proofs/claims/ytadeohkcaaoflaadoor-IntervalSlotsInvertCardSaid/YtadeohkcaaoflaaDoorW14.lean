/- The walk of the law IntervalDecodes. -/
import Derived.Test.YtadeohkcaaoflaaDoorW13
namespace Go.Proofs.YtadeohkcaaoflaaDoor
open Go.RowKit Dsd

theorem enc_inj' {size : Int} {L M : List (List UInt8)} {d : List UInt8} (h : Enc size L d) (k : Enc size M d) : M = L := by
  obtain ⟨n, rfl, hn⟩ := isSize_nat (encErr_zero h.1).1
  exact enc_inj (by omega) h k
theorem small_max {L : List (List UInt8)} (h : Small L) : L.length ≤ maxLen := by have := h.1; unfold maxLen; omega

set_option maxRecDepth 100000 in
set_option maxHeartbeats 1000000 in
theorem IntervalDecodes_any (size : Int) (d : List UInt8) (w : World) :
    Calls Tryd.prog 3 #[.int .i64 size, .string ⟨d.toArray⟩] w fun e w' => e = .returned (.bool true) ∧ Ext w w' := by
  by_cases hd : d.length ≤ 600
  · have hdl : d.length ≤ 1000000 := by omega
    have hdI : decide ((600 : Int) < d.length) = false := by simp; omega
    have Hpa := Lib.hid (Decode_any size d hdl)
    have Hrb := Lib.hid (Decode_ref size d hdl)
    have Hu1 := Lib.hid (Unused_any d hdl)
    have Hu2 := Lib.hid (Unused_ref d hdl)
    generalize (d == List.replicate d.length 0) = z at *
    go_enter Tryd.func3, Tryd.ntmps3
    go_wp2_with (go_at_call 10; refine (awake_any _).mono ?_; rintro e w1 ⟨rfl, he1⟩)
    refine (Hpa.out _).mono ?_
    rintro e w2 ⟨he2, ⟨p, cap, L, rfl, hsl, hsm, hel, hc1, hc2⟩ | ⟨rfl, hno⟩⟩
    · have Hsl := Lib.hid hsl
      have Hel := Lib.hid hel
      clear hsl hel
      go_wp2_with fail
      refine (Hrb.out _).mono ?_
      rintro e w3 ⟨he3, ⟨p', cap', L', rfl, hsl', hsm', hel', hc1', hc2'⟩ | ⟨rfl, hno⟩⟩
      · have hLL := enc_inj' Hel.out hel'
        subst hLL
        have hbb : (L' == L') = true := by simp
        have Hsl' := Lib.hid hsl'
        clear hsl' hel'
        go_wp2_with (first | (go_at_call 13; go_must (refine (Texts_any p p' cap _ cap' _ L' L' _ (Hsl.out.ext he3) Hsl'.out rfl rfl (small_max hsm) (small_max hsm)).mono ?_; rintro e w4 ⟨rfl, hq4⟩)) | (go_at_call 14; go_must (refine (Hu1.out _).mono ?_; rintro e w5 ⟨rfl, hq5⟩)) | (go_at_call 15; go_must (refine (Hu2.out _).mono ?_; rintro e w6 ⟨rfl, he6⟩)))
        go_ret
        exact ⟨ret_bool (by simp), ((((he1.trans he2).trans he3).trans (Ext.of_drawn hq4)).trans (Ext.of_drawn hq5)).trans he6⟩
      · exact absurd Hel.out (hno _)
    · have Hno := Lib.hid hno
      clear hno
      go_wp2_with fail
      refine (Hrb.out _).mono ?_
      rintro e w3 ⟨he3, ⟨p', cap', L', rfl, hsl', hsm', hel', hc1', hc2'⟩ | ⟨rfl, hno⟩⟩
      · exact absurd hel' (Hno.out _)
      · have hbb : (([] : List (List UInt8)) == []) = true := rfl
        clear hno
        go_wp2_with (first | (go_at_call 13; go_must (refine (Texts_any none none 0 0 0 0 [] [] _ (.inl rfl) (.inl rfl) rfl rfl (by decide) (by decide)).mono ?_; rintro e w4 ⟨rfl, hq4⟩)) | (go_at_call 14; go_must (refine (Hu1.out _).mono ?_; rintro e w5 ⟨rfl, hq5⟩)) | (go_at_call 15; go_must (refine (Hu2.out _).mono ?_; rintro e w6 ⟨rfl, he6⟩)))
        go_ret
        exact ⟨ret_bool (by simp), ((((he1.trans he2).trans he3).trans (Ext.of_drawn hq4)).trans (Ext.of_drawn hq5)).trans he6⟩
  · have hdI : (600 : Int) < d.length := by omega
    go_enter Tryd.func3, Tryd.ntmps3
    go_wp2_with (go_at_call 10; refine (awake_any _).mono ?_; rintro e w1 ⟨rfl, he1⟩)
    go_ret
    exact ⟨rfl, he1⟩
end Go.Proofs.YtadeohkcaaoflaaDoor
