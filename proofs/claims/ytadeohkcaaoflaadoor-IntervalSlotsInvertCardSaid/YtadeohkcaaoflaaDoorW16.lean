/- The walk of the law IntervalStrict. -/
import Derived.Test.YtadeohkcaaoflaaDoorW15
namespace Go.Proofs.YtadeohkcaaoflaaDoor
open Go.RowKit Dsd

theorem decErr_ne (size : Int) (d : List UInt8) : (decErr size d != 0) = true := by
  unfold decErr
  split
  · rfl
  · split
    · rfl
    · split <;> rfl

set_option maxRecDepth 100000 in
set_option maxHeartbeats 1000000 in
theorem IntervalStrict_any (size : Int) (d : List UInt8) (a : Int) (t : Nat) (ht : t < 256) (w : World) :
    Calls Tryd.prog 4 #[.int .i64 size, .string ⟨d.toArray⟩, .int .i64 a, .int .u8 t] w fun e w' => e = .returned (.bool true) ∧ Ext w w' := by
  by_cases hd : d.length ≤ 600
  · have hdI : decide ((600 : Int) < d.length) = false := by simp; omega
    by_cases ha0 : a < 0
    · go_enter Tryd.func4, Tryd.ntmps4
      go_wp2_with (go_at_call 10; refine (awake_any _).mono ?_; rintro e w1 ⟨rfl, he1⟩)
      go_ret
      exact ⟨rfl, he1⟩
    · have ha0I : decide (a < 0) = false := by simp; omega
      obtain ⟨a, rfl⟩ := Int.eq_ofNat_of_zero_le (show 0 ≤ a by omega)
      by_cases had : a < d.length
      · have hadI : decide ((d.length : Int) ≤ a) = false := by simp; omega
        have hdl : d.length ≤ 1000000 := by omega
        have Hpd := Lib.hid (Decode_any size d hdl)
        go_enter Tryd.func4, Tryd.ntmps4
        go_wp2_with (go_at_call 10; refine (awake_any _).mono ?_; rintro e w1 ⟨rfl, he1⟩)
        refine (Hpd.out _).mono ?_
        rintro e w2 ⟨he2, ⟨p, cap, L, rfl, hsl, hsm, hel, hc1, hc2⟩ | ⟨rfl, hno⟩⟩
        · have henc := Encode_any p cap L.length L size w2 hsl rfl hc1 hc2 hsm
          rw [hel.1, hel.2] at henc
          have Henc := Lib.hid henc
          have Hsl := Lib.hid hsl
          have Hel := Lib.hid hel
          have e2 := he1.trans he2
          clear henc hsl hel
          go_wp2_with (go_at_call 16; refine Henc.out.mono ?_; rintro e w3 ⟨rfl, he3⟩)
          have e3 := e2.trans he3
          have hcv : ∀ (W : World) (b : Nat), Blk W b (.cells #[.int .u8 (t : Int)] 5) → (convert 32 9 (.slice (some ⟨b, 0, none⟩) 1 1)).run Tryd.prog W = .ok (.string ⟨[UInt8.ofNat t].toArray⟩) W := fun W b h =>
            run_row_string W _ _ 5 b 1 1 [UInt8.ofNat t] 5 (0, 0) Tryd.underlying32 Tryd.underlying5 Tryd.underlying9
              (by unfold Blk at h; rw [h]; simp [byteCells, Nat.mod_eq_of_lt ht]) rfl
          have i1 : IntKind.i64.wrap ((a : Int) + 1) = a + 1 := IntWalk.i64_in _ (by omega)
          have i2 : (a : Int) ≤ d.length := by omega
          have i3 : (a : Int) + 1 ≤ d.length := by omega
          have i4 : (0 : Int) ≤ a + 1 := by omega
          have i5 : ((a : Int) + 1).toNat = a + 1 := by omega
          refine wp_region_mk 200 (Ext.refl w3) (by kernel_rfl) (by kernel_rfl) (by kernel_rfl) ?_
          simp only [List.take_succ_cons, List.take_zero, List.take_nil, List.drop_succ_cons, List.drop_zero, List.drop_nil, List.map_cons, List.map_nil]
          repeat (first
            | (refine wpML_move _ _ rfl (by first | exact .inl rfl | exact .inr rfl) rfl (by first | exact Is.stable _ | exact Fresh.stable _ _ _) ?_
               simp only [setL, List.set_cons_succ, List.set_cons_zero, List.getD_cons_succ, List.getD_cons_zero])
            | (refine wpML_moveC _ rfl (by first | exact .inl rfl | exact .inr rfl) ?_
               simp only [setL, List.set_cons_succ, List.set_cons_zero])
            | (apply wpML_det rfl
               · intro a w' he hr K hK
                 simp [Reads, Oper.looksAt, Op.operands, Call.operands, factAt, Is] at hr
                 have hx := he.cell
                 go_simp
                 try go_bits
                 try (rw [if_neg (by omega)]; go_simp)
                 first
                   | exact hK _ (Ext.refl _)
               simp only [setL, List.set_cons_succ, List.set_cons_zero])
            | (refine wpML_fact (Fresh 1 1 (.cells #[.int .u8 (t : Int)] 5)) (Fresh.stable _ _ _) rfl ?_ ?_
               · intro a w' he hr K hK
                 simp [Reads, Oper.looksAt, Op.operands, Call.operands, factAt, Is] at hr
                 go_simp
                 exact hK _ _ (Ext.alloc _ _) (Fresh.new _ _ _ _)
               simp only [setL, List.set_cons_succ, List.set_cons_zero])
            | (apply wpML_det rfl
               · intro a w' he hr K hK
                 simp [Reads, Oper.looksAt, Op.operands, Call.operands, factAt, Fresh] at hr
                 obtain ⟨b, hr1, hr2⟩ := hr
                 go_simp
                 exact hK _ (Ext.refl _)
               simp only [setL, List.set_cons_succ, List.set_cons_zero]))
          intro w2 he2
          repeat (first | with_reducible refine rest_is _ _ _ _ ?_ | (with_reducible refine rest_fact _ _ _ _ ?_; intro _ _) | with_reducible refine rest_end _ _ ?_)
          simp only [List.reverse_cons, List.reverse_nil, List.nil_append, List.cons_append]
          obtain ⟨O, hO⟩ : ∃ O, O = List.take a d ++ UInt8.ofNat t :: List.take (d.length - (a + 1)) (List.drop (a + 1) d) := ⟨_, rfl⟩
          have hOl : O.length ≤ 1000000 := by rw [hO]; simp; omega
          rw [← hO]
          have HX2 := Lib.hid (e3.trans he2)
          have Hpo := Lib.hid (Decode_any size O hOl)
          have a_ext := he2
          clear hO hcv i1 i2 i3 i4 i5 he2
          go_wp2_with fail
          refine (Hpo.out _).mono ?_
          have hne := decErr_ne size O
          rintro e w4 ⟨he4, ⟨p', cap', L', rfl, hsl', hsm', hel', hc1', hc2'⟩ | ⟨rfl, hno⟩⟩
          · have HX4 := Lib.hid (HX2.out.trans he4)
            by_cases hOd : O = d
            · have hb : (O == d) = true := by simp [hOd]
              clear hsl' hel' hOd
              go_wp2_with fail
              go_ret
              exact ⟨rfl, HX4.out⟩
            · have hb : (O == d) = false := by simpa using hOd
              have hll : (L == L') = false := by
                cases h : L == L' with
                | false => rfl
                | true => have : L = L' := by simpa using h
                          subst this
                          exact absurd (hel'.2.symm.trans Hel.out.2) hOd
              have Hsl' := Lib.hid hsl'
              have Hsl4 := Lib.hid ((Hsl.out.ext (he3.trans a_ext)).ext he4)
              clear hsl' hel' hOd
              go_wp2_with (first | (go_at_call 13; go_must (refine (Texts_any p p' cap L.length cap' L'.length L L' _ Hsl4.out Hsl'.out rfl rfl (small_max hsm) (small_max hsm')).mono ?_; rintro e w5 ⟨rfl, hq5⟩)))
              go_ret
              exact ⟨ret_bool (by simp [hll]), HX4.out.trans (Ext.of_drawn hq5)⟩
          · have HX4 := Lib.hid (HX2.out.trans he4)
            by_cases hOd : O = d
            · have hb : (O == d) = true := by simp [hOd]
              clear hOd hno
              go_wp2_with fail
              go_ret
              exact ⟨rfl, HX4.out⟩
            · have hb : (O == d) = false := by simpa using hOd
              clear hOd hno
              go_wp2_with fail
              go_ret
              exact ⟨rfl, HX4.out⟩
        · have hne := decErr_ne size d
          go_wp2_with fail
          go_ret
          exact ⟨rfl, he1.trans he2⟩
      · have hadI : ((d.length : Int) ≤ a) := by omega
        go_enter Tryd.func4, Tryd.ntmps4
        go_wp2_with (go_at_call 10; refine (awake_any _).mono ?_; rintro e w1 ⟨rfl, he1⟩)
        go_ret
        exact ⟨rfl, he1⟩
  · have hdI : (600 : Int) < d.length := by omega
    go_enter Tryd.func4, Tryd.ntmps4
    go_wp2_with (go_at_call 10; refine (awake_any _).mono ?_; rintro e w1 ⟨rfl, he1⟩)
    go_ret
    exact ⟨rfl, he1⟩
end Go.Proofs.YtadeohkcaaoflaaDoor
