/- The walk of the law IntervalSlotsInvert. -/
import Derived.Test.YtadeohkcaaoflaaDoorW26
namespace Go.Proofs.YtadeohkcaaoflaaDoor
open Go.RowKit Dsd

theorem Slts.take {w : World} {p : Option Addr} {L M : List Slt} (h : Slts w p (L ++ M)) : Slts w p L := by
  rcases h with h | ⟨b, off, hp, hb, hc⟩
  · left; simp at h; exact h.1
  · refine .inr ⟨b, off, hp, hb, fun i hi => ?_⟩
    have := hc i (by simp; omega)
    have e : (L ++ M).getD i (false, []) = L.getD i (false, []) := by simp [List.getD, List.getElem?_append_left hi]
    rwa [e] at this
theorem pad_at {L : List Slt} {N i : Nat} (h1 : L.length ≤ i) (h2 : i < N) : (L ++ List.replicate (N - L.length) (false, [])).getD i (false, []) = (false, []) := by
  rw [List.getD_eq_getElem?_getD, List.getElem?_append_right h1, List.getElem?_replicate]
  split <;> rfl

set_option maxRecDepth 100000 in
set_option maxHeartbeats 2000000 in
theorem IntervalSlotsInvert_any (p : Option Addr) (cap m : Nat) (L : List Slt) (size length : Int) (d : List UInt8) (w : World) (hs : Slts w p L) (hm : L.length = m) (hcap : m ≤ cap) (hcm : cap ≤ maxLen) (hsm : ∀ x ∈ L, x.2.length ≤ maxLen) :
    Calls Tryd.prog 9 #[.int .i64 size, .int .i64 length, .slice p m cap, .string ⟨d.toArray⟩] w fun e w' => e = .returned (.bool true) ∧ Ext w w' := by
  have Hs := Lib.hid hs
  clear hs hsm hcm
  by_cases h1 : 200 < m
  · have h1I : (200 : Int) < m := by omega
    go_enter Tryd.func9, Tryd.ntmps9
    go_wp2_with (go_at_call 10; refine (awake_any _).mono ?_; rintro e w1 ⟨rfl, he1⟩)
    go_ret
    exact ⟨rfl, he1⟩
  · have h1I : decide ((200 : Int) < m) = false := by simp; omega
    by_cases h2 : 600 < d.length
    · have h2I : (600 : Int) < d.length := by omega
      go_enter Tryd.func9, Tryd.ntmps9
      go_wp2_with (go_at_call 10; refine (awake_any _).mono ?_; rintro e w1 ⟨rfl, he1⟩)
      go_ret
      exact ⟨rfl, he1⟩
    · have h2I : decide ((600 : Int) < d.length) = false := by simp; omega
      have hdl : d.length ≤ 1000000 := by omega
      have hd1 : ∀ w, Calls Tryd.prog 25 #[.int .i64 size, .int .i64 length, .string ⟨d.toArray⟩] w fun e w' => Ext w w' ∧ ∃ p cap m, e = .returned (.tuple #[.slice p m cap, .int .i64 (dsErr size length d)]) ∧ m = (dsOut size length d).length ∧ Slts w' p (dsOut size length d) ∧ m ≤ cap ∧ cap ≤ maxLen := fun w => DecodeSlots_any size length d hdl w
      have hDl := dsOut_le size length d
      have he1 := fun w h => EncodeSlots_any size length p cap m L hm w h
      have heD := fun q cq w h => EncodeSlots_any size length q cq (dsOut size length d).length (dsOut size length d) rfl w h
      have hD0 : dsErr size length d ≠ 0 → dsOut size length d = [] := fun h => by unfold dsOut; rw [if_neg h]
      have hD1 : dsErr size length d = 0 → esErr size length (dsOut size length d) = 0 ∧ esStr size length (dsOut size length d) = d := ds_ok
      generalize dsErr size length d = de at *
      generalize dsOut size length d = D at *
      have Hd1 := Lib.hid hd1
      have HDl := Lib.hid hDl
      have HD0 := Lib.hid hD0
      have HD1 := Lib.hid hD1
      have HeD := Lib.hid heD
      clear hd1 hDl hD0 hD1 heD
      by_cases h0 : esErr size length L = 0
      · obtain ⟨N, hN, hLN, hN5, hN1, hok, hout, hsl⟩ := es_ok h0
        have hx1 : ∀ w, Calls Tryd.prog 25 #[.int .i64 size, .int .i64 length, .string ⟨(esStr size length L).toArray⟩] w fun e w' => Ext w w' ∧ ∃ p cap m, e = .returned (.tuple #[.slice p m cap, .int .i64 (dsErr size length (esStr size length L))]) ∧ m = (dsOut size length (esStr size length L)).length ∧ Slts w' p (dsOut size length (esStr size length L)) ∧ m ≤ cap ∧ cap ≤ maxLen := fun w => DecodeSlots_any size length (esStr size length L) (by omega) w
        rw [hok, hout] at hx1
        have hlen : (L ++ List.replicate (N - L.length) ((false, []) : Slt)).length = N := by simp; omega
        have hpad := fun i h1 h2 => @pad_at L N i h1 h2
        rw [hlen] at hx1
        rw [h0] at he1
        generalize esStr size length L = es at *
        have Hx1 := Lib.hid hx1
        have He1 := Lib.hid he1
        have HN := Lib.hid hN
        have Hpad := Lib.hid hpad
        have Hlen := Lib.hid hlen
        have hLN2 : m ≤ N := by omega
        have hLN3 : decide ((N : Int) < m) = false := by simp; omega
        have HLL : Hid ((L == L) = true) := Lib.hid (by simp)
        clear hx1 he1 hN hpad hok hout h0 hlen hsl hLN
        have HTK : Hid (∀ W q, Slts W q (L ++ List.replicate (N - L.length) (false, [])) → Slts W q L) := Lib.hid (fun _ _ h => Slts.take h)
        generalize L ++ List.replicate (N - L.length) ((false, []) : Slt) = LP at *
        go_enter Tryd.func9, Tryd.ntmps9
        go_wp2_with (first | (go_at_call 10; refine (awake_any _).mono ?_; rintro e w1 ⟨rfl, he1⟩) | (go_at_call 28; refine (SlotCount_any _ _ _).mono ?_; rw [HN.out]; rintro e w7 ⟨rfl, rfl⟩) | (go_at_call 23; refine (He1.out _ (Hs.out.ext he1)).mono ?_; rintro e w2 ⟨rfl, he2⟩; have e2 := he1.trans he2))
        refine (Hx1.out _).mono ?_
        rintro e w3 ⟨he3, q, cq, mq, rfl, hmq, hsq, hq1, hq2⟩
        obtain rfl : N = mq := hmq.symm
        have e3 := e2.trans he3
        obtain ⟨b, off, rfl, hb, hc⟩ := hsq.at 0 (by rw [Hlen.out]; omega)
        have Hsq := Lib.hid hsq
        have Hc := Lib.hid hc
        unfold maxLen at hq2
        have hcqI : (m : Int) ≤ cq := by omega
        clear hsq hc hmq
        go_wp2_with (first | (go_at_call 27; go_must (refine (SameSlots_any (some ⟨b, off, none⟩) p cq m cap m L L _ (HTK.out _ _ Hsq.out) (Hs.out.ext e3) hm hm (by omega) (by omega)).mono ?_; rw [HLL.out]; rintro e w4 ⟨rfl, hq4⟩; have he4 := Ext.of_drawn hq4; have e4 := e3.trans he4; clear hq4)))
        have hb4 := Nat.lt_of_lt_of_le hb he4.size
        go_loop [14] (fun i => ∃ k : Nat, m ≤ k ∧ k ≤ N ∧ i = .int .i64 k) (fun i => N - (intOf i).toNat)
        case atStart => exact ⟨m, Nat.le_refl _, by omega, rfl⟩
        case round =>
          obtain ⟨k, hk1, hk, rfl⟩ := hrel
          by_cases hlt : k < N
          · have hltI : (k : Int) < N := by omega
            obtain ⟨c1, c2⟩ := Hc.out k (by rw [Hlen.out]; exact hlt)
            rw [Hpad.out k (by omega) hlt] at c1 c2
            have d1 := (he4.cell b (off + k * 2) hb).trans c1
            have d2 := (he4.cell b (off + k * 2 + 1) hb).trans c2
            have hE := slot_equal false false [] []
            have hG := slotGuard
            clear c1 c2
            go_wp2
            go_round
            case rel => exact ⟨k + 1, by omega, by omega, by go_num⟩
            case measure => simp [intOf]; omega
          · have hltI : decide ((k : Int) < N) = false := by simp; omega
            go_wp2_with fail
            refine (Hd1.out _).mono ?_
            rintro e w8 ⟨he8, q, cq, mq, rfl, hmq, hsq, hq1, hq2⟩
            have e8 := e4.trans he8
            by_cases hde : de = 0
            · subst hde
              obtain ⟨hz1, hz2⟩ := HD1.out rfl
              have heD := HeD.out
              rw [hz1, hz2] at heD
              have HeD2 := Lib.hid heD
              have Hsq := Lib.hid hsq
              subst hmq
              clear hz1 hz2 heD hsq
              go_wp2_with (go_at_call 23; refine (HeD2.out _ _ _ Hsq.out).mono ?_; rintro e w9 ⟨rfl, he9⟩)
              go_ret
              exact ⟨ret_bool (by simp), e8.trans he9⟩
            · have hdI : (de != 0) = true := by simpa using hde
              have hz := HD0.out hde
              rw [hz] at hmq
              subst hmq
              clear hde hz hsq
              go_wp2
              go_ret
              exact ⟨ret_bool (by simp), e8⟩
      · have h0I : (esErr size length L == 0) = false := by simpa using h0
        generalize esErr size length L = ee at *
        generalize esStr size length L = es at *
        have He1 := Lib.hid he1
        clear he1 h0
        go_enter Tryd.func9, Tryd.ntmps9
        go_wp2_with (first | (go_at_call 10; refine (awake_any _).mono ?_; rintro e w1 ⟨rfl, he1⟩) | (go_at_call 28; refine (SlotCount_any _ _ _).mono ?_; rintro e w7 ⟨rfl, rfl⟩) | (go_at_call 23; refine (He1.out _ (Hs.out.ext he1)).mono ?_; rintro e w2 ⟨rfl, he2⟩; have e2 := he1.trans he2))
        refine (Hd1.out _).mono ?_
        rintro e w8 ⟨he8, q, cq, mq, rfl, hmq, hsq, hq1, hq2⟩
        have e8 := e2.trans he8
        by_cases hde : de = 0
        · subst hde
          obtain ⟨hz1, hz2⟩ := HD1.out rfl
          have heD := HeD.out
          rw [hz1, hz2] at heD
          have HeD2 := Lib.hid heD
          have Hsq := Lib.hid hsq
          subst hmq
          clear hz1 hz2 heD hsq
          go_wp2_with (go_at_call 23; refine (HeD2.out _ _ _ Hsq.out).mono ?_; rintro e w9 ⟨rfl, he9⟩)
          go_ret
          exact ⟨ret_bool (by simp), e8.trans he9⟩
        · have hdI : (de != 0) = true := by simpa using hde
          have hz := HD0.out hde
          rw [hz] at hmq
          subst hmq
          clear hde hz hsq
          go_wp2
          go_ret
          exact ⟨ret_bool (by simp), e8⟩
end Go.Proofs.YtadeohkcaaoflaaDoor
