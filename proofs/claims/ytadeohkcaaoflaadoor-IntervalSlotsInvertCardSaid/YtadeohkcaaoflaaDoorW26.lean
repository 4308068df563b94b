/- The walks of the laws on slots. -/
import Derived.Test.YtadeohkcaaoflaaDoorW25
import Derived.Test.YtadeohkcaaoflaaDoorP17h
namespace Go.Proofs.YtadeohkcaaoflaaDoor
open Go.RowKit Dsd

theorem ds_ok {size length : Int} {d : List UInt8} (h : dsErr size length d = 0) : esErr size length (dsOut size length d) = 0 ∧ esStr size length (dsOut size length d) = d := by
  have ho : dsOut size length d = dsList size.toNat length.toNat d (slotsN size length).toNat := by unfold dsOut; rw [if_pos h]
  rw [ho]
  unfold dsErr at h
  split at h
  · simp at h
  · split at h
    · simp at h
    · split at h
      · simp at h
      · split at h
        · assumption
        · simp at h
theorem es_ok {size length : Int} {L : List Slt} (h : esErr size length L = 0) : ∃ N : Nat, slotsN size length = N ∧ L.length ≤ N ∧ N ≤ 512 ∧ 1 ≤ N ∧ dsErr size length (esStr size length L) = 0 ∧
    dsOut size length (esStr size length L) = L ++ List.replicate (N - L.length) (false, []) ∧ (esStr size length L).length ≤ 512 := by
  rcases slots_cases size length with ⟨h0, _⟩ | ⟨n, len, N, rfl, rfl, h1, h2, h3, h4, h5, h6, h7, _⟩
  · unfold esErr sErr at h
    rw [h0] at h
    simp at h
  · have hN5 : N ≤ 512 := by have := Nat.le_mul_of_pos_right N (show 0 < len + 3 by omega); omega
    have he : sErr N len L = 0 := by unfold esErr at h; rw [h5] at h; exact h
    have hs : esStr n len L = sStr n N len L := by unfold esStr; rw [h5]; rfl
    obtain ⟨a1, a2, a3, a4, a5⟩ := ds_enc (n := n) h2 h7 (by omega) he
    have hl := (sErr_zero he).2.1
    have hd : dsErr n len (esStr n len L) = 0 := by
      unfold dsErr
      rw [hs, h5, if_neg (by omega), if_neg (by rw [a4]; omega), if_neg (by rw [a5]; simp)]
      rw [if_pos]
      unfold esErr esStr
      rw [h5]
      exact ⟨a2, a3⟩
    refine ⟨N, h5, hl, hN5, by omega, hd, ?_, by rw [hs, a4]; omega⟩
    unfold dsOut
    rw [if_pos hd, hs, h5]
    exact a1
theorem dsOut_le (size length : Int) (d : List UInt8) : (dsOut size length d).length ≤ 512 := by
  unfold dsOut
  split
  · rw [length_dsList]
    rcases slots_cases size length with ⟨h0, _⟩ | ⟨n, len, N, rfl, rfl, h1, h2, h3, h4, h5, h6, h7, _⟩
    · rw [h0]; simp
    · rw [h5]
      have := Nat.le_mul_of_pos_right N (show 0 < len + 3 by omega)
      simp; omega
  · simp

set_option maxRecDepth 100000 in
set_option maxHeartbeats 1000000 in
theorem IntervalSlots_any (p : Option Addr) (cap m : Nat) (L : List Slt) (size length : Int) (d : List UInt8) (w : World) (hs : Slts w p L) (hm : L.length = m) (hcap : m ≤ cap) (hcm : cap ≤ maxLen) (hsm : ∀ x ∈ L, x.2.length ≤ maxLen) :
    Calls Tryd.prog 8 #[.int .i64 size, .int .i64 length, .slice p m cap, .string ⟨d.toArray⟩] w fun e w' => e = .returned (.bool true) ∧ Ext w w' := by
  have Hs := Lib.hid hs
  have Hsm := Lib.hid hsm
  have Hcm := Lib.hid hcm
  clear hs hsm hcm
  by_cases h1 : 200 < m
  · have h1I : (200 : Int) < m := by omega
    go_enter Tryd.func8, Tryd.ntmps8
    go_wp2_with (go_at_call 10; refine (awake_any _).mono ?_; rintro e w1 ⟨rfl, he1⟩)
    go_ret
    exact ⟨rfl, he1⟩
  · have h1I : decide ((200 : Int) < m) = false := by simp; omega
    by_cases h2 : 600 < d.length
    · have h2I : (600 : Int) < d.length := by omega
      go_enter Tryd.func8, Tryd.ntmps8
      go_wp2_with (go_at_call 10; refine (awake_any _).mono ?_; rintro e w1 ⟨rfl, he1⟩)
      go_ret
      exact ⟨rfl, he1⟩
    · have h2I : decide ((600 : Int) < d.length) = false := by simp; omega
      have hdl : d.length ≤ 1000000 := by omega
      have hd1 : ∀ w, Calls Tryd.prog 25 #[.int .i64 size, .int .i64 length, .string ⟨d.toArray⟩] w fun e w' => Ext w w' ∧ ∃ p cap m, e = .returned (.tuple #[.slice p m cap, .int .i64 (dsErr size length d)]) ∧ m = (dsOut size length d).length ∧ Slts w' p (dsOut size length d) ∧ m ≤ cap ∧ cap ≤ maxLen := fun w => DecodeSlots_any size length d hdl w
      have hd2 : ∀ w, Calls Tryd.prog 26 #[.int .i64 size, .int .i64 length, .string ⟨d.toArray⟩] w fun e w' => Ext w w' ∧ ∃ p cap m, e = .returned (.tuple #[.slice p m cap, .int .i64 (dsErr size length d)]) ∧ m = (dsOut size length d).length ∧ Slts w' p (dsOut size length d) ∧ m ≤ cap ∧ cap ≤ maxLen := fun w => DecodeSlots_ref size length d hdl w
      have hDl := dsOut_le size length d
      have he1 := fun w h => EncodeSlots_any size length p cap m L hm w h
      have he2 := fun w h => EncodeSlots_ref size length p cap m L hm (by omega) w h
      generalize dsErr size length d = de at *
      generalize dsOut size length d = D at *
      generalize esErr size length L = ee at *
      generalize esStr size length L = es at *
      have Hd1 := Lib.hid hd1
      have Hd2 := Lib.hid hd2
      have He1 := Lib.hid he1
      have He2 := Lib.hid he2
      have HDl := Lib.hid hDl
      have HD0 : Hid ((D == D) = true) := Lib.hid (by simp)
      clear hd1 hd2 he1 he2 hDl
      go_enter Tryd.func8, Tryd.ntmps8
      go_wp2_with (go_at_call 10; refine (awake_any _).mono ?_; rintro e w1 ⟨rfl, he1⟩)
      go_loop [9] (fun i => ∃ k : Nat, k ≤ m ∧ i = .int .i64 k) (fun i => m - (intOf i).toNat)
      case atStart => exact ⟨0, Nat.zero_le _, rfl⟩
      case round =>
        obtain ⟨k, hk, rfl⟩ := hrel
        by_cases hlt : k < m
        · have hltI : (k : Int) < m := by omega
          obtain ⟨b, off, rfl, hb, hc⟩ := (Hs.out.ext he1).at k (by omega)
          obtain ⟨c1, c2⟩ := hc k (by omega)
          have hxm : (L.getD k (false, [])).2.length ≤ maxLen := by
            have hkL : k < L.length := by omega
            have : L.getD k (false, []) = L[k] := by simp [List.getD, hkL]
            rw [this]; exact Hsm.out _ (List.getElem_mem hkL)
          generalize L.getD k (false, []) = x at *
          obtain ⟨u, x⟩ := x
          simp only at c1 c2 hxm
          unfold maxLen at hxm
          clear hc
          by_cases hx : 600 < x.length
          · have hxI : (600 : Int) < x.length := by omega
            go_wp2
            go_ret
            exact ⟨rfl, he1⟩
          · have hxI : decide ((600 : Int) < x.length) = false := by simp; omega
            go_wp2
            go_round
            case rel => exact ⟨k + 1, by omega, by go_num⟩
            case measure => simp [intOf]; omega
        · have hltI : decide ((k : Int) < m) = false := by simp; omega
          go_wp2_with (first | (go_at_call 23; refine (He1.out _ (Hs.out.ext he1)).mono ?_; rintro e w2 ⟨rfl, he2⟩; have e2 := he1.trans he2) | (go_at_call 24; refine (He2.out _ (Hs.out.ext e2)).mono ?_; rintro e w3 ⟨rfl, he3⟩; have e3 := e2.trans he3))
          refine (Hd1.out _).mono ?_
          rintro e w4 ⟨he4, q, cq, mq, rfl, hmq, hsq, hq1, hq2⟩
          have e4 := e3.trans he4
          have Hsq := Lib.hid hsq
          have Hmq := Lib.hid hmq
          clear hsq hmq
          go_wp2_with fail
          refine (Hd2.out _).mono ?_
          rintro e w5 ⟨he5, q', cq', mq', rfl, hmq', hsq', hq1', hq2'⟩
          have e5 := e4.trans he5
          have Hsq' := Lib.hid hsq'
          have Hmq' := Lib.hid hmq'
          clear hsq' hmq'
          go_wp2_with (first | (go_at_call 27; go_must (refine (SameSlots_any q q' cq mq cq' mq' D D _ (Hsq.out.ext he5) Hsq'.out Hmq.out.symm Hmq'.out.symm (by have := HDl.out; omega) (by have := HDl.out; omega)).mono ?_; rw [HD0.out]; rintro e w6 ⟨rfl, hq6⟩; have e6 := e5.trans (Ext.of_drawn hq6))) | (go_at_call 28; refine (SlotCount_any _ _ _).mono ?_; rintro e w7 ⟨rfl, rfl⟩) | (go_at_call 29; refine (SlotCount_ref _ _ _).mono ?_; rintro e w8 ⟨rfl, rfl⟩))
          go_ret
          exact ⟨ret_bool (by simp), e6⟩
end Go.Proofs.YtadeohkcaaoflaaDoor
