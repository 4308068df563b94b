/- The walk of the program's Encode, for any records. -/
import Derived.Test.YtpefkjhiaflonaaGreatW8
set_option linter.unusedSimpArgs false
set_option linter.unusedVariables false
namespace Go.Proofs.YtpefkjhiaflonaaGreat
open Go.RowKit Dsd

theorem cell_new0' (w : World) (v : Value) (t : TypeId) (k : Nat) (hk : k = w.heap.size) : (w.alloc (.cells #[v] t)).cell? ⟨k, 0, none⟩ = some v := by subst hk; exact cell_new0 w v t

set_option maxRecDepth 100000 in
set_option maxHeartbeats 2000000 in
theorem Encode_ok (p : Option Addr) (cap m : Nat) (L : List (List UInt8)) (n : Nat) (hnn : n = 128 ∨ n = 256 ∨ n = 512) (h1 : isSizeB n = true) (h2 : allowedB L = true) (h3 : sizeL L ≤ n) (w : World) (hs : Strs w p L) (hm : L.length = m) (hcap : m ≤ cap) (hcm : cap ≤ maxLen) (hsm : Small L) :
    Calls Tryz.prog 27 #[.int .i64 n, .slice p m cap] w fun e w' => e = .returned (.tuple #[.string ⟨(wholeL n L.flatten (fieldsL L)).toArray⟩, .int .i64 0]) ∧ Ext w w' := by
  have hn4 : 4 ≤ n := by omega
  have hn5 : n ≤ 512 := by omega
  have Hs := Lib.hid hs
  have hL := hsm.1
  have hnp := newPage_any n hn4 hn5
  have Hnp := Lib.hid hnp
  have h3I : (sizeL L : Int) ≤ n := by omega
  clear hnp hs hnn
  go_enter Tryz.func27, Tryz.ntmps27
  go_wp2_with (first | (go_at_call 65; refine (isSize_any _ _).mono ?_; rintro e w' ⟨rfl, rfl⟩) | (go_at_call 66; refine (allowed_any _ _ _ L _ Hs.out hm hsm).mono ?_; rintro e w' ⟨rfl, rfl⟩) | (go_at_call 67; refine (Size_any _ _ _ L _ Hs.out hm hcap hcm hsm).mono ?_; rintro e w1 ⟨rfl, he1⟩) | (go_at_call 68; refine (Hnp.out _).mono ?_; rintro e w2 ⟨rfl, he2, hz2, hp2⟩))
  obtain ⟨bb, hbb⟩ : ∃ bb, bb = w1.heap.size := ⟨_, rfl⟩
  have hpw : pageBytes [] [] (n - 4) = List.replicate n 0 := by
    have e : n = (n - 4) + 4 := by omega
    conv => rhs; rw [e, ← List.replicate_append_replicate]
    simp [pageBytes]
  have hst : EncI w1 (bb + 2) (bb + 1) bb n [] (w2.alloc (.cells #[.pointer (some ⟨bb + 1, 0, none⟩)] 100)) := by
    refine ⟨he2.trans (Ext.alloc _ _), by omega, by omega, cell_new0' _ _ _ _ (by omega), by simp; omega, by omega, by omega, ?_⟩
    have := hp2.ext (Ext.alloc w2 (.cells #[.pointer (some ⟨bb + 1, 0, none⟩)] 100))
    rw [← hpw, ← hbb] at this
    exact this
  rw [← hbb]
  refine (runs_any _ _ p m cap L _ (enc_doer p L w1 (bb + 2) (bb + 1) bb n hn5 (Hs.out.ext he1) h2 h3) hm hcap hcm hsm _ hst).mono ?_
  rintro e w3 ⟨rfl, hI⟩
  have hsz : sumLen L + (fieldsL L).length + 4 ≤ n := by unfold sizeL at h3; omega
  have hpg := hI.page
  rw [← fieldsL_runs] at hpg
  have hpb : bb + 2 ≠ bb + 1 := by omega
  have hpb2 : bb + 2 ≠ bb := by omega
  have hb1 : w1.heap.size ≤ bb + 1 := by omega
  have hb2 : w1.heap.size ≤ bb := by omega
  have HW : Hid (∀ g, n = L.flatten.length + g + (fieldsL L).length + 4 → wholeL n L.flatten (fieldsL L) = L.flatten ++ List.replicate g 0 ++ fieldsL L ++ tailL L.flatten.length g) := Lib.hid (fun g hg => by
    unfold wholeL
    have : n - 4 - L.flatten.length - (fieldsL L).length = g := by omega
    simp only [this])
  obtain ⟨F, hF⟩ : ∃ F, F = fieldsL L := ⟨_, rfl⟩
  rw [← hF] at hpg hsz HW
  have hv3 := hI.var
  have hx3 := hI.ext
  have hl3 := hI.lt
  have hmL : m ≤ 1000000 := by omega
  clear hst hp2 hz2 hbb hpw hI he2 h3I h3
  go_wp2
  obtain ⟨wo, rfl⟩ : ∃ wo : World, wo = w3 := ⟨_, rfl⟩
  go_loopw [29] (fun i wi => ∃ k : Nat, k ≤ m ∧ i = .int .i64 k ∧ Ext w1 wi ∧ wi.cell? ⟨bb + 2, 0, none⟩ = some (.pointer (some ⟨bb + 1, 0, none⟩)) ∧ bb + 2 < wi.heap.size ∧
      Page wi (bb + 1) bb n (n - 4 - F.length) (L.take k).flatten.length (pageBytes (L.take k).flatten F (n - 4 - F.length - (L.take k).flatten.length))) (fun i _ => m - (intOf i).toNat)
  case atStart => exact ⟨0, Nat.zero_le _, rfl, hx3, hv3, hl3, hpg⟩
  case round =>
    obtain ⟨k, hk, rfl, hx, hv, hl, hp⟩ := hrel
    have hCs : (L.take k).flatten.length ≤ sumLen L := by rw [length_flatten_sum]; exact sumLen_take_le L k
    clear hpg hv3 hx3 hl3
    by_cases hlt : k < m
    · obtain ⟨b, off, rfl, hb, hc⟩ := (Hs.out.ext (he1.trans hx)).at k (by omega)
      have hck := hc k (by omega)
      have hfl := flatten_take L k (by omega)
      have hls : (L.take k).flatten.length + (L.getD k []).length ≤ sumLen L := by
        have := sumLen_take L k (by omega); rw [length_flatten_sum]; have h := sumLen_take_le L (k + 1); omega
      generalize hs' : L.getD k [] = s at *
      generalize hC : (L.take k).flatten = C at *
      obtain ⟨g, hg⟩ : ∃ g, n - 4 - F.length - C.length = s.length + g := ⟨n - 4 - F.length - C.length - s.length, by omega⟩
      rw [hg] at hp
      have hput := put_pg (bb + 1) bb n (n - 4 - F.length) C.length _ s (by omega) (by omega) hn5 wr hp
      rw [pageBytes_put] at hput
      have Hput := Lib.hid hput
      have Hfl := Lib.hid hfl
      have HO := Lib.hid (fun (W' : World) (o : Only (bb + 1) bb wr W') => (⟨o.ext hx hb1 hb2, (World.cell?_of_block (w := wr) (o.block (bb + 2) hl hpb hpb2)).trans hv, Nat.lt_of_lt_of_le hl o.size⟩ : Ext w1 W' ∧ W'.cell? ⟨bb + 2, 0, none⟩ = some (.pointer (some ⟨bb + 1, 0, none⟩)) ∧ bb + 2 < W'.heap.size))
      have Hg : Hid (n - 4 - F.length - (C ++ s).length = g) := Lib.hid (by simp; omega)
      have hltI : (k : Int) < m := by omega
      clear hc hput hp hfl hs' hC hg
      go_wp2_with (go_at_call 72; go_must (refine Hput.out.mono ?_; rintro e w4 ⟨rfl, hp4, ho4⟩))
      obtain ⟨q1, q2, q3⟩ := HO.out _ ho4
      go_roundw
      case rel => exact ⟨k + 1, by omega, by go_num, q1, q2, q3, by rw [Hfl.out, Hg.out]; simpa using hp4⟩
      case measure => simp [intOf]; omega
    · have hkm : L.take k = L := List.take_of_length_le (by omega)
      rw [hkm] at hp hCs
      obtain ⟨g, hg⟩ : ∃ g, n - 4 - F.length = L.flatten.length + g := ⟨n - 4 - F.length - L.flatten.length, by omega⟩
      have hd := done_pg (bb + 1) bb n (n - 4 - F.length) L.flatten.length _ (by omega) (by omega) hn4 hn5 wr hp
      rw [hg, Nat.add_sub_cancel_left, pageBytes_tail _ _ _ _ (by omega)] at hd
      have HWg := Lib.hid (HW.out g (by omega))
      have Hd := Lib.hid hd
      have HO := Lib.hid (fun (W' : World) (o : Only (bb + 1) bb wr W') => o.ext hx hb1 hb2)
      have hltI : ¬ (k : Int) < m := by omega
      clear hd hp hkm hCs hg
      go_wp2_with (go_at_call 73; go_must (refine Hd.out.mono ?_; rintro e w4 ⟨rfl, ho4⟩))
      go_ret2
      exact ⟨ret_tup (by have h := HWg.out; rw [hF] at h; rw [h]; simp) rfl, he1.trans (HO.out _ ho4)⟩

set_option maxRecDepth 100000 in
theorem Encode_any (p : Option Addr) (cap m : Nat) (L : List (List UInt8)) (size : Int) (w : World) (hs : Strs w p L) (hn : L.length = m) (hcap : m ≤ cap) (hcm : cap ≤ maxLen) (hm : Small L) :
    Calls Tryz.prog 27 #[.int .i64 size, .slice p m cap] w fun e w' => e = .returned (.tuple #[.string ⟨(encStr size L).toArray⟩, .int .i64 (encErr size L)]) ∧ Ext w w' := by
  by_cases h1 : isSizeB size = true
  · by_cases h2 : allowedB L = true
    · by_cases h3 : size < sizeL L
      · have HE : Hid (encErr size L = 8) := Lib.hid (by simp [encErr, h1, h2, h3])
        have HS : Hid (encStr size L = []) := Lib.hid (by simp [encStr, HE.out])
        go_enter Tryz.func27, Tryz.ntmps27
        go_wp2_with (first | (go_at_call 65; refine (isSize_any _ _).mono ?_; rintro e w' ⟨rfl, rfl⟩) | (go_at_call 66; refine (allowed_any _ _ _ L _ hs hn hm).mono ?_; rintro e w' ⟨rfl, rfl⟩) | (go_at_call 67; refine (Size_any _ _ _ L _ hs hn hcap hcm hm).mono ?_; rintro e w' ⟨rfl, he⟩))
        go_ret2
        exact ⟨ret_tup HS.out.symm HE.out.symm, he⟩
      · have HE : encErr size L = 0 := by simp [encErr, h1, h2]; omega
        have HS : encStr size L = wholeL size.toNat L.flatten (fieldsL L) := by simp [encStr, HE]
        obtain ⟨k, rfl, hk⟩ := isSize_nat h1
        rw [HE, HS, Int.toNat_natCast]
        exact Encode_ok p cap m L k hk h1 h2 (by omega) w hs hn hcap hcm hm
    · have h2' : allowedB L = false := by simpa using h2
      clear h2
      have HE : Hid (encErr size L = 2) := Lib.hid (by simp [encErr, h1, h2'])
      have HS : Hid (encStr size L = []) := Lib.hid (by simp [encStr, HE.out])
      go_enter Tryz.func27, Tryz.ntmps27
      go_wp2_with (first | (go_at_call 65; refine (isSize_any _ _).mono ?_; rintro e w' ⟨rfl, rfl⟩) | (go_at_call 66; refine (allowed_any _ _ _ L _ hs hn hm).mono ?_; rintro e w' ⟨rfl, rfl⟩))
      go_ret2
      exact ⟨ret_tup HS.out.symm HE.out.symm, Ext.refl _⟩
  · have h1' : isSizeB size = false := by simpa using h1
    clear h1
    have HE : Hid (encErr size L = 1) := Lib.hid (by simp [encErr, h1'])
    have HS : Hid (encStr size L = []) := Lib.hid (by simp [encStr, HE.out])
    go_enter Tryz.func27, Tryz.ntmps27
    go_wp2_with (go_at_call 65; refine (isSize_any _ _).mono ?_; rintro e w' ⟨rfl, rfl⟩)
    go_ret2
    exact ⟨ret_tup HS.out.symm HE.out.symm, Ext.refl _⟩
end Go.Proofs.YtpefkjhiaflonaaGreat
