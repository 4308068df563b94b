/- A part of the proof. -/
import Derived.Test.YtifmbcjbccedfaaGreatDoorW1
import Derived.Test.YtifmbcjbccedfaaGreatDoorMono
import Derived.Deep.DeepMust
set_option linter.unusedSimpArgs false
set_option linter.unusedVariables false
namespace Go.Proofs.YtifmbcjbccedfaaGreatDoor
open Go.RowKit Dsd
theorem infoByte : (Tryz.prog.info? 5).map (fun i => (i.zero, i.size, i.bytes)) = some (some (.int .u8 0), 1, 1) := by kernel_rfl
set_option maxRecDepth 100000 in
theorem field_nat (c n : Nat) (hc : c < 256) (hn : n ≤ 1000000) (w : World) :
   Calls Tryz.prog 159 #[.int .i64 c, .int .i64 n] w fun e w' => e = .returned (.string ⟨(fieldL c n).toArray⟩) ∧ Ext w w' := by
 have e3 := byteCells3 c (n % 256) (n / 256 % 256) hc (by omega) (by omega)
 simp only [Int.natCast_emod, Int.natCast_ediv, Int.cast_ofNat_Int] at e3
 have hcv := run_new_string (P := Tryz.prog) w 109 9 5 3 3 [UInt8.ofNat c, UInt8.ofNat (n % 256), UInt8.ofNat (n / 256 % 256)] 5 Tryz.underlying109 Tryz.underlying5 Tryz.underlying9 rfl
 rw [← e3] at hcv
 clear e3
 have hfl : Hid (fieldL c n = [UInt8.ofNat c, UInt8.ofNat (n % 256), UInt8.ofNat (n / 256 % 256)]) := Lib.hid (fieldL_mod c n)
 go_enter Tryz.func159, Tryz.ntmps159
 go_wp2
 go_ret
 exact ⟨ret_str hfl.out.symm, Ext.alloc _ _⟩
theorem field_any (c n : Int) (h0 : 0 ≤ c) (h1 : c < 256) (h2 : 0 ≤ n) (h3 : n ≤ 1000000) (w : World) :
   Calls Tryz.prog 159 #[.int .i64 c, .int .i64 n] w fun e w' => e = .returned (.string ⟨(fieldL c.toNat n.toNat).toArray⟩) ∧ Ext w w' := by
 obtain ⟨c, rfl⟩ := Int.eq_ofNat_of_zero_le h0
 obtain ⟨n, rfl⟩ := Int.eq_ofNat_of_zero_le h2
 rw [Int.toNat_natCast, Int.toNat_natCast]
 exact field_nat c n (by omega) (by omega) w
set_option maxRecDepth 100000 in
theorem zeros_pos (n : Nat) (hp : 0 < n) (hn : n ≤ 1000000) (w : World) :
   Calls Tryz.prog 125 #[.int .i64 n] w fun e w' => e = .returned (.string ⟨(List.replicate n (0 : UInt8)).toArray⟩) ∧ Ext w w' := by
 obtain ⟨i0, hi, hz0, hz1, hz2⟩ := info_parts infoByte
 have hmk := run_make_bytes (P := Tryz.prog) w 109 5 i0 n Tryz.underlying109 hi hz0 hz1 hz2 (by omega)
 have hcv := run_new_string (P := Tryz.prog) w 109 9 5 n n (List.replicate n 0) 5 Tryz.underlying109 Tryz.underlying5 Tryz.underlying9 (by simp)
 clear hi hz0 hz1 hz2
 have h0 : (0 : Int) < n := by omega
 generalize hR : List.replicate n (0 : UInt8) = R at *
 clear hR
 go_enter Tryz.func125, Tryz.ntmps125
 go_wp2
 go_ret
 exact ⟨rfl, Ext.alloc _ _⟩
set_option maxRecDepth 100000 in
theorem zeros_no (n : Int) (hp : n ≤ 0) (w : World) :
   Calls Tryz.prog 125 #[.int .i64 n] w fun e w' => e = .returned (.string ⟨([] : List UInt8).toArray⟩) ∧ Ext w w' := by
 obtain ⟨i0, hi, hz0, hz1, hz2⟩ := info_parts infoByte
 have hmk := run_make_bytes (P := Tryz.prog) w 109 5 i0 0 Tryz.underlying109 hi hz0 hz1 hz2 (by omega)
 have hcv := run_new_string (P := Tryz.prog) w 109 9 5 0 0 [] 5 Tryz.underlying109 Tryz.underlying5 Tryz.underlying9 rfl
 simp only [List.replicate_zero, Int.ofNat_zero] at hmk
 clear hi hz0 hz1 hz2
 generalize hB : byteCells [] = B at *
 clear hB
 go_enter Tryz.func125, Tryz.ntmps125
 go_wp2
 go_ret
 exact ⟨rfl, Ext.alloc _ _⟩
theorem zeros_any (n : Int) (hn : n ≤ 1000000) (w : World) :
   Calls Tryz.prog 125 #[.int .i64 n] w fun e w' => e = .returned (.string ⟨(List.replicate n.toNat (0 : UInt8)).toArray⟩) ∧ Ext w w' := by
 by_cases hp : n ≤ 0
 · have : n.toNat = 0 := by omega
   rw [this]
   exact zeros_no n hp w
 · obtain ⟨k, rfl⟩ := Int.eq_ofNat_of_zero_le (show 0 ≤ n by omega)
   rw [Int.toNat_natCast]
   exact zeros_pos k (by omega) (by omega) w
theorem run_any (p : Option Addr) (cap n m : Nat) (L : List (List UInt8)) (w : World) (hs : Strs w p L) (hn : L.length = n) (hm : Small L) (hat : m < L.length) :
   Calls Tryz.prog 158 #[.slice p n cap, .int .i64 m] w fun e w' => e = .returned (.int .i64 (headRun (L.drop m) : Nat)) ∧ ∃ n, w' = w.drewN n := by
 have hL := hm.1
 subst hn
 obtain ⟨b, off, rfl, hb, hc⟩ := hs.at m hat
 have hcm := hc m hat
 have hlm := hm.at m
 have hR := headRun_eq L m
 generalize hz : L.getD m [] = z at *
 have HZ := Lib.hid hz
 have HC := Lib.hid hc
 have HR := Lib.hid hR
 clear hz hc hs hR
 have hmI : (m : Int) < L.length := by omega
 go_enter Tryz.func158, Tryz.ntmps158
 go_wp2
 go_loopw [5] (fun i wr => ∃ k : Nat, 1 ≤ k ∧ m + k ≤ L.length ∧ i = .int .i64 k ∧ (∀ j, j < k → (L.getD (m + j) []).length = z.length) ∧ ∃ n, wr = w.drewN n) (fun i _ => L.length - (intOf i).toNat)
 case atStart => exact ⟨1, by omega, by omega, rfl, fun j hj => by rw [show m + j = m by omega, HZ.out], 0, rfl⟩
 case round =>
   obtain ⟨k, hk1, hk, rfl, hq, nr, rfl⟩ := hrel
   have h3 : IntKind.i64.wrap ((m : Int) + k) = m + k := IntWalk.i64_in _ (by omega)
   have h4 : (0 : Int) ≤ m + k := by omega
   have h5 : ((m : Int) + k).toNat = m + k := by omega
   by_cases hlt : m + k < L.length
   · have hltI : (m : Int) + k < L.length := by omega
     have hck := HC.out (m + k) hlt
     have hlk := hm.at (m + k)
     have HQ := Lib.hid hq
     clear hq
     generalize hx : L.getD (m + k) [] = x at *
     have HX := Lib.hid hx
     clear hx
     go_wp2
     go_quiet (fail)
     clear h3 h4 h5
     go_wp2
     · have hd : x.length = z.length := by
         have hb : ((x.length : Int) == (z.length : Int)) = true := by assumption
         have := eq_of_beq hb; omega
       go_roundw
       case rel => exact ⟨k + 1, by omega, by omega, by go_num, fun j hj => by
         by_cases h : j < k
         · exact HQ.out j h
         · rw [show j = k by omega, HX.out]; exact hd, nr + nq, rfl⟩
       case measure => simp [intOf]; omega
     · have hd : ¬ x.length = z.length := by
         have hb : ¬ ((x.length : Int) == (z.length : Int)) = true := by first | assumption | (rename_i h; simpa using h)
         intro h; exact hb (by rw [h]; exact beq_self_eq_true _)
       go_ret
       exact ⟨ret_int (by rw [HR.out k hk1 hk HQ.out (fun _ => by rw [HX.out]; exact hd)]), nr + nq, World.drewN_drewN _ _ _⟩
   · have hltI : decide ((m : Int) + k < L.length) = false := by simp; omega
     have HQ := Lib.hid hq
     clear hq
     go_wp2
     go_quiet (fail)
     clear h3 h4 h5
     go_wp2
     go_ret
     exact ⟨ret_int (by rw [HR.out k hk1 hk HQ.out (fun h => absurd h hlt)]), nr + nq, World.drewN_drewN _ _ _⟩
open BigFrame in
set_option maxRecDepth 100000 in
set_option maxHeartbeats 400000 in
theorem fields_any (p : Option Addr) (cap n : Nat) (L : List (List UInt8)) (w : World) (hs : Strs w p L) (hn : L.length = n) (hm : Small L) :
   Calls Tryz.prog 129 #[.slice p n cap] w fun e w' => e = .returned (.string ⟨(fieldsL L).toArray⟩) ∧ Ext w w' := by
 have hL := hm.1
 have hlf := length_fieldsL L
 subst hn
 go_enter Tryz.func129, Tryz.ntmps129
 go_wp2
 go_loopw [3, 4] (fun s i wr => ∃ (k : Nat) (out : List UInt8), k ≤ L.length ∧ i = .int .i64 k ∧ s = .string ⟨out.toArray⟩ ∧ fieldsL L = fieldsL (L.drop k) ++ out ∧ Ext w wr) (fun _ i _ => L.length - (intOf i).toNat)
 case atStart => exact ⟨0, [], by omega, rfl, rfl, by simp, Ext.refl w⟩
 case round =>
   obtain ⟨k, out, hk, rfl, rfl, hf, he⟩ := hrel
   have hlo : out.length ≤ 6 * L.length := by have := congrArg List.length hf; simp at this; omega
   have HF := Lib.hid hf
   clear hf hlf
   by_cases hlt : k < L.length
   · have hD := Lib.hid (fieldsL_drop L k hlt)
     have hr1 := headRun_pos (L.drop k)
     have hr2 : k + headRun (L.drop k) ≤ L.length := by
       rw [List.drop_eq_getElem_cons hlt]; have := headRun_le L[k] (L.drop (k + 1)); rw [← List.drop_eq_getElem_cons hlt] at *; simp at this; omega
     have hs' := Lib.hid (hs.ext he)
     obtain ⟨b, off, rfl, hb, hc⟩ := (hs.ext he).at k hlt
     have hck := hc k hlt
     have hlk := hm.at k
     have HSm := Lib.hid hm
     clear hc hs hm
     have hrun := run_any (some ⟨b, off, none⟩) cap L.length k L
     generalize headRun (L.drop k) = r at *
     have Hrun := Lib.hid hrun
     clear hrun
     have hltI : (k : Int) < L.length := by omega
     generalize hx : L.getD k [] = x at *
     clear hx
     by_cases hr : 1 < r
     · have hrI : (1 : Int) < r := by omega
       have HFin : Hid (fieldsL L = fieldsL (L.drop (k + r)) ++ (fieldL 8 r ++ fieldL 64 x.length ++ out)) := Lib.hid (by
         rw [HF.out, hD.out, runField, if_pos hr]; simp)
       clear hD HF
       go_wp2_with (go_at_call 158; refine (Hrun.out _ hs'.out rfl HSm.out hlt).mono ?_; rintro e w' ⟨rfl, nq, rfl⟩)
       refine wp_region_ext (Ext.drewN wr nq) (by kernel_rfl) (by kernel_rfl) ?_
       repeat (go_big_quiet_step (refine ext_of (field_any _ _ (by omega) (by omega) (by omega) (by omega) _)))
       refine wpQuiet_nil ?_
       rintro w2 ⟨⟨w2, he2⟩, rfl⟩
       go_wp2
       go_roundw
       case rel => exact ⟨k + r, fieldL 8 r ++ (fieldL 64 x.length ++ out), by omega, by go_num, rfl, by rw [HFin.out]; simp, he.trans he2⟩
       case measure => simp [intOf]; omega
     · have hr' : r = 1 := by omega
       subst hr'
       have HFin : Hid (fieldsL L = fieldsL (L.drop (k + 1)) ++ (fieldL 0 x.length ++ out)) := Lib.hid (by
         rw [HF.out, hD.out, runField, if_neg hr]; simp)
       clear hD HF
       go_wp2_with (first | (go_at_call 158; refine (Hrun.out _ hs'.out rfl HSm.out hlt).mono ?_; rintro e w' ⟨rfl, nq, rfl⟩) | (go_at_call 159; refine (field_any _ _ (by omega) (by omega) (by omega) (by omega) _).mono ?_; rintro e w2 ⟨rfl, he2⟩))
       go_roundw
       case rel => exact ⟨k + 1, fieldL 0 x.length ++ out, by omega, by go_num, rfl, HFin.out, he.trans ((Ext.drewN _ _).trans he2)⟩
       case measure => simp [intOf]; omega
   · go_wp2
     go_ret
     have hF := HF.out
     rw [List.drop_eq_nil_of_le (by omega), fieldsL_nil, List.nil_append] at hF
     exact ⟨ret_str hF.symm, he⟩
theorem sumLen_le (L : List (List UInt8)) (hm : Small L) : sumLen L ≤ 1000000 * L.length := by
 obtain ⟨_, h⟩ := hm
 induction L with
 | nil => simp [sumLen]
 | cons x L ih =>
   have := ih (by simp at *; omega) (fun s hs => h s (by simp [hs]))
   have := h x (by simp)
   simp [sumLen] at *; omega
theorem sumLen_take (L : List (List UInt8)) (k : Nat) (hk : k < L.length) : sumLen (L.take (k + 1)) = sumLen (L.take k) + (L.getD k []).length := by
 rw [List.take_succ_eq_append_getElem hk]; unfold sumLen; rw [List.map_append, List.sum_append]; simp [List.getD, hk]
theorem sumLen_take_le (L : List (List UInt8)) (k : Nat) : sumLen (L.take k) ≤ sumLen L := by
 induction L generalizing k with
 | nil => simp
 | cons x L ih => cases k with
   | zero => simp [sumLen]
   | succ k => have := ih k; simp [sumLen] at *; omega
theorem flatten_take (L : List (List UInt8)) (k : Nat) (hk : k < L.length) : (L.take (k + 1)).flatten = (L.take k).flatten ++ L.getD k [] := by
 rw [List.take_succ_eq_append_getElem hk, List.flatten_append]; simp [List.getD, hk]
theorem length_flatten_sum (L : List (List UInt8)) : L.flatten.length = sumLen L := by simp [sumLen, List.length_flatten]
set_option maxRecDepth 100000 in
theorem join_any (p : Option Addr) (cap n : Nat) (L : List (List UInt8)) (w : World) (hs : Strs w p L) (hn : L.length = n) (hm : Small L) :
   Calls Tryz.prog 128 #[.slice p n cap] w fun e w' => e = .returned (.string ⟨L.flatten.toArray⟩) ∧ w = w' := by
 have hL := hm.1
 have hsum := sumLen_le L hm
 subst hn
 go_enter Tryz.func128, Tryz.ntmps128
 go_wp2
 go_loop [3, 4] (fun s i => ∃ k : Nat, k ≤ L.length ∧ i = .int .i64 k ∧ s = .string ⟨(L.take k).flatten.toArray⟩) (fun _ i => L.length - (intOf i).toNat)
 case atStart => exact ⟨0, Nat.zero_le _, rfl, rfl⟩
 case round =>
   obtain ⟨k, hk, rfl, rfl⟩ := hrel
   have hlo : (L.take k).flatten.length ≤ sumLen L := by rw [length_flatten_sum]; exact sumLen_take_le L k
   by_cases hlt : k < L.length
   · obtain ⟨b, off, rfl, hb, hc⟩ := hs.at k hlt
     have hck := hc k hlt
     have hls := hm.at k
     have HS := Lib.hid (flatten_take L k hlt)
     clear hc hs hm
     generalize hx : L.getD k [] = s at *
     clear hx
     generalize (L.take k).flatten = o at *
     have hltI : (k : Int) < L.length := by omega
     go_wp2
     go_round
     case rel => exact ⟨k + 1, by omega, by go_num, by rw [HS.out]⟩
     case measure => simp [intOf]; omega
   · have e : (L.take k).flatten = L.flatten := by rw [List.take_of_length_le (by omega)]
     rw [e]
     clear hlo e
     have hltI : ¬ (k : Int) < L.length := by omega
     go_wp2
     go_ret
     exact ⟨rfl, rfl⟩
set_option maxRecDepth 100000 in
theorem Size_ref (p : Option Addr) (cap n : Nat) (L : List (List UInt8)) (w : World) (hs : Strs w p L) (hn : L.length = n) (hm : Small L) :
   Calls Tryz.prog 85 #[.slice p n cap] w fun e w' => e = .returned (.int .i64 (sizeL L : Nat)) ∧ Ext w w' := by
 have hL := hm.1
 have hsum := sumLen_le L hm
 have hfl := length_fieldsL L
 subst hn
 go_enter Tryz.func85, Tryz.ntmps85
 have Hs := Lib.hid hs
 have Hm := Lib.hid hm
 clear hs hm
 go_wp2_with (go_at_call 129; refine (fields_any p cap _ L _ Hs.out rfl Hm.out).mono ?_; rintro e w1 ⟨rfl, he⟩)
 go_loop [3, 4] (fun s i => ∃ k : Nat, k ≤ L.length ∧ i = .int .i64 k ∧ s = .int .i64 (4 + (fieldsL L).length + sumLen (L.take k) : Nat)) (fun _ i => L.length - (intOf i).toNat)
 case atStart => exact ⟨0, Nat.zero_le _, rfl, by simp [sumLen]⟩
 case round =>
   obtain ⟨k, hk, rfl, rfl⟩ := hrel
   have hlo := sumLen_take_le L k
   by_cases hlt : k < L.length
   · obtain ⟨b, off, rfl, hb, hc⟩ := (Hs.out.ext he).at k hlt
     have hck := hc k hlt
     have hls := Hm.out.at k
     have HS := Lib.hid (sumLen_take L k hlt)
     clear hc
     generalize hx : L.getD k [] = s at *
     clear hx
     generalize sumLen (L.take k) = o at *
     have hltI : (k : Int) < L.length := by omega
     go_wp2
     go_round
     case rel => exact ⟨k + 1, by omega, by go_num, by rw [HS.out]; go_num⟩
     case measure => simp [intOf]; omega
   · have hltI : ¬ (k : Int) < L.length := by omega
     have e : sumLen (L.take k) = sumLen L := by rw [List.take_of_length_le (by omega)]
     rw [e]
     clear e hlo
     go_wp2
     go_ret
     exact ⟨ret_int (by simp [sizeL]), he⟩
theorem Fits_ref (p : Option Addr) (cap n : Nat) (L : List (List UInt8)) (size : Int) (w : World) (hs : Strs w p L) (hn : L.length = n) (hm : Small L) :
   Calls Tryz.prog 41 #[.int .i64 size, .slice p n cap] w fun e w' => e = .returned (.bool (isSizeB size && allowedB L && decide ((sizeL L : Int) ≤ size))) ∧ Ext w w' := by
 by_cases h1 : isSizeB size = true
 · by_cases h2 : allowedB L = true
   · go_enter Tryz.func41, Tryz.ntmps41
     go_wp2_with (first | (go_at_call 75; refine (IsSize_any _ _).mono ?_; rintro e w' ⟨rfl, rfl⟩) | (go_at_call 84; refine (Allowed_any _ _ _ L _ hs hn hm).mono ?_; rintro e w' ⟨rfl, rfl⟩) | (go_at_call 85; refine (Size_ref _ _ _ L _ hs hn hm).mono ?_; rintro e w' ⟨rfl, he⟩))
     go_ret
     exact ⟨ret_bool (by rw [h1, h2]; simp), he⟩
   · have h2' : allowedB L = false := by simpa using h2
     clear h2
     go_enter Tryz.func41, Tryz.ntmps41
     go_wp2_with (first | (go_at_call 75; refine (IsSize_any _ _).mono ?_; rintro e w' ⟨rfl, rfl⟩) | (go_at_call 84; refine (Allowed_any _ _ _ L _ hs hn hm).mono ?_; rintro e w' ⟨rfl, rfl⟩))
     go_ret
     exact ⟨ret_bool (by rw [h1, h2']; simp), Ext.refl _⟩
 · have h1' : isSizeB size = false := by simpa using h1
   clear h1
   go_enter Tryz.func41, Tryz.ntmps41
   go_wp2_with (go_at_call 75; refine (IsSize_any _ _).mono ?_; rintro e w' ⟨rfl, rfl⟩)
   go_ret
   exact ⟨ret_bool (by rw [h1']; simp), Ext.refl _⟩
set_option maxRecDepth 100000 in
theorem Unused_ref (l : List UInt8) (hl : l.length ≤ 1000000) (w : World) :
   Calls Tryz.prog 79 #[.string ⟨l.toArray⟩] w fun e w' => e = .returned (.bool (l == List.replicate l.length 0)) ∧ Ext w w' := by
 have hz := zeros_any l.length (by omega)
 simp only [Int.toNat_natCast] at hz
 generalize List.replicate l.length (0 : UInt8) = z at *
 have Hz := Lib.hid hz
 clear hz
 go_enter Tryz.func79, Tryz.ntmps79
 go_wp2_with (go_at_call 125; refine (Hz.out _).mono ?_; rintro e w' ⟨rfl, he⟩)
 go_ret
 exact ⟨rfl, he⟩
set_option maxRecDepth 100000 in
set_option maxHeartbeats 1000000 in
theorem whole_any (size : Nat) (c f : List UInt8) (h : 4 + c.length + f.length ≤ size) (h2 : size ≤ 512) (w : World) :
   Calls Tryz.prog 127 #[.int .i64 size, .string ⟨c.toArray⟩, .string ⟨f.toArray⟩] w fun e w' => e = .returned (.string ⟨(wholeL size c f).toArray⟩) ∧ Ext w w' := by
 obtain ⟨g, hg⟩ : ∃ g, size = 4 + c.length + f.length + g := ⟨size - (4 + c.length + f.length), by omega⟩
 subst hg
 have hW : Hid (wholeL (4 + c.length + f.length + g) c f = c ++ List.replicate g 0 ++ f ++ tailL c.length g) := Lib.hid (by
   have : 4 + c.length + f.length + g - 4 - c.length - f.length = g := by omega
   simp [wholeL, this])
 have hz := zeros_any g (by omega)
 simp only [Int.toNat_natCast] at hz
 have hzl : (List.replicate g (0 : UInt8)).length = g := by simp
 generalize List.replicate g (0 : UInt8) = z at *
 have Hz := Lib.hid hz
 clear hz
 have hzl' : z.length ≤ 512 := by omega
 have HZ := Lib.hid hzl
 clear hzl
 go_enter Tryz.func127, Tryz.ntmps127
 go_wp2
 rw [show (4 + (c.length : Int) + f.length + g - 4 - c.length - f.length) = g from by omega]
 obtain ⟨x1, x2, a1, a2, b1, b2, b3, b4, c1, c2⟩ := two_parts c.length (by omega)
 obtain ⟨x3, x4, a3, a4, b5, b6, b7, b8, c3, c4⟩ := two_parts g (by omega)
 have hcv : ∀ (W : World) (b : Nat), Blk W b (.cells #[.int .u8 x1, .int .u8 x2, .int .u8 x3, .int .u8 x4] 5) →
     (convert 109 9 (.slice (some ⟨b, 0, none⟩) 4 4)).run Tryz.prog W = .ok (.string ⟨(tailL c.length g).toArray⟩) W := fun W b h =>
   run_row_string W _ _ 5 b 4 4 (tailL c.length g) 5 (0, 0) Tryz.underlying109 Tryz.underlying5 Tryz.underlying9
     (by unfold Blk at h; rw [h, byteCells4 x1 x2 x3 x4 a1 a2 a3 a4, c1, c2, c3, c4]; rfl) rfl
 have htl : (tailL c.length g).length = 4 := rfl
 generalize tailL c.length g = tl at *
 have HT := Lib.hid htl
 have htl' : tl.length ≤ 4 := by omega
 clear c1 c2 c3 c4 htl
 refine wp_region_mk 200 (Ext.refl w) (by kernel_rfl) (by kernel_rfl) (by kernel_rfl) ?_
 simp only [List.take_succ_cons, List.take_zero, List.take_nil, List.drop_succ_cons, List.drop_zero, List.drop_nil, List.map_cons, List.map_nil]
 repeat (first
   | (refine wpML_move _ _ rfl (by first | exact .inl rfl | exact .inr rfl) rfl (by first | exact Is.stable _ | exact Fresh.stable _ _ _) ?_
      simp only [setL, List.set_cons_succ, List.set_cons_zero, List.getD_cons_succ, List.getD_cons_zero])
   | (refine wpML_moveC _ rfl (by first | exact .inl rfl | exact .inr rfl) ?_
      simp only [setL, List.set_cons_succ, List.set_cons_zero])
   | (apply wpML_det rfl
      · intro a w' he hr K hK
        simp [Reads, Oper.looksAt, Op.operands, Call.operands, factAt, Is] at hr
        have hx := he.cell
        go_simp
        try go_bits
        try (rw [if_neg (by omega)]; go_simp)
        first
          | exact hK _ (Ext.refl _)
          | (refine (Hz.out _).mono ?_; rintro e w' ⟨rfl, he'⟩; exact hK _ he')
      simp only [setL, List.set_cons_succ, List.set_cons_zero])
   | (refine wpML_fact (Fresh 4 4 (.cells #[.int .u8 x1, .int .u8 x2, .int .u8 x3, .int .u8 x4] 5)) (Fresh.stable _ _ _) rfl ?_ ?_
      · intro a w' he hr K hK
        simp [Reads, Oper.looksAt, Op.operands, Call.operands, factAt, Is] at hr
        go_simp
        exact hK _ _ (Ext.alloc _ _) (Fresh.new _ _ _ _)
      simp only [setL, List.set_cons_succ, List.set_cons_zero])
   | (apply wpML_det rfl
      · intro a w' he hr K hK
        simp [Reads, Oper.looksAt, Op.operands, Call.operands, factAt, Fresh] at hr
        obtain ⟨b, hr1, hr2⟩ := hr
        go_simp
        exact hK _ (Ext.refl _)
      simp only [setL, List.set_cons_succ, List.set_cons_zero]))
 intro w2 he2
 repeat (first | with_reducible refine rest_is _ _ _ _ ?_ | (with_reducible refine rest_fact _ _ _ _ ?_; intro _ _) | with_reducible refine rest_end _ _ ?_)
 simp only [List.reverse_cons, List.reverse_nil, List.nil_append, List.cons_append]
 go_wp2
 go_ret
 exact ⟨ret_str (by rw [hW.out]; simp), he2⟩
theorem ret_tup {a b : List UInt8} {x y : Int} (h1 : a = b) (h2 : x = y) : Ending.returned (.tuple #[.string ⟨a.toArray⟩, .int .i64 x]) = .returned (.tuple #[.string ⟨b.toArray⟩, .int .i64 y]) := by rw [h1, h2]
set_option maxRecDepth 100000 in
theorem Encode_ref (p : Option Addr) (cap n : Nat) (L : List (List UInt8)) (size : Int) (w : World) (hs : Strs w p L) (hn : L.length = n) (hm : Small L) :
   Calls Tryz.prog 81 #[.int .i64 size, .slice p n cap] w fun e w' => e = .returned (.tuple #[.string ⟨(encStr size L).toArray⟩, .int .i64 (encErr size L)]) ∧ Ext w w' := by
 by_cases h1 : isSizeB size = true
 · by_cases h2 : allowedB L = true
   · by_cases h3 : size < sizeL L
     · have HE : Hid (encErr size L = 8) := Lib.hid (by simp [encErr, h1, h2, h3])
       have HS : Hid (encStr size L = []) := Lib.hid (by simp [encStr, HE.out])
       go_enter Tryz.func81, Tryz.ntmps81
       go_wp2_with (first | (go_at_call 75; refine (IsSize_any _ _).mono ?_; rintro e w' ⟨rfl, rfl⟩) | (go_at_call 84; refine (Allowed_any _ _ _ L _ hs hn hm).mono ?_; rintro e w' ⟨rfl, rfl⟩) | (go_at_call 85; refine (Size_ref _ _ _ L _ hs hn hm).mono ?_; rintro e w' ⟨rfl, he⟩))
       go_ret2
       exact ⟨ret_tup HS.out.symm HE.out.symm, he⟩
     · have h3' : (sizeL L : Int) ≤ size := by omega
       clear h3
       have HE : Hid (encErr size L = 0) := Lib.hid (by simp [encErr, h1, h2]; omega)
       have HS : Hid (encStr size L = wholeL size.toNat L.flatten (fieldsL L)) := Lib.hid (by simp [encStr, HE.out])
       have hsz : 4 + L.flatten.length + (fieldsL L).length ≤ size.toNat := by
         have := h3'; rw [length_flatten_sum]; unfold sizeL at this; omega
       obtain ⟨k, rfl, hk⟩ := isSize_nat h1
       rw [Int.toNat_natCast] at hsz HS
       have hW := whole_any k L.flatten (fieldsL L) hsz (by omega)
       have HW := Lib.hid hW
       have Hs := Lib.hid hs
       clear hsz hW hs
       go_enter Tryz.func81, Tryz.ntmps81
       go_wp2_with (first | (go_at_call 75; refine (IsSize_any _ _).mono ?_; rintro e w' ⟨rfl, rfl⟩) | (go_at_call 84; refine (Allowed_any _ _ _ L _ Hs.out hn hm).mono ?_; rintro e w' ⟨rfl, rfl⟩) | (go_at_call 85; refine (Size_ref _ _ _ L _ Hs.out hn hm).mono ?_; rintro e w1 ⟨rfl, he1⟩) | (go_at_call 128; refine (join_any _ _ _ L _ (Hs.out.ext he1) hn hm).mono ?_; rintro e w' ⟨rfl, rfl⟩) | (go_at_call 129; refine (fields_any _ _ _ L _ (Hs.out.ext he1) hn hm).mono ?_; rintro e w2 ⟨rfl, he2⟩) | (go_at_call 127; refine (HW.out _).mono ?_; rintro e w3 ⟨rfl, he3⟩))
       go_ret2
       exact ⟨ret_tup HS.out.symm HE.out.symm, he1.trans (he2.trans he3)⟩
   · have h2' : allowedB L = false := by simpa using h2
     clear h2
     have HE : Hid (encErr size L = 2) := Lib.hid (by simp [encErr, h1, h2'])
     have HS : Hid (encStr size L = []) := Lib.hid (by simp [encStr, HE.out])
     go_enter Tryz.func81, Tryz.ntmps81
     go_wp2_with (first | (go_at_call 75; refine (IsSize_any _ _).mono ?_; rintro e w' ⟨rfl, rfl⟩) | (go_at_call 84; refine (Allowed_any _ _ _ L _ hs hn hm).mono ?_; rintro e w' ⟨rfl, rfl⟩))
     go_ret2
     exact ⟨ret_tup HS.out.symm HE.out.symm, Ext.refl _⟩
 · have h1' : isSizeB size = false := by simpa using h1
   clear h1
   have HE : Hid (encErr size L = 1) := Lib.hid (by simp [encErr, h1'])
   have HS : Hid (encStr size L = []) := Lib.hid (by simp [encStr, HE.out])
   go_enter Tryz.func81, Tryz.ntmps81
   go_wp2_with (go_at_call 75; refine (IsSize_any _ _).mono ?_; rintro e w' ⟨rfl, rfl⟩)
   go_ret2
   exact ⟨ret_tup HS.out.symm HE.out.symm, Ext.refl _⟩
end Go.Proofs.YtifmbcjbccedfaaGreatDoor
namespace Go.Proofs.YtifmbcjbccedfaaGreatDoor
open Go.RowKit Dsd
structure Doer (f : FuncId) (caps : Array Value) (p : Option Addr) (L : List (List UInt8)) (I : List (Nat × Nat) → World → Prop) : Prop where
 call : ∀ args W, (callFunc f args).run Tryz.prog W = .ok (.enter f args) W
 drawn : ∀ done W n, I done W → I done (W.drewN n)
 reads : ∀ done W, I done W → Strs W p L
 step : ∀ done n len rest W, runsL L = done ++ (n, len) :: rest → I done W → Calls Tryz.prog f (#[.int .i64 (n : Nat), .int .i64 (len : Nat)] ++ caps) W fun e W' => e = .returned (.tuple #[]) ∧ I (done ++ [(n, len)]) W'
theorem runs_drop (L : List (List UInt8)) (k : Nat) (hk : k < L.length) : runsL (L.drop k) = (headRun (L.drop k), (L.getD k []).length) :: runsL (L.drop (k + headRun (L.drop k))) := by
 have e : L.drop k = L[k] :: L.drop (k + 1) := List.drop_eq_getElem_cons hk
 have h := runsL_cons L[k] (L.drop (k + 1))
 rw [← e] at h
 rw [h, List.drop_drop]
 simp [List.getD, hk]
theorem headRun_drop_le (L : List (List UInt8)) (k : Nat) (hk : k < L.length) : k + headRun (L.drop k) ≤ L.length := by
 rw [List.drop_eq_getElem_cons hk]
 have := headRun_le L[k] (L.drop (k + 1))
 rw [← List.drop_eq_getElem_cons hk] at *
 simp at this; omega
theorem headRun_eq0 (L : List (List UInt8)) (k : Nat) (h1 : 1 ≤ k) (h2 : k ≤ L.length) (h3 : ∀ j, j < k → (L.getD j []).length = (L.getD 0 []).length)
   (h4 : k < L.length → (L.getD k []).length ≠ (L.getD 0 []).length) : headRun L = k := by
 have := headRun_eq L 0 k h1 (by omega) (by simpa using h3) (by simpa using h4)
 simpa using this
set_option maxRecDepth 100000 in
set_option maxHeartbeats 1000000 in
theorem runs_any (f : FuncId) (caps : Array Value) (p : Option Addr) (n cap : Nat) (L : List (List UInt8)) (I : List (Nat × Nat) → World → Prop) (hD : Doer f caps p L I) (hn : L.length = n) (hcap : n ≤ cap) (hcm : cap ≤ maxLen) (hm : Small L) (w : World) (hI : I [] w) :
   Calls Tryz.prog 96 #[.slice p n cap, .func (.func f) #[] caps] w fun e w' => e = .returned (.tuple #[]) ∧ I (runsL L) w' := by
 have hL := hm.1
 subst hn
 unfold maxLen at hcm
 go_enter Tryz.func96, Tryz.ntmps96
 go_wp2
 go_loopw [0] (fun s wr => ∃ (k : Nat) (done : List (Nat × Nat)) (q : Option Addr), k ≤ L.length ∧ s = .slice q (L.length - k) (cap - k) ∧ runsL L = done ++ runsL (L.drop k) ∧ I done wr ∧ ∀ W, Strs W p L → Strs W q (L.drop k)) (fun s _ => match s with | .slice _ m _ => m | _ => 0)
 case atStart => exact ⟨0, [], p, Nat.zero_le _, by simp, by simp, hI, fun W h => by simpa using h⟩
 case round =>
   obtain ⟨k, done, q, hk, rfl, hr, hIr, hqq⟩ := hrel
   have hq := hqq _ (hD.reads _ _ hIr)
   by_cases hlt : k < L.length
   · have hlM : (L.drop k).length = L.length - k := by simp
     have hmM : ∀ i, ((L.drop k).getD i []).length ≤ 1000000 := fun i => by have := hm.at (k + i); simpa [List.getD] using this
     have hrd := runs_drop L k hlt
     have hle := headRun_drop_le L k hlt
     have h0 : L.getD k [] = (L.drop k).getD 0 [] := by simp [List.getD]
     rw [h0] at hrd
     have hrw := hr
     rw [hrd] at hrw
     have hhr := headRun_eq0 (L.drop k)
     have HQ := Lib.hid hq
     have HQQ := Lib.hid hqq
     have Hk1 := Lib.hid hrw
     have Hhr := Lib.hid hhr
     generalize headRun (L.drop k) = R at *
     generalize hMM : L.drop k = M at *
     have HM := Lib.hid hMM
     have Hk2 := Lib.hid hlM
     have hm0 : 0 < L.length - k := by omega
     have hcc : L.length - k ≤ cap - k := by omega
     have hcc2 : cap - k ≤ 9223372036854775807 := by omega
     have hmL : L.length - k ≤ 1000000 := by omega
     generalize hmm : L.length - k = m at *
     generalize hcc' : cap - k = c at *
     have Hm := Lib.hid hmm
     have Hc := Lib.hid hcc'
     obtain ⟨b, off, rfl, hb, hc⟩ := HQ.out.at 0 (by have := Hk2.out; omega)
     have HC := Lib.hid hc
     have HmM := Lib.hid hmM
     have hc0 := hc 0 (by have := Hk2.out; omega)
     have hl0 := hmM 0
     generalize hz : M.getD 0 [] = z at *
     have HZ := Lib.hid hz
     simp only [Nat.add_zero] at hc0
     have HI := Lib.hid hIr
     have hcall := hD.call
     have Hstep := Lib.hid hD.step
     have Hdrawn := Lib.hid hD.drawn
     have Hreads := Lib.hid hD.reads
     clear hc hq hIr hrw hr hrd hhr hmM hlM hz h0 hle hm hD hMM hmm hcc' hqq
     have hm0I : (0 : Int) < m := by omega
     go_wp2
     obtain ⟨wo, rfl⟩ : ∃ wo : World, wo = wr := ⟨_, rfl⟩
     go_loopw [4] (fun s wi => ∃ j : Nat, 1 ≤ j ∧ j ≤ m ∧ s = .int .i64 j ∧ (∀ i, i < j → (M.getD i []).length = z.length) ∧ ∃ n, wi = wo.drewN n) (fun s _ => m - (intOf s).toNat)
     case atStart => exact ⟨1, by omega, by omega, rfl, fun i hi => by rw [show i = 0 by omega, HZ.out], 0, rfl⟩
     case round =>
       obtain ⟨j, hj1, hj2, rfl, hall, nr, rfl⟩ := hrel
       have HA := Lib.hid hall
       clear hall
       by_cases hjm : j < m
       · have hjI : (j : Int) < m := by omega
         have hcj := HC.out j (by have := Hk2.out; omega)
         have hlj := HmM.out j
         generalize hx : M.getD j [] = x at *
         have HX := Lib.hid hx
         clear hx
         go_wp2
         go_quiet (fail)
         go_wp2_with fail
         · have hd : x.length = z.length := by
             have hb : ((x.length : Int) == (z.length : Int)) = true := by assumption
             have := eq_of_beq hb; omega
           go_roundw
           case rel => exact ⟨j + 1, by omega, by omega, by go_num, fun i hi => by
             by_cases h : i < j
             · exact HA.out i h
             · rw [show i = j by omega, HX.out]; exact hd, nr + nq, rfl⟩
           case measure => simp [intOf]; omega
         · have hd : ¬ x.length = z.length := by
             have hb : ((x.length : Int) == (z.length : Int)) = false := by assumption
             intro h; rw [h] at hb; simp at hb
           have hRj : R = j := Hhr.out j hj1 (by have := Hk2.out; omega) HA.out (fun h0 => by rw [HX.out]; exact hd)
           have HK : Hid (runsL L = (done ++ [(j, z.length)]) ++ runsL (L.drop (k + j))) := Lib.hid (by rw [Hk1.out, hRj]; simp)
           refine (Hstep.out done j z.length _ _ (by rw [Hk1.out, hRj]) (Hdrawn.out _ _ _ HI.out)).mono ?_
           rintro e w1 ⟨rfl, hI1⟩
           have HI1 := Lib.hid hI1
           clear hI1 hRj
           have HD2 : Hid (L.drop (k + j) = M.drop j) := Lib.hid (by rw [← HM.out, List.drop_drop])
           by_cases hjc : (j : Int) < c
           · go_wp2
             go_roundw
             case rel => exact ⟨k + j, done ++ [(j, z.length)], some ⟨b, off + j, none⟩, by have := Hm.out; omega, by have := Hm.out; have := Hc.out; congr 1 <;> omega, HK.out, HI1.out, fun W h => by rw [HD2.out]; exact (HQQ.out W h).drop j⟩
             case measure => simp; omega
           · have hjc2 : ¬ j < c := by omega
             go_wp2
             go_roundw
             case rel => exact ⟨k + j, done ++ [(j, z.length)], some ⟨b, off, none⟩, by have := Hm.out; omega, by have := Hm.out; have := Hc.out; congr 1 <;> omega, HK.out, HI1.out, fun W h => by rw [HD2.out, List.drop_eq_nil_of_le (by have := Hk2.out; omega)]; exact .inl rfl⟩
             case measure => simp; omega
       · have hjI : decide ((j : Int) < m) = false := by simp; omega
         go_wp2
         go_quiet (fail)
         go_wp2_with fail
         have hRj : R = j := Hhr.out j hj1 (by have := Hk2.out; omega) HA.out (fun h0 => by have := Hk2.out; omega)
         have HK : Hid (runsL L = (done ++ [(j, z.length)]) ++ runsL (L.drop (k + j))) := Lib.hid (by rw [Hk1.out, hRj]; simp)
         refine (Hstep.out done j z.length _ _ (by rw [Hk1.out, hRj]) (Hdrawn.out _ _ _ HI.out)).mono ?_
         rintro e w1 ⟨rfl, hI1⟩
         have HI1 := Lib.hid hI1
         clear hI1 hRj
         have HD2 : Hid (L.drop (k + j) = M.drop j) := Lib.hid (by rw [← HM.out, List.drop_drop])
         by_cases hjc : (j : Int) < c
         · go_wp2
           go_roundw
           case rel => exact ⟨k + j, done ++ [(j, z.length)], some ⟨b, off + j, none⟩, by have := Hm.out; omega, by have := Hm.out; have := Hc.out; congr 1 <;> omega, HK.out, HI1.out, fun W h => by rw [HD2.out]; exact (HQQ.out W h).drop j⟩
           case measure => simp; omega
         · have hjc2 : ¬ j < c := by omega
           go_wp2
           go_roundw
           case rel => exact ⟨k + j, done ++ [(j, z.length)], some ⟨b, off, none⟩, by have := Hm.out; omega, by have := Hm.out; have := Hc.out; congr 1 <;> omega, HK.out, HI1.out, fun W h => by rw [HD2.out, List.drop_eq_nil_of_le (by have := Hk2.out; omega)]; exact .inl rfl⟩
           case measure => simp; omega
   · have hkk : k = L.length := by omega
     have HK : Hid (runsL L = done) := Lib.hid (by rw [hr, hkk, List.drop_length]; simp [runsL])
     have hz : L.length - k = 0 := by omega
     rw [hz]
     have HI := Lib.hid hIr
     clear hr hIr hqq hq hD hkk hz
     go_wp2
     go_end0
     exact ⟨rfl, by rw [HK.out]; exact HI.out⟩
end Go.Proofs.YtifmbcjbccedfaaGreatDoor
namespace Go.Proofs.YtifmbcjbccedfaaGreatDoor
open Go.RowKit Dsd
theorem setCell_int {W : World} {x : Addr} {a b : Int} (h : a = b) : W.setCell x (.int .i64 a) = W.setCell x (.int .i64 b) := by rw [h]
set_option maxRecDepth 100000 in
theorem Size1_any (n len s : Nat) (b : Nat) (W : World) (hs : s + cost (n, len) ≤ 10000000000000) (hn : n ≤ 1000000) (hc : W.cell? ⟨b, 0, none⟩ = some (.int .i64 s)) (hf : W.frozen? ⟨b, 0, none⟩ = false) :
   Calls Tryz.prog 130 #[.int .i64 n, .int .i64 len, .pointer (some ⟨b, 0, none⟩)] W fun e W' => e = .returned (.tuple #[]) ∧ W' = W.setCell ⟨b, 0, none⟩ (.int .i64 (s + cost (n, len) : Nat)) := by
 unfold cost at hs ⊢
 simp only at hs ⊢
 obtain ⟨q, hq⟩ : ∃ q, q = n * len := ⟨_, rfl⟩
 rw [← hq] at hs ⊢
 have hw : IntKind.i64.wrap ((n : Int) * len) = (q : Int) := by
   have : ((n : Int) * len) = ((n * len : Nat) : Int) := by simp
   rw [this, ← hq]; exact IntWalk.i64_in _ (by omega)
 clear hq
 by_cases h2 : (n : Int) < 2
 · have hm : Hid (3 * min n 2 = 3 * n) := Lib.hid (by omega)
   go_enter Tryz.func130, Tryz.ntmps130
   go_wp2
   go_end0
   exact ⟨rfl, setCell_int (by have := hm.out; omega)⟩
 · have hm : Hid (3 * min n 2 = 6) := Lib.hid (by omega)
   go_enter Tryz.func130, Tryz.ntmps130
   go_wp2
   all_goals
     go_end0
     exact ⟨rfl, setCell_int (by have := hm.out; omega)⟩
def SizeI (w : World) (done : List (Nat × Nat)) (W : World) : Prop :=
 Ext w W ∧ w.heap.size < W.heap.size ∧ W.cell? ⟨w.heap.size, 0, none⟩ = some (.int .i64 (4 + costs done : Nat)) ∧ W.frozen? ⟨w.heap.size, 0, none⟩ = false
theorem size_doer (p : Option Addr) (L : List (List UInt8)) (w : World) (hs : Strs w p L) (hm : Small L) : Doer 130 #[.pointer (some ⟨w.heap.size, 0, none⟩)] p L (SizeI w) where
 call := fun args W => by simp [callFunc, Tryz.func130]; kernel_rfl
 drawn := fun done W n ⟨h1, h2, h3, h4⟩ => ⟨h1.trans (Ext.drewN W n), h2, h3, h4⟩
 reads := fun done W h => hs.ext h.1
 step := fun done n len rest W hr ⟨h1, h2, h3, h4⟩ => by
   have hle := costs_le L done ((n, len) :: rest) hr
   have hsz : sizeL L ≤ 4 + 6 * L.length + 1000000 * L.length := by have := length_fieldsL L; have := sumLen_le L hm; unfold sizeL; omega
   have hL := hm.1
   have hc : costs ((n, len) :: rest) = cost (n, len) + costs rest := by simp [costs]
   have hrun := runs_count (runsL L) (runs_pos L)
   rw [flatRuns_runs, List.length_map] at hrun
   have hn := hrun.2 (n, len) (by rw [hr]; simp)
   refine (Size1_any n len (4 + costs done) w.heap.size W (by omega) (by simpa using Nat.le_trans hn hL) h3 h4).mono ?_
   rintro e W' ⟨rfl, rfl⟩
   refine ⟨rfl, ?_, by simpa using h2, ?_, by simpa using h4⟩
   · exact Below.setCell h1 (Nat.le_refl _) _
   · rw [World.cell?_setCell_same _ _ _ h3, costs_append]
     simp [costs, Nat.add_assoc]
theorem cell_new0 (w : World) (v : Value) (t : TypeId) : (w.alloc (.cells #[v] t)).cell? ⟨w.heap.size, 0, none⟩ = some v := by
 have h := heap_alloc_new w (.cells #[v] t)
 unfold World.cell?; rw [h]; rfl
theorem frozen_new0 (w : World) (v : Value) (t : TypeId) (i : Nat) : (w.alloc (.cells #[v] t)).frozen? ⟨w.heap.size, i, none⟩ = false := by
 have h := heap_alloc_new w (.cells #[v] t)
 unfold World.frozen?; rw [h]; simp
theorem sizeI_start (w : World) (t : TypeId) : SizeI w [] (w.alloc (.cells #[.int .i64 4] t)) := ⟨Ext.alloc _ _, by simp, cell_new0 _ _ _, frozen_new0 _ _ _ _⟩
set_option maxRecDepth 100000 in
theorem Size_any (p : Option Addr) (cap n : Nat) (L : List (List UInt8)) (w : World) (hs : Strs w p L) (hn : L.length = n) (hcap : n ≤ cap) (hcm : cap ≤ maxLen) (hm : Small L) :
   Calls Tryz.prog 83 #[.slice p n cap] w fun e w' => e = .returned (.int .i64 (sizeL L : Nat)) ∧ Ext w w' := by
 have hD := size_doer p L w hs hm
 have hrun := runs_any _ _ p n cap L _ hD hn hcap hcm hm
 have Hrun := Lib.hid hrun
 have HS := Lib.hid (costs_size L)
 clear hrun hD
 go_enter Tryz.func83, Tryz.ntmps83
 go_wp2_with (go_at_call 96; refine (Hrun.out _ (sizeI_start w _)).mono ?_; rintro e w1 ⟨rfl, h1, h2, h3, h4⟩)
 go_ret
 exact ⟨ret_int (by have := HS.out; omega), h1⟩
theorem Fits_any (p : Option Addr) (cap n : Nat) (L : List (List UInt8)) (size : Int) (w : World) (hs : Strs w p L) (hn : L.length = n) (hcap : n ≤ cap) (hcm : cap ≤ maxLen) (hm : Small L) :
   Calls Tryz.prog 38 #[.int .i64 size, .slice p n cap] w fun e w' => e = .returned (.bool (isSizeB size && allowedB L && decide ((sizeL L : Int) ≤ size))) ∧ Ext w w' := by
 by_cases h1 : isSizeB size = true
 · by_cases h2 : allowedB L = true
   · go_enter Tryz.func38, Tryz.ntmps38
     go_wp2_with (first | (go_at_call 71; refine (isSize_any _ _).mono ?_; rintro e w' ⟨rfl, rfl⟩) | (go_at_call 82; refine (allowed_any _ _ _ L _ hs hn hm).mono ?_; rintro e w' ⟨rfl, rfl⟩) | (go_at_call 83; refine (Size_any _ _ _ L _ hs hn hcap hcm hm).mono ?_; rintro e w' ⟨rfl, he⟩))
     go_ret
     exact ⟨ret_bool (by rw [h1, h2]; simp), he⟩
   · have h2' : allowedB L = false := by simpa using h2
     clear h2
     go_enter Tryz.func38, Tryz.ntmps38
     go_wp2_with (first | (go_at_call 71; refine (isSize_any _ _).mono ?_; rintro e w' ⟨rfl, rfl⟩) | (go_at_call 82; refine (allowed_any _ _ _ L _ hs hn hm).mono ?_; rintro e w' ⟨rfl, rfl⟩))
     go_ret
     exact ⟨ret_bool (by rw [h1, h2']; simp), Ext.refl _⟩
 · have h1' : isSizeB size = false := by simpa using h1
   clear h1
   go_enter Tryz.func38, Tryz.ntmps38
   go_wp2_with (go_at_call 71; refine (isSize_any _ _).mono ?_; rintro e w' ⟨rfl, rfl⟩)
   go_ret
   exact ⟨ret_bool (by rw [h1']; simp), Ext.refl _⟩
end Go.Proofs.YtifmbcjbccedfaaGreatDoor
