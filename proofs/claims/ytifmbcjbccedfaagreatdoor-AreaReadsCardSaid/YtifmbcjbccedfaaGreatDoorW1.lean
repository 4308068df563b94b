/- A part of the proof. -/
import Derived.Test.YtifmbcjbccedfaaGreatDoorPA

set_option linter.unusedSimpArgs false
set_option linter.unusedVariables false
namespace Go.Proofs.YtifmbcjbccedfaaGreatDoor
open Go.RowKit Dsd
theorem isSize_any (n : Int) (w : World) :
   Calls Tryz.prog 71 #[.int .i64 n] w fun e w' => e = .returned (.bool (isSizeB n)) ∧ w = w' := by
 go_enter Tryz.func71, Tryz.ntmps71
 go_wp2
 all_goals go_ret
 all_goals simp [isSizeB, *]
theorem IsSize_any (n : Int) (w : World) :
   Calls Tryz.prog 75 #[.int .i64 n] w fun e w' => e = .returned (.bool (isSizeB n)) ∧ w = w' := by
 go_enter Tryz.func75, Tryz.ntmps75
 go_wp2
 all_goals go_ret
 all_goals simp [isSizeB, *]
theorem number_any (l : List UInt8) (i : Nat) (hi : i + 1 < l.length) (hs : l.length ≤ 1000000) (w : World) :
   Calls Tryz.prog 126 #[.string ⟨l.toArray⟩, .int .i64 i] w fun e w' => e = .returned (.int .i64 (two l i : Nat)) ∧ ∃ n, w' = w.drewN n := by
 have h1 : (i : Int) < l.length := by omega
 have h2 : (i : Int) + 1 < l.length := by omega
 have h3 : IntKind.i64.wrap ((i : Int) + 1) = i + 1 := IntWalk.i64_in _ (by omega)
 have h4 : (0 : Int) ≤ i + 1 := by omega
 have h5 : ((i : Int) + 1).toNat = i + 1 := by omega
 have b1 := byt_lt l i
 have b2 := byt_lt l (i + 1)
 go_enter Tryz.func126, Tryz.ntmps126
 go_wp2
 go_quiet (fail)
 go_wp2
 go_ret
 exact ⟨by simp [two], nq, rfl⟩
theorem twoAt_any (l : List UInt8) (i : Nat) (hi : i + 1 < l.length) (hs : l.length ≤ 1000000) (w : World) :
   Calls Tryz.prog 73 #[.string ⟨l.toArray⟩, .int .i64 i] w fun e w' => e = .returned (.int .i64 (two l i : Nat)) ∧ ∃ n, w' = w.drewN n := by
 have h1 : (i : Int) < l.length := by omega
 have h2 : (i : Int) + 1 < l.length := by omega
 have h3 : IntKind.i64.wrap ((i : Int) + 1) = i + 1 := IntWalk.i64_in _ (by omega)
 have h4 : (0 : Int) ≤ i + 1 := by omega
 have h5 : ((i : Int) + 1).toNat = i + 1 := by omega
 have b1 := byt_lt l i
 have b2 := byt_lt l (i + 1)
 go_enter Tryz.func73, Tryz.ntmps73
 go_wp2
 go_quiet (fail)
 go_wp2
 go_ret
 exact ⟨by simp [two, two_or _ _ b1 b2], nq, rfl⟩
theorem all_snoc (q : List UInt8 → Bool) (L : List (List UInt8)) (k : Nat) (hk : k < L.length) (h : (L.take k).all q = true) (h2 : q (L.getD k []) = true) : (L.take (k + 1)).all q = true := by
 rw [List.take_succ_eq_append_getElem hk, List.all_append, h]; simpa [List.getD, hk] using h2
theorem all_not (q : List UInt8 → Bool) (L : List (List UInt8)) (k : Nat) (hk : k < L.length) (h : q (L.getD k []) = false) : L.all q = false := by
 rw [List.all_eq_false]
 exact ⟨L.getD k [], by simp [List.getD, hk], by rw [h]; simp⟩
theorem Allowed_any (p : Option Addr) (cap n : Nat) (L : List (List UInt8)) (w : World) (hs : Strs w p L) (hn : L.length = n) (hm : Small L) :
   Calls Tryz.prog 84 #[.slice p n cap] w fun e w' => e = .returned (.bool (allowedB L)) ∧ w = w' := by
 have hL := hm.1
 subst hn
 go_enter Tryz.func84, Tryz.ntmps84
 go_wp2
 go_loop [3] (fun i => ∃ k : Nat, k ≤ L.length ∧ i = .int .i64 k ∧ (L.take k).all okLen = true) (fun i => L.length - (intOf i).toNat)
 case atStart => exact ⟨0, Nat.zero_le _, rfl, by simp⟩
 case round =>
   obtain ⟨k, hk, rfl, hq⟩ := hrel
   by_cases hlt : k < L.length
   · obtain ⟨b, off, rfl, hb, hc⟩ := hs.at k hlt
     have hck := hc k hlt
     have hls := hm.at k
     have HS := Lib.hid (all_snoc okLen L k hlt hq)
     have HN := Lib.hid (all_not okLen L k hlt)
     clear hc hq hs
     generalize hx : L.getD k [] = s at *
     clear hx
     go_wp2
     · go_ret
       exact ⟨ret_bool (HN.out (by simp [okLen]; omega)).symm, rfl⟩
     · go_round
       case rel => exact ⟨k + 1, by omega, by go_num, HS.out (by simp [okLen]; omega)⟩
       case measure => simp [intOf]; omega
     · go_ret
       exact ⟨ret_bool (HN.out (by simp [okLen]; omega)).symm, rfl⟩
   · go_wp2
     go_ret
     exact ⟨ret_bool (by rw [List.take_of_length_le (by omega)] at hq; simp [allowedB, hq]), rfl⟩
theorem allowed_any (p : Option Addr) (cap n : Nat) (L : List (List UInt8)) (w : World) (hs : Strs w p L) (hn : L.length = n) (hm : Small L) :
   Calls Tryz.prog 82 #[.slice p n cap] w fun e w' => e = .returned (.bool (allowedB L)) ∧ w = w' := by
 have hL := hm.1
 subst hn
 go_enter Tryz.func82, Tryz.ntmps82
 go_wp2
 go_loop [7] (fun i => ∃ k : Nat, k ≤ L.length ∧ i = .int .i64 k ∧ (L.take k).all okLen = true) (fun i => L.length - (intOf i).toNat)
 case atStart => exact ⟨0, Nat.zero_le _, rfl, by simp⟩
 case round =>
   obtain ⟨k, hk, rfl, hq⟩ := hrel
   by_cases hlt : k < L.length
   · obtain ⟨b, off, rfl, hb, hc⟩ := hs.at k hlt
     have hck := hc k hlt
     have hls := hm.at k
     have HS := Lib.hid (all_snoc okLen L k hlt hq)
     have HN := Lib.hid (all_not okLen L k hlt)
     clear hc hq hs
     generalize hx : L.getD k [] = s at *
     clear hx
     go_wp2
     · go_ret
       exact ⟨ret_bool (HN.out (by simp [okLen]; omega)).symm, rfl⟩
     · go_round
       case rel => exact ⟨k + 1, by omega, by go_num, HS.out (by simp [okLen]; omega)⟩
       case measure => simp [intOf]; omega
     · go_ret
       exact ⟨ret_bool (HN.out (by simp [okLen]; omega)).symm, rfl⟩
   · go_wp2
     go_ret
     exact ⟨ret_bool (by rw [List.take_of_length_le (by omega)] at hq; simp [allowedB, hq]), rfl⟩
def shortB (L : List (List UInt8)) (most len : Nat) : Bool := decide (L.length ≤ most) && L.all fun s => decide (s.length ≤ len)
theorem Short_any (p : Option Addr) (cap n : Nat) (L : List (List UInt8)) (most len : Nat) (w : World) (hs : Strs w p L) (hn : L.length = n) (hL : L.length ≤ maxLen) :
   Calls Tryz.prog 28 #[.slice p n cap, .int .i64 most, .int .i64 len] w fun e w' => e = .returned (.bool (shortB L most len)) ∧ w = w' := by
 unfold maxLen at hL
 subst hn
 by_cases hmo : (most : Int) < L.length
 · go_enter Tryz.func28, Tryz.ntmps28
   go_wp2
   go_ret
   exact ⟨ret_bool (by rw [shortB, decide_eq_false (by omega)]; rfl), rfl⟩
 · have hL' : L.length ≤ most := by omega
   go_enter Tryz.func28, Tryz.ntmps28
   go_wp2
   go_loop [7] (fun i => ∃ k : Nat, k ≤ L.length ∧ i = .int .i64 k ∧ ((L.take k).all fun s => decide (s.length ≤ len)) = true) (fun i => L.length - (intOf i).toNat)
   case atStart => exact ⟨0, Nat.zero_le _, rfl, by simp⟩
   case round =>
     obtain ⟨k, hk, rfl, hq⟩ := hrel
     by_cases hlt : k < L.length
     · obtain ⟨b, off, rfl, hb, hc⟩ := hs.at k hlt
       have hck := hc k hlt
       have HS := Lib.hid (all_snoc (fun s => decide (s.length ≤ len)) L k hlt hq)
       have HN := Lib.hid (all_not (fun s => decide (s.length ≤ len)) L k hlt)
       clear hc hq hs
       generalize hx : L.getD k [] = s at *
       clear hx
       go_wp2
       · go_ret
         exact ⟨ret_bool (by rw [shortB, HN.out (by simp; omega)]; simp), rfl⟩
       · go_round
         case rel => exact ⟨k + 1, by omega, by go_num, HS.out (by simp; omega)⟩
         case measure => simp [intOf]; omega
     · go_wp2
       go_ret
       exact ⟨ret_bool (by rw [List.take_of_length_le (by omega)] at hq; rw [shortB, hq, decide_eq_true hL']; rfl), rfl⟩
theorem take_snoc {α : Type} [DecidableEq α] (d : α) (A B : List α) (k : Nat) (ha : k < A.length) (hb : k < B.length) (h : A.take k = B.take k) (h2 : A.getD k d = B.getD k d) : A.take (k + 1) = B.take (k + 1) := by
 rw [List.take_succ_eq_append_getElem ha, List.take_succ_eq_append_getElem hb, h]
 simp [List.getD, ha, hb] at h2
 rw [h2]
theorem Texts_any (p q : Option Addr) (cap n cap' n' : Nat) (A B : List (List UInt8)) (w : World) (hA : Strs w p A) (hB : Strs w q B) (hn : A.length = n) (hn' : B.length = n') (hLA : A.length ≤ maxLen) (hLB : B.length ≤ maxLen) :
   Calls Tryz.prog 46 #[.slice p n cap, .slice q n' cap'] w fun e w' => e = .returned (.bool (A == B)) ∧ ∃ n, w' = w.drewN n := by
 unfold maxLen at hLA hLB
 subst hn hn'
 by_cases hne : A.length = B.length
 · have hne' : ((A.length : Int) != (B.length : Int)) = false := by simp [hne]
   go_enter Tryz.func46, Tryz.ntmps46
   have Hne := Lib.hid hne
   clear hne
   go_wp2
   go_loopw [5] (fun i wr => ∃ k : Nat, k ≤ A.length ∧ i = .int .i64 k ∧ A.take k = B.take k ∧ ∃ n, wr = w.drewN n) (fun i _ => A.length - (intOf i).toNat)
   case atStart => exact ⟨0, Nat.zero_le _, rfl, by simp, 0, rfl⟩
   case round =>
     obtain ⟨k, hk, rfl, hq, nr, rfl⟩ := hrel
     by_cases hlt : k < A.length
     · have hlt' : k < B.length := by rw [← Hne.out]; exact hlt
       have hltI : (k : Int) < A.length := by omega
       have hltI' : (k : Int) < B.length := by omega
       obtain ⟨b, off, rfl, hb, hc⟩ := hA.at k hlt
       obtain ⟨b', off', rfl, hb', hc'⟩ := hB.at k hlt'
       have hck := hc k hlt
       have hck' := hc' k hlt'
       have HS := Lib.hid (take_snoc [] A B k hlt hlt' hq)
       have HN : Hid (¬ A.getD k [] = B.getD k [] → (A == B) = false) := Lib.hid (fun h => by simp; intro h'; subst h'; exact h rfl)
       clear hc hc' hA hB hq
       generalize A.getD k [] = s at *
       generalize B.getD k [] = s' at *
       go_wp2
       go_quiet (fail)
       go_wp2
       · have hd : ¬ s = s' := by rename_i h; simpa using h
         go_ret
         exact ⟨ret_bool (HN.out hd).symm, nr + nq, World.drewN_drewN _ _ _⟩
       · have hd : s = s' := by rename_i h; simpa using h
         go_roundw
         case rel => exact ⟨k + 1, by omega, by go_num, HS.out hd, nr + nq, rfl⟩
         case measure => simp [intOf]; omega
     · go_wp2
       go_ret
       rw [List.take_of_length_le (by omega), List.take_of_length_le (by have := Hne.out; omega)] at hq
       exact ⟨by simp [hq], nr, rfl⟩
 · have hne' : ((A.length : Int) != (B.length : Int)) = true := by simp; omega
   have HN := Lib.hid hne
   clear hne
   go_enter Tryz.func46, Tryz.ntmps46
   go_wp2
   go_ret
   exact ⟨by have : ¬ A = B := fun h => HN.out (by rw [h]); simp [this], 0, rfl⟩
end Go.Proofs.YtifmbcjbccedfaaGreatDoor
