/- The walks of the small functions of the interval packages. -/
import Derived.Test.YtmnpappbacndlaaGreatDoorRows
import Derived.Test.YtmnpappbacndlaaGreatDoorPA
set_option linter.unusedSimpArgs false
set_option linter.unusedVariables false
namespace Go.Proofs.YtmnpappbacndlaaGreatDoor
open Go.RowKit Dsd


theorem isSize_any (n : Int) (w : World) :
    Calls Tryz.prog 44 #[.int .i64 n] w fun e w' => e = .returned (.bool (isSizeB n)) ∧ w = w' := by
  go_enter Tryz.func44, Tryz.ntmps44
  go_wp2
  all_goals go_ret
  all_goals simp [isSizeB, *]



theorem twoAt_any (l : List UInt8) (i : Nat) (hi : i + 1 < l.length) (hs : l.length ≤ 1000000) (w : World) :
    Calls Tryz.prog 149 #[.string ⟨l.toArray⟩, .int .i64 i] w fun e w' => e = .returned (.int .i64 (two l i : Nat)) ∧ ∃ n, w' = w.drewN n := by
  have h1 : (i : Int) < l.length := by omega
  have h2 : (i : Int) + 1 < l.length := by omega
  have h3 : IntKind.i64.wrap ((i : Int) + 1) = i + 1 := IntWalk.i64_in _ (by omega)
  have h4 : (0 : Int) ≤ i + 1 := by omega
  have h5 : ((i : Int) + 1).toNat = i + 1 := by omega
  have b1 := byt_lt l i
  have b2 := byt_lt l (i + 1)
  go_enter Tryz.func149, Tryz.ntmps149
  go_wp2
  go_quiet (fail)
  go_wp2
  go_ret
  exact ⟨by simp [two, two_or _ _ b1 b2], nq, rfl⟩

theorem all_snoc (q : List UInt8 → Bool) (L : List (List UInt8)) (k : Nat) (hk : k < L.length) (h : (L.take k).all q = true) (h2 : q (L.getD k []) = true) : (L.take (k + 1)).all q = true := by
  rw [List.take_succ_eq_append_getElem hk, List.all_append, h]; simpa [List.getD, hk] using h2
theorem all_not (q : List UInt8 → Bool) (L : List (List UInt8)) (k : Nat) (hk : k < L.length) (h : q (L.getD k []) = false) : L.all q = false := by
  rw [List.all_eq_false]
  exact ⟨L.getD k [], by simp [List.getD, hk], by rw [h]; simp⟩


theorem allowed_any (p : Option Addr) (cap n : Nat) (L : List (List UInt8)) (w : World) (hs : Strs w p L) (hn : L.length = n) (hm : Small L) :
    Calls Tryz.prog 79 #[.slice p n cap] w fun e w' => e = .returned (.bool (allowedB L)) ∧ w = w' := by
  have hL := hm.1
  subst hn
  go_enter Tryz.func79, Tryz.ntmps79
  go_wp2
  go_loop [7] (fun i => ∃ k : Nat, k ≤ L.length ∧ i = .int .i64 k ∧ (L.take k).all okLen = true) (fun i => L.length - (intOf i).toNat)
  case atStart => exact ⟨0, Nat.zero_le _, rfl, by simp⟩
  case round =>
    obtain ⟨k, hk, rfl, hq⟩ := hrel
    by_cases hlt : k < L.length
    · obtain ⟨b, off, rfl, hb, hc⟩ := hs.at k hlt
      have hck := hc k hlt
      have hls := hm.at k
      have HS := Lib.hid (all_snoc okLen L k hlt hq)
      have HN := Lib.hid (all_not okLen L k hlt)
      clear hc hq hs
      generalize hx : L.getD k [] = s at *
      clear hx
      go_wp2
      · go_ret
        exact ⟨ret_bool (HN.out (by simp [okLen]; omega)).symm, rfl⟩
      · go_round
        case rel => exact ⟨k + 1, by omega, by go_num, HS.out (by simp [okLen]; omega)⟩
        case measure => simp [intOf]; omega
      · go_ret
        exact ⟨ret_bool (HN.out (by simp [okLen]; omega)).symm, rfl⟩
    · go_wp2
      go_ret
      exact ⟨ret_bool (by rw [List.take_of_length_le (by omega)] at hq; simp [allowedB, hq]), rfl⟩

def shortB (L : List (List UInt8)) (most len : Nat) : Bool := decide (L.length ≤ most) && L.all fun s => decide (s.length ≤ len)


theorem take_snoc {α : Type} [DecidableEq α] (d : α) (A B : List α) (k : Nat) (ha : k < A.length) (hb : k < B.length) (h : A.take k = B.take k) (h2 : A.getD k d = B.getD k d) : A.take (k + 1) = B.take (k + 1) := by
  rw [List.take_succ_eq_append_getElem ha, List.take_succ_eq_append_getElem hb, h]
  simp [List.getD, ha, hb] at h2
  rw [h2]

end Go.Proofs.YtmnpappbacndlaaGreatDoor
