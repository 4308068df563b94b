/- The walks of the small functions of the interval packages. -/
import Derived.Test.YtolmoknjmdmpgaaGreatRows
import Derived.Test.YtolmoknjmdmpgaaGreatPA
set_option linter.unusedSimpArgs false
set_option linter.unusedVariables false
namespace Go.Proofs.YtolmoknjmdmpgaaGreat
open Go.RowKit Dsd



theorem IsSize_any (n : Int) (w : World) :
    Calls Tryz.prog 37 #[.int .i64 n] w fun e w' => e = .returned (.bool (isSizeB n)) ∧ w = w' := by
  go_enter Tryz.func37, Tryz.ntmps37
  go_wp2
  all_goals go_ret
  all_goals simp [isSizeB, *]



theorem all_snoc (q : List UInt8 → Bool) (L : List (List UInt8)) (k : Nat) (hk : k < L.length) (h : (L.take k).all q = true) (h2 : q (L.getD k []) = true) : (L.take (k + 1)).all q = true := by
  rw [List.take_succ_eq_append_getElem hk, List.all_append, h]; simpa [List.getD, hk] using h2
theorem all_not (q : List UInt8 → Bool) (L : List (List UInt8)) (k : Nat) (hk : k < L.length) (h : q (L.getD k []) = false) : L.all q = false := by
  rw [List.all_eq_false]
  exact ⟨L.getD k [], by simp [List.getD, hk], by rw [h]; simp⟩



def shortB (L : List (List UInt8)) (most len : Nat) : Bool := decide (L.length ≤ most) && L.all fun s => decide (s.length ≤ len)

theorem Short_any (p : Option Addr) (cap n : Nat) (L : List (List UInt8)) (most len : Nat) (w : World) (hs : Strs w p L) (hn : L.length = n) (hL : L.length ≤ maxLen) :
    Calls Tryz.prog 18 #[.slice p n cap, .int .i64 most, .int .i64 len] w fun e w' => e = .returned (.bool (shortB L most len)) ∧ w = w' := by
  unfold maxLen at hL
  subst hn
  by_cases hmo : (most : Int) < L.length
  · go_enter Tryz.func18, Tryz.ntmps18
    go_wp2
    go_ret
    exact ⟨ret_bool (by rw [shortB, decide_eq_false (by omega)]; rfl), rfl⟩
  · have hL' : L.length ≤ most := by omega
    go_enter Tryz.func18, Tryz.ntmps18
    go_wp2
    go_loop [7] (fun i => ∃ k : Nat, k ≤ L.length ∧ i = .int .i64 k ∧ ((L.take k).all fun s => decide (s.length ≤ len)) = true) (fun i => L.length - (intOf i).toNat)
    case atStart => exact ⟨0, Nat.zero_le _, rfl, by simp⟩
    case round =>
      obtain ⟨k, hk, rfl, hq⟩ := hrel
      by_cases hlt : k < L.length
      · obtain ⟨b, off, rfl, hb, hc⟩ := hs.at k hlt
        have hck := hc k hlt
        have HS := Lib.hid (all_snoc (fun s => decide (s.length ≤ len)) L k hlt hq)
        have HN := Lib.hid (all_not (fun s => decide (s.length ≤ len)) L k hlt)
        clear hc hq hs
        generalize hx : L.getD k [] = s at *
        clear hx
        go_wp2
        · go_ret
          exact ⟨ret_bool (by rw [shortB, HN.out (by simp; omega)]; simp), rfl⟩
        · go_round
          case rel => exact ⟨k + 1, by omega, by go_num, HS.out (by simp; omega)⟩
          case measure => simp [intOf]; omega
      · go_wp2
        go_ret
        exact ⟨ret_bool (by rw [List.take_of_length_le (by omega)] at hq; rw [shortB, hq, decide_eq_true hL']; rfl), rfl⟩

theorem take_snoc {α : Type} [DecidableEq α] (d : α) (A B : List α) (k : Nat) (ha : k < A.length) (hb : k < B.length) (h : A.take k = B.take k) (h2 : A.getD k d = B.getD k d) : A.take (k + 1) = B.take (k + 1) := by
  rw [List.take_succ_eq_append_getElem ha, List.take_succ_eq_append_getElem hb, h]
  simp [List.getD, ha, hb] at h2
  rw [h2]

end Go.Proofs.YtolmoknjmdmpgaaGreat
