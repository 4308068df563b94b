/- The walks of strings.Trim at a byte, Unused, check. -/
import Derived.Test.YtjgdhlpnpihkdaaDoorW2
import Derived.Deep.DeepMust
set_option linter.unusedSimpArgs false
set_option linter.unusedVariables false
namespace Go.Proofs.YtjgdhlpnpihkdaaDoor
open Go.RowKit Dsd

def strLen : Value → Nat | .string b => b.size | _ => 0
def trimL (c : Nat) (l : List UInt8) : List UInt8 := l.dropWhile fun x => x.toNat == c
def trimR (c : Nat) (l : List UInt8) : List UInt8 := (l.reverse.dropWhile fun x => x.toNat == c).reverse
theorem trimL_cons (c : Nat) (x : UInt8) (l : List UInt8) : trimL c (x :: l) = if x.toNat = c then trimL c l else x :: l := by
  unfold trimL; rw [List.dropWhile_cons]; simp
theorem trimR_snoc (c : Nat) (x : UInt8) (l : List UInt8) : trimR c (l ++ [x]) = if x.toNat = c then trimR c l else l ++ [x] := by
  unfold trimR; rw [List.reverse_append, List.reverse_singleton, List.singleton_append, List.dropWhile_cons]
  by_cases h : x.toNat = c
  · simp [h]
  · simp [h]
theorem byt_snoc (l : List UInt8) (x : UInt8) : byt (l ++ [x]) l.length = x.toNat := by simp [byt]
theorem trimR_le (c : Nat) (l : List UInt8) : (trimR c l).length ≤ l.length := by
  unfold trimR; rw [List.length_reverse]; exact Nat.le_trans (List.dropWhile_sublist _).length_le (by simp)
theorem trimL_le (c : Nat) (l : List UInt8) : (trimL c l).length ≤ l.length := (List.dropWhile_sublist _).length_le
theorem dw_nil (p : UInt8 → Bool) (l : List UInt8) : l.dropWhile p = [] ↔ ∀ x ∈ l, p x = true := by
  induction l with
  | nil => simp
  | cons a l ih => rw [List.dropWhile_cons]; by_cases h : p a = true <;> simp [h, ih]
theorem trim_nil (l : List UInt8) : trimL 0 (trimR 0 l) = [] ↔ l = List.replicate l.length 0 := by
  have e1 : trimL 0 (trimR 0 l) = [] → ∀ x ∈ l, x.toNat = 0 := by
    intro h x hx
    have h2 : ∀ y ∈ trimR 0 l, (y.toNat == 0) = true := by
      unfold trimL at h; exact (dw_nil _ _).1 h
    by_cases hx0 : x.toNat = 0
    · exact hx0
    · have hd : (l.reverse.dropWhile fun x => x.toNat == 0) ≠ [] := by
        intro hh; have := (dw_nil _ _).1 hh x (by simpa using hx); simp [hx0] at this
      have hh := List.head_dropWhile_not (fun x : UInt8 => x.toNat == 0) hd
      have hm : (l.reverse.dropWhile fun x => x.toNat == 0).head hd ∈ trimR 0 l := by
        unfold trimR; rw [List.mem_reverse]; exact List.head_mem hd
      rw [h2 _ hm] at hh; cases hh
  constructor
  · intro h; rw [List.eq_replicate_iff]; exact ⟨rfl, fun x hx => UInt8.toNat_inj.1 (e1 h x hx)⟩
  · intro h
    have h0 : ∀ x ∈ l, x.toNat = 0 := fun x hx => by rw [h] at hx; rw [List.eq_of_mem_replicate hx]; rfl
    have : trimR 0 l = [] := by
      unfold trimR; rw [List.reverse_eq_nil_iff, dw_nil]; intro x hx; simp [h0 x (by simpa using hx)]
    rw [this]; rfl

set_option maxRecDepth 100000 in
theorem trimLeftByte_any (l : List UInt8) (c : Nat) (hl : l.length ≤ 1000000) (w : World) :
    Calls Tryd.prog 136 #[.string ⟨l.toArray⟩, .int .u8 c] w fun e w' => e = .returned (.string ⟨(trimL c l).toArray⟩) ∧ w' = w := by
  go_enter Tryd.func136, Tryd.ntmps136
  go_wp2
  go_loop [0] (fun s => ∃ m : List UInt8, s = .string ⟨m.toArray⟩ ∧ trimL c m = trimL c l ∧ m.length ≤ 1000000) (fun s => strLen s)
  case atStart => exact ⟨l, rfl, rfl, hl⟩
  case round =>
    obtain ⟨m, rfl, ht, hm⟩ := hrel
    cases m with
    | nil =>
      go_wp2
      go_ret
      exact ⟨ret_str (by rw [← ht]; rfl), rfl⟩
    | cons x m =>
      have hb : byt (x :: m) 0 = x.toNat := rfl
      rw [trimL_cons] at ht
      simp at hm
      by_cases hx : x.toNat = c
      · rw [if_pos hx] at ht
        have hxb : ((x.toNat : Int) == (c : Int)) = true := by simp [hx]
        have HT := Lib.hid ht
        clear ht hx
        go_wp2
        go_round
        case rel => exact ⟨m, rfl, HT.out, by omega⟩
        case measure => simp [strLen, ByteArray.size]
      · rw [if_neg hx] at ht
        have hxb : ((x.toNat : Int) == (c : Int)) = false := by simp; omega
        have HT := Lib.hid ht
        clear ht hx
        go_wp2
        go_ret
        exact ⟨ret_str HT.out, rfl⟩

set_option maxRecDepth 100000 in
theorem trimRightByte_any (l : List UInt8) (c : Nat) (hl : l.length ≤ 1000000) (w : World) :
    Calls Tryd.prog 137 #[.string ⟨l.toArray⟩, .int .u8 c] w fun e w' => e = .returned (.string ⟨(trimR c l).toArray⟩) ∧ w' = w := by
  go_enter Tryd.func137, Tryd.ntmps137
  go_wp2
  go_loop [0] (fun s => ∃ m : List UInt8, s = .string ⟨m.toArray⟩ ∧ trimR c m = trimR c l ∧ m.length ≤ 1000000) (fun s => strLen s)
  case atStart => exact ⟨l, rfl, rfl, hl⟩
  case round =>
    obtain ⟨m, rfl, ht, hm⟩ := hrel
    by_cases hm0 : m = []
    · subst hm0
      go_wp2
      go_ret
      exact ⟨ret_str (by rw [← ht]; rfl), rfl⟩
    · obtain ⟨m', x, hmx⟩ : ∃ m' x, m = m' ++ [x] := ⟨m.dropLast, m.getLast hm0, (List.dropLast_concat_getLast hm0).symm⟩
      obtain ⟨k, hk⟩ : ∃ k, k = m'.length := ⟨_, rfl⟩
      have hb : byt m k = x.toNat := by rw [hmx, hk]; exact byt_snoc m' x
      have htk : m.take k = m' := by rw [hmx, hk]; simp
      have hsz : m.length = k + 1 := by rw [hmx, hk]; simp
      have ht2 : trimR c m = if x.toNat = c then trimR c m' else m := by rw [hmx]; exact trimR_snoc c x m'
      rw [ht] at ht2
      have hk0 : (0 : Int) < k + 1 := by omega
      have hk1 : k ≤ 1000000 := by omega
      have hm' : m'.length ≤ 1000000 := by omega
      clear hmx ht
      by_cases hx : x.toNat = c
      · rw [if_pos hx] at ht2
        have hxb : ((x.toNat : Int) == (c : Int)) = true := by simp [hx]
        have HT := Lib.hid ht2
        have hk' := Lib.hid hk
        clear ht2 hx hk
        go_wp2
        go_round
        case rel => exact ⟨m', rfl, HT.out.symm, hm'⟩
        case measure => have := hk'.out; simp [strLen, ByteArray.size]; omega
      · rw [if_neg hx] at ht2
        have hxb : ((x.toNat : Int) == (c : Int)) = false := by simp; omega
        have HT := Lib.hid ht2
        clear ht2 hx hk
        go_wp2
        go_ret
        exact ⟨ret_str HT.out.symm, rfl⟩

set_option maxRecDepth 100000 in
/-- Trim at the byte 0. -/
theorem Trim_zero (l : List UInt8) (hl : l.length ≤ 1000000) (w : World) :
    Calls Tryd.prog 130 #[.string ⟨l.toArray⟩, .string ⟨[0].toArray⟩] w fun e w' => e = .returned (.string ⟨(trimL 0 (trimR 0 l)).toArray⟩) ∧ ∃ n, w' = w.drewN n := by
  by_cases h0 : l = []
  · subst h0
    go_enter Tryd.func130, Tryd.ntmps130
    go_wp2
    go_ret
    exact ⟨rfl, 0, rfl⟩
  · have hne : (l == []) = false := by simpa using h0
    have hR := trimRightByte_any l 0 hl
    have hL := trimLeftByte_any (trimR 0 l) 0 (Nat.le_trans (trimR_le 0 l) hl)
    generalize hr : trimR 0 l = r at *
    generalize hll : trimL 0 r = q at *
    clear hr hll h0
    go_enter Tryd.func130, Tryd.ntmps130
    go_wp2
    have hb0 : byt [0] 0 = 0 := rfl
    go_quiet (first | (go_at_call 137; go_loud (exact Calls.quiet_of_same (hR _))) | (go_at_call 136; exact Calls.quiet_of_same (hL _)))
    go_wp2
    go_ret
    exact ⟨rfl, nq, rfl⟩

set_option maxRecDepth 100000 in
theorem Unused_any (l : List UInt8) (hl : l.length ≤ 1000000) (w : World) :
    Calls Tryd.prog 123 #[.string ⟨l.toArray⟩] w fun e w' => e = .returned (.bool (l == List.replicate l.length 0)) ∧ ∃ n, w' = w.drewN n := by
  have hT := Trim_zero l hl
  have hE : Hid ((trimL 0 (trimR 0 l)).isEmpty = (l == List.replicate l.length 0)) := Lib.hid (by
    have := trim_nil l
    rw [Bool.eq_iff_iff]; simpa using this)
  generalize trimL 0 (trimR 0 l) = q at *
  go_enter Tryd.func123, Tryd.ntmps123
  go_wp2_with (go_at_call 130; refine (hT _).mono ?_; rintro e w' ⟨rfl, n, rfl⟩)
  go_ret
  exact ⟨ret_bool hE.out, n, rfl⟩

/-- What check answers. -/
def checkErr (size : Int) (l : List UInt8) : Int := if (l.length : Int) ≠ size then 11 else if l == List.replicate l.length 0 then 9 else 0
set_option maxRecDepth 100000 in
theorem check_any (size : Int) (l : List UInt8) (hl : l.length ≤ 1000000) (w : World) :
    Calls Tryd.prog 118 #[.int .i64 size, .string ⟨l.toArray⟩] w fun e w' => e = .returned (.int .i64 (checkErr size l)) ∧ ∃ n, w' = w.drewN n := by
  have hU := Unused_any l hl
  by_cases h1 : (l.length : Int) = size
  · have h1' : ((l.length : Int) != size) = false := by simp [h1]
    cases h2 : l == List.replicate l.length 0
    · have hE : Hid (checkErr size l = 0) := Lib.hid (by unfold checkErr; rw [h2]; simp [h1])
      rw [h2] at hU
      clear h1 h2
      go_enter Tryd.func118, Tryd.ntmps118
      go_wp2_with (go_at_call 123; refine (hU _).mono ?_; rintro e w' ⟨rfl, n, rfl⟩)
      go_ret
      exact ⟨ret_int hE.out.symm, n, rfl⟩
    · have hE : Hid (checkErr size l = 9) := Lib.hid (by unfold checkErr; rw [h2]; simp [h1])
      rw [h2] at hU
      clear h1 h2
      go_enter Tryd.func118, Tryd.ntmps118
      go_wp2_with (go_at_call 123; refine (hU _).mono ?_; rintro e w' ⟨rfl, n, rfl⟩)
      go_ret
      exact ⟨ret_int hE.out.symm, n, rfl⟩
  · have h1' : ((l.length : Int) != size) = true := by simpa using h1
    have hE : Hid (checkErr size l = 11) := Lib.hid (by unfold checkErr; rw [if_pos h1])
    clear h1
    go_enter Tryd.func118, Tryd.ntmps118
    go_wp2
    go_ret
    exact ⟨ret_int hE.out.symm, 0, rfl⟩
end Go.Proofs.YtjgdhlpnpihkdaaDoor
