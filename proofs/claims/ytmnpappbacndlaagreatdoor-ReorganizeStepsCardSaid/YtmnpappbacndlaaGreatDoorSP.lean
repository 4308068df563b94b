/- Plain laws of chapter 29: writes divided into lists. No program in sight. -/
import Derived.Test.YtmnpappbacndlaaGreatDoorBase
set_option linter.unusedSimpArgs false
set_option linter.unusedVariables false
namespace Dsd
abbrev SW := Int × List UInt8
/-- Lists of 64. -/
def chunksF : Nat → List SW → List (List SW)
  | 0, _ => []
  | n + 1, l => if l.length = 0 then [] else l.take 64 :: chunksF n (l.drop 64)
def chunks (l : List SW) : List (List SW) := chunksF l.length l
theorem chunksF_nil (n : Nat) : chunksF n [] = [] := by cases n <;> simp [chunksF]
theorem chunksF_le : ∀ (n m : Nat) (l : List SW), l.length ≤ n → l.length ≤ m → chunksF n l = chunksF m l
  | 0, m, l, h, _ => by
    obtain rfl := List.eq_nil_of_length_eq_zero (Nat.le_zero.1 h)
    rw [chunksF_nil, chunksF_nil]
  | n + 1, 0, l, _, h => by
    obtain rfl := List.eq_nil_of_length_eq_zero (Nat.le_zero.1 h)
    rw [chunksF_nil, chunksF_nil]
  | n + 1, m + 1, l, h1, h2 => by
    unfold chunksF
    split
    · rfl
    · rw [chunksF_le n m (l.drop 64) (by simp; omega) (by simp; omega)]
theorem chunks_nil : chunks [] = [] := rfl
theorem chunks_cons {l : List SW} (h : 0 < l.length) : chunks l = l.take 64 :: chunks (l.drop 64) := by
  unfold chunks
  obtain ⟨n, hn⟩ : ∃ n, l.length = n + 1 := ⟨l.length - 1, by omega⟩
  rw [hn]
  show (if l.length = 0 then [] else l.take 64 :: chunksF n (l.drop 64)) = _
  rw [if_neg (by omega), chunksF_le n (l.drop 64).length (l.drop 64) (by simp; omega) (Nat.le_refl _)]
theorem chunks_ne {l : List SW} (h : 0 < l.length) : chunks l ≠ [] := by rw [chunks_cons h]; simp
theorem chunks_short {l : List SW} (h : 0 < l.length) (h2 : l.length ≤ 64) : chunks l = [l] := by
  rw [chunks_cons h, List.take_of_length_le h2, List.drop_eq_nil_of_le h2, chunks_nil]
/-- The heads beside the last list, if it has room. -/
def joinH (h : List SW) (cs : List (List SW)) : List (List SW) :=
  if h.length = 0 then cs else match cs.getLast? with
    | none => [h]
    | some x => if 64 < x.length + h.length then cs ++ [h] else cs.dropLast ++ [h ++ x]
theorem joinH_cons {h c : List SW} {cs : List (List SW)} (hc : cs ≠ []) : joinH h (c :: cs) = c :: joinH h cs := by
  unfold joinH
  obtain ⟨x, hx⟩ : ∃ x, cs.getLast? = some x := by
    cases cs with
    | nil => exact absurd rfl hc
    | cons a l => exact ⟨_, List.getLast?_eq_some_getLast (by simp)⟩
  have e : (c :: cs).getLast? = cs.getLast? := by
    cases cs with
    | nil => exact absurd rfl hc
    | cons a l => simp [List.getLast?_cons_cons]
  rw [e, hx]
  split
  · rfl
  · simp only
    split
    · rfl
    · rw [List.dropLast_cons_of_ne_nil hc]; rfl
/-- The reference's loop. -/
def refGo (h : List SW) : Nat → List SW → List (List SW)
  | 0, r => if 0 < r.length + h.length then [h ++ r] else []
  | n + 1, r => if 64 < r.length + h.length ∧ 0 < r.length then r.take (min r.length 64) :: refGo h n (r.drop (min r.length 64)) else if 0 < r.length + h.length then [h ++ r] else []
theorem ref_join {h : List SW} (hh : h.length ≤ 64) : ∀ (n : Nat) (r : List SW), r.length ≤ n → refGo h n r = joinH h (chunks r)
  | 0, r, hr => by
    obtain rfl := List.eq_nil_of_length_eq_zero (Nat.le_zero.1 hr)
    rw [chunks_nil]
    unfold refGo joinH
    simp only [List.length_nil, Nat.zero_add, List.append_nil, List.getLast?_nil]
    by_cases h0 : h.length = 0
    · rw [if_neg (by omega), if_pos h0]
    · rw [if_pos (by omega), if_neg h0]
  | n + 1, r, hr => by
    unfold refGo
    by_cases h1 : 64 < r.length + h.length ∧ 0 < r.length
    · rw [if_pos h1, ref_join hh n _ (by simp; omega)]
      by_cases h2 : r.length ≤ 64
      · rw [Nat.min_eq_left h2, List.take_length, List.drop_length, chunks_nil, chunks_short h1.2 h2]
        unfold joinH
        rw [if_neg (by omega), if_neg (by omega)]
        simp only [List.getLast?_nil, List.getLast?_singleton]
        rw [if_pos (by omega)]; rfl
      · rw [Nat.min_eq_right (by omega), chunks_cons h1.2, joinH_cons (chunks_ne (by simp; omega))]
    · rw [if_neg h1]
      by_cases h2 : 0 < r.length
      · have h3 : r.length ≤ 64 := by omega
        rw [chunks_short h2 h3, if_pos (by omega)]
        unfold joinH
        by_cases h0 : h.length = 0
        · rw [if_pos h0, List.eq_nil_of_length_eq_zero h0, List.nil_append]
        · rw [if_neg h0]
          simp only [List.getLast?_singleton]
          rw [if_neg (by omega)]; rfl
      · obtain rfl := List.eq_nil_of_length_eq_zero (show r.length = 0 by omega)
        rw [chunks_nil]
        unfold joinH
        simp only [List.length_nil, Nat.zero_add, List.append_nil, List.getLast?_nil]
        by_cases h0 : h.length = 0
        · rw [if_neg (by omega), if_pos h0]
        · rw [if_pos (by omega), if_neg h0]
theorem refGo_le (h : List SW) : ∀ (n m : Nat) (r : List SW), r.length ≤ n → r.length ≤ m → refGo h n r = refGo h m r
  | 0, 0, _, _, _ => rfl
  | 0, m + 1, r, h1, _ => by
    obtain rfl := List.eq_nil_of_length_eq_zero (Nat.le_zero.1 h1)
    simp [refGo]
  | n + 1, 0, r, _, h2 => by
    obtain rfl := List.eq_nil_of_length_eq_zero (Nat.le_zero.1 h2)
    simp [refGo]
  | n + 1, m + 1, r, h1, h2 => by
    unfold refGo
    split
    · rename_i hc
      rw [refGo_le h n m _ (by simp; omega) (by simp; omega)]
    · rfl
/-- The reference's lists. -/
def refAll (h r : List SW) : List (List SW) := refGo h r.length r
theorem refAll_step {h r : List SW} (hc : 64 < r.length + h.length ∧ 0 < r.length) : refAll h r = r.take (min r.length 64) :: refAll h (r.drop (min r.length 64)) := by
  unfold refAll
  obtain ⟨n, hn⟩ : ∃ n, r.length = n + 1 := ⟨r.length - 1, by omega⟩
  have e : refGo h r.length r = refGo h (n + 1) r := by rw [hn]
  rw [e]
  conv => lhs; unfold refGo
  rw [if_pos hc, refGo_le h n (r.drop (min r.length 64)).length _ (by simp; omega) (Nat.le_refl _)]
theorem refAll_end {h r : List SW} (hc : ¬ (64 < r.length + h.length ∧ 0 < r.length)) : refAll h r = if 0 < r.length + h.length then [h ++ r] else [] := by
  unfold refAll
  cases hn : r.length with
  | zero =>
    unfold refGo
    rw [hn]
  | succ n =>
    unfold refGo
    rw [if_neg hc, hn]
theorem refAll_len (h : List SW) : ∀ (n : Nat) (r : List SW), r.length ≤ n → (refAll h r).length ≤ r.length + 1
  | 0, r, hr => by
    rw [refAll_end (by omega)]
    split <;> simp
  | n + 1, r, hr => by
    by_cases hc : 64 < r.length + h.length ∧ 0 < r.length
    · have := refAll_len h n (r.drop (min r.length 64)) (by simp; omega)
      rw [refAll_step hc, List.length_cons]
      simp only [List.length_drop] at this
      omega
    · rw [refAll_end hc]
      split <;> simp
end Dsd
