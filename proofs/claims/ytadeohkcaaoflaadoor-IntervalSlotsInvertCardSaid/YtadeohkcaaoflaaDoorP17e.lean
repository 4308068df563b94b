/- Plain laws of chapter 17: fewer records take less. -/
import Derived.Test.YtadeohkcaaoflaaDoorP17d
namespace Dsd

def fcount (rs : List (Nat × Nat)) : Nat := (rs.map fun r => 3 * min r.1 2).sum
theorem fields_count (rs : List (Nat × Nat)) (h : ∀ r ∈ rs, 1 ≤ r.1) : (runFields rs).length = fcount rs := by
  induction rs with
  | nil => rfl
  | cons r rs ih =>
    have h1 := h r (by simp)
    have ih := ih (fun r hr => h r (by simp [hr]))
    rw [runFields_cons, List.length_append, length_runField, ih]
    have e1 : fcount (r :: rs) = 3 * min r.1 2 + fcount rs := by simp [fcount]
    rw [e1]
    split <;> omega
theorem fields_len (L : List (List UInt8)) : (fieldsL L).length = fcount (runsL L) := by rw [fieldsL_runs]; exact fields_count _ (runs_pos L)
theorem fcount_append (a b : List (Nat × Nat)) : fcount (a ++ b) = fcount a + fcount b := by simp [fcount]
theorem fcount_one (n len : Nat) : fcount [(n, len)] = 3 * min n 2 := by simp [fcount]

theorem runs_cons (x : List UInt8) (xs : List (List UInt8)) : (runsL xs = [] ∧ runsL (x :: xs) = [(1, x.length)]) ∨
    ∃ n len r, runsL xs = (n, len) :: r ∧ ((len = x.length ∧ runsL (x :: xs) = (n + 1, len) :: r) ∨ (len ≠ x.length ∧ runsL (x :: xs) = (1, x.length) :: (n, len) :: r)) := by
  cases h : runsL xs with
  | nil => exact .inl ⟨rfl, by rw [runsL, h]⟩
  | cons r rs =>
    obtain ⟨n, len⟩ := r
    refine .inr ⟨n, len, rs, rfl, ?_⟩
    by_cases hl : len = x.length
    · exact .inl ⟨hl, by rw [runsL, h]; simp [hl]⟩
    · exact .inr ⟨hl, by rw [runsL, h]; simp [hl]⟩
theorem fields_tail (x : List UInt8) (xs : List (List UInt8)) : (fieldsL xs).length ≤ (fieldsL (x :: xs)).length := by
  rw [fields_len, fields_len]
  rcases runs_cons x xs with ⟨h1, h2⟩ | ⟨n, len, r, h1, ⟨_, h2⟩ | ⟨_, h2⟩⟩ <;> rw [h1, h2]
  · simp [fcount]
  · simp [fcount]; omega
  · simp [fcount]
theorem runs_nil {L : List (List UInt8)} (h : runsL L = []) : L = [] := by
  cases L with
  | nil => rfl
  | cons x xs => rcases runs_cons x xs with ⟨_, h2⟩ | ⟨n, len, r, _, ⟨_, h2⟩ | ⟨_, h2⟩⟩ <;> rw [h2] at h <;> cases h
/-- A record behind the others: a run of its own, or the last run has one more. -/
theorem runs_snoc (z : List UInt8) : ∀ L : List (List UInt8), runsL (L ++ [z]) = runsL L ++ [(1, z.length)] ∨ ∃ rs n, runsL L = rs ++ [(n, z.length)] ∧ runsL (L ++ [z]) = rs ++ [(n + 1, z.length)]
  | [] => .inl (by simp [runsL])
  | x :: xs => by
    rw [List.cons_append]
    rcases runs_snoc z xs with h | ⟨rs, n, h1, h2⟩
    · -- a run of its own behind those of xs
      rcases runs_cons x xs with ⟨a1, a2⟩ | ⟨m, len, r, a1, ⟨a3, a2⟩ | ⟨a3, a2⟩⟩
      · rw [a1, List.nil_append] at h
        rcases runs_cons x (xs ++ [z]) with ⟨b1, _⟩ | ⟨m', len', r', b1, ⟨b3, b2⟩ | ⟨b3, b2⟩⟩
        · rw [h] at b1; cases b1
        · rw [h] at b1
          simp only [List.cons.injEq, Prod.mk.injEq] at b1
          obtain ⟨⟨rfl, rfl⟩, rfl⟩ := b1
          exact .inr ⟨[], 1, by rw [a2, b3]; rfl, by rw [b2]; rfl⟩
        · rw [h] at b1
          simp only [List.cons.injEq, Prod.mk.injEq] at b1
          obtain ⟨⟨rfl, rfl⟩, rfl⟩ := b1
          exact .inl (by rw [a2, b2]; rfl)
      · rw [a1] at h
        rcases runs_cons x (xs ++ [z]) with ⟨b1, _⟩ | ⟨m', len', r', b1, ⟨b3, b2⟩ | ⟨b3, b2⟩⟩
        · rw [h] at b1; cases b1
        · rw [h] at b1
          simp only [List.cons_append, List.cons.injEq, Prod.mk.injEq] at b1
          obtain ⟨⟨rfl, rfl⟩, rfl⟩ := b1
          exact .inl (by rw [a2, b2]; rfl)
        · rw [h] at b1
          simp only [List.cons_append, List.cons.injEq, Prod.mk.injEq] at b1
          obtain ⟨⟨rfl, rfl⟩, rfl⟩ := b1
          exact absurd a3 b3
      · rw [a1] at h
        rcases runs_cons x (xs ++ [z]) with ⟨b1, _⟩ | ⟨m', len', r', b1, ⟨b3, b2⟩ | ⟨b3, b2⟩⟩
        · rw [h] at b1; cases b1
        · rw [h] at b1
          simp only [List.cons_append, List.cons.injEq, Prod.mk.injEq] at b1
          obtain ⟨⟨rfl, rfl⟩, rfl⟩ := b1
          exact absurd b3 a3
        · rw [h] at b1
          simp only [List.cons_append, List.cons.injEq, Prod.mk.injEq] at b1
          obtain ⟨⟨rfl, rfl⟩, rfl⟩ := b1
          exact .inl (by rw [a2, b2]; rfl)
    · -- the last run of xs has one more
      cases rs with
      | nil =>
        rw [List.nil_append] at h1 h2
        rcases runs_cons x xs with ⟨a1, a2⟩ | ⟨m, len, r, a1, a2⟩
        · rw [h1] at a1; cases a1
        · rw [h1] at a1
          simp only [List.cons.injEq, Prod.mk.injEq] at a1
          obtain ⟨⟨rfl, rfl⟩, rfl⟩ := a1
          rcases runs_cons x (xs ++ [z]) with ⟨b1, _⟩ | ⟨m', len', r', b1, b2⟩
          · rw [h2] at b1; cases b1
          · rw [h2] at b1
            simp only [List.cons.injEq, Prod.mk.injEq] at b1
            obtain ⟨⟨rfl, rfl⟩, rfl⟩ := b1
            rcases a2 with ⟨a3, a2⟩ | ⟨a3, a2⟩
            · rcases b2 with ⟨b3, b2⟩ | ⟨b3, b2⟩
              · exact .inr ⟨[], n + 1, by rw [a2]; rfl, by rw [b2]; rfl⟩
              · exact absurd a3 b3
            · rcases b2 with ⟨b3, b2⟩ | ⟨b3, b2⟩
              · exact absurd b3 a3
              · exact .inr ⟨[(1, x.length)], n, by rw [a2]; rfl, by rw [b2]; rfl⟩
      | cons r0 rs =>
        obtain ⟨m0, l0⟩ := r0
        rw [List.cons_append] at h1 h2
        rcases runs_cons x xs with ⟨a1, a2⟩ | ⟨m, len, r, a1, a2⟩
        · rw [h1] at a1; cases a1
        · rw [h1] at a1
          simp only [List.cons.injEq, Prod.mk.injEq] at a1
          obtain ⟨⟨rfl, rfl⟩, rfl⟩ := a1
          rcases runs_cons x (xs ++ [z]) with ⟨b1, _⟩ | ⟨m', len', r', b1, b2⟩
          · rw [h2] at b1; cases b1
          · rw [h2] at b1
            simp only [List.cons.injEq, Prod.mk.injEq] at b1
            obtain ⟨⟨rfl, rfl⟩, rfl⟩ := b1
            rcases a2 with ⟨a3, a2⟩ | ⟨a3, a2⟩
            · rcases b2 with ⟨b3, b2⟩ | ⟨b3, b2⟩
              · exact .inr ⟨(m0 + 1, l0) :: rs, n, by rw [a2]; rfl, by rw [b2]; rfl⟩
              · exact absurd a3 b3
            · rcases b2 with ⟨b3, b2⟩ | ⟨b3, b2⟩
              · exact absurd b3 a3
              · exact .inr ⟨(1, x.length) :: (m0, l0) :: rs, n, by rw [a2]; rfl, by rw [b2]; rfl⟩
theorem fields_init (z : List UInt8) (L : List (List UInt8)) : (fieldsL L).length ≤ (fieldsL (L ++ [z])).length := by
  rw [fields_len, fields_len]
  rcases runs_snoc z L with h | ⟨rs, n, h1, h2⟩
  · rw [h, fcount_append]; omega
  · rw [h1, h2, fcount_append, fcount_append, fcount_one, fcount_one]; omega
theorem size_tail (x : List UInt8) (xs : List (List UInt8)) : sizeL xs + x.length ≤ sizeL (x :: xs) := by
  have := fields_tail x xs
  unfold sizeL
  rw [sumLen_cons]
  omega
theorem size_init (z : List UInt8) (L : List (List UInt8)) : sizeL L + z.length ≤ sizeL (L ++ [z]) := by
  have := fields_init z L
  have e : sumLen (L ++ [z]) = sumLen L + z.length := by simp [sumLen]
  unfold sizeL
  rw [e]
  omega
/-- Whether records fit. -/
def fitsB (size : Int) (L : List (List UInt8)) : Bool := isSizeB size && allowedB L && decide ((sizeL L : Int) ≤ size)
theorem fits_tail {size : Int} {x : List UInt8} {xs : List (List UInt8)} (h : fitsB size (x :: xs) = true) : fitsB size xs = true := by
  have h1 := size_tail x xs
  unfold fitsB allowedB at *
  simp only [Bool.and_eq_true, decide_eq_true_eq, List.all_cons] at *
  exact ⟨⟨h.1.1, h.1.2.2⟩, by omega⟩
theorem fits_init {size : Int} {z : List UInt8} {L : List (List UInt8)} (h : fitsB size (L ++ [z]) = true) : fitsB size L = true := by
  have h1 := size_init z L
  unfold fitsB allowedB at *
  simp only [Bool.and_eq_true, decide_eq_true_eq, List.all_append] at *
  exact ⟨⟨h.1.1, h.1.2.1⟩, by omega⟩
theorem fits_twice {size : Int} {L : List (List UInt8)} (h : fitsB size L = true) (h5 : size ≠ 512) : fitsB (2 * size) L = true := by
  unfold fitsB at *
  simp only [Bool.and_eq_true, decide_eq_true_eq] at *
  obtain ⟨⟨h1, h2⟩, h3⟩ := h
  obtain ⟨n, rfl, hn⟩ := isSize_nat h1
  refine ⟨⟨?_, h2⟩, by omega⟩
  rcases hn with rfl | rfl | rfl
  · rfl
  · rfl
  · exact absurd rfl h5
end Dsd
