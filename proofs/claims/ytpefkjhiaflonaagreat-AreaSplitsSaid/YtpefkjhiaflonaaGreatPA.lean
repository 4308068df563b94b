/- Plain words of chapter 17: what an interval is, on lists of bytes. No program in sight. -/
import Derived.Test.YtpefkjhiaflonaaGreatBase
set_option linter.unusedSimpArgs false
set_option linter.unusedVariables false
namespace Dsd

/-- The bytes of a field. -/
def fieldL (c n : Nat) : List UInt8 := [UInt8.ofNat c, UInt8.ofNat n, UInt8.ofNat (n / 256)]
theorem ofNat_mod (n : Nat) : UInt8.ofNat (n % 256) = UInt8.ofNat n := UInt8.toNat_inj.1 (by simp)
theorem fieldL_mod (c n : Nat) : fieldL c n = [UInt8.ofNat c, UInt8.ofNat (n % 256), UInt8.ofNat (n / 256 % 256)] := by simp only [fieldL, ofNat_mod]
@[go_sem] theorem length_fieldL (c n : Nat) : (fieldL c n).length = 3 := rfl
/-- The longest runs of successive records of one length: how many, and the length. -/
def runsL : List (List UInt8) → List (Nat × Nat)
  | [] => []
  | x :: xs => match runsL xs with
    | [] => [(1, x.length)]
    | (n, len) :: r => if len = x.length then (n + 1, len) :: r else (1, x.length) :: (n, len) :: r
def runField (r : Nat × Nat) : List UInt8 := if 1 < r.1 then fieldL 8 r.1 ++ fieldL 64 r.2 else fieldL 0 r.2
/-- The fields of records, the last one first. -/
def fieldsL (L : List (List UInt8)) : List UInt8 := (runsL L).reverse.flatMap runField
/-- How many records from the head on have the head's length. -/
def headRun : List (List UInt8) → Nat
  | [] => 1
  | x :: xs => 1 + (xs.takeWhile fun y => y.length == x.length).length
def sumLen (L : List (List UInt8)) : Nat := (L.map List.length).sum
def sizeL (L : List (List UInt8)) : Nat := 4 + (fieldsL L).length + sumLen L
def tailL (c f : Nat) : List UInt8 := [UInt8.ofNat c, UInt8.ofNat (c / 256), UInt8.ofNat f, UInt8.ofNat (f / 256)]
def wholeL (size : Nat) (content fields : List UInt8) : List UInt8 :=
  let free := size - 4 - content.length - fields.length
  content ++ List.replicate free 0 ++ fields ++ tailL content.length free

theorem headRun_eq (L : List (List UInt8)) (m k : Nat) (h1 : 1 ≤ k) (h2 : m + k ≤ L.length) (h3 : ∀ j, j < k → (L.getD (m + j) []).length = (L.getD m []).length)
    (h4 : m + k < L.length → (L.getD (m + k) []).length ≠ (L.getD m []).length) : headRun (L.drop m) = k := by
  have hm : m < L.length := by omega
  rw [List.drop_eq_getElem_cons hm]
  show 1 + (List.takeWhile _ _).length = k
  have hx : L[m] = L.getD m [] := by simp [List.getD, hm]
  rw [hx]
  generalize (L.getD m []).length = z at *
  suffices H : ∀ (k m : Nat), m + k ≤ L.length → (∀ j, j < k → (L.getD (m + j) []).length = z) → (m + k < L.length → (L.getD (m + k) []).length ≠ z) →
      ((L.drop m).takeWhile fun y => y.length == z).length = k by
    have := H (k - 1) (m + 1) (by omega) (fun j hj => by have := h3 (1 + j) (by omega); rwa [← Nat.add_assoc] at this) (by
      rw [show m + 1 + (k - 1) = m + k by omega]; exact h4)
    omega
  intro k
  induction k with
  | zero =>
    intro m _ _ h4
    by_cases hm : m < L.length
    · rw [List.drop_eq_getElem_cons hm, List.takeWhile_cons]
      have := h4 (by omega)
      simp [List.getD, hm] at this
      simp [this]
    · simp [List.drop_eq_nil_of_le (Nat.le_of_not_lt hm)]
  | succ k ih =>
    intro m h2 h3 h4
    have hm : m < L.length := by omega
    rw [List.drop_eq_getElem_cons hm, List.takeWhile_cons]
    have h0 := h3 0 (by omega)
    simp [List.getD, hm] at h0
    simp only [h0, beq_self_eq_true, if_true, List.length_cons]
    rw [ih (m + 1) (by omega) (fun j hj => by have := h3 (j + 1) (by omega); rwa [show m + (j + 1) = m + 1 + j by omega] at this) (by
      rw [show m + 1 + k = m + (k + 1) by omega]; exact h4)]
theorem headRun_pos (L : List (List UInt8)) : 1 ≤ headRun L := by cases L <;> simp [headRun]
theorem headRun_le (x : List UInt8) (L : List (List UInt8)) : headRun (x :: L) ≤ (x :: L).length := by
  have := (List.takeWhile_sublist (fun y : List UInt8 => y.length == x.length) (l := L)).length_le
  simp only [headRun, List.length_cons]; omega
/-- The first run, and those behind it. -/
theorem runsL_cons (x : List UInt8) (L : List (List UInt8)) : runsL (x :: L) = (headRun (x :: L), x.length) :: runsL ((x :: L).drop (headRun (x :: L))) := by
  induction L generalizing x with
  | nil => simp [runsL, headRun]
  | cons y L ih =>
    rw [runsL, ih y]
    simp only
    by_cases h : y.length = x.length
    · rw [if_pos h]
      have e : headRun (x :: y :: L) = headRun (y :: L) + 1 := by simp [headRun, h]; omega
      rw [e]; simp [h]
    · rw [if_neg h]
      have e : headRun (x :: y :: L) = 1 := by simp [headRun, h]
      rw [e, List.drop_one, List.tail_cons, ih y]
theorem fieldsL_nil : fieldsL [] = [] := rfl
theorem fieldsL_cons (x : List UInt8) (L : List (List UInt8)) : fieldsL (x :: L) = fieldsL ((x :: L).drop (headRun (x :: L))) ++ runField (headRun (x :: L), x.length) := by
  unfold fieldsL
  rw [runsL_cons x L]
  simp
theorem fieldsL_drop (L : List (List UInt8)) (i : Nat) (hi : i < L.length) : fieldsL (L.drop i) = fieldsL (L.drop (i + headRun (L.drop i))) ++ runField (headRun (L.drop i), (L.getD i []).length) := by
  have e : L.drop i = L[i] :: L.drop (i + 1) := List.drop_eq_getElem_cons hi
  have h := fieldsL_cons L[i] (L.drop (i + 1))
  rw [← e] at h
  rw [h, List.drop_drop]
  simp [List.getD, hi]
theorem length_runField (r : Nat × Nat) : (runField r).length = if 1 < r.1 then 6 else 3 := by unfold runField; split <;> simp [length_fieldL]
theorem length_fieldsL (L : List (List UInt8)) : (fieldsL L).length ≤ 6 * L.length := by
  suffices H : ∀ n (L : List (List UInt8)), L.length ≤ n → (fieldsL L).length ≤ 6 * L.length from H _ L (Nat.le_refl _)
  intro n
  induction n with
  | zero => intro L h; have : L = [] := List.eq_nil_of_length_eq_zero (by omega); subst this; simp [fieldsL_nil]
  | succ n ih =>
    intro L h
    cases L with
    | nil => simp [fieldsL_nil]
    | cons x L =>
      rw [fieldsL_cons, List.length_append, length_runField]
      have h1 := headRun_pos (x :: L)
      have h2 := headRun_le x L
      have h3 := ih ((x :: L).drop (headRun (x :: L))) (by rw [List.length_drop]; omega)
      rw [List.length_drop] at h3
      split <;> omega

def isSizeB (n : Int) : Bool := n == 128 || n == 256 || n == 512
def okLen (s : List UInt8) : Bool := decide (1 ≤ s.length ∧ s.length ≤ 200)
def allowedB (L : List (List UInt8)) : Bool := L.all okLen
theorem isSize_spec {n : Int} (h : isSizeB n = true) : n = 128 ∨ n = 256 ∨ n = 512 := by simp [isSizeB] at h; omega
theorem isSize_nat {n : Int} (h : isSizeB n = true) : ∃ k : Nat, n = k ∧ (k = 128 ∨ k = 256 ∨ k = 512) := by
  rcases isSize_spec h with rfl | rfl | rfl
  · exact ⟨128, rfl, by simp⟩
  · exact ⟨256, rfl, by simp⟩
  · exact ⟨512, rfl, by simp⟩
/-- The error of Encode, and its text. -/
def encErr (size : Int) (L : List (List UInt8)) : Int := if isSizeB size = false then 1 else if allowedB L = false then 2 else if size < sizeL L then 8 else 0
def encStr (size : Int) (L : List (List UInt8)) : List UInt8 := if encErr size L = 0 then wholeL size.toNat L.flatten (fieldsL L) else []


section
variable {d : List UInt8} {size en f : Nat} {x : Int} {out : List Int}
end


end Dsd
/- Plain laws of chapter 17: an encoding determines its records. -/
namespace Dsd

theorem sumLen_cons (x : List UInt8) (L : List (List UInt8)) : sumLen (x :: L) = x.length + sumLen L := by simp [sumLen]

end Dsd
/- Plain laws of chapter 17: the fields of an encoding tell the lengths of its records. -/
namespace Dsd

def flatRuns (rs : List (Nat × Nat)) : List Nat := rs.flatMap fun r => List.replicate r.1 r.2
theorem flatRuns_runs (L : List (List UInt8)) : flatRuns (runsL L) = L.map List.length := by
  induction L with
  | nil => rfl
  | cons x xs ih =>
    rw [runsL]
    cases h : runsL xs with
    | nil => rw [h] at ih; simp [flatRuns] at ih ⊢; exact ih
    | cons r rs =>
      obtain ⟨n, len⟩ := r
      rw [h] at ih
      simp only
      split
      · rename_i he
        subst he
        simp [flatRuns] at ih ⊢
        rw [List.replicate_succ, List.cons_append, ih]
      · simp [flatRuns] at ih ⊢
        exact ih
theorem runs_pos (L : List (List UInt8)) : ∀ r ∈ runsL L, 1 ≤ r.1 := by
  induction L with
  | nil => simp [runsL]
  | cons x xs ih =>
    rw [runsL]
    cases h : runsL xs with
    | nil => simp
    | cons r rs =>
      obtain ⟨n, len⟩ := r
      rw [h] at ih
      simp only
      split
      · intro r hr
        rw [List.mem_cons] at hr
        rcases hr with rfl | hr
        · simp
        · exact ih r (by simp [hr])
      · intro r hr
        rw [List.mem_cons] at hr
        rcases hr with rfl | hr
        · simp
        · exact ih r hr
theorem runs_len_mem (L : List (List UInt8)) : ∀ r ∈ runsL L, ∃ s ∈ L, s.length = r.2 := by
  induction L with
  | nil => simp [runsL]
  | cons x xs ih =>
    rw [runsL]
    cases h : runsL xs with
    | nil => intro r hr; simp at hr; subst hr; exact ⟨x, by simp, rfl⟩
    | cons r rs =>
      obtain ⟨n, len⟩ := r
      rw [h] at ih
      simp only
      split
      · rename_i he
        intro r hr
        rw [List.mem_cons] at hr
        rcases hr with rfl | hr
        · exact ⟨x, by simp, he.symm⟩
        · obtain ⟨s, hs, he⟩ := ih r (by simp [hr])
          exact ⟨s, by simp [hs], he⟩
      · intro r hr
        rw [List.mem_cons] at hr
        rcases hr with rfl | hr
        · exact ⟨x, by simp, rfl⟩
        · obtain ⟨s, hs, he⟩ := ih r hr
          exact ⟨s, by simp [hs], he⟩
theorem runs_count (rs : List (Nat × Nat)) (h : ∀ r ∈ rs, 1 ≤ r.1) : rs.length ≤ (flatRuns rs).length ∧ ∀ r ∈ rs, r.1 ≤ (flatRuns rs).length := by
  induction rs with
  | nil => simp
  | cons r rs ih =>
    have h1 := h r (by simp)
    obtain ⟨h2, h3⟩ := ih (fun r hr => h r (by simp [hr]))
    have e : (flatRuns (r :: rs)).length = r.1 + (flatRuns rs).length := by simp [flatRuns]
    rw [e]
    refine ⟨by simp; omega, fun q hq => ?_⟩
    rw [List.mem_cons] at hq
    rcases hq with rfl | hq
    · omega
    · have := h3 q hq; omega


/-- The fields of runs, the last one first. -/
def runFields (rs : List (Nat × Nat)) : List UInt8 := rs.reverse.flatMap runField
theorem runFields_cons (r : Nat × Nat) (rs : List (Nat × Nat)) : runFields (r :: rs) = runFields rs ++ runField r := by simp [runFields]


theorem fieldsL_runs (L : List (List UInt8)) : fieldsL L = runFields (runsL L) := rfl
theorem allowed_mem {L : List (List UInt8)} (h : allowedB L = true) {s : List UInt8} (hs : s ∈ L) : 1 ≤ s.length ∧ s.length ≤ 200 := by
  unfold allowedB at h
  rw [List.all_eq_true] at h
  simpa [okLen] using h s hs
theorem allowed_count {L : List (List UInt8)} (h : allowedB L = true) : L.length ≤ sumLen L := by
  induction L with
  | nil => simp
  | cons x L ih =>
    have h1 := allowed_mem h (s := x) (by simp)
    have h2 : allowedB L = true := by unfold allowedB at *; rw [List.all_cons, Bool.and_eq_true] at h; exact h.2
    have := ih h2
    rw [sumLen_cons, List.length_cons]; omega


/-- What a run takes. -/
def cost (r : Nat × Nat) : Nat := r.1 * r.2 + 3 * min r.1 2
def costs (rs : List (Nat × Nat)) : Nat := (rs.map cost).sum
theorem costs_append (a b : List (Nat × Nat)) : costs (a ++ b) = costs a + costs b := by simp [costs]
theorem costs_runs (rs : List (Nat × Nat)) (h : ∀ r ∈ rs, 1 ≤ r.1) : costs rs = (flatRuns rs).sum + (runFields rs).length := by
  induction rs with
  | nil => rfl
  | cons r rs ih =>
    have h1 := h r (by simp)
    have ih := ih (fun r hr => h r (by simp [hr]))
    rw [runFields_cons, List.length_append, length_runField]
    have e1 : costs (r :: rs) = cost r + costs rs := by simp [costs]
    have e2 : (flatRuns (r :: rs)).sum = r.1 * r.2 + (flatRuns rs).sum := by simp [flatRuns]
    rw [e1, e2, ih]
    unfold cost
    split <;> omega
theorem costs_size (L : List (List UInt8)) : 4 + costs (runsL L) = sizeL L := by
  rw [costs_runs _ (runs_pos L), flatRuns_runs, ← fieldsL_runs]
  unfold sizeL sumLen
  omega
theorem costs_le (L : List (List UInt8)) (done rest : List (Nat × Nat)) (h : runsL L = done ++ rest) : 4 + costs done + costs rest = sizeL L := by
  rw [← costs_size, h, costs_append]; omega
end Dsd
/- Plain laws of chapter 17: the program's way through the fields of an interval. -/
namespace Dsd








end Dsd
/- Plain laws of chapter 17: fewer records take less. -/
namespace Dsd

def fcount (rs : List (Nat × Nat)) : Nat := (rs.map fun r => 3 * min r.1 2).sum
theorem fields_count (rs : List (Nat × Nat)) (h : ∀ r ∈ rs, 1 ≤ r.1) : (runFields rs).length = fcount rs := by
  induction rs with
  | nil => rfl
  | cons r rs ih =>
    have h1 := h r (by simp)
    have ih := ih (fun r hr => h r (by simp [hr]))
    rw [runFields_cons, List.length_append, length_runField, ih]
    have e1 : fcount (r :: rs) = 3 * min r.1 2 + fcount rs := by simp [fcount]
    rw [e1]
    split <;> omega
theorem fields_len (L : List (List UInt8)) : (fieldsL L).length = fcount (runsL L) := by rw [fieldsL_runs]; exact fields_count _ (runs_pos L)
theorem fcount_append (a b : List (Nat × Nat)) : fcount (a ++ b) = fcount a + fcount b := by simp [fcount]
theorem fcount_one (n len : Nat) : fcount [(n, len)] = 3 * min n 2 := by simp [fcount]

theorem runs_cons (x : List UInt8) (xs : List (List UInt8)) : (runsL xs = [] ∧ runsL (x :: xs) = [(1, x.length)]) ∨
    ∃ n len r, runsL xs = (n, len) :: r ∧ ((len = x.length ∧ runsL (x :: xs) = (n + 1, len) :: r) ∨ (len ≠ x.length ∧ runsL (x :: xs) = (1, x.length) :: (n, len) :: r)) := by
  cases h : runsL xs with
  | nil => exact .inl ⟨rfl, by rw [runsL, h]⟩
  | cons r rs =>
    obtain ⟨n, len⟩ := r
    refine .inr ⟨n, len, rs, rfl, ?_⟩
    by_cases hl : len = x.length
    · exact .inl ⟨hl, by rw [runsL, h]; simp [hl]⟩
    · exact .inr ⟨hl, by rw [runsL, h]; simp [hl]⟩
theorem fields_tail (x : List UInt8) (xs : List (List UInt8)) : (fieldsL xs).length ≤ (fieldsL (x :: xs)).length := by
  rw [fields_len, fields_len]
  rcases runs_cons x xs with ⟨h1, h2⟩ | ⟨n, len, r, h1, ⟨_, h2⟩ | ⟨_, h2⟩⟩ <;> rw [h1, h2]
  · simp [fcount]
  · simp [fcount]; omega
  · simp [fcount]
/-- A record behind the others: a run of its own, or the last run has one more. -/
theorem runs_snoc (z : List UInt8) : ∀ L : List (List UInt8), runsL (L ++ [z]) = runsL L ++ [(1, z.length)] ∨ ∃ rs n, runsL L = rs ++ [(n, z.length)] ∧ runsL (L ++ [z]) = rs ++ [(n + 1, z.length)]
  | [] => .inl (by simp [runsL])
  | x :: xs => by
    rw [List.cons_append]
    rcases runs_snoc z xs with h | ⟨rs, n, h1, h2⟩
    · -- a run of its own behind those of xs
      rcases runs_cons x xs with ⟨a1, a2⟩ | ⟨m, len, r, a1, ⟨a3, a2⟩ | ⟨a3, a2⟩⟩
      · rw [a1, List.nil_append] at h
        rcases runs_cons x (xs ++ [z]) with ⟨b1, _⟩ | ⟨m', len', r', b1, ⟨b3, b2⟩ | ⟨b3, b2⟩⟩
        · rw [h] at b1; cases b1
        · rw [h] at b1
          simp only [List.cons.injEq, Prod.mk.injEq] at b1
          obtain ⟨⟨rfl, rfl⟩, rfl⟩ := b1
          exact .inr ⟨[], 1, by rw [a2, b3]; rfl, by rw [b2]; rfl⟩
        · rw [h] at b1
          simp only [List.cons.injEq, Prod.mk.injEq] at b1
          obtain ⟨⟨rfl, rfl⟩, rfl⟩ := b1
          exact .inl (by rw [a2, b2]; rfl)
      · rw [a1] at h
        rcases runs_cons x (xs ++ [z]) with ⟨b1, _⟩ | ⟨m', len', r', b1, ⟨b3, b2⟩ | ⟨b3, b2⟩⟩
        · rw [h] at b1; cases b1
        · rw [h] at b1
          simp only [List.cons_append, List.cons.injEq, Prod.mk.injEq] at b1
          obtain ⟨⟨rfl, rfl⟩, rfl⟩ := b1
          exact .inl (by rw [a2, b2]; rfl)
        · rw [h] at b1
          simp only [List.cons_append, List.cons.injEq, Prod.mk.injEq] at b1
          obtain ⟨⟨rfl, rfl⟩, rfl⟩ := b1
          exact absurd a3 b3
      · rw [a1] at h
        rcases runs_cons x (xs ++ [z]) with ⟨b1, _⟩ | ⟨m', len', r', b1, ⟨b3, b2⟩ | ⟨b3, b2⟩⟩
        · rw [h] at b1; cases b1
        · rw [h] at b1
          simp only [List.cons_append, List.cons.injEq, Prod.mk.injEq] at b1
          obtain ⟨⟨rfl, rfl⟩, rfl⟩ := b1
          exact absurd b3 a3
        · rw [h] at b1
          simp only [List.cons_append, List.cons.injEq, Prod.mk.injEq] at b1
          obtain ⟨⟨rfl, rfl⟩, rfl⟩ := b1
          exact .inl (by rw [a2, b2]; rfl)
    · -- the last run of xs has one more
      cases rs with
      | nil =>
        rw [List.nil_append] at h1 h2
        rcases runs_cons x xs with ⟨a1, a2⟩ | ⟨m, len, r, a1, a2⟩
        · rw [h1] at a1; cases a1
        · rw [h1] at a1
          simp only [List.cons.injEq, Prod.mk.injEq] at a1
          obtain ⟨⟨rfl, rfl⟩, rfl⟩ := a1
          rcases runs_cons x (xs ++ [z]) with ⟨b1, _⟩ | ⟨m', len', r', b1, b2⟩
          · rw [h2] at b1; cases b1
          · rw [h2] at b1
            simp only [List.cons.injEq, Prod.mk.injEq] at b1
            obtain ⟨⟨rfl, rfl⟩, rfl⟩ := b1
            rcases a2 with ⟨a3, a2⟩ | ⟨a3, a2⟩
            · rcases b2 with ⟨b3, b2⟩ | ⟨b3, b2⟩
              · exact .inr ⟨[], n + 1, by rw [a2]; rfl, by rw [b2]; rfl⟩
              · exact absurd a3 b3
            · rcases b2 with ⟨b3, b2⟩ | ⟨b3, b2⟩
              · exact absurd b3 a3
              · exact .inr ⟨[(1, x.length)], n, by rw [a2]; rfl, by rw [b2]; rfl⟩
      | cons r0 rs =>
        obtain ⟨m0, l0⟩ := r0
        rw [List.cons_append] at h1 h2
        rcases runs_cons x xs with ⟨a1, a2⟩ | ⟨m, len, r, a1, a2⟩
        · rw [h1] at a1; cases a1
        · rw [h1] at a1
          simp only [List.cons.injEq, Prod.mk.injEq] at a1
          obtain ⟨⟨rfl, rfl⟩, rfl⟩ := a1
          rcases runs_cons x (xs ++ [z]) with ⟨b1, _⟩ | ⟨m', len', r', b1, b2⟩
          · rw [h2] at b1; cases b1
          · rw [h2] at b1
            simp only [List.cons.injEq, Prod.mk.injEq] at b1
            obtain ⟨⟨rfl, rfl⟩, rfl⟩ := b1
            rcases a2 with ⟨a3, a2⟩ | ⟨a3, a2⟩
            · rcases b2 with ⟨b3, b2⟩ | ⟨b3, b2⟩
              · exact .inr ⟨(m0 + 1, l0) :: rs, n, by rw [a2]; rfl, by rw [b2]; rfl⟩
              · exact absurd a3 b3
            · rcases b2 with ⟨b3, b2⟩ | ⟨b3, b2⟩
              · exact absurd b3 a3
              · exact .inr ⟨(1, x.length) :: (m0, l0) :: rs, n, by rw [a2]; rfl, by rw [b2]; rfl⟩
theorem fields_init (z : List UInt8) (L : List (List UInt8)) : (fieldsL L).length ≤ (fieldsL (L ++ [z])).length := by
  rw [fields_len, fields_len]
  rcases runs_snoc z L with h | ⟨rs, n, h1, h2⟩
  · rw [h, fcount_append]; omega
  · rw [h1, h2, fcount_append, fcount_append, fcount_one, fcount_one]; omega
theorem size_tail (x : List UInt8) (xs : List (List UInt8)) : sizeL xs + x.length ≤ sizeL (x :: xs) := by
  have := fields_tail x xs
  unfold sizeL
  rw [sumLen_cons]
  omega
theorem size_init (z : List UInt8) (L : List (List UInt8)) : sizeL L + z.length ≤ sizeL (L ++ [z]) := by
  have := fields_init z L
  have e : sumLen (L ++ [z]) = sumLen L + z.length := by simp [sumLen]
  unfold sizeL
  rw [e]
  omega
/-- Whether records fit. -/
def fitsB (size : Int) (L : List (List UInt8)) : Bool := isSizeB size && allowedB L && decide ((sizeL L : Int) ≤ size)
end Dsd
