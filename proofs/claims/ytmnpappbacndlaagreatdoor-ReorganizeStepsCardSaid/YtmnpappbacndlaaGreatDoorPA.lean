/- Plain words of chapter 17: what an interval is, on lists of bytes. No program in sight. -/
import Derived.Test.YtmnpappbacndlaaGreatDoorBase
set_option linter.unusedSimpArgs false
set_option linter.unusedVariables false
namespace Dsd

/-- The bytes of a field. -/
def fieldL (c n : Nat) : List UInt8 := [UInt8.ofNat c, UInt8.ofNat n, UInt8.ofNat (n / 256)]
theorem ofNat_mod (n : Nat) : UInt8.ofNat (n % 256) = UInt8.ofNat n := UInt8.toNat_inj.1 (by simp)
theorem fieldL_mod (c n : Nat) : fieldL c n = [UInt8.ofNat c, UInt8.ofNat (n % 256), UInt8.ofNat (n / 256 % 256)] := by simp only [fieldL, ofNat_mod]
@[go_sem] theorem length_fieldL (c n : Nat) : (fieldL c n).length = 3 := rfl
/-- The longest runs of successive records of one length: how many, and the length. -/
def runsL : List (List UInt8) → List (Nat × Nat)
  | [] => []
  | x :: xs => match runsL xs with
    | [] => [(1, x.length)]
    | (n, len) :: r => if len = x.length then (n + 1, len) :: r else (1, x.length) :: (n, len) :: r
def runField (r : Nat × Nat) : List UInt8 := if 1 < r.1 then fieldL 8 r.1 ++ fieldL 64 r.2 else fieldL 0 r.2
/-- The fields of records, the last one first. -/
def fieldsL (L : List (List UInt8)) : List UInt8 := (runsL L).reverse.flatMap runField
/-- How many records from the head on have the head's length. -/
def headRun : List (List UInt8) → Nat
  | [] => 1
  | x :: xs => 1 + (xs.takeWhile fun y => y.length == x.length).length
def sumLen (L : List (List UInt8)) : Nat := (L.map List.length).sum
def sizeL (L : List (List UInt8)) : Nat := 4 + (fieldsL L).length + sumLen L
def tailL (c f : Nat) : List UInt8 := [UInt8.ofNat c, UInt8.ofNat (c / 256), UInt8.ofNat f, UInt8.ofNat (f / 256)]
def wholeL (size : Nat) (content fields : List UInt8) : List UInt8 :=
  let free := size - 4 - content.length - fields.length
  content ++ List.replicate free 0 ++ fields ++ tailL content.length free

theorem headRun_eq (L : List (List UInt8)) (m k : Nat) (h1 : 1 ≤ k) (h2 : m + k ≤ L.length) (h3 : ∀ j, j < k → (L.getD (m + j) []).length = (L.getD m []).length)
    (h4 : m + k < L.length → (L.getD (m + k) []).length ≠ (L.getD m []).length) : headRun (L.drop m) = k := by
  have hm : m < L.length := by omega
  rw [List.drop_eq_getElem_cons hm]
  show 1 + (List.takeWhile _ _).length = k
  have hx : L[m] = L.getD m [] := by simp [List.getD, hm]
  rw [hx]
  generalize (L.getD m []).length = z at *
  suffices H : ∀ (k m : Nat), m + k ≤ L.length → (∀ j, j < k → (L.getD (m + j) []).length = z) → (m + k < L.length → (L.getD (m + k) []).length ≠ z) →
      ((L.drop m).takeWhile fun y => y.length == z).length = k by
    have := H (k - 1) (m + 1) (by omega) (fun j hj => by have := h3 (1 + j) (by omega); rwa [← Nat.add_assoc] at this) (by
      rw [show m + 1 + (k - 1) = m + k by omega]; exact h4)
    omega
  intro k
  induction k with
  | zero =>
    intro m _ _ h4
    by_cases hm : m < L.length
    · rw [List.drop_eq_getElem_cons hm, List.takeWhile_cons]
      have := h4 (by omega)
      simp [List.getD, hm] at this
      simp [this]
    · simp [List.drop_eq_nil_of_le (Nat.le_of_not_lt hm)]
  | succ k ih =>
    intro m h2 h3 h4
    have hm : m < L.length := by omega
    rw [List.drop_eq_getElem_cons hm, List.takeWhile_cons]
    have h0 := h3 0 (by omega)
    simp [List.getD, hm] at h0
    simp only [h0, beq_self_eq_true, if_true, List.length_cons]
    rw [ih (m + 1) (by omega) (fun j hj => by have := h3 (j + 1) (by omega); rwa [show m + (j + 1) = m + 1 + j by omega] at this) (by
      rw [show m + 1 + k = m + (k + 1) by omega]; exact h4)]
theorem headRun_pos (L : List (List UInt8)) : 1 ≤ headRun L := by cases L <;> simp [headRun]
theorem headRun_le (x : List UInt8) (L : List (List UInt8)) : headRun (x :: L) ≤ (x :: L).length := by
  have := (List.takeWhile_sublist (fun y : List UInt8 => y.length == x.length) (l := L)).length_le
  simp only [headRun, List.length_cons]; omega
/-- The first run, and those behind it. -/
theorem runsL_cons (x : List UInt8) (L : List (List UInt8)) : runsL (x :: L) = (headRun (x :: L), x.length) :: runsL ((x :: L).drop (headRun (x :: L))) := by
  induction L generalizing x with
  | nil => simp [runsL, headRun]
  | cons y L ih =>
    rw [runsL, ih y]
    simp only
    by_cases h : y.length = x.length
    · rw [if_pos h]
      have e : headRun (x :: y :: L) = headRun (y :: L) + 1 := by simp [headRun, h]; omega
      rw [e]; simp [h]
    · rw [if_neg h]
      have e : headRun (x :: y :: L) = 1 := by simp [headRun, h]
      rw [e, List.drop_one, List.tail_cons, ih y]
theorem fieldsL_nil : fieldsL [] = [] := rfl
theorem fieldsL_cons (x : List UInt8) (L : List (List UInt8)) : fieldsL (x :: L) = fieldsL ((x :: L).drop (headRun (x :: L))) ++ runField (headRun (x :: L), x.length) := by
  unfold fieldsL
  rw [runsL_cons x L]
  simp
theorem fieldsL_drop (L : List (List UInt8)) (i : Nat) (hi : i < L.length) : fieldsL (L.drop i) = fieldsL (L.drop (i + headRun (L.drop i))) ++ runField (headRun (L.drop i), (L.getD i []).length) := by
  have e : L.drop i = L[i] :: L.drop (i + 1) := List.drop_eq_getElem_cons hi
  have h := fieldsL_cons L[i] (L.drop (i + 1))
  rw [← e] at h
  rw [h, List.drop_drop]
  simp [List.getD, hi]
theorem length_runField (r : Nat × Nat) : (runField r).length = if 1 < r.1 then 6 else 3 := by unfold runField; split <;> simp [length_fieldL]
theorem length_fieldsL (L : List (List UInt8)) : (fieldsL L).length ≤ 6 * L.length := by
  suffices H : ∀ n (L : List (List UInt8)), L.length ≤ n → (fieldsL L).length ≤ 6 * L.length from H _ L (Nat.le_refl _)
  intro n
  induction n with
  | zero => intro L h; have : L = [] := List.eq_nil_of_length_eq_zero (by omega); subst this; simp [fieldsL_nil]
  | succ n ih =>
    intro L h
    cases L with
    | nil => simp [fieldsL_nil]
    | cons x L =>
      rw [fieldsL_cons, List.length_append, length_runField]
      have h1 := headRun_pos (x :: L)
      have h2 := headRun_le x L
      have h3 := ih ((x :: L).drop (headRun (x :: L))) (by rw [List.length_drop]; omega)
      rw [List.length_drop] at h3
      split <;> omega

def isSizeB (n : Int) : Bool := n == 128 || n == 256 || n == 512
def okLen (s : List UInt8) : Bool := decide (1 ≤ s.length ∧ s.length ≤ 200)
def allowedB (L : List (List UInt8)) : Bool := L.all okLen
theorem isSize_spec {n : Int} (h : isSizeB n = true) : n = 128 ∨ n = 256 ∨ n = 512 := by simp [isSizeB] at h; omega
theorem isSize_nat {n : Int} (h : isSizeB n = true) : ∃ k : Nat, n = k ∧ (k = 128 ∨ k = 256 ∨ k = 512) := by
  rcases isSize_spec h with rfl | rfl | rfl
  · exact ⟨128, rfl, by simp⟩
  · exact ⟨256, rfl, by simp⟩
  · exact ⟨512, rfl, by simp⟩
/-- The error of Encode, and its text. -/
def encErr (size : Int) (L : List (List UInt8)) : Int := if isSizeB size = false then 1 else if allowedB L = false then 2 else if size < sizeL L then 8 else 0
def encStr (size : Int) (L : List (List UInt8)) : List UInt8 := if encErr size L = 0 then wholeL size.toNat L.flatten (fieldsL L) else []

/-- The lengths that the fields of an interval describe, read from the place x down (the reference's way). -/
def lensF (d : List UInt8) (size en : Nat) : Nat → Int → List Int → List Int
  | 0, _, out => out
  | f + 1, x, out =>
    if (en : Int) ≤ x ∧ 0 ≤ x then
      if byt d x.toNat = 0 then lensF d size en f (x - 3) (out ++ [((two d (x + 1).toNat : Nat) : Int)])
      else if byt d x.toNat = 64 ∧ (en : Int) ≤ x - 3 ∧ byt d (x - 3).toNat = 8 then
        lensF d size en f (x - 3 - 3) (out ++ List.replicate (min (two d (x - 2).toNat) size) ((two d (x + 1).toNat : Nat) : Int))
      else [-1]
    else out
def endOf (d : List UInt8) (size : Nat) : Nat := two d (size - 4) + two d (size - 2)
def lensL (size : Nat) (d : List UInt8) : List Int := lensF d size (endOf d size) size (size - 7) []

section
variable {d : List UInt8} {size en f : Nat} {x : Int} {out : List Int}
theorem lensF_end (h : ¬ ((en : Int) ≤ x ∧ 0 ≤ x)) : lensF d size en f x out = out := by
  cases f with
  | zero => rfl
  | succ f => rw [lensF, if_neg h]
theorem lensF_zero (h1 : (en : Int) ≤ x) (h2 : 0 ≤ x) (h : byt d x.toNat = 0) : lensF d size en (f + 1) x out = lensF d size en f (x - 3) (out ++ [((two d (x + 1).toNat : Nat) : Int)]) := by
  rw [lensF, if_pos ⟨h1, h2⟩, if_pos h]
theorem lensF_many (h1 : (en : Int) ≤ x) (h2 : 0 ≤ x) (h : byt d x.toNat = 64) (h3 : (en : Int) ≤ x - 3) (h4 : byt d (x - 3).toNat = 8) :
    lensF d size en (f + 1) x out = lensF d size en f (x - 3 - 3) (out ++ List.replicate (min (two d (x - 2).toNat) size) ((two d (x + 1).toNat : Nat) : Int)) := by
  rw [lensF, if_pos ⟨h1, h2⟩, if_neg (by omega), if_pos ⟨h, h3, h4⟩]
theorem lensF_bad (h1 : (en : Int) ≤ x) (h2 : 0 ≤ x) (h : byt d x.toNat ≠ 0) (h3 : ¬ (byt d x.toNat = 64 ∧ (en : Int) ≤ x - 3 ∧ byt d (x - 3).toNat = 8)) : lensF d size en (f + 1) x out = [-1] := by
  rw [lensF, if_pos ⟨h1, h2⟩, if_neg h, if_neg h3]
end

theorem length_lensF (d : List UInt8) (size en : Nat) (hs : 1 ≤ size) : ∀ (f : Nat) (x : Int) (out : List Int), (lensF d size en f x out).length ≤ max 1 (out.length + size * f)
  | 0, x, out => by simp [lensF]; omega
  | f + 1, x, out => by
    have hm : size * (f + 1) = size * f + size := Nat.mul_succ _ _
    rw [lensF]
    split
    · split
      · have := length_lensF d size en hs f (x - 3) (out ++ [((two d (x + 1).toNat : Nat) : Int)])
        simp at this ⊢; omega
      · split
        · have := length_lensF d size en hs f (x - 3 - 3) (out ++ List.replicate (min (two d (x - 2).toNat) size) ((two d (x + 1).toNat : Nat) : Int))
          simp at this ⊢; omega
        · simp; omega
    · omega
theorem length_lensL (d : List UInt8) (size : Nat) (hs : 1 ≤ size) (h : size ≤ 512) : (lensL size d).length ≤ 262144 := by
  have := length_lensF d size (endOf d size) hs size (size - 7) []
  have h2 : size * size ≤ 512 * 512 := Nat.mul_le_mul h h
  unfold lensL
  simp at this; omega

/-- L is what the text d encodes. -/
def Enc (size : Int) (L : List (List UInt8)) (d : List UInt8) : Prop := encErr size L = 0 ∧ encStr size L = d
def decErr (size : Int) (d : List UInt8) : Int := if isSizeB size = false then 1 else if (d.length : Int) ≠ size then 11 else if (d == List.replicate d.length 0) = true then 9 else 11
end Dsd
/- Plain laws of chapter 17: an encoding determines its records. -/
namespace Dsd

theorem sumLen_cons (x : List UInt8) (L : List (List UInt8)) : sumLen (x :: L) = x.length + sumLen L := by simp [sumLen]
theorem sumLen_append (A B : List (List UInt8)) : sumLen (A ++ B) = sumLen A + sumLen B := by simp [sumLen]
theorem length_flatten_eq (L : List (List UInt8)) : L.flatten.length = sumLen L := by simp [sumLen, List.length_flatten]
theorem sumLen_of_map (A B : List (List UInt8)) (h : (A.map fun s => (s.length : Int)) = B.map fun s => (s.length : Int)) : sumLen A = sumLen B := by
  induction A generalizing B with
  | nil => cases B with
    | nil => rfl
    | cons b B => simp at h
  | cons a A ih => cases B with
    | nil => simp at h
    | cons b B =>
      simp at h
      rw [sumLen_cons, sumLen_cons, ih B (by simpa using h.2)]; omega
/-- Two lists of texts of the same lengths and the same whole are one. -/
theorem flatten_inj (A B : List (List UInt8)) (h : (A.map fun s => (s.length : Int)) = B.map fun s => (s.length : Int)) (hf : A.flatten = B.flatten) : A = B := by
  induction A generalizing B with
  | nil => cases B with
    | nil => rfl
    | cons b B => simp at h
  | cons a A ih => cases B with
    | nil => simp at h
    | cons b B =>
      simp at h hf
      have hl : a.length = b.length := by omega
      have h2 := List.append_inj hf hl
      rw [h2.1, ih B (by simpa using h.2) h2.2]
theorem encErr_zero {size : Int} {L : List (List UInt8)} (h : encErr size L = 0) : isSizeB size = true ∧ allowedB L = true ∧ (sizeL L : Int) ≤ size := by
  unfold encErr at h
  split at h
  · simp at h
  · split at h
    · simp at h
    · split at h
      · simp at h
      · rename_i h1 h2 h3
        exact ⟨by simpa using h1, by simpa using h2, by omega⟩
theorem enc_text {size : Int} {L : List (List UInt8)} {d : List UInt8} (h : Enc size L d) : d = wholeL size.toNat L.flatten (fieldsL L) := by
  obtain ⟨h1, h2⟩ := h
  rw [← h2, encStr, if_pos h1]
theorem enc_sum {size : Int} {L : List (List UInt8)} {d : List UInt8} (h : Enc size L d) : (sumLen L : Int) + 4 + (fieldsL L).length ≤ size := by
  have := (encErr_zero h.1).2.2
  unfold sizeL at this; omega
theorem enc_take {size : Int} {L : List (List UInt8)} {d : List UInt8} (h : Enc size L d) : d.take (sumLen L) = L.flatten := by
  rw [enc_text h, wholeL]
  simp only [List.append_assoc]
  rw [List.take_append_of_le_length (by rw [length_flatten_eq]; exact Nat.le_refl _)]
  exact List.take_of_length_le (by rw [length_flatten_eq]; exact Nat.le_refl _)
theorem length_wholeL (n : Nat) (c f : List UInt8) (h : 4 + c.length + f.length ≤ n) : (wholeL n c f).length = n := by
  simp [wholeL, tailL]; omega
theorem enc_length {size : Int} {L : List (List UInt8)} {d : List UInt8} (h : Enc size L d) : (d.length : Int) = size := by
  have h1 := enc_sum h
  have h2 := isSize_nat (encErr_zero h.1).1
  obtain ⟨k, rfl, _⟩ := h2
  rw [enc_text h, Int.toNat_natCast, length_wholeL _ _ _ (by rw [length_flatten_eq]; omega)]

/-- While records are cut out of a text at the lengths of an encoding, all goes well. -/
theorem enc_step {size : Int} {L out : List (List UInt8)} {d : List UInt8} {R : List Int} {k a : Nat} (h : Enc size L d) (hR : R = L.map fun s => (s.length : Int)) (hk : k < R.length)
    (ho : (out.map fun s => (s.length : Int)) = R.take k) (ha : out.flatten.length = a) : 0 ≤ R.getD k 0 ∧ (a : Int) + R.getD k 0 ≤ size := by
  subst hR
  have hk' : k < L.length := by simpa using hk
  have h1 : ((L.map fun s => (s.length : Int)).getD k 0) = (L.getD k []).length := by simp [List.getD, hk']
  have h2 : sumLen out = sumLen (L.take k) := sumLen_of_map _ _ (by rw [ho, List.map_take])
  rw [length_flatten_eq] at ha
  have h3 : sumLen (L.take k) + (L.getD k []).length ≤ sumLen L := by
    have e : L = L.take k ++ L.drop k := (List.take_append_drop k L).symm
    have e2 : L.drop k = L[k] :: L.drop (k + 1) := List.drop_eq_getElem_cons hk'
    have e3 : sumLen L = sumLen (L.take k) + (L[k].length + sumLen (L.drop (k + 1))) := by
      conv => lhs; rw [e]
      rw [sumLen_append, e2, sumLen_cons]
    have e4 : (L.getD k []).length = L[k].length := by simp [List.getD, hk']
    omega
  have h4 := enc_sum h
  rw [h1]
  omega
theorem enc_out {size : Int} {L out : List (List UInt8)} {d : List UInt8} {R : List Int} {a : Nat} (h : Enc size L d) (hR : R = L.map fun s => (s.length : Int))
    (ho : (out.map fun s => (s.length : Int)) = R) (hf : out.flatten = d.take a) (ha : out.flatten.length = a) : out = L := by
  subst hR
  refine flatten_inj out L ho ?_
  have h2 := sumLen_of_map _ _ ho
  rw [length_flatten_eq, h2] at ha
  rw [hf, ← ha, enc_take h]
theorem lensF_le (d : List UInt8) (size en : Nat) : ∀ (f : Nat) (x : Int) (out : List Int), (∀ y ∈ out, y ≤ 65535) → ∀ y ∈ lensF d size en f x out, y ≤ 65535
  | 0, x, out, h => by simpa [lensF] using h
  | f + 1, x, out, h => by
    have t := two_lt d (x + 1).toNat
    rw [lensF]
    split
    · split
      · refine lensF_le d size en f _ _ ?_
        intro y hy
        rw [List.mem_append] at hy
        rcases hy with hy | hy
        · exact h y hy
        · simp at hy; omega
      · split
        · refine lensF_le d size en f _ _ ?_
          intro y hy
          rw [List.mem_append] at hy
          rcases hy with hy | hy
          · exact h y hy
          · have := List.eq_of_mem_replicate hy; omega
        · simp
    · exact h
theorem lensL_le (d : List UInt8) (size k : Nat) : (lensL size d).getD k 0 ≤ 65535 := by
  by_cases hk : k < (lensL size d).length
  · have := lensF_le d size (endOf d size) size (size - 7) [] (by simp) ((lensL size d).getD k 0) (by
      have : (lensL size d).getD k 0 ∈ lensL size d := by simp [List.getD, hk]
      exact this)
    exact this
  · simp [List.getD, List.getElem?_eq_none (Nat.le_of_not_lt hk)]
end Dsd
/- Plain laws of chapter 17: the fields of an encoding tell the lengths of its records. -/
namespace Dsd

def flatRuns (rs : List (Nat × Nat)) : List Nat := rs.flatMap fun r => List.replicate r.1 r.2
theorem flatRuns_runs (L : List (List UInt8)) : flatRuns (runsL L) = L.map List.length := by
  induction L with
  | nil => rfl
  | cons x xs ih =>
    rw [runsL]
    cases h : runsL xs with
    | nil => rw [h] at ih; simp [flatRuns] at ih ⊢; exact ih
    | cons r rs =>
      obtain ⟨n, len⟩ := r
      rw [h] at ih
      simp only
      split
      · rename_i he
        subst he
        simp [flatRuns] at ih ⊢
        rw [List.replicate_succ, List.cons_append, ih]
      · simp [flatRuns] at ih ⊢
        exact ih
theorem runs_pos (L : List (List UInt8)) : ∀ r ∈ runsL L, 1 ≤ r.1 := by
  induction L with
  | nil => simp [runsL]
  | cons x xs ih =>
    rw [runsL]
    cases h : runsL xs with
    | nil => simp
    | cons r rs =>
      obtain ⟨n, len⟩ := r
      rw [h] at ih
      simp only
      split
      · intro r hr
        rw [List.mem_cons] at hr
        rcases hr with rfl | hr
        · simp
        · exact ih r (by simp [hr])
      · intro r hr
        rw [List.mem_cons] at hr
        rcases hr with rfl | hr
        · simp
        · exact ih r hr
theorem runs_len_mem (L : List (List UInt8)) : ∀ r ∈ runsL L, ∃ s ∈ L, s.length = r.2 := by
  induction L with
  | nil => simp [runsL]
  | cons x xs ih =>
    rw [runsL]
    cases h : runsL xs with
    | nil => intro r hr; simp at hr; subst hr; exact ⟨x, by simp, rfl⟩
    | cons r rs =>
      obtain ⟨n, len⟩ := r
      rw [h] at ih
      simp only
      split
      · rename_i he
        intro r hr
        rw [List.mem_cons] at hr
        rcases hr with rfl | hr
        · exact ⟨x, by simp, he.symm⟩
        · obtain ⟨s, hs, he⟩ := ih r (by simp [hr])
          exact ⟨s, by simp [hs], he⟩
      · intro r hr
        rw [List.mem_cons] at hr
        rcases hr with rfl | hr
        · exact ⟨x, by simp, rfl⟩
        · obtain ⟨s, hs, he⟩ := ih r hr
          exact ⟨s, by simp [hs], he⟩
theorem runs_count (rs : List (Nat × Nat)) (h : ∀ r ∈ rs, 1 ≤ r.1) : rs.length ≤ (flatRuns rs).length ∧ ∀ r ∈ rs, r.1 ≤ (flatRuns rs).length := by
  induction rs with
  | nil => simp
  | cons r rs ih =>
    have h1 := h r (by simp)
    obtain ⟨h2, h3⟩ := ih (fun r hr => h r (by simp [hr]))
    have e : (flatRuns (r :: rs)).length = r.1 + (flatRuns rs).length := by simp [flatRuns]
    rw [e]
    refine ⟨by simp; omega, fun q hq => ?_⟩
    rw [List.mem_cons] at hq
    rcases hq with rfl | hq
    · omega
    · have := h3 q hq; omega

theorem byt_append (A B : List UInt8) (i : Nat) : byt (A ++ B) i = if i < A.length then byt A i else byt B (i - A.length) := by
  unfold byt
  split
  · rename_i h; simp [List.getD, List.getElem?_append_left h]
  · rename_i h; simp [List.getD, List.getElem?_append_right (Nat.le_of_not_lt h)]
theorem byt_ofNat3 (a b c : Nat) (ha : a < 256) : byt [UInt8.ofNat a, UInt8.ofNat b, UInt8.ofNat c] 0 = a ∧ byt [UInt8.ofNat a, UInt8.ofNat b, UInt8.ofNat c] 1 = b % 256 ∧ byt [UInt8.ofNat a, UInt8.ofNat b, UInt8.ofNat c] 2 = c % 256 := by
  refine ⟨?_, ?_, ?_⟩ <;> simp [byt, List.getD] <;> omega
theorem fieldL_bytes (c n : Nat) (hc : c < 256) : byt (fieldL c n) 0 = c ∧ byt (fieldL c n) 1 + 256 * byt (fieldL c n) 2 = n % 65536 := by
  obtain ⟨h1, h2, h3⟩ := byt_ofNat3 c n (n / 256) hc
  unfold fieldL
  rw [h1, h2, h3]
  exact ⟨rfl, by omega⟩

/-- The fields of runs, the last one first. -/
def runFields (rs : List (Nat × Nat)) : List UInt8 := rs.reverse.flatMap runField
theorem runFields_cons (r : Nat × Nat) (rs : List (Nat × Nat)) : runFields (r :: rs) = runFields rs ++ runField r := by simp [runFields]

theorem lensF_runs (d : List UInt8) (size en : Nat) : ∀ (rs : List (Nat × Nat)) (f : Nat) (x : Int) (out : List Int), rs.length ≤ f → (∀ r ∈ rs, 1 ≤ r.1 ∧ r.1 ≤ size ∧ r.1 < 65536 ∧ r.2 < 65536) →
    (∀ i, i < (runFields rs).length → byt d (en + i) = byt (runFields rs) i) → x = (en : Int) + (runFields rs).length - 3 → lensF d size en f x out = out ++ (flatRuns rs).map (fun (n : Nat) => (n : Int))
  | [], f, x, out, _, _, _, hx => by
    rw [lensF_end (by simp [runFields] at hx; omega)]
    simp [flatRuns]
  | r :: rs, 0, x, out, hf, _, _, _ => by simp at hf
  | (n, len) :: rs, f + 1, x, out, hf, hr, hb, hx => by
    obtain ⟨h1, h2, h3, h4⟩ := hr (n, len) (by simp)
    simp only at h1 h2 h3 h4
    rw [runFields_cons] at hb hx
    have hl : (runFields rs ++ runField (n, len)).length = (runFields rs).length + (runField (n, len)).length := by simp
    have hprev : ∀ i, i < (runFields rs).length → byt d (en + i) = byt (runFields rs) i := fun i hi => by
      rw [hb i (by omega), byt_append, if_pos hi]
    have hat : ∀ i, i < (runField (n, len)).length → byt d (en + (runFields rs).length + i) = byt (runField (n, len)) i := fun i hi => by
      rw [Nat.add_assoc, hb _ (by omega), byt_append, if_neg (by omega)]; congr 1; omega
    have ih := fun x out hx => lensF_runs d size en rs f x out (by simp at hf; omega) (fun r hr' => hr r (by simp [hr'])) hprev hx
    have hfl : flatRuns ((n, len) :: rs) = List.replicate n len ++ flatRuns rs := by simp [flatRuns]
    rw [hfl]
    generalize hE : (runFields rs).length = E at *
    by_cases hn : 1 < n
    · have hrf : runField (n, len) = fieldL 8 n ++ fieldL 64 len := by simp [runField, hn]
      rw [hrf] at hat hx hl
      simp [length_fieldL] at hx hl
      obtain ⟨a1, a2⟩ := fieldL_bytes 8 n (by omega)
      obtain ⟨a3, a4⟩ := fieldL_bytes 64 len (by omega)
      have l3 : (fieldL 8 n).length = 3 := rfl
      have g0 := hat 0 (by simp [length_fieldL])
      have g1 := hat 1 (by simp [length_fieldL])
      have g2 := hat 2 (by simp [length_fieldL])
      have g3 := hat 3 (by simp [length_fieldL])
      have g4 := hat 4 (by simp [length_fieldL])
      have g5 := hat 5 (by simp [length_fieldL])
      rw [byt_append] at g0 g1 g2 g3 g4 g5
      simp only [l3] at g0 g1 g2 g3 g4 g5
      simp at g0 g1 g2 g3 g4 g5
      have hx' : x = (en : Int) + E + 3 := by omega
      have x0 : x.toNat = en + E + 3 := by omega
      have x1 : (x + 1).toNat = en + E + 4 := by omega
      have x3 : (x - 3).toNat = en + E := by omega
      have x2 : (x - 2).toNat = en + E + 1 := by omega
      rw [lensF_many (by omega) (by omega) (by rw [x0]; omega) (by omega) (by rw [x3]; omega)]
      rw [ih _ _ (by omega), x1, x2]
      have t1 : two d (en + E + 4) = len := by unfold two; rw [show en + E + 4 + 1 = en + E + 5 from rfl]; omega
      have t2 : two d (en + E + 1) = n := by unfold two; rw [show en + E + 1 + 1 = en + E + 2 from rfl]; omega
      rw [t1, t2, Nat.min_eq_left h2]
      simp
    · have hn1 : n = 1 := by omega
      subst hn1
      have hrf : runField (1, len) = fieldL 0 len := by simp [runField]
      rw [hrf] at hat hx hl
      simp [length_fieldL] at hx hl
      obtain ⟨a3, a4⟩ := fieldL_bytes 0 len (by omega)
      have g0 := hat 0 (by simp [length_fieldL])
      have g1 := hat 1 (by simp [length_fieldL])
      have g2 := hat 2 (by simp [length_fieldL])
      simp at g0
      have x0 : x.toNat = en + E := by omega
      have x1 : (x + 1).toNat = en + E + 1 := by omega
      rw [lensF_zero (by omega) (by omega) (by rw [x0]; omega)]
      rw [ih _ _ (by omega), x1]
      have t1 : two d (en + E + 1) = len := by unfold two; rw [show en + E + 1 + 1 = en + E + 2 from rfl]; omega
      rw [t1]
      simp

theorem fieldsL_runs (L : List (List UInt8)) : fieldsL L = runFields (runsL L) := rfl
theorem allowed_mem {L : List (List UInt8)} (h : allowedB L = true) {s : List UInt8} (hs : s ∈ L) : 1 ≤ s.length ∧ s.length ≤ 200 := by
  unfold allowedB at h
  rw [List.all_eq_true] at h
  simpa [okLen] using h s hs
theorem allowed_count {L : List (List UInt8)} (h : allowedB L = true) : L.length ≤ sumLen L := by
  induction L with
  | nil => simp
  | cons x L ih =>
    have h1 := allowed_mem h (s := x) (by simp)
    have h2 : allowedB L = true := by unfold allowedB at *; rw [List.all_cons, Bool.and_eq_true] at h; exact h.2
    have := ih h2
    rw [sumLen_cons, List.length_cons]; omega

/-- What is known of an encoding, place by place. -/
theorem enc_parts {n : Nat} {L : List (List UInt8)} {d : List UInt8} (h : Enc (n : Int) L d) : ∃ g, n = sumLen L + g + (fieldsL L).length + 4 ∧ d = L.flatten ++ List.replicate g 0 ++ fieldsL L ++ tailL (sumLen L) g := by
  have h1 := enc_sum h
  refine ⟨n - 4 - sumLen L - (fieldsL L).length, by omega, ?_⟩
  have := enc_text h
  rw [Int.toNat_natCast, wholeL] at this
  simp only [length_flatten_eq] at this
  exact this
theorem enc_tail {n : Nat} {L : List (List UInt8)} {d : List UInt8} (h : Enc (n : Int) L d) (hn : n ≤ 512) : endOf d n + (fieldsL L).length + 4 = n ∧ two d (n - 4) = sumLen L := by
  obtain ⟨g, h1, h2⟩ := enc_parts h
  have hl : (L.flatten ++ List.replicate g (0 : UInt8) ++ fieldsL L).length = n - 4 := by simp only [List.length_append, length_flatten_eq, List.length_replicate]; omega
  have hb : ∀ i, i < 4 → byt d (n - 4 + i) = byt (tailL (sumLen L) g) i := fun i hi => by
    rw [h2, byt_append, hl, if_neg (by omega)]; congr 1; omega
  have b0 := hb 0 (by omega)
  have b1 := hb 1 (by omega)
  have b2 := hb 2 (by omega)
  have b3 := hb 3 (by omega)
  simp [tailL, byt, List.getD] at b0 b1 b2 b3
  have e1 : n - 4 + 2 = n - 2 := by omega
  have e2 : n - 4 + 3 = n - 2 + 1 := by omega
  rw [e1] at b2
  rw [e2] at b3
  have t1 : two d (n - 4) = sumLen L := by unfold two byt; simp [List.getD]; omega
  have t2 : two d (n - 2) = g := by unfold two byt; simp [List.getD]; omega
  exact ⟨by unfold endOf; omega, t1⟩
/-- **The reference's lengths are those of the records.** -/
theorem lens_enc {n : Nat} (hn : n ≤ 512) {L : List (List UInt8)} {d : List UInt8} (h : Enc (n : Int) L d) : lensL n d = L.map fun s => (s.length : Int) := by
  obtain ⟨g, h1, h2⟩ := enc_parts h
  obtain ⟨h3, _⟩ := enc_tail h hn
  have hal := (encErr_zero h.1).2.1
  have hcnt := allowed_count hal
  have hrun := runs_count (runsL L) (runs_pos L)
  rw [flatRuns_runs, List.length_map] at hrun
  unfold lensL
  have hb : ∀ i, i < (runFields (runsL L)).length → byt d (endOf d n + i) = byt (runFields (runsL L)) i := fun i hi => by
    rw [← fieldsL_runs] at hi ⊢
    have hl : (L.flatten ++ List.replicate g (0 : UInt8)).length = endOf d n := by simp only [List.length_append, length_flatten_eq, List.length_replicate]; omega
    generalize endOf d n = E at *
    rw [h2, byt_append, if_pos (by simp only [List.length_append] at *; omega), byt_append, if_neg (by omega)]
    congr 1; omega
  rw [lensF_runs d n (endOf d n) (runsL L) n _ [] (by omega) (fun r hr => by
    have a1 := runs_pos L r hr
    have a2 := hrun.2 r hr
    obtain ⟨s, hs, he⟩ := runs_len_mem L r hr
    have a3 := allowed_mem hal hs
    exact ⟨a1, by omega, by omega, by omega⟩) hb (by rw [← fieldsL_runs]; omega), flatRuns_runs]
  simp
/-- An encoding is not unused. -/
theorem enc_used {n : Nat} (hn : n ≤ 512) (h128 : 128 ≤ n) {L : List (List UInt8)} {d : List UInt8} (h : Enc (n : Int) L d) : (d == List.replicate d.length 0) = false := by
  cases hd : d == List.replicate d.length 0 with
  | false => rfl
  | true =>
    exfalso
    have he : d = List.replicate d.length 0 := by simpa using hd
    have hz : ∀ i, byt d i = 0 := fun i => by rw [he]; unfold byt; by_cases hi : i < d.length <;> simp [List.getD, hi]
    obtain ⟨h3, h4⟩ := enc_tail h hn
    have t1 : two d (n - 4) = 0 := by unfold two; rw [hz, hz]
    have t2 : two d (n - 2) = 0 := by unfold two; rw [hz, hz]
    have hs : sumLen L = 0 := by omega
    have hc := allowed_count (encErr_zero h.1).2.1
    have hL : L = [] := List.eq_nil_of_length_eq_zero (by omega)
    subst hL
    unfold endOf at h3
    rw [t1, t2] at h3
    simp [fieldsL_nil] at h3
    omega

/-- What a run takes. -/
def cost (r : Nat × Nat) : Nat := r.1 * r.2 + 3 * min r.1 2
def costs (rs : List (Nat × Nat)) : Nat := (rs.map cost).sum
theorem costs_append (a b : List (Nat × Nat)) : costs (a ++ b) = costs a + costs b := by simp [costs]
theorem sum_flatRuns (rs : List (Nat × Nat)) : (flatRuns rs).sum = (rs.map fun r => r.1 * r.2).sum := by
  induction rs with
  | nil => rfl
  | cons r rs ih => simp [flatRuns] at ih ⊢; rw [ih]
theorem costs_runs (rs : List (Nat × Nat)) (h : ∀ r ∈ rs, 1 ≤ r.1) : costs rs = (flatRuns rs).sum + (runFields rs).length := by
  induction rs with
  | nil => rfl
  | cons r rs ih =>
    have h1 := h r (by simp)
    have ih := ih (fun r hr => h r (by simp [hr]))
    rw [runFields_cons, List.length_append, length_runField]
    have e1 : costs (r :: rs) = cost r + costs rs := by simp [costs]
    have e2 : (flatRuns (r :: rs)).sum = r.1 * r.2 + (flatRuns rs).sum := by simp [flatRuns]
    rw [e1, e2, ih]
    unfold cost
    split <;> omega
theorem costs_size (L : List (List UInt8)) : 4 + costs (runsL L) = sizeL L := by
  rw [costs_runs _ (runs_pos L), flatRuns_runs, ← fieldsL_runs]
  unfold sizeL sumLen
  omega
theorem costs_le (L : List (List UInt8)) (done rest : List (Nat × Nat)) (h : runsL L = done ++ rest) : 4 + costs done + costs rest = sizeL L := by
  rw [← costs_size, h, costs_append]; omega
end Dsd
/- Plain laws of chapter 17: the program's way through the fields of an interval. -/
namespace Dsd

/-- What the program's reader knows of an encoding's records L, where it stands at x, with 'pend' for the length of a run whose number comes next, and 'lens' for what it has taken. -/
def PInv (en : Nat) (L : List (List UInt8)) (x : Int) (pend : Nat) (lens : List Nat) : Prop :=
  ∃ done rest, runsL L = done ++ rest ∧ lens = flatRuns done ∧ ((pend = 0 ∧ x + 3 = (en : Int) + (runFields rest).length) ∨ ∃ k rest', rest = (k, pend) :: rest' ∧ 1 < k ∧ x = (en : Int) + (runFields rest').length)

theorem flatRuns_append (a b : List (Nat × Nat)) : flatRuns (a ++ b) = flatRuns a ++ flatRuns b := by simp [flatRuns]
theorem runFields_append (a b : List (Nat × Nat)) : runFields (a ++ b) = runFields b ++ runFields a := by simp [runFields]
theorem flatRuns_one (k len : Nat) : flatRuns [(k, len)] = List.replicate k len := by simp [flatRuns]

/-- What is known of the bytes of an encoding's fields. -/
theorem enc_fields {n : Nat} {L : List (List UInt8)} {d : List UInt8} (h : Enc (n : Int) L d) (hn : n ≤ 512) : ∀ i, i < (runFields (runsL L)).length → byt d (endOf d n + i) = byt (runFields (runsL L)) i := by
  obtain ⟨g, h1, h2⟩ := enc_parts h
  obtain ⟨h3, _⟩ := enc_tail h hn
  intro i hi
  rw [← fieldsL_runs] at hi ⊢
  have hl : (L.flatten ++ List.replicate g (0 : UInt8)).length = endOf d n := by simp only [List.length_append, length_flatten_eq, List.length_replicate]; omega
  generalize endOf d n = E at *
  rw [h2, byt_append, if_pos (by simp only [List.length_append] at *; omega), byt_append, if_neg (by omega)]
  congr 1; omega

theorem pinv_start {n : Nat} {L : List (List UInt8)} {d : List UInt8} (h : Enc (n : Int) L d) (hn : n ≤ 512) : PInv (endOf d n) L ((n : Int) - 7) 0 [] := by
  obtain ⟨h3, _⟩ := enc_tail h hn
  exact ⟨[], runsL L, rfl, rfl, .inl ⟨rfl, by rw [← fieldsL_runs]; omega⟩⟩

/-- Facts of one run of an encoding. -/
theorem enc_run {n : Nat} {L : List (List UInt8)} {d : List UInt8} (h : Enc (n : Int) L d) (hn : n ≤ 512) {done rest : List (Nat × Nat)} {k len : Nat} (hr : runsL L = done ++ (k, len) :: rest) :
    1 ≤ k ∧ k ≤ 512 ∧ 1 ≤ len ∧ len ≤ 200 ∧ (flatRuns done).sum + k * len ≤ n ∧ (∀ i, i < (runField (k, len)).length → byt d (endOf d n + (runFields rest).length + i) = byt (runField (k, len)) i) := by
  have hal := (encErr_zero h.1).2.1
  have hsum := enc_sum h
  have hcnt := allowed_count hal
  have hmem : (k, len) ∈ runsL L := by rw [hr]; simp
  have a1 := runs_pos L _ hmem
  have hrun := runs_count (runsL L) (runs_pos L)
  rw [flatRuns_runs, List.length_map] at hrun
  have a2 := hrun.2 _ hmem
  obtain ⟨s, hs, he⟩ := runs_len_mem L _ hmem
  have a3 := allowed_mem hal hs
  simp only at a1 a2 he
  have hfl : (flatRuns (runsL L)).sum = sumLen L := by rw [flatRuns_runs]; rfl
  rw [hr, flatRuns_append, List.sum_append] at hfl
  have hc : (flatRuns ((k, len) :: rest)).sum = k * len + (flatRuns rest).sum := by simp [flatRuns]
  rw [hc] at hfl
  refine ⟨a1, by omega, by omega, by omega, by omega, fun i hi => ?_⟩
  have hf := enc_fields h hn
  have e : runFields (runsL L) = runFields rest ++ (runField (k, len) ++ runFields done) := by
    rw [hr, runFields_append, runFields_cons]; simp only [List.append_assoc]
  rw [e] at hf
  have := hf ((runFields rest).length + i) (by simp only [List.length_append]; omega)
  rw [← Nat.add_assoc] at this
  rw [this, byt_append, if_neg (by omega), byt_append, if_pos (by omega)]
  congr 1; omega

theorem pinv_many {n : Nat} {L : List (List UInt8)} {d : List UInt8} (h : Enc (n : Int) L d) (hn : n ≤ 512) {x : Nat} {pend : Nat} {lens : List Nat} (hp : 0 < pend) (hi : PInv (endOf d n) L (x : Int) pend lens) :
    byt d x = 8 ∧ 1 ≤ two d (x + 1) ∧ 1 ≤ pend ∧ lens.sum + two d (x + 1) * pend ≤ n ∧ PInv (endOf d n) L ((x : Int) - 3) 0 (lens ++ List.replicate (two d (x + 1)) pend) := by
  obtain ⟨done, rest, h1, h2, ⟨h3, _⟩ | ⟨k, rest', rfl, hk, hx⟩⟩ := hi
  · omega
  subst h2
  obtain ⟨a1, a2, a3, a4, a5, a6⟩ := enc_run h hn h1
  have hrf : runField (k, pend) = fieldL 8 k ++ fieldL 64 pend := by simp [runField, hk]
  rw [hrf] at a6
  obtain ⟨b1, b2⟩ := fieldL_bytes 8 k (by omega)
  have l3 : (fieldL 8 k).length = 3 := rfl
  have g0 := a6 0 (by simp [length_fieldL])
  have g1 := a6 1 (by simp [length_fieldL])
  have g2 := a6 2 (by simp [length_fieldL])
  rw [byt_append] at g0 g1 g2
  simp only [l3] at g0 g1 g2
  simp at g0 g1 g2
  have hxx : x = endOf d n + (runFields rest').length := by omega
  rw [← hxx] at g0 g1 g2
  have t2 : two d (x + 1) = k := by unfold two; rw [show x + 1 + 1 = x + 2 from rfl]; omega
  rw [t2]
  refine ⟨by omega, by omega, by omega, a5, done ++ [(k, pend)], rest', by rw [h1]; simp, by rw [flatRuns_append, flatRuns_one], .inl ⟨rfl, by omega⟩⟩

theorem pinv_next {n : Nat} {L : List (List UInt8)} {d : List UInt8} (h : Enc (n : Int) L d) (hn : n ≤ 512) {x : Nat} {lens : List Nat} (hx : endOf d n ≤ x) (hi : PInv (endOf d n) L (x : Int) 0 lens) :
    (byt d x = 64 ∧ 1 ≤ two d (x + 1) ∧ PInv (endOf d n) L ((x : Int) - 3) (two d (x + 1)) lens) ∨
    (byt d x = 0 ∧ 1 ≤ two d (x + 1) ∧ lens.sum + two d (x + 1) ≤ n ∧ PInv (endOf d n) L ((x : Int) - 3) 0 (lens ++ List.replicate 1 (two d (x + 1)))) := by
  obtain ⟨done, rest, h1, h2, ⟨_, h4⟩ | ⟨k, rest', rfl, hk, hx'⟩⟩ := hi
  · cases rest with
    | nil => simp [runFields] at h4; omega
    | cons r rest =>
      obtain ⟨k, len⟩ := r
      subst h2
      obtain ⟨a1, a2, a3, a4, a5, a6⟩ := enc_run h hn h1
      rw [runFields_cons] at h4
      by_cases hk : 1 < k
      · left
        have hrf : runField (k, len) = fieldL 8 k ++ fieldL 64 len := by simp [runField, hk]
        rw [hrf] at a6 h4
        obtain ⟨b1, b2⟩ := fieldL_bytes 64 len (by omega)
        have l3 : (fieldL 8 k).length = 3 := rfl
        have g0 := a6 3 (by simp [length_fieldL])
        have g1 := a6 4 (by simp [length_fieldL])
        have g2 := a6 5 (by simp [length_fieldL])
        rw [byt_append] at g0 g1 g2
        simp only [l3] at g0 g1 g2
        simp [length_fieldL] at g0 g1 g2 h4
        have hxx : x = endOf d n + (runFields rest).length + 3 := by omega
        have g0 : byt d x = 64 := by rw [hxx]; omega
        have t2 : two d (x + 1) = len := by unfold two; rw [hxx]; rw [show endOf d n + (runFields rest).length + 3 + 1 = endOf d n + (runFields rest).length + 4 from rfl, show endOf d n + (runFields rest).length + 4 + 1 = endOf d n + (runFields rest).length + 5 from rfl]; omega
        rw [t2]
        exact ⟨g0, a3, done, (k, len) :: rest, h1, rfl, .inr ⟨k, rest, rfl, hk, by omega⟩⟩
      · right
        have hk1 : k = 1 := by omega
        subst hk1
        have hrf : runField (1, len) = fieldL 0 len := by simp [runField]
        rw [hrf] at a6 h4
        obtain ⟨b1, b2⟩ := fieldL_bytes 0 len (by omega)
        have g0 := a6 0 (by simp [length_fieldL])
        have g1 := a6 1 (by simp [length_fieldL])
        have g2 := a6 2 (by simp [length_fieldL])
        simp [length_fieldL] at g0 g1 g2 h4
        have hxx : x = endOf d n + (runFields rest).length := by omega
        rw [← hxx] at g0 g1 g2
        have t2 : two d (x + 1) = len := by unfold two; rw [show x + 1 + 1 = x + 2 from rfl]; omega
        rw [t2]
        exact ⟨by omega, a3, by omega, done ++ [(1, len)], rest, by rw [h1]; simp, by rw [flatRuns_append, flatRuns_one], .inl ⟨rfl, by omega⟩⟩
  · subst h2
    have := enc_run h hn h1
    omega

theorem pinv_end {n : Nat} {L : List (List UInt8)} {d : List UInt8} (h : Enc (n : Int) L d) (hn : n ≤ 512) {x : Int} {pend : Nat} {lens : List Nat} (hx : x < endOf d n) (hi : PInv (endOf d n) L x pend lens) : lens = L.map List.length := by
  obtain ⟨done, rest, h1, h2, ⟨_, h4⟩ | ⟨k, rest', rfl, hk, hx'⟩⟩ := hi
  · cases rest with
    | nil => rw [h2, ← flatRuns_runs, h1, List.append_nil]
    | cons r rest =>
      rw [runFields_cons, List.length_append, length_runField] at h4
      split at h4 <;> omega
  · omega
theorem pinv_out {n : Nat} {L out : List (List UInt8)} {d : List UInt8} (h : Enc (n : Int) L d) (hn : n ≤ 512) {x : Int} {pend : Nat} (hx : x < endOf d n) (hi : PInv (endOf d n) L x pend (out.map List.length)) {a : Nat} (hf : out.flatten = d.take a) (ha : out.flatten.length = a) : out = L := by
  have := pinv_end h hn hx hi
  refine enc_out h rfl ?_ hf ha
  have e := congrArg (List.map fun (n : Nat) => (n : Int)) this
  simpa [List.map_map, Function.comp_def] using e
theorem enc_inj {n : Nat} {L M : List (List UInt8)} {d : List UInt8} (hn : n ≤ 512) (h : Enc (n : Int) L d) (k : Enc (n : Int) M d) : M = L :=
  enc_out h rfl ((lens_enc hn k).symm.trans (lens_enc hn h)) (enc_take k).symm (length_flatten_eq M)
end Dsd
/- Plain laws of chapter 17: fewer records take less. -/
namespace Dsd

def fcount (rs : List (Nat × Nat)) : Nat := (rs.map fun r => 3 * min r.1 2).sum
theorem fields_count (rs : List (Nat × Nat)) (h : ∀ r ∈ rs, 1 ≤ r.1) : (runFields rs).length = fcount rs := by
  induction rs with
  | nil => rfl
  | cons r rs ih =>
    have h1 := h r (by simp)
    have ih := ih (fun r hr => h r (by simp [hr]))
    rw [runFields_cons, List.length_append, length_runField, ih]
    have e1 : fcount (r :: rs) = 3 * min r.1 2 + fcount rs := by simp [fcount]
    rw [e1]
    split <;> omega
theorem fields_len (L : List (List UInt8)) : (fieldsL L).length = fcount (runsL L) := by rw [fieldsL_runs]; exact fields_count _ (runs_pos L)
theorem fcount_append (a b : List (Nat × Nat)) : fcount (a ++ b) = fcount a + fcount b := by simp [fcount]
theorem fcount_one (n len : Nat) : fcount [(n, len)] = 3 * min n 2 := by simp [fcount]

theorem runs_cons (x : List UInt8) (xs : List (List UInt8)) : (runsL xs = [] ∧ runsL (x :: xs) = [(1, x.length)]) ∨
    ∃ n len r, runsL xs = (n, len) :: r ∧ ((len = x.length ∧ runsL (x :: xs) = (n + 1, len) :: r) ∨ (len ≠ x.length ∧ runsL (x :: xs) = (1, x.length) :: (n, len) :: r)) := by
  cases h : runsL xs with
  | nil => exact .inl ⟨rfl, by rw [runsL, h]⟩
  | cons r rs =>
    obtain ⟨n, len⟩ := r
    refine .inr ⟨n, len, rs, rfl, ?_⟩
    by_cases hl : len = x.length
    · exact .inl ⟨hl, by rw [runsL, h]; simp [hl]⟩
    · exact .inr ⟨hl, by rw [runsL, h]; simp [hl]⟩
theorem fields_tail (x : List UInt8) (xs : List (List UInt8)) : (fieldsL xs).length ≤ (fieldsL (x :: xs)).length := by
  rw [fields_len, fields_len]
  rcases runs_cons x xs with ⟨h1, h2⟩ | ⟨n, len, r, h1, ⟨_, h2⟩ | ⟨_, h2⟩⟩ <;> rw [h1, h2]
  · simp [fcount]
  · simp [fcount]; omega
  · simp [fcount]
theorem runs_nil {L : List (List UInt8)} (h : runsL L = []) : L = [] := by
  cases L with
  | nil => rfl
  | cons x xs => rcases runs_cons x xs with ⟨_, h2⟩ | ⟨n, len, r, _, ⟨_, h2⟩ | ⟨_, h2⟩⟩ <;> rw [h2] at h <;> cases h
/-- A record behind the others: a run of its own, or the last run has one more. -/
theorem runs_snoc (z : List UInt8) : ∀ L : List (List UInt8), runsL (L ++ [z]) = runsL L ++ [(1, z.length)] ∨ ∃ rs n, runsL L = rs ++ [(n, z.length)] ∧ runsL (L ++ [z]) = rs ++ [(n + 1, z.length)]
  | [] => .inl (by simp [runsL])
  | x :: xs => by
    rw [List.cons_append]
    rcases runs_snoc z xs with h | ⟨rs, n, h1, h2⟩
    · -- a run of its own behind those of xs
      rcases runs_cons x xs with ⟨a1, a2⟩ | ⟨m, len, r, a1, ⟨a3, a2⟩ | ⟨a3, a2⟩⟩
      · rw [a1, List.nil_append] at h
        rcases runs_cons x (xs ++ [z]) with ⟨b1, _⟩ | ⟨m', len', r', b1, ⟨b3, b2⟩ | ⟨b3, b2⟩⟩
        · rw [h] at b1; cases b1
        · rw [h] at b1
          simp only [List.cons.injEq, Prod.mk.injEq] at b1
          obtain ⟨⟨rfl, rfl⟩, rfl⟩ := b1
          exact .inr ⟨[], 1, by rw [a2, b3]; rfl, by rw [b2]; rfl⟩
        · rw [h] at b1
          simp only [List.cons.injEq, Prod.mk.injEq] at b1
          obtain ⟨⟨rfl, rfl⟩, rfl⟩ := b1
          exact .inl (by rw [a2, b2]; rfl)
      · rw [a1] at h
        rcases runs_cons x (xs ++ [z]) with ⟨b1, _⟩ | ⟨m', len', r', b1, ⟨b3, b2⟩ | ⟨b3, b2⟩⟩
        · rw [h] at b1; cases b1
        · rw [h] at b1
          simp only [List.cons_append, List.cons.injEq, Prod.mk.injEq] at b1
          obtain ⟨⟨rfl, rfl⟩, rfl⟩ := b1
          exact .inl (by rw [a2, b2]; rfl)
        · rw [h] at b1
          simp only [List.cons_append, List.cons.injEq, Prod.mk.injEq] at b1
          obtain ⟨⟨rfl, rfl⟩, rfl⟩ := b1
          exact absurd a3 b3
      · rw [a1] at h
        rcases runs_cons x (xs ++ [z]) with ⟨b1, _⟩ | ⟨m', len', r', b1, ⟨b3, b2⟩ | ⟨b3, b2⟩⟩
        · rw [h] at b1; cases b1
        · rw [h] at b1
          simp only [List.cons_append, List.cons.injEq, Prod.mk.injEq] at b1
          obtain ⟨⟨rfl, rfl⟩, rfl⟩ := b1
          exact absurd b3 a3
        · rw [h] at b1
          simp only [List.cons_append, List.cons.injEq, Prod.mk.injEq] at b1
          obtain ⟨⟨rfl, rfl⟩, rfl⟩ := b1
          exact .inl (by rw [a2, b2]; rfl)
    · -- the last run of xs has one more
      cases rs with
      | nil =>
        rw [List.nil_append] at h1 h2
        rcases runs_cons x xs with ⟨a1, a2⟩ | ⟨m, len, r, a1, a2⟩
        · rw [h1] at a1; cases a1
        · rw [h1] at a1
          simp only [List.cons.injEq, Prod.mk.injEq] at a1
          obtain ⟨⟨rfl, rfl⟩, rfl⟩ := a1
          rcases runs_cons x (xs ++ [z]) with ⟨b1, _⟩ | ⟨m', len', r', b1, b2⟩
          · rw [h2] at b1; cases b1
          · rw [h2] at b1
            simp only [List.cons.injEq, Prod.mk.injEq] at b1
            obtain ⟨⟨rfl, rfl⟩, rfl⟩ := b1
            rcases a2 with ⟨a3, a2⟩ | ⟨a3, a2⟩
            · rcases b2 with ⟨b3, b2⟩ | ⟨b3, b2⟩
              · exact .inr ⟨[], n + 1, by rw [a2]; rfl, by rw [b2]; rfl⟩
              · exact absurd a3 b3
            · rcases b2 with ⟨b3, b2⟩ | ⟨b3, b2⟩
              · exact absurd b3 a3
              · exact .inr ⟨[(1, x.length)], n, by rw [a2]; rfl, by rw [b2]; rfl⟩
      | cons r0 rs =>
        obtain ⟨m0, l0⟩ := r0
        rw [List.cons_append] at h1 h2
        rcases runs_cons x xs with ⟨a1, a2⟩ | ⟨m, len, r, a1, a2⟩
        · rw [h1] at a1; cases a1
        · rw [h1] at a1
          simp only [List.cons.injEq, Prod.mk.injEq] at a1
          obtain ⟨⟨rfl, rfl⟩, rfl⟩ := a1
          rcases runs_cons x (xs ++ [z]) with ⟨b1, _⟩ | ⟨m', len', r', b1, b2⟩
          · rw [h2] at b1; cases b1
          · rw [h2] at b1
            simp only [List.cons.injEq, Prod.mk.injEq] at b1
            obtain ⟨⟨rfl, rfl⟩, rfl⟩ := b1
            rcases a2 with ⟨a3, a2⟩ | ⟨a3, a2⟩
            · rcases b2 with ⟨b3, b2⟩ | ⟨b3, b2⟩
              · exact .inr ⟨(m0 + 1, l0) :: rs, n, by rw [a2]; rfl, by rw [b2]; rfl⟩
              · exact absurd a3 b3
            · rcases b2 with ⟨b3, b2⟩ | ⟨b3, b2⟩
              · exact absurd b3 a3
              · exact .inr ⟨(1, x.length) :: (m0, l0) :: rs, n, by rw [a2]; rfl, by rw [b2]; rfl⟩
theorem fields_init (z : List UInt8) (L : List (List UInt8)) : (fieldsL L).length ≤ (fieldsL (L ++ [z])).length := by
  rw [fields_len, fields_len]
  rcases runs_snoc z L with h | ⟨rs, n, h1, h2⟩
  · rw [h, fcount_append]; omega
  · rw [h1, h2, fcount_append, fcount_append, fcount_one, fcount_one]; omega
theorem size_tail (x : List UInt8) (xs : List (List UInt8)) : sizeL xs + x.length ≤ sizeL (x :: xs) := by
  have := fields_tail x xs
  unfold sizeL
  rw [sumLen_cons]
  omega
theorem size_init (z : List UInt8) (L : List (List UInt8)) : sizeL L + z.length ≤ sizeL (L ++ [z]) := by
  have := fields_init z L
  have e : sumLen (L ++ [z]) = sumLen L + z.length := by simp [sumLen]
  unfold sizeL
  rw [e]
  omega
/-- Whether records fit. -/
def fitsB (size : Int) (L : List (List UInt8)) : Bool := isSizeB size && allowedB L && decide ((sizeL L : Int) ≤ size)
theorem fits_tail {size : Int} {x : List UInt8} {xs : List (List UInt8)} (h : fitsB size (x :: xs) = true) : fitsB size xs = true := by
  have h1 := size_tail x xs
  unfold fitsB allowedB at *
  simp only [Bool.and_eq_true, decide_eq_true_eq, List.all_cons] at *
  exact ⟨⟨h.1.1, h.1.2.2⟩, by omega⟩
theorem fits_init {size : Int} {z : List UInt8} {L : List (List UInt8)} (h : fitsB size (L ++ [z]) = true) : fitsB size L = true := by
  have h1 := size_init z L
  unfold fitsB allowedB at *
  simp only [Bool.and_eq_true, decide_eq_true_eq, List.all_append] at *
  exact ⟨⟨h.1.1, h.1.2.1⟩, by omega⟩
theorem fits_twice {size : Int} {L : List (List UInt8)} (h : fitsB size L = true) (h5 : size ≠ 512) : fitsB (2 * size) L = true := by
  unfold fitsB at *
  simp only [Bool.and_eq_true, decide_eq_true_eq] at *
  obtain ⟨⟨h1, h2⟩, h3⟩ := h
  obtain ⟨n, rfl, hn⟩ := isSize_nat h1
  refine ⟨⟨?_, h2⟩, by omega⟩
  rcases hn with rfl | rfl | rfl
  · rfl
  · rfl
  · exact absurd rfl h5
end Dsd
