/- Plain laws of chapter 17: an encoding determines its records. -/
import Derived.Test.YtadeohkcaaoflaaDoorP17
namespace Dsd

theorem sumLen_cons (x : List UInt8) (L : List (List UInt8)) : sumLen (x :: L) = x.length + sumLen L := by simp [sumLen]
theorem sumLen_append (A B : List (List UInt8)) : sumLen (A ++ B) = sumLen A + sumLen B := by simp [sumLen]
theorem length_flatten_eq (L : List (List UInt8)) : L.flatten.length = sumLen L := by simp [sumLen, List.length_flatten]
theorem sumLen_of_map (A B : List (List UInt8)) (h : (A.map fun s => (s.length : Int)) = B.map fun s => (s.length : Int)) : sumLen A = sumLen B := by
  induction A generalizing B with
  | nil => cases B with
    | nil => rfl
    | cons b B => simp at h
  | cons a A ih => cases B with
    | nil => simp at h
    | cons b B =>
      simp at h
      rw [sumLen_cons, sumLen_cons, ih B (by simpa using h.2)]; omega
/-- Two lists of texts of the same lengths and the same whole are one. -/
theorem flatten_inj (A B : List (List UInt8)) (h : (A.map fun s => (s.length : Int)) = B.map fun s => (s.length : Int)) (hf : A.flatten = B.flatten) : A = B := by
  induction A generalizing B with
  | nil => cases B with
    | nil => rfl
    | cons b B => simp at h
  | cons a A ih => cases B with
    | nil => simp at h
    | cons b B =>
      simp at h hf
      have hl : a.length = b.length := by omega
      have h2 := List.append_inj hf hl
      rw [h2.1, ih B (by simpa using h.2) h2.2]
theorem encErr_zero {size : Int} {L : List (List UInt8)} (h : encErr size L = 0) : isSizeB size = true ∧ allowedB L = true ∧ (sizeL L : Int) ≤ size := by
  unfold encErr at h
  split at h
  · simp at h
  · split at h
    · simp at h
    · split at h
      · simp at h
      · rename_i h1 h2 h3
        exact ⟨by simpa using h1, by simpa using h2, by omega⟩
theorem enc_text {size : Int} {L : List (List UInt8)} {d : List UInt8} (h : Enc size L d) : d = wholeL size.toNat L.flatten (fieldsL L) := by
  obtain ⟨h1, h2⟩ := h
  rw [← h2, encStr, if_pos h1]
theorem enc_sum {size : Int} {L : List (List UInt8)} {d : List UInt8} (h : Enc size L d) : (sumLen L : Int) + 4 + (fieldsL L).length ≤ size := by
  have := (encErr_zero h.1).2.2
  unfold sizeL at this; omega
theorem enc_take {size : Int} {L : List (List UInt8)} {d : List UInt8} (h : Enc size L d) : d.take (sumLen L) = L.flatten := by
  rw [enc_text h, wholeL]
  simp only [List.append_assoc]
  rw [List.take_append_of_le_length (by rw [length_flatten_eq]; exact Nat.le_refl _)]
  exact List.take_of_length_le (by rw [length_flatten_eq]; exact Nat.le_refl _)
theorem length_wholeL (n : Nat) (c f : List UInt8) (h : 4 + c.length + f.length ≤ n) : (wholeL n c f).length = n := by
  simp [wholeL, tailL]; omega
theorem enc_length {size : Int} {L : List (List UInt8)} {d : List UInt8} (h : Enc size L d) : (d.length : Int) = size := by
  have h1 := enc_sum h
  have h2 := isSize_nat (encErr_zero h.1).1
  obtain ⟨k, rfl, _⟩ := h2
  rw [enc_text h, Int.toNat_natCast, length_wholeL _ _ _ (by rw [length_flatten_eq]; omega)]

/-- While records are cut out of a text at the lengths of an encoding, all goes well. -/
theorem enc_step {size : Int} {L out : List (List UInt8)} {d : List UInt8} {R : List Int} {k a : Nat} (h : Enc size L d) (hR : R = L.map fun s => (s.length : Int)) (hk : k < R.length)
    (ho : (out.map fun s => (s.length : Int)) = R.take k) (ha : out.flatten.length = a) : 0 ≤ R.getD k 0 ∧ (a : Int) + R.getD k 0 ≤ size := by
  subst hR
  have hk' : k < L.length := by simpa using hk
  have h1 : ((L.map fun s => (s.length : Int)).getD k 0) = (L.getD k []).length := by simp [List.getD, hk']
  have h2 : sumLen out = sumLen (L.take k) := sumLen_of_map _ _ (by rw [ho, List.map_take])
  rw [length_flatten_eq] at ha
  have h3 : sumLen (L.take k) + (L.getD k []).length ≤ sumLen L := by
    have e : L = L.take k ++ L.drop k := (List.take_append_drop k L).symm
    have e2 : L.drop k = L[k] :: L.drop (k + 1) := List.drop_eq_getElem_cons hk'
    have e3 : sumLen L = sumLen (L.take k) + (L[k].length + sumLen (L.drop (k + 1))) := by
      conv => lhs; rw [e]
      rw [sumLen_append, e2, sumLen_cons]
    have e4 : (L.getD k []).length = L[k].length := by simp [List.getD, hk']
    omega
  have h4 := enc_sum h
  rw [h1]
  omega
theorem enc_out {size : Int} {L out : List (List UInt8)} {d : List UInt8} {R : List Int} {a : Nat} (h : Enc size L d) (hR : R = L.map fun s => (s.length : Int))
    (ho : (out.map fun s => (s.length : Int)) = R) (hf : out.flatten = d.take a) (ha : out.flatten.length = a) : out = L := by
  subst hR
  refine flatten_inj out L ho ?_
  have h2 := sumLen_of_map _ _ ho
  rw [length_flatten_eq, h2] at ha
  rw [hf, ← ha, enc_take h]
theorem lensF_le (d : List UInt8) (size en : Nat) : ∀ (f : Nat) (x : Int) (out : List Int), (∀ y ∈ out, y ≤ 65535) → ∀ y ∈ lensF d size en f x out, y ≤ 65535
  | 0, x, out, h => by simpa [lensF] using h
  | f + 1, x, out, h => by
    have t := two_lt d (x + 1).toNat
    rw [lensF]
    split
    · split
      · refine lensF_le d size en f _ _ ?_
        intro y hy
        rw [List.mem_append] at hy
        rcases hy with hy | hy
        · exact h y hy
        · simp at hy; omega
      · split
        · refine lensF_le d size en f _ _ ?_
          intro y hy
          rw [List.mem_append] at hy
          rcases hy with hy | hy
          · exact h y hy
          · have := List.eq_of_mem_replicate hy; omega
        · simp
    · exact h
theorem lensL_le (d : List UInt8) (size k : Nat) : (lensL size d).getD k 0 ≤ 65535 := by
  by_cases hk : k < (lensL size d).length
  · have := lensF_le d size (endOf d size) size (size - 7) [] (by simp) ((lensL size d).getD k 0) (by
      have : (lensL size d).getD k 0 ∈ lensL size d := by simp [List.getD, hk]
      exact this)
    exact this
  · simp [List.getD, List.getElem?_eq_none (Nat.le_of_not_lt hk)]
end Dsd
