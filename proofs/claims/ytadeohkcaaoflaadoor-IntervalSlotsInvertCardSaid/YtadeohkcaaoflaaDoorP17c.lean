/- Plain laws of chapter 17: the fields of an encoding tell the lengths of its records. -/
import Derived.Test.YtadeohkcaaoflaaDoorP17b
namespace Dsd

def flatRuns (rs : List (Nat × Nat)) : List Nat := rs.flatMap fun r => List.replicate r.1 r.2
theorem flatRuns_runs (L : List (List UInt8)) : flatRuns (runsL L) = L.map List.length := by
  induction L with
  | nil => rfl
  | cons x xs ih =>
    rw [runsL]
    cases h : runsL xs with
    | nil => rw [h] at ih; simp [flatRuns] at ih ⊢; exact ih
    | cons r rs =>
      obtain ⟨n, len⟩ := r
      rw [h] at ih
      simp only
      split
      · rename_i he
        subst he
        simp [flatRuns] at ih ⊢
        rw [List.replicate_succ, List.cons_append, ih]
      · simp [flatRuns] at ih ⊢
        exact ih
theorem runs_pos (L : List (List UInt8)) : ∀ r ∈ runsL L, 1 ≤ r.1 := by
  induction L with
  | nil => simp [runsL]
  | cons x xs ih =>
    rw [runsL]
    cases h : runsL xs with
    | nil => simp
    | cons r rs =>
      obtain ⟨n, len⟩ := r
      rw [h] at ih
      simp only
      split
      · intro r hr
        rw [List.mem_cons] at hr
        rcases hr with rfl | hr
        · simp
        · exact ih r (by simp [hr])
      · intro r hr
        rw [List.mem_cons] at hr
        rcases hr with rfl | hr
        · simp
        · exact ih r hr
theorem runs_len_mem (L : List (List UInt8)) : ∀ r ∈ runsL L, ∃ s ∈ L, s.length = r.2 := by
  induction L with
  | nil => simp [runsL]
  | cons x xs ih =>
    rw [runsL]
    cases h : runsL xs with
    | nil => intro r hr; simp at hr; subst hr; exact ⟨x, by simp, rfl⟩
    | cons r rs =>
      obtain ⟨n, len⟩ := r
      rw [h] at ih
      simp only
      split
      · rename_i he
        intro r hr
        rw [List.mem_cons] at hr
        rcases hr with rfl | hr
        · exact ⟨x, by simp, he.symm⟩
        · obtain ⟨s, hs, he⟩ := ih r (by simp [hr])
          exact ⟨s, by simp [hs], he⟩
      · intro r hr
        rw [List.mem_cons] at hr
        rcases hr with rfl | hr
        · exact ⟨x, by simp, rfl⟩
        · obtain ⟨s, hs, he⟩ := ih r hr
          exact ⟨s, by simp [hs], he⟩
theorem runs_count (rs : List (Nat × Nat)) (h : ∀ r ∈ rs, 1 ≤ r.1) : rs.length ≤ (flatRuns rs).length ∧ ∀ r ∈ rs, r.1 ≤ (flatRuns rs).length := by
  induction rs with
  | nil => simp
  | cons r rs ih =>
    have h1 := h r (by simp)
    obtain ⟨h2, h3⟩ := ih (fun r hr => h r (by simp [hr]))
    have e : (flatRuns (r :: rs)).length = r.1 + (flatRuns rs).length := by simp [flatRuns]
    rw [e]
    refine ⟨by simp; omega, fun q hq => ?_⟩
    rw [List.mem_cons] at hq
    rcases hq with rfl | hq
    · omega
    · have := h3 q hq; omega

theorem byt_append (A B : List UInt8) (i : Nat) : byt (A ++ B) i = if i < A.length then byt A i else byt B (i - A.length) := by
  unfold byt
  split
  · rename_i h; simp [List.getD, List.getElem?_append_left h]
  · rename_i h; simp [List.getD, List.getElem?_append_right (Nat.le_of_not_lt h)]
theorem byt_ofNat3 (a b c : Nat) (ha : a < 256) : byt [UInt8.ofNat a, UInt8.ofNat b, UInt8.ofNat c] 0 = a ∧ byt [UInt8.ofNat a, UInt8.ofNat b, UInt8.ofNat c] 1 = b % 256 ∧ byt [UInt8.ofNat a, UInt8.ofNat b, UInt8.ofNat c] 2 = c % 256 := by
  refine ⟨?_, ?_, ?_⟩ <;> simp [byt, List.getD] <;> omega
theorem fieldL_bytes (c n : Nat) (hc : c < 256) : byt (fieldL c n) 0 = c ∧ byt (fieldL c n) 1 + 256 * byt (fieldL c n) 2 = n % 65536 := by
  obtain ⟨h1, h2, h3⟩ := byt_ofNat3 c n (n / 256) hc
  unfold fieldL
  rw [h1, h2, h3]
  exact ⟨rfl, by omega⟩

/-- The fields of runs, the last one first. -/
def runFields (rs : List (Nat × Nat)) : List UInt8 := rs.reverse.flatMap runField
theorem runFields_cons (r : Nat × Nat) (rs : List (Nat × Nat)) : runFields (r :: rs) = runFields rs ++ runField r := by simp [runFields]

theorem lensF_runs (d : List UInt8) (size en : Nat) : ∀ (rs : List (Nat × Nat)) (f : Nat) (x : Int) (out : List Int), rs.length ≤ f → (∀ r ∈ rs, 1 ≤ r.1 ∧ r.1 ≤ size ∧ r.1 < 65536 ∧ r.2 < 65536) →
    (∀ i, i < (runFields rs).length → byt d (en + i) = byt (runFields rs) i) → x = (en : Int) + (runFields rs).length - 3 → lensF d size en f x out = out ++ (flatRuns rs).map (fun (n : Nat) => (n : Int))
  | [], f, x, out, _, _, _, hx => by
    rw [lensF_end (by simp [runFields] at hx; omega)]
    simp [flatRuns]
  | r :: rs, 0, x, out, hf, _, _, _ => by simp at hf
  | (n, len) :: rs, f + 1, x, out, hf, hr, hb, hx => by
    obtain ⟨h1, h2, h3, h4⟩ := hr (n, len) (by simp)
    simp only at h1 h2 h3 h4
    rw [runFields_cons] at hb hx
    have hl : (runFields rs ++ runField (n, len)).length = (runFields rs).length + (runField (n, len)).length := by simp
    have hprev : ∀ i, i < (runFields rs).length → byt d (en + i) = byt (runFields rs) i := fun i hi => by
      rw [hb i (by omega), byt_append, if_pos hi]
    have hat : ∀ i, i < (runField (n, len)).length → byt d (en + (runFields rs).length + i) = byt (runField (n, len)) i := fun i hi => by
      rw [Nat.add_assoc, hb _ (by omega), byt_append, if_neg (by omega)]; congr 1; omega
    have ih := fun x out hx => lensF_runs d size en rs f x out (by simp at hf; omega) (fun r hr' => hr r (by simp [hr'])) hprev hx
    have hfl : flatRuns ((n, len) :: rs) = List.replicate n len ++ flatRuns rs := by simp [flatRuns]
    rw [hfl]
    generalize hE : (runFields rs).length = E at *
    by_cases hn : 1 < n
    · have hrf : runField (n, len) = fieldL 8 n ++ fieldL 64 len := by simp [runField, hn]
      rw [hrf] at hat hx hl
      simp [length_fieldL] at hx hl
      obtain ⟨a1, a2⟩ := fieldL_bytes 8 n (by omega)
      obtain ⟨a3, a4⟩ := fieldL_bytes 64 len (by omega)
      have l3 : (fieldL 8 n).length = 3 := rfl
      have g0 := hat 0 (by simp [length_fieldL])
      have g1 := hat 1 (by simp [length_fieldL])
      have g2 := hat 2 (by simp [length_fieldL])
      have g3 := hat 3 (by simp [length_fieldL])
      have g4 := hat 4 (by simp [length_fieldL])
      have g5 := hat 5 (by simp [length_fieldL])
      rw [byt_append] at g0 g1 g2 g3 g4 g5
      simp only [l3] at g0 g1 g2 g3 g4 g5
      simp at g0 g1 g2 g3 g4 g5
      have hx' : x = (en : Int) + E + 3 := by omega
      have x0 : x.toNat = en + E + 3 := by omega
      have x1 : (x + 1).toNat = en + E + 4 := by omega
      have x3 : (x - 3).toNat = en + E := by omega
      have x2 : (x - 2).toNat = en + E + 1 := by omega
      rw [lensF_many (by omega) (by omega) (by rw [x0]; omega) (by omega) (by rw [x3]; omega)]
      rw [ih _ _ (by omega), x1, x2]
      have t1 : two d (en + E + 4) = len := by unfold two; rw [show en + E + 4 + 1 = en + E + 5 from rfl]; omega
      have t2 : two d (en + E + 1) = n := by unfold two; rw [show en + E + 1 + 1 = en + E + 2 from rfl]; omega
      rw [t1, t2, Nat.min_eq_left h2]
      simp
    · have hn1 : n = 1 := by omega
      subst hn1
      have hrf : runField (1, len) = fieldL 0 len := by simp [runField]
      rw [hrf] at hat hx hl
      simp [length_fieldL] at hx hl
      obtain ⟨a3, a4⟩ := fieldL_bytes 0 len (by omega)
      have g0 := hat 0 (by simp [length_fieldL])
      have g1 := hat 1 (by simp [length_fieldL])
      have g2 := hat 2 (by simp [length_fieldL])
      simp at g0
      have x0 : x.toNat = en + E := by omega
      have x1 : (x + 1).toNat = en + E + 1 := by omega
      rw [lensF_zero (by omega) (by omega) (by rw [x0]; omega)]
      rw [ih _ _ (by omega), x1]
      have t1 : two d (en + E + 1) = len := by unfold two; rw [show en + E + 1 + 1 = en + E + 2 from rfl]; omega
      rw [t1]
      simp

theorem fieldsL_runs (L : List (List UInt8)) : fieldsL L = runFields (runsL L) := rfl
theorem allowed_mem {L : List (List UInt8)} (h : allowedB L = true) {s : List UInt8} (hs : s ∈ L) : 1 ≤ s.length ∧ s.length ≤ 200 := by
  unfold allowedB at h
  rw [List.all_eq_true] at h
  simpa [okLen] using h s hs
theorem allowed_count {L : List (List UInt8)} (h : allowedB L = true) : L.length ≤ sumLen L := by
  induction L with
  | nil => simp
  | cons x L ih =>
    have h1 := allowed_mem h (s := x) (by simp)
    have h2 : allowedB L = true := by unfold allowedB at *; rw [List.all_cons, Bool.and_eq_true] at h; exact h.2
    have := ih h2
    rw [sumLen_cons, List.length_cons]; omega

/-- What is known of an encoding, place by place. -/
theorem enc_parts {n : Nat} {L : List (List UInt8)} {d : List UInt8} (h : Enc (n : Int) L d) : ∃ g, n = sumLen L + g + (fieldsL L).length + 4 ∧ d = L.flatten ++ List.replicate g 0 ++ fieldsL L ++ tailL (sumLen L) g := by
  have h1 := enc_sum h
  refine ⟨n - 4 - sumLen L - (fieldsL L).length, by omega, ?_⟩
  have := enc_text h
  rw [Int.toNat_natCast, wholeL] at this
  simp only [length_flatten_eq] at this
  exact this
theorem enc_tail {n : Nat} {L : List (List UInt8)} {d : List UInt8} (h : Enc (n : Int) L d) (hn : n ≤ 512) : endOf d n + (fieldsL L).length + 4 = n ∧ two d (n - 4) = sumLen L := by
  obtain ⟨g, h1, h2⟩ := enc_parts h
  have hl : (L.flatten ++ List.replicate g (0 : UInt8) ++ fieldsL L).length = n - 4 := by simp only [List.length_append, length_flatten_eq, List.length_replicate]; omega
  have hb : ∀ i, i < 4 → byt d (n - 4 + i) = byt (tailL (sumLen L) g) i := fun i hi => by
    rw [h2, byt_append, hl, if_neg (by omega)]; congr 1; omega
  have b0 := hb 0 (by omega)
  have b1 := hb 1 (by omega)
  have b2 := hb 2 (by omega)
  have b3 := hb 3 (by omega)
  simp [tailL, byt, List.getD] at b0 b1 b2 b3
  have e1 : n - 4 + 2 = n - 2 := by omega
  have e2 : n - 4 + 3 = n - 2 + 1 := by omega
  rw [e1] at b2
  rw [e2] at b3
  have t1 : two d (n - 4) = sumLen L := by unfold two byt; simp [List.getD]; omega
  have t2 : two d (n - 2) = g := by unfold two byt; simp [List.getD]; omega
  exact ⟨by unfold endOf; omega, t1⟩
/-- **The reference's lengths are those of the records.** -/
theorem lens_enc {n : Nat} (hn : n ≤ 512) {L : List (List UInt8)} {d : List UInt8} (h : Enc (n : Int) L d) : lensL n d = L.map fun s => (s.length : Int) := by
  obtain ⟨g, h1, h2⟩ := enc_parts h
  obtain ⟨h3, _⟩ := enc_tail h hn
  have hal := (encErr_zero h.1).2.1
  have hcnt := allowed_count hal
  have hrun := runs_count (runsL L) (runs_pos L)
  rw [flatRuns_runs, List.length_map] at hrun
  unfold lensL
  have hb : ∀ i, i < (runFields (runsL L)).length → byt d (endOf d n + i) = byt (runFields (runsL L)) i := fun i hi => by
    rw [← fieldsL_runs] at hi ⊢
    have hl : (L.flatten ++ List.replicate g (0 : UInt8)).length = endOf d n := by simp only [List.length_append, length_flatten_eq, List.length_replicate]; omega
    generalize endOf d n = E at *
    rw [h2, byt_append, if_pos (by simp only [List.length_append] at *; omega), byt_append, if_neg (by omega)]
    congr 1; omega
  rw [lensF_runs d n (endOf d n) (runsL L) n _ [] (by omega) (fun r hr => by
    have a1 := runs_pos L r hr
    have a2 := hrun.2 r hr
    obtain ⟨s, hs, he⟩ := runs_len_mem L r hr
    have a3 := allowed_mem hal hs
    exact ⟨a1, by omega, by omega, by omega⟩) hb (by rw [← fieldsL_runs]; omega), flatRuns_runs]
  simp
/-- An encoding is not unused. -/
theorem enc_used {n : Nat} (hn : n ≤ 512) (h128 : 128 ≤ n) {L : List (List UInt8)} {d : List UInt8} (h : Enc (n : Int) L d) : (d == List.replicate d.length 0) = false := by
  cases hd : d == List.replicate d.length 0 with
  | false => rfl
  | true =>
    exfalso
    have he : d = List.replicate d.length 0 := by simpa using hd
    have hz : ∀ i, byt d i = 0 := fun i => by rw [he]; unfold byt; by_cases hi : i < d.length <;> simp [List.getD, hi]
    obtain ⟨h3, h4⟩ := enc_tail h hn
    have t1 : two d (n - 4) = 0 := by unfold two; rw [hz, hz]
    have t2 : two d (n - 2) = 0 := by unfold two; rw [hz, hz]
    have hs : sumLen L = 0 := by omega
    have hc := allowed_count (encErr_zero h.1).2.1
    have hL : L = [] := List.eq_nil_of_length_eq_zero (by omega)
    subst hL
    unfold endOf at h3
    rw [t1, t2] at h3
    simp [fieldsL_nil] at h3
    omega

/-- What a run takes. -/
def cost (r : Nat × Nat) : Nat := r.1 * r.2 + 3 * min r.1 2
def costs (rs : List (Nat × Nat)) : Nat := (rs.map cost).sum
theorem costs_append (a b : List (Nat × Nat)) : costs (a ++ b) = costs a + costs b := by simp [costs]
theorem sum_flatRuns (rs : List (Nat × Nat)) : (flatRuns rs).sum = (rs.map fun r => r.1 * r.2).sum := by
  induction rs with
  | nil => rfl
  | cons r rs ih => simp [flatRuns] at ih ⊢; rw [ih]
theorem costs_runs (rs : List (Nat × Nat)) (h : ∀ r ∈ rs, 1 ≤ r.1) : costs rs = (flatRuns rs).sum + (runFields rs).length := by
  induction rs with
  | nil => rfl
  | cons r rs ih =>
    have h1 := h r (by simp)
    have ih := ih (fun r hr => h r (by simp [hr]))
    rw [runFields_cons, List.length_append, length_runField]
    have e1 : costs (r :: rs) = cost r + costs rs := by simp [costs]
    have e2 : (flatRuns (r :: rs)).sum = r.1 * r.2 + (flatRuns rs).sum := by simp [flatRuns]
    rw [e1, e2, ih]
    unfold cost
    split <;> omega
theorem costs_size (L : List (List UInt8)) : 4 + costs (runsL L) = sizeL L := by
  rw [costs_runs _ (runs_pos L), flatRuns_runs, ← fieldsL_runs]
  unfold sizeL sumLen
  omega
theorem costs_le (L : List (List UInt8)) (done rest : List (Nat × Nat)) (h : runsL L = done ++ rest) : 4 + costs done + costs rest = sizeL L := by
  rw [← costs_size, h, costs_append]; omega
end Dsd
