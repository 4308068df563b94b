/- Plain laws of chapter 17: the program's way through the fields of an interval. -/
import Derived.Test.YtadeohkcaaoflaaDoorP17c
namespace Dsd

/-- What the program's reader knows of an encoding's records L, where it stands at x, with 'pend' for the length of a run whose number comes next, and 'lens' for what it has taken. -/
def PInv (en : Nat) (L : List (List UInt8)) (x : Int) (pend : Nat) (lens : List Nat) : Prop :=
  ∃ done rest, runsL L = done ++ rest ∧ lens = flatRuns done ∧ ((pend = 0 ∧ x + 3 = (en : Int) + (runFields rest).length) ∨ ∃ k rest', rest = (k, pend) :: rest' ∧ 1 < k ∧ x = (en : Int) + (runFields rest').length)

theorem flatRuns_append (a b : List (Nat × Nat)) : flatRuns (a ++ b) = flatRuns a ++ flatRuns b := by simp [flatRuns]
theorem runFields_append (a b : List (Nat × Nat)) : runFields (a ++ b) = runFields b ++ runFields a := by simp [runFields]
theorem flatRuns_one (k len : Nat) : flatRuns [(k, len)] = List.replicate k len := by simp [flatRuns]

/-- What is known of the bytes of an encoding's fields. -/
theorem enc_fields {n : Nat} {L : List (List UInt8)} {d : List UInt8} (h : Enc (n : Int) L d) (hn : n ≤ 512) : ∀ i, i < (runFields (runsL L)).length → byt d (endOf d n + i) = byt (runFields (runsL L)) i := by
  obtain ⟨g, h1, h2⟩ := enc_parts h
  obtain ⟨h3, _⟩ := enc_tail h hn
  intro i hi
  rw [← fieldsL_runs] at hi ⊢
  have hl : (L.flatten ++ List.replicate g (0 : UInt8)).length = endOf d n := by simp only [List.length_append, length_flatten_eq, List.length_replicate]; omega
  generalize endOf d n = E at *
  rw [h2, byt_append, if_pos (by simp only [List.length_append] at *; omega), byt_append, if_neg (by omega)]
  congr 1; omega

theorem pinv_start {n : Nat} {L : List (List UInt8)} {d : List UInt8} (h : Enc (n : Int) L d) (hn : n ≤ 512) : PInv (endOf d n) L ((n : Int) - 7) 0 [] := by
  obtain ⟨h3, _⟩ := enc_tail h hn
  exact ⟨[], runsL L, rfl, rfl, .inl ⟨rfl, by rw [← fieldsL_runs]; omega⟩⟩

/-- Facts of one run of an encoding. -/
theorem enc_run {n : Nat} {L : List (List UInt8)} {d : List UInt8} (h : Enc (n : Int) L d) (hn : n ≤ 512) {done rest : List (Nat × Nat)} {k len : Nat} (hr : runsL L = done ++ (k, len) :: rest) :
    1 ≤ k ∧ k ≤ 512 ∧ 1 ≤ len ∧ len ≤ 200 ∧ (flatRuns done).sum + k * len ≤ n ∧ (∀ i, i < (runField (k, len)).length → byt d (endOf d n + (runFields rest).length + i) = byt (runField (k, len)) i) := by
  have hal := (encErr_zero h.1).2.1
  have hsum := enc_sum h
  have hcnt := allowed_count hal
  have hmem : (k, len) ∈ runsL L := by rw [hr]; simp
  have a1 := runs_pos L _ hmem
  have hrun := runs_count (runsL L) (runs_pos L)
  rw [flatRuns_runs, List.length_map] at hrun
  have a2 := hrun.2 _ hmem
  obtain ⟨s, hs, he⟩ := runs_len_mem L _ hmem
  have a3 := allowed_mem hal hs
  simp only at a1 a2 he
  have hfl : (flatRuns (runsL L)).sum = sumLen L := by rw [flatRuns_runs]; rfl
  rw [hr, flatRuns_append, List.sum_append] at hfl
  have hc : (flatRuns ((k, len) :: rest)).sum = k * len + (flatRuns rest).sum := by simp [flatRuns]
  rw [hc] at hfl
  refine ⟨a1, by omega, by omega, by omega, by omega, fun i hi => ?_⟩
  have hf := enc_fields h hn
  have e : runFields (runsL L) = runFields rest ++ (runField (k, len) ++ runFields done) := by
    rw [hr, runFields_append, runFields_cons]; simp only [List.append_assoc]
  rw [e] at hf
  have := hf ((runFields rest).length + i) (by simp only [List.length_append]; omega)
  rw [← Nat.add_assoc] at this
  rw [this, byt_append, if_neg (by omega), byt_append, if_pos (by omega)]
  congr 1; omega

theorem pinv_many {n : Nat} {L : List (List UInt8)} {d : List UInt8} (h : Enc (n : Int) L d) (hn : n ≤ 512) {x : Nat} {pend : Nat} {lens : List Nat} (hp : 0 < pend) (hi : PInv (endOf d n) L (x : Int) pend lens) :
    byt d x = 8 ∧ 1 ≤ two d (x + 1) ∧ 1 ≤ pend ∧ lens.sum + two d (x + 1) * pend ≤ n ∧ PInv (endOf d n) L ((x : Int) - 3) 0 (lens ++ List.replicate (two d (x + 1)) pend) := by
  obtain ⟨done, rest, h1, h2, ⟨h3, _⟩ | ⟨k, rest', rfl, hk, hx⟩⟩ := hi
  · omega
  subst h2
  obtain ⟨a1, a2, a3, a4, a5, a6⟩ := enc_run h hn h1
  have hrf : runField (k, pend) = fieldL 8 k ++ fieldL 64 pend := by simp [runField, hk]
  rw [hrf] at a6
  obtain ⟨b1, b2⟩ := fieldL_bytes 8 k (by omega)
  have l3 : (fieldL 8 k).length = 3 := rfl
  have g0 := a6 0 (by simp [length_fieldL])
  have g1 := a6 1 (by simp [length_fieldL])
  have g2 := a6 2 (by simp [length_fieldL])
  rw [byt_append] at g0 g1 g2
  simp only [l3] at g0 g1 g2
  simp at g0 g1 g2
  have hxx : x = endOf d n + (runFields rest').length := by omega
  rw [← hxx] at g0 g1 g2
  have t2 : two d (x + 1) = k := by unfold two; rw [show x + 1 + 1 = x + 2 from rfl]; omega
  rw [t2]
  refine ⟨by omega, by omega, by omega, a5, done ++ [(k, pend)], rest', by rw [h1]; simp, by rw [flatRuns_append, flatRuns_one], .inl ⟨rfl, by omega⟩⟩

theorem pinv_next {n : Nat} {L : List (List UInt8)} {d : List UInt8} (h : Enc (n : Int) L d) (hn : n ≤ 512) {x : Nat} {lens : List Nat} (hx : endOf d n ≤ x) (hi : PInv (endOf d n) L (x : Int) 0 lens) :
    (byt d x = 64 ∧ 1 ≤ two d (x + 1) ∧ PInv (endOf d n) L ((x : Int) - 3) (two d (x + 1)) lens) ∨
    (byt d x = 0 ∧ 1 ≤ two d (x + 1) ∧ lens.sum + two d (x + 1) ≤ n ∧ PInv (endOf d n) L ((x : Int) - 3) 0 (lens ++ List.replicate 1 (two d (x + 1)))) := by
  obtain ⟨done, rest, h1, h2, ⟨_, h4⟩ | ⟨k, rest', rfl, hk, hx'⟩⟩ := hi
  · cases rest with
    | nil => simp [runFields] at h4; omega
    | cons r rest =>
      obtain ⟨k, len⟩ := r
      subst h2
      obtain ⟨a1, a2, a3, a4, a5, a6⟩ := enc_run h hn h1
      rw [runFields_cons] at h4
      by_cases hk : 1 < k
      · left
        have hrf : runField (k, len) = fieldL 8 k ++ fieldL 64 len := by simp [runField, hk]
        rw [hrf] at a6 h4
        obtain ⟨b1, b2⟩ := fieldL_bytes 64 len (by omega)
        have l3 : (fieldL 8 k).length = 3 := rfl
        have g0 := a6 3 (by simp [length_fieldL])
        have g1 := a6 4 (by simp [length_fieldL])
        have g2 := a6 5 (by simp [length_fieldL])
        rw [byt_append] at g0 g1 g2
        simp only [l3] at g0 g1 g2
        simp [length_fieldL] at g0 g1 g2 h4
        have hxx : x = endOf d n + (runFields rest).length + 3 := by omega
        have g0 : byt d x = 64 := by rw [hxx]; omega
        have t2 : two d (x + 1) = len := by unfold two; rw [hxx]; rw [show endOf d n + (runFields rest).length + 3 + 1 = endOf d n + (runFields rest).length + 4 from rfl, show endOf d n + (runFields rest).length + 4 + 1 = endOf d n + (runFields rest).length + 5 from rfl]; omega
        rw [t2]
        exact ⟨g0, a3, done, (k, len) :: rest, h1, rfl, .inr ⟨k, rest, rfl, hk, by omega⟩⟩
      · right
        have hk1 : k = 1 := by omega
        subst hk1
        have hrf : runField (1, len) = fieldL 0 len := by simp [runField]
        rw [hrf] at a6 h4
        obtain ⟨b1, b2⟩ := fieldL_bytes 0 len (by omega)
        have g0 := a6 0 (by simp [length_fieldL])
        have g1 := a6 1 (by simp [length_fieldL])
        have g2 := a6 2 (by simp [length_fieldL])
        simp [length_fieldL] at g0 g1 g2 h4
        have hxx : x = endOf d n + (runFields rest).length := by omega
        rw [← hxx] at g0 g1 g2
        have t2 : two d (x + 1) = len := by unfold two; rw [show x + 1 + 1 = x + 2 from rfl]; omega
        rw [t2]
        exact ⟨by omega, a3, by omega, done ++ [(1, len)], rest, by rw [h1]; simp, by rw [flatRuns_append, flatRuns_one], .inl ⟨rfl, by omega⟩⟩
  · subst h2
    have := enc_run h hn h1
    omega

theorem pinv_end {n : Nat} {L : List (List UInt8)} {d : List UInt8} (h : Enc (n : Int) L d) (hn : n ≤ 512) {x : Int} {pend : Nat} {lens : List Nat} (hx : x < endOf d n) (hi : PInv (endOf d n) L x pend lens) : lens = L.map List.length := by
  obtain ⟨done, rest, h1, h2, ⟨_, h4⟩ | ⟨k, rest', rfl, hk, hx'⟩⟩ := hi
  · cases rest with
    | nil => rw [h2, ← flatRuns_runs, h1, List.append_nil]
    | cons r rest =>
      rw [runFields_cons, List.length_append, length_runField] at h4
      split at h4 <;> omega
  · omega
theorem pinv_out {n : Nat} {L out : List (List UInt8)} {d : List UInt8} (h : Enc (n : Int) L d) (hn : n ≤ 512) {x : Int} {pend : Nat} (hx : x < endOf d n) (hi : PInv (endOf d n) L x pend (out.map List.length)) {a : Nat} (hf : out.flatten = d.take a) (ha : out.flatten.length = a) : out = L := by
  have := pinv_end h hn hx hi
  refine enc_out h rfl ?_ hf ha
  have e := congrArg (List.map fun (n : Nat) => (n : Int)) this
  simpa [List.map_map, Function.comp_def] using e
theorem enc_inj {n : Nat} {L M : List (List UInt8)} {d : List UInt8} (hn : n ≤ 512) (h : Enc (n : Int) L d) (k : Enc (n : Int) M d) : M = L :=
  enc_out h rfl ((lens_enc hn k).symm.trans (lens_enc hn h)) (enc_take k).symm (length_flatten_eq M)
end Dsd
