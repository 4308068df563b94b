/- Plain laws of chapter 18: what appends make of a cluster's chunks, their pages and the records' addresses. -/
import Derived.Test.YtkhlglkipeoalaaDoorPB
set_option linter.unusedSimpArgs false
set_option linter.unusedVariables false
namespace Dsd

theorem encStr_le {size : Int} {L : List (List UInt8)} : (encStr size L).length ≤ 512 := by
  by_cases h : encErr size L = 0
  · have h1 := enc_length (size := size) (L := L) ⟨h, rfl⟩
    obtain ⟨n, rfl, hn⟩ := isSize_nat (encErr_zero h).1
    omega
  · unfold encStr; rw [if_neg h]; simp
/-- The records of a page, from a place on, with their addresses. -/
def chunkA (base : Int) : Recs → List (Int × List UInt8)
  | [] => []
  | r :: L => (base, r) :: chunkA (base + r.length) L
theorem chunkA_snoc : ∀ (L : Recs) (base : Int) (r : List UInt8), chunkA base (L ++ [r]) = chunkA base L ++ [(base + (sumLen L : Int), r)]
  | [], base, r => by simp [chunkA, sumLen]
  | x :: L, base, r => by
    simp only [List.cons_append, chunkA]
    rw [chunkA_snoc L]
    simp only [List.cons.injEq, List.append_cancel_left_eq, Prod.mk.injEq, and_true, true_and]
    rw [sumLen_cons]; omega
/-- The records of a cluster (the last chunk first), with their addresses. -/
def recsA (size : Int) : List Recs → List (Int × List UInt8)
  | [] => []
  | L :: C => recsA size C ++ chunkA ((C.length + 1 : Nat) * size) L
theorem chunkA_len : ∀ (L : Recs) (base : Int), (chunkA base L).length = L.length
  | [], _ => rfl
  | _ :: L, base => by simp [chunkA, chunkA_len L]
theorem recsA_len (size : Int) : ∀ C : List Recs, (recsA size C).length = (C.map List.length).sum
  | [] => rfl
  | L :: C => by simp [recsA, recsA_len size C, chunkA_len]; omega
/-- The address that a record gets. -/
def addrP (size : Int) (C : List Recs) (r : List UInt8) : Int := (putC size C r).length * size + (sumLen (((putC size C r).headD []).dropLast) : Int)
theorem recsA_put (size : Int) (C : List Recs) (r : List UInt8) : recsA size (putC size C r) = recsA size C ++ [(addrP size C r, r)] := by
  cases C with
  | nil => simp [putC, recsA, addrP, chunkA, sumLen]
  | cons L C =>
    unfold addrP
    rw [putC]
    by_cases hf : fitsB size (L ++ [r]) = true
    · rw [if_pos hf]
      simp only [recsA, chunkA_snoc, List.append_assoc, List.headD_cons, List.dropLast_concat, List.length_cons]
    · rw [if_neg hf]
      simp [recsA, chunkA, sumLen]
/-- All addresses are less than what follows. -/
theorem chunkA_lt : ∀ (L : Recs) (base : Int), (∀ r ∈ L, 1 ≤ r.length) → ∀ x ∈ chunkA base L, base ≤ x.1 ∧ x.1 < base + (sumLen L : Int)
  | [], _, _, x, hx => by simp [chunkA] at hx
  | r :: L, base, h, x, hx => by
    rw [chunkA, List.mem_cons] at hx
    have h1 := h r (by simp)
    rw [sumLen_cons]
    rcases hx with rfl | hx
    · exact ⟨Int.le_refl _, by simp only; omega⟩
    · have := chunkA_lt L (base + r.length) (fun s hs => h s (by simp [hs])) x hx
      omega
/-- Each chunk holds records of one byte at least, and takes no more than a page. -/
def FitC (size : Int) (C : List Recs) : Prop := ∀ L ∈ C, (∀ r ∈ L, 1 ≤ r.length) ∧ (sumLen L : Int) ≤ size
theorem recsA_lt {size : Int} : ∀ {C : List Recs}, FitC size C → ∀ x ∈ recsA size C, x.1 < (C.length + 1 : Nat) * size ∧ (C ≠ [] → x.1 < (C.length : Int) * size + (sumLen (C.headD []) : Int))
  | [], _, x, hx => by simp [recsA] at hx
  | L :: C, h, x, hx => by
    rw [recsA, List.mem_append] at hx
    have h1 := h L (by simp)
    have hs : (0 : Int) ≤ sumLen L := by omega
    have e1 : ((C.length + 1 + 1 : Nat) : Int) * size = (C.length + 1 : Nat) * size + size := by rw [Int.natCast_add (C.length + 1) 1, Int.add_mul]; simp
    rcases hx with hx | hx
    · have ih := (recsA_lt (fun M hM => h M (by simp [hM])) x hx).1
      simp only [List.length_cons, List.headD_cons]
      refine ⟨by rw [e1]; omega, fun _ => by omega⟩
    · have ih := chunkA_lt L _ h1.1 x hx
      simp only [List.length_cons, List.headD_cons]
      refine ⟨by rw [e1]; omega, fun _ => ih.2⟩
theorem addr_gt {size : Int} {C : List Recs} {r : List UInt8} (h : FitC size C) (h0 : 0 ≤ size) : ∀ x ∈ recsA size C, x.1 < addrP size C r := by
  intro x hx
  have hl := recsA_lt h x hx
  unfold addrP
  cases C with
  | nil => simp [recsA] at hx
  | cons L C =>
    rw [putC]
    by_cases hf : fitsB size (L ++ [r]) = true
    · rw [if_pos hf]
      have := hl.2 (by simp)
      simpa using this
    · rw [if_neg hf]
      have := hl.1
      simp only [List.length_cons] at this ⊢
      simp [sumLen]
      simpa using this
theorem fitC_put {size : Int} {C : List Recs} {r : List UInt8} (h : FitC size C) (hr : 1 ≤ r.length) (hs : (r.length : Int) ≤ size) (hf : ∀ L ∈ C, fitsB size (L ++ [r]) = true → (sumLen (L ++ [r]) : Int) ≤ size) : FitC size (putC size C r) := by
  cases C with
  | nil =>
    intro M hM
    simp [putC] at hM
    subst hM
    exact ⟨by simp; exact hr, by simpa [sumLen] using hs⟩
  | cons L C =>
    rw [putC]
    have hL := h L (by simp)
    split
    · rename_i hff
      intro M hM
      rw [List.mem_cons] at hM
      rcases hM with rfl | hM
      · refine ⟨fun s hs' => ?_, hf L (by simp) hff⟩
        rw [List.mem_append] at hs'
        rcases hs' with hs' | hs'
        · exact hL.1 s hs'
        · simp at hs'; subst hs'; exact hr
      · exact h M (by simp [hM])
    · intro M hM
      rw [List.mem_cons] at hM
      rcases hM with rfl | hM
      · exact ⟨by simp; exact hr, by simpa [sumLen] using hs⟩
      · exact h M (by simpa using hM)
/-- A cluster that appends have made. -/
structure Made (d : DS) (C : List Recs) : Prop where
  good : GoodC d.interval C
  fit : FitC d.interval C
theorem Made.nil (d : DS) : Made d [] := ⟨fun _ h => by simp at h, fun _ h => by simp at h⟩
theorem fits_sum {size : Int} {L : Recs} (h : fitsB size L = true) : (sumLen L : Int) ≤ size := by
  obtain ⟨h1, h2, h3⟩ := encErr_zero (fits_enc h).1
  have h5 : sumLen L ≤ sizeL L := by unfold sizeL; omega
  omega
theorem Made.put {d : DS} {C : List Recs} {r : List UInt8} (h : Made d C) (hv : validB d = true) (h1 : 1 ≤ r.length) (h2 : (r.length : Int) ≤ d.length) : Made d (putC d.interval C r) := by
  obtain ⟨_, _, v3, v4, v5, v6⟩ := valid_spec hv
  have h3 : fitsB d.interval [r] = true := fits_one v3 h1 (by omega) (by omega)
  exact ⟨good_put h.good h3, fitC_put h.fit h1 (by omega) (fun L _ hf => fits_sum hf)⟩
theorem count_len (C : List Recs) (h : ∀ L ∈ C, L ≠ []) : C.length ≤ (C.map List.length).sum := by
  induction C with
  | nil => simp
  | cons L C ih =>
    have h1 := List.length_pos_iff.2 (h L (by simp))
    have h2 := ih (fun M hM => h M (by simp [hM]))
    simp; omega
/-- What an append answers over such a cluster. -/
theorem append_made {d : DS} {C : List Recs} {r : List UInt8} (h : Made d C) (hv : validB d = true) (ho : d.org = 1) (hc : (C.map List.length).sum ≤ 1000) :
    appendOf (memOf d.interval C) (hdOf C) d r = if 1 ≤ r.length ∧ (r.length : Int) ≤ d.length then ⟨hdOf (putC d.interval C r), [((putC d.interval C r).length, encStr d.interval ((putC d.interval C r).headD []))], addrP d.interval C r, 0⟩ else .err 2 := by
  have hcl := count_len C (fun L hL => (h.good L hL).1)
  have e1 : (hdOf C).count = ((C.map List.length).sum : Int) := rfl
  have e2 : (hdOf C).fin = (C.length : Int) := rfl
  have hp : plainB (hdOf C) = true := by
    unfold plainB
    rw [e1, e2]
    simp only [Bool.and_eq_true, decide_eq_true_eq]
    omega
  have hd : doorOf (hdOf C) d 1 = 0 := by unfold doorOf; rw [hv, hp]; simp [ho]
  have he : endOfC (memOf d.interval C) d.interval (hdOf C).fin = (C.headD [], 0) := end_at h.good
  unfold appendOf
  rw [hd, he, if_neg (by simp)]
  by_cases hl : 1 ≤ r.length ∧ (r.length : Int) ≤ d.length
  · rw [if_neg (by omega), if_neg (by simp), if_pos hl]
    obtain ⟨a1, a2, a3⟩ := add_put (size := d.interval) (C := C) (r := r)
    have hfin : (hdOf C).fin = (C.length : Int) := rfl
    simp only [hfin, a1, a2, a3]
    have hh : ({ hdOf C with count := (hdOf C).count + 1, fin := ((putC d.interval C r).length : Int) } : Hd) = hdOf (putC d.interval C r) := by
      simp only [hdOf, count_put]
      simp
    rw [hh]; rfl
  · rw [if_pos (by omega), if_neg hl]
/-- The pages behind it. -/
theorem puts_made {size : Int} {C : List Recs} {r : List UInt8} (hc : C.length ≤ 1000) : putsP (memOf size C) [((putC size C r).length, encStr size ((putC size C r).headD []))] = memOf size (putC size C r) := by
  have hl := length_memOf size C
  have hpl : (putC size C r).length = C.length ∨ (putC size C r).length = C.length + 1 := by
    cases C with
    | nil => right; rfl
    | cons L C => rw [putC]; split <;> simp
  have e0 : ∀ (m : Recs) x, putsP m [x] = putP m x := fun _ _ => rfl
  rw [e0, mem_put]
  generalize encStr size ((putC size C r).headD []) = s at *
  generalize memOf size C = m at *
  rcases hpl with hp | hp
  · rw [hp, if_pos rfl]
    have hg : growP m ((C.length : Nat) : Int) = m := by
      unfold growP
      rw [if_pos (by omega)]
      have : ((C.length : Int) + 1 - (m.length : Int)).toNat = 0 := by omega
      rw [this]; simp
    unfold putP
    rw [hg, if_pos (by simp only; omega)]
    simp
  · rw [hp, if_neg (by omega)]
    have hg : growP m ((C.length + 1 : Nat) : Int) = m ++ [[]] := by
      unfold growP
      rw [if_pos (by omega)]
      have : (((C.length + 1 : Nat) : Int) + 1 - (m.length : Int)).toNat = 1 := by omega
      rw [this]; rfl
    unfold putP
    rw [hg, if_pos (by simp only [List.length_append, List.length_singleton]; omega)]
    simp only [Int.toNat_natCast]
    rw [← hl, List.set_append_right _ _ (Nat.le_refl _)]
    simp
end Dsd
