/- Plain laws of chapter 19: what stands in each slot behind some operations, as a function from slots. -/
import Derived.Test.YtjgdhlpnpihkdaaDoorP19e
import Derived.Test.YtjgdhlpnpihkdaaDoorMA
set_option linter.unusedSimpArgs false
set_option linter.unusedVariables false
namespace Dsd
/-- What must be in each slot. -/
def wantF (F : List Slt) : Wnt := fun x => if 1 ≤ x ∧ (slotAt F (x - 1).toNat).1 = true then some (slotAt F (x - 1).toNat).2 else none
theorem wantF_nil : wantF [] = fun _ => none := by
  funext x; unfold wantF
  rw [if_neg]
  rintro ⟨_, h⟩
  simp [slotAt] at h
theorem wantF_at (F : List Slt) (s : Nat) : wantF F ((s : Int) + 1) = if (slotAt F s).1 = true then some (slotAt F s).2 else none := by
  unfold wantF
  rw [show ((s : Int) + 1 - 1).toNat = s by omega]
  by_cases h : (slotAt F s).1 = true
  · rw [if_pos ⟨by omega, h⟩, if_pos h]
  · rw [if_neg (fun x => h x.2), if_neg h]
theorem wantF_none {F : List Slt} {x : Int} (h : x < 1 ∨ (slotAt F (x - 1).toNat).1 = false) : wantF F x = none := by
  unfold wantF
  rw [if_neg]
  rintro ⟨h1, h2⟩
  rcases h with h | h
  · omega
  · rw [h] at h2; cases h2
theorem wantF_ch {N k s : Nat} {F : List Slt} {x : Slt} (h : s < (padF N F k).length) : wantF (chS N F k s x) = updW (wantF F) ((s : Int) + 1) (if x.1 = true then some x.2 else none) := by
  funext y
  unfold updW
  by_cases hy : y = (s : Int) + 1
  · subst hy
    rw [if_pos rfl, wantF_at, chS_slot h, if_pos rfl]
  · rw [if_neg hy]
    unfold wantF
    by_cases h1 : 1 ≤ y
    · have e : (y - 1).toNat ≠ s := by omega
      rw [chS_slot h (y - 1).toNat, if_neg e]
    · rw [if_neg (fun z => h1 z.1), if_neg (fun z => h1 z.1)]
/-- What stands behind j operations: a cluster of k pages, whose slots are F. -/
structure Ran (d : DS) (j : Nat) (s : St) (F : List Slt) (k : Nat) : Prop where
  made : RMade d F k s.1 s.2
  few : k ≤ 8 * j
  used : usedN F ≤ j
  mem : ∀ x ∈ s.2, x.length ≤ 512
theorem ran_zero (d : DS) : Ran d 0 (Hd.zero, [[]]) [] 0 := ⟨rmade_nil d, by omega, by simp [usedN], by simp⟩
theorem Ran.mono {d : DS} {j j' : Nat} {s : St} {F : List Slt} {k : Nat} (R : Ran d j s F k) (h : j ≤ j') : Ran d j' s F k := ⟨R.made, by have := R.few; omega, by have := R.used; omega, R.mem⟩
theorem Ran.door {d : DS} {j : Nat} {s : St} {F : List Slt} {k : Nat} (R : Ran d j s F k) (hv : validB d = true) (ho : d.org = 2) (hj : j ≤ 41) : doorOf s.1 d 2 = 0 := by
  have h1 := R.few
  have h2 := R.used
  exact R.made.door hv ho (by omega) (by omega)
theorem Ran.len {d : DS} {j : Nat} {s : St} {F : List Slt} {k : Nat} (R : Ran d j s F k) (hv : validB d = true) (hj : j ≤ 41) : F.length ≤ 65536 := by
  have h1 := R.few
  have h2 := (nS_pos hv).2.1
  rw [R.made.len]
  have := Nat.mul_le_mul h1 h2
  omega
theorem Ran.small {d : DS} {j : Nat} {s : St} {F : List Slt} {k : Nat} (R : Ran d j s F k) (hj : j ≤ 41) : Small s.2 ∧ 0 < s.2.length := by
  have h1 := R.few
  have h2 := R.made.mlen
  exact ⟨⟨by omega, fun x hx => by have := R.mem x hx; omega⟩, by omega⟩
/-- One operation more: it refuses, and nothing turns; or it changes one slot. -/
theorem Ran.step {d : DS} {j : Nat} {s : St} {F : List Slt} {k : Nat} (R : Ran d j s F k) (hv : validB d = true) (ho : d.org = 2) (hj : j ≤ 40) (slot : Int) (rec : List UInt8) :
    (∃ c, c ≠ 0 ∧ stepR s.2 s.1 d slot rec = .no c ∧ stepS d s (slot, rec) = s ∧ (rec = [] → wantF F slot = none)) ∨
    (∃ F' k', (stepR s.2 s.1 d slot rec).e = 0 ∧ (stepR s.2 s.1 d slot rec).w.length ≤ 9 ∧ stepS d s (slot, rec) = ((stepR s.2 s.1 d slot rec).h, putsP s.2 (stepR s.2 s.1 d slot rec).w) ∧ Ran d (j + 1) (stepS d s (slot, rec)) F' k' ∧
      k ≤ k' ∧ 1 ≤ slot ∧ slot ≤ 65536 ∧ (rec = [] → (wantF F slot).isSome = true) ∧ (rec ≠ [] → (rec.length : Int) = d.length) ∧ wantF F' = updW (wantF F) slot (if rec = [] then none else some rec) ∧
      usedN F' = if rec = [] then usedN F - 1 else if (wantF F slot).isSome = true then usedN F else usedN F + 1) := by
  have hmem : ∀ y ∈ (stepS d s (slot, rec)).2, y.length ≤ 512 := by
    unfold stepS
    split
    · exact putsP_mem (fun y => y.length ≤ 512) (by simp) _ (stepR_512 _ _ _ _ _) _ R.mem
    · exact R.mem
  have hd := R.door hv ho (by omega)
  have hF := R.len hv (by omega)
  have hk := R.few
  have hu := R.used
  rcases R.made.step hv hd (by omega) slot rec with ⟨c, hc, hR, hn⟩ | ⟨s', k', es, hs, g1, g2, g3, g4, g5, g6, g7, g8⟩
  · refine .inl ⟨c, hc, hR, by unfold stepS; rw [if_neg (by simp only; rw [hR]; exact hc)], fun h => ?_⟩
    rcases hn h with h | h | h
    · exact wantF_none (.inl h)
    · exact wantF_none (.inr (by rw [slotAt_out (by omega)]))
    · exact wantF_none (.inr h)
  · have e : stepS d s (slot, rec) = ((stepR s.2 s.1 d slot rec).h, putsP s.2 (stepR s.2 s.1 d slot rec).w) := by unfold stepS; rw [if_pos g1]
    have hus := usedN_ch (x := (!rec.isEmpty, rec)) g5
    have hw := wantF_at F s'
    rw [e] at hmem
    refine .inr ⟨_, k', g1, g2, e, by rw [e]; exact ⟨g6, by omega, by have := used_step (x := (!rec.isEmpty, rec)) g5; omega, hmem⟩, g3, by omega, by omega, fun h => ?_, g8, ?_, ?_⟩
    · rw [es, hw, if_pos (g7 h)]; rfl
    · rw [wantF_ch g5, es]
      by_cases h : rec = []
      · subst h; simp
      · simp [h]
    · rw [es, hw]
      by_cases h : rec = []
      · subst h
        rw [if_pos (g7 rfl)] at hus
        simp at hus ⊢
        omega
      · have h2 : (!rec.isEmpty) = true := by simpa using h
        rw [h2] at hus ⊢
        rw [if_neg h]
        by_cases h3 : (slotAt F s').1 = true
        · rw [if_pos h3] at hus ⊢
          simp at hus ⊢; omega
        · rw [if_neg h3] at hus ⊢
          simp at hus ⊢; omega
/-- Get behind some operations. -/
theorem Ran.get {d : DS} {j : Nat} {s : St} {F : List Slt} {k : Nat} (R : Ran d j s F k) (hv : validB d = true) (ho : d.org = 2) (hj : j ≤ 41) (x : Int) :
    (∀ r, wantF F x = some r → getR s.2 s.1 d x = (r, 0)) ∧ (wantF F x = none → (getR s.2 s.1 d x).1 = [] ∧ (getR s.2 s.1 d x).2 ≠ 0) := by
  have hd := R.door hv ho hj
  have hF := R.len hv hj
  by_cases hx : 1 ≤ x ∧ x ≤ 65536
  · obtain ⟨s', hs⟩ := Int.eq_ofNat_of_zero_le (show 0 ≤ x - 1 by omega)
    have es : x = (s' : Int) + 1 := by omega
    have hg := R.made.get hv hd (s := s') (by omega)
    rw [es, wantF_at, hg]
    by_cases h : (slotAt F s').1 = true
    · rw [if_pos h, if_pos h]
      exact ⟨fun r hr => by simp at hr; rw [hr], fun h => by simp at h⟩
    · rw [if_neg h, if_neg h]
      exact ⟨fun r hr => by simp at hr, fun _ => by simp⟩
  · have hn : wantF F x = none := by
      by_cases h1 : x < 1
      · exact wantF_none (.inl h1)
      · exact wantF_none (.inr (by rw [slotAt_out (by omega)]))
    rw [hn]
    refine ⟨fun r hr => by simp at hr, fun _ => ?_⟩
    unfold getR
    rw [if_neg (by simp [hd])]
    have : (findR s.2 s.1 d x).2 ≠ 0 := by
      unfold findR
      rw [if_pos (by omega)]; simp
    rw [if_pos this]
    exact ⟨rfl, this⟩
/-- How the slots that are used are as many as the header tells. -/
theorem Ran.count {d : DS} {j : Nat} {s : St} {F : List Slt} {k : Nat} (R : Ran d j s F k) : s.1.count = usedN F ∧ s.1.fin = k := by
  obtain ⟨h1, h2⟩ := R.made.fin
  exact ⟨h2, h1⟩
end Dsd
