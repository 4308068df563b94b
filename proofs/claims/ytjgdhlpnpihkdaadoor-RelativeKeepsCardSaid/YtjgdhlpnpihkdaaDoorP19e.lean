/- Plain laws of chapter 19: operations one after the other. -/
import Derived.Test.YtjgdhlpnpihkdaaDoorP19
set_option linter.unusedSimpArgs false
set_option linter.unusedVariables false
namespace Dsd
/-- One operation. -/
noncomputable def stepR (m : List (List UInt8)) (h : Hd) (d : DS) (slot : Int) (r : List UInt8) : RelRes := if r = [] then eraseR m h d slot else putR m h d slot r
abbrev St := Hd × List (List UInt8)
noncomputable def stepS (d : DS) (s : St) (x : Int × List UInt8) : St := if (stepR s.2 s.1 d x.1 x.2).e = 0 then ((stepR s.2 s.1 d x.1 x.2).h, putsP s.2 (stepR s.2 s.1 d x.1 x.2).w) else s
noncomputable def stS (d : DS) (l : List (Int × List UInt8)) : St := l.foldl (stepS d) (Hd.zero, [[]])
theorem stS_snoc (d : DS) (l : List (Int × List UInt8)) (k : Nat) (h : k < l.length) : stS d (l.take (k + 1)) = stepS d (stS d (l.take k)) (l.getD k (0, [])) := by
  unfold stS
  rw [List.take_succ_eq_append_getElem h, List.foldl_append]
  simp [List.getD, h]
theorem esStr_len (size length : Int) (L : List Slt) : (esStr size length L).length ≤ 512 := by
  unfold esStr
  by_cases hs : slotsN size length = 0
  · unfold sStr
    rw [if_neg]
    · simp
    · rw [hs]; unfold sErr; simp
  · have hb : isSizeB size = true ∧ 1 ≤ length ∧ length ≤ 200 ∧ length ≤ size - 7 ∧ slotsN size length = (size - 4) / (length + 3) := by
      unfold slotsN at hs ⊢
      split at hs
      · exact absurd rfl hs
      · rename_i hx
        rw [if_neg hx]
        simp at hx
        obtain ⟨x1, x2⟩ := hx
        exact ⟨x1, by omega, by omega, by omega, rfl⟩
    obtain ⟨h1, h2, h3, h4, h5⟩ := hb
    obtain ⟨n, rfl, hn⟩ := isSize_nat h1
    unfold sStr
    split
    · rename_i h0
      obtain ⟨g1, g2, g3⟩ := sErr_zero h0
      have hN : ((slotsN n length).toNat : Int) = ((n : Int) - 4) / (length + 3) := by
        rw [h5]
        have : 0 ≤ ((n : Int) - 4) / (length + 3) := Int.ediv_nonneg (by omega) (by omega)
        omega
      have hm := Int.ediv_mul_le ((n : Int) - 4) (show length + 3 ≠ 0 by omega)
      rw [← hN] at hm
      obtain ⟨ln, rfl⟩ := Int.eq_ofNat_of_zero_le (show 0 ≤ length by omega)
      have hm2 : (slotsN n ln).toNat * (ln + 3) + 4 ≤ n := by
        have : (((slotsN n ln).toNat * (ln + 3) : Nat) : Int) = ((slotsN n ln).toNat : Int) * ((ln : Int) + 3) := by push_cast; rfl
        omega
      rw [Nat.mul_add] at hm2
      have hc := length_sCont g3
      have hmk := length_sMarks (ln : Int).toNat L (slotsN n ln).toNat
      simp only [Int.toNat_natCast] at hc hmk ⊢
      rw [length_wholeL _ _ _ (by omega)]
      omega
    · simp
theorem stepR_512 (m : List (List UInt8)) (h : Hd) (d : DS) (slot : Int) (r : List UInt8) : ∀ x ∈ (stepR m h d slot r).w, x.2.length ≤ 512 := by
  have hw : ∀ (p : Int) (L : List Slt), (wrS d p L).2.length ≤ 512 := fun p L => esStr_len _ _ _
  unfold stepR
  split
  · unfold eraseR
    split
    · simp [RelRes.no]
    · split
      · simp [RelRes.no]
      · intro x hx; simp at hx; subst hx; exact hw _ _
  · unfold putR
    split
    · simp [RelRes.no]
    · split
      · simp [RelRes.no]
      · split
        · simp [RelRes.no]
        · split
          · split
            · simp [RelRes.no]
            · intro x hx; simp at hx; subst hx; exact hw _ _
          · intro x hx
            simp only [List.mem_append, List.mem_singleton] at hx
            rcases hx with hx | rfl
            · unfold freshS at hx
              simp only [List.mem_map] at hx
              obtain ⟨i, _, rfl⟩ := hx
              exact hw _ _
            · exact hw _ _
theorem putsP_mem (P : List UInt8 → Prop) (h0 : P []) : ∀ (l : List (Int × List UInt8)), (∀ x ∈ l, P x.2) → ∀ (m : List (List UInt8)), (∀ s ∈ m, P s) → ∀ s ∈ putsP m l, P s
  | [], _, m, hm => hm
  | x :: l, hx, m, hm => putsP_mem P h0 l (fun y hy => hx y (by simp [hy])) (putP m x) (putP_mem m x P hm h0 (hx x (by simp)))
/-- What stands behind j operations. -/
structure SInv (d : DS) (j : Nat) (s : St) : Prop where
  good : (∃ F k, RMade d F k s.1 s.2 ∧ k ≤ 8 * j ∧ usedN F ≤ j ∧ validB d = true ∧ d.org = 2) ∨ (s = (Hd.zero, [[]]) ∧ doorOf Hd.zero d 2 ≠ 0)
  mem : ∀ x ∈ s.2, x.length ≤ 512
theorem sinv_zero (d : DS) : SInv d 0 (Hd.zero, [[]]) := by
  refine ⟨?_, by simp⟩
  by_cases h : doorOf Hd.zero d 2 = 0
  · exact .inl ⟨[], 0, rmade_nil d, by omega, by simp [usedN], (door_zero h).1, (door_zero h).2.2⟩
  · exact .inr ⟨rfl, h⟩
theorem SInv.len {d : DS} {j : Nat} {s : St} (h : SInv d j s) : 0 < s.2.length ∧ s.2.length ≤ 8 * j + 1 := by
  rcases h.good with ⟨F, k, r, hk, _⟩ | ⟨rfl, _⟩
  · rw [r.mlen]; omega
  · simp
theorem SInv.small {d : DS} {j : Nat} {s : St} (h : SInv d j s) (hj : j ≤ 1000) : Small s.2 := ⟨by have := h.len; omega, fun x hx => by have := h.mem x hx; omega⟩
/-- What an operation does to a cluster that was made by changes: it refuses, or it changes one slot. -/
theorem RMade.step {d : DS} {F : List Slt} {k : Nat} {h : Hd} {m : List (List UInt8)} (r : RMade d F k h m) (hv : validB d = true) (hd : doorOf h d 2 = 0) (hk : k ≤ 8000) (slot : Int) (rec : List UInt8) :
    (∃ c, c ≠ 0 ∧ stepR m h d slot rec = .no c ∧ (rec = [] → slot < 1 ∨ 65536 < slot ∨ (slotAt F (slot - 1).toNat).1 = false)) ∨
    (∃ (s k' : Nat), slot = (s : Int) + 1 ∧ s < 65536 ∧ (stepR m h d slot rec).e = 0 ∧ (stepR m h d slot rec).w.length ≤ 9 ∧ k ≤ k' ∧ k' ≤ k + 8 ∧ s < (padF (nS d) F k').length ∧
      RMade d (chS (nS d) F k' s (!rec.isEmpty, rec)) k' (stepR m h d slot rec).h (putsP m (stepR m h d slot rec).w) ∧ (rec = [] → (slotAt F s).1 = true) ∧ (rec ≠ [] → (rec.length : Int) = d.length)) := by
  by_cases hr : rec = []
  · subst hr
    have e : stepR m h d slot [] = eraseR m h d slot := by unfold stepR; rw [if_pos rfl]
    rw [e]
    by_cases hn : slot < 1 ∨ 65536 < slot ∨ (slotAt F (slot - 1).toNat).1 = false
    · obtain ⟨c, hc, hR⟩ := r.erase_no hv hd hn
      exact .inl ⟨c, hc, hR, fun _ => hn⟩
    · right
      obtain ⟨s, hs⟩ := Int.eq_ofNat_of_zero_le (show 0 ≤ slot - 1 by omega)
      have es : slot = (s : Int) + 1 := by omega
      have hu : (slotAt F s).1 = true := by
        have : ¬ (slotAt F (slot - 1).toNat).1 = false := fun x => hn (.inr (.inr x))
        rw [hs, Int.toNat_natCast] at this
        simpa using this
      obtain ⟨g1, g2, g3, g4⟩ := r.erase hv hd (show s < 65536 by omega) hu
      rw [← es] at g1 g2 g3
      exact ⟨s, k, es, by omega, g1, g2, Nat.le_refl _, by omega, g4, by simpa using g3, fun _ => hu, fun h => absurd rfl h⟩
  · have e : stepR m h d slot rec = putR m h d slot rec := by unfold stepR; rw [if_neg hr]
    rw [e]
    by_cases hn : slot < 1 ∨ 65536 < slot ∨ (rec.length : Int) ≠ d.length ∨ (k : Int) + 8 < pageS d slot
    · obtain ⟨c, hc, hR⟩ := r.put_no hd hn
      exact .inl ⟨c, hc, hR, fun h => absurd h hr⟩
    · right
      obtain ⟨s, hs⟩ := Int.eq_ofNat_of_zero_le (show 0 ≤ slot - 1 by omega)
      have es : slot = (s : Int) + 1 := by omega
      have hl : (rec.length : Int) = d.length := by
        by_cases x : (rec.length : Int) = d.length
        · exact x
        · exact absurd (.inr (.inr (.inl x))) hn
      have hp : s / nS d + 1 ≤ k + 8 := by
        have q1 := (page_nat hv s).1
        rw [← es] at q1
        omega
      obtain ⟨g1, g2, g3, g4⟩ := r.put hv hd (show s < 65536 by omega) hl hp (by omega)
      rw [← es] at g1 g2 g3
      have hie : (!rec.isEmpty) = true := by simpa using hr
      exact ⟨s, _, es, by omega, g1, g2, Nat.le_max_left _ _, by omega, g4, by rw [hie]; exact g3, fun h => absurd h hr, fun _ => hl⟩
theorem used_step {N k' s : Nat} {F : List Slt} {x : Slt} (h : s < (padF N F k').length) : usedN (chS N F k' s x) ≤ usedN F + 1 := by
  have := usedN_ch (x := x) h
  split at this <;> split at this <;> omega
theorem SInv.step {d : DS} {j : Nat} {s : St} (h : SInv d j s) (hj : j ≤ 900) (x : Int × List UInt8) : SInv d (j + 1) (stepS d s x) ∧ ((stepR s.2 s.1 d x.1 x.2).e = 0 → (stepR s.2 s.1 d x.1 x.2).w.length ≤ 9) := by
  have hmem : ∀ y ∈ (stepS d s x).2, y.length ≤ 512 := by
    unfold stepS
    split
    · exact putsP_mem (fun y => y.length ≤ 512) (by simp) _ (stepR_512 _ _ _ _ _) _ h.mem
    · exact h.mem
  rcases h.good with ⟨F, k, r, hk, hu, hv, ho⟩ | ⟨rfl, hd⟩
  · have hd := r.door hv ho (by omega) (by omega)
    rcases r.step hv hd (by omega) x.1 x.2 with ⟨c, hc, hR, _⟩ | ⟨s', k', _, _, g1, g2, g3, g4, g5, g6, _, _⟩
    · have hne : ¬ (stepR s.2 s.1 d x.1 x.2).e = 0 := by rw [hR]; exact hc
      have e : stepS d s x = s := by unfold stepS; rw [if_neg hne]
      rw [e] at hmem ⊢
      exact ⟨⟨.inl ⟨F, k, r, by omega, by omega, hv, ho⟩, hmem⟩, fun h => absurd h hne⟩
    · have e : stepS d s x = ((stepR s.2 s.1 d x.1 x.2).h, putsP s.2 (stepR s.2 s.1 d x.1 x.2).w) := by unfold stepS; rw [if_pos g1]
      rw [e] at hmem ⊢
      have := used_step (x := (!x.2.isEmpty, x.2)) g5
      exact ⟨⟨.inl ⟨_, k', g6, by omega, by omega, hv, ho⟩, hmem⟩, fun _ => g2⟩
  · have hne : ¬ (stepR [[]] Hd.zero d x.1 x.2).e = 0 := by
      unfold stepR
      split
      · unfold eraseR; rw [if_pos hd]; exact hd
      · unfold putR; rw [if_pos hd]; exact hd
    have e : stepS d (Hd.zero, [[]]) x = (Hd.zero, [[]]) := by unfold stepS; rw [if_neg hne]
    rw [e] at hmem ⊢
    exact ⟨⟨.inr ⟨rfl, hd⟩, hmem⟩, fun h => absurd h hne⟩
theorem stS_inv (d : DS) : ∀ (j : Nat) (l : List (Int × List UInt8)), j ≤ 900 → j ≤ l.length → SInv d j (stS d (l.take j))
  | 0, _, _, _ => sinv_zero d
  | j + 1, l, h1, h2 => by
    rw [stS_snoc d l j (by omega)]
    exact ((stS_inv d j l (by omega) (by omega)).step (by omega) _).1
end Dsd
