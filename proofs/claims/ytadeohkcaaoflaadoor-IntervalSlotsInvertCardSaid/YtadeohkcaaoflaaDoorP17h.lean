/- Plain laws of chapter 17's slots: what is encoded is decoded, followed by unused ones. -/
import Derived.Test.YtadeohkcaaoflaaDoorP17g
namespace Dsd

theorem sCont_congr {len : Nat} {L M : List (Bool × List UInt8)} : ∀ {k : Nat}, (∀ i, i < k → slotAt L i = slotAt M i) → sCont len L k = sCont len M k
  | 0, _ => rfl
  | k + 1, h => by rw [sCont, sCont, sCont_congr (fun i hi => h i (by omega)), h k (by omega)]
theorem sMarks_congr {len : Nat} {L M : List (Bool × List UInt8)} : ∀ {k : Nat}, (∀ i, i < k → slotAt L i = slotAt M i) → sMarks len L k = sMarks len M k
  | 0, _ => rfl
  | k + 1, h => by rw [sMarks, sMarks, sMarks_congr (fun i hi => h i (by omega)), h k (by omega)]
theorem sGood_congr {len : Nat} {L M : List (Bool × List UInt8)} {k : Nat} (h : ∀ i, i < k → slotAt L i = slotAt M i) (g : sGood len L k) : sGood len M k := fun i hi => by rw [← h i hi]; exact g i hi
theorem sErr_zero {N len : Nat} {L : List (Bool × List UInt8)} (h : sErr N len L = 0) : N ≠ 0 ∧ L.length ≤ N ∧ sGood len L N := by
  unfold sErr at h
  split at h
  · simp at h
  · split at h
    · simp at h
    · split at h
      · rename_i h1 h2 h3
        exact ⟨h1, by omega, h3⟩
      · simp at h

/-- The contents of a slot. -/
theorem sCont_at {len : Nat} {L : List (Bool × List UInt8)} : ∀ {k : Nat} (i : Nat), sGood len L k → i < k → ((sCont len L k).drop (i * len)).take len = slotBytes len (slotAt L i)
  | 0, i, _, h => by omega
  | k + 1, i, hg, h => by
    have hg' : sGood len L k := fun j hj => hg j (by omega)
    have hl := length_sCont hg'
    rw [sCont]
    by_cases hk : i = k
    · subst hk
      rw [← hl, List.drop_left, List.take_of_length_le (by rw [length_slotBytes (hg i (by omega))]; exact Nat.le_refl _)]
    · have hik : i < k := by omega
      have h2 : (i + 1) * len ≤ k * len := Nat.mul_le_mul_right _ hik
      rw [Nat.add_mul] at h2
      rw [List.drop_append_of_le_length (by omega), List.take_append_of_le_length (by rw [List.length_drop]; omega)]
      exact sCont_at i hg' hik
/-- The mark of a slot. -/
theorem sMarks_at (len : Nat) (L : List (Bool × List UInt8)) : ∀ (k i : Nat), i < k → byt (sMarks len L k) (3 * (k - 1 - i)) = if (slotAt L i).1 then 0 else 4
  | 0, i, h => by omega
  | k + 1, i, h => by
    rw [sMarks]
    by_cases hk : i = k
    · subst hk
      have e : 3 * (i + 1 - 1 - i) = 0 := by omega
      rw [e]
      unfold byt slotMark fieldL
      cases (slotAt L i).1 <;> rfl
    · have ih := sMarks_at len L k i (by omega)
      have e : 3 * (k + 1 - 1 - i) = (slotMark len (slotAt L k)).length + 3 * (k - 1 - i) := by
        have : (slotMark len (slotAt L k)).length = 3 := by unfold slotMark; exact length_fieldL _ _
        omega
      rw [e]
      rw [← ih]
      unfold byt
      simp [List.getD, List.getElem?_append_right]

theorem byt_append_left {a b : List UInt8} {i : Nat} (h : i < a.length) : byt (a ++ b) i = byt a i := by
  unfold byt; simp [List.getD, List.getElem?_append_left h]
theorem byt_append_right {a b : List UInt8} (i : Nat) : byt (a ++ b) (a.length + i) = byt b i := by
  unfold byt; simp [List.getD, List.getElem?_append_right]

theorem whole_mark {n : Nat} {c m : List UInt8} {i : Nat} (h : 4 + c.length + m.length ≤ n) (hi : i < m.length) : byt (wholeL n c m) (n - 4 - m.length + i) = byt m i := by
  unfold wholeL
  have e : n - 4 - m.length + i = (c ++ List.replicate (n - 4 - c.length - m.length) 0).length + i := by simp; omega
  simp only
  rw [e, List.append_assoc, byt_append_right, byt_append_left hi]
theorem whole_content {n : Nat} {c m : List UInt8} {a len : Nat} (h : a + len ≤ c.length) : ((wholeL n c m).drop a).take len = (c.drop a).take len := by
  unfold wholeL
  simp only [List.append_assoc]
  rw [List.drop_append_of_le_length (by omega), List.take_append_of_le_length (by rw [List.length_drop]; omega)]
theorem whole_used {n : Nat} {c m : List UInt8} (h : 4 + c.length + m.length ≤ n) (h1 : 1 ≤ c.length) (h2 : c.length ≤ 512) : (wholeL n c m == List.replicate (wholeL n c m).length 0) = false := by
  apply beq_false_of_ne
  intro he
  have hl := length_wholeL n c m h
  have z : ∀ i, byt (wholeL n c m) i = 0 := fun i => by
    rw [he]; unfold byt
    by_cases hi : i < (wholeL n c m).length
    · simp [List.getD, hi]
    · simp [List.getD, hi]
  have t : ∀ i, byt (wholeL n c m) (n - 4 + i) = byt (tailL c.length (n - 4 - c.length - m.length)) i := fun i => by
    unfold wholeL
    have e : n - 4 + i = (c ++ List.replicate (n - 4 - c.length - m.length) 0 ++ m).length + i := by simp; omega
    simp only
    rw [e, byt_append_right]
  have a := t 0
  have b := t 1
  rw [z] at a b
  unfold byt tailL at a b
  simp at a b
  omega

/-- What is decoded of slots that were encoded. -/
theorem dsSlot_enc {n N len : Nat} {L : List (Bool × List UInt8)} (h1 : 1 ≤ len) (hroom : N * (len + 3) + 4 ≤ n) (hg : sGood len L N) (i : Nat) (hi : i < N) :
    dsSlot n len (wholeL n (sCont len L N) (sMarks len L N)) i = slotAt L i := by
  have hc := length_sCont hg
  have hm := length_sMarks len L N
  rw [Nat.mul_add] at hroom
  have hb : byt (wholeL n (sCont len L N) (sMarks len L N)) (n - 7 - 3 * i) = if (slotAt L i).1 then 0 else 4 := by
    rw [← sMarks_at len L N i hi, ← whole_mark (n := n) (c := sCont len L N) (m := sMarks len L N) (by omega) (by omega)]
    congr 1; omega
  have hil : (i + 1) * len ≤ N * len := Nat.mul_le_mul_right _ hi
  rw [Nat.add_mul] at hil
  unfold dsSlot
  rw [hb, whole_content (by omega), sCont_at i hg hi]
  have hgi := hg i hi
  generalize slotAt L i = x at *
  obtain ⟨u, s⟩ := x
  cases u
  · simp [slotGood] at hgi ⊢; exact hgi
  · simp [slotBytes]
theorem slotAt_ds {n N len : Nat} {d : List UInt8} {i : Nat} (hi : i < N) : slotAt (dsList n len d N) i = dsSlot n len d i := by
  unfold slotAt dsList
  simp [List.getD, hi]
theorem ds_enc {n N len : Nat} {L : List (Bool × List UInt8)} (h1 : 1 ≤ len) (hroom : N * (len + 3) + 4 ≤ n) (hn : n ≤ 512) (he : sErr N len L = 0) :
    dsList n len (sStr n N len L) N = L ++ List.replicate (N - L.length) (false, []) ∧ sErr N len (dsList n len (sStr n N len L) N) = 0 ∧ sStr n N len (dsList n len (sStr n N len L) N) = sStr n N len L ∧ (sStr n N len L).length = n ∧
      (sStr n N len L == List.replicate (sStr n N len L).length 0) = false := by
  obtain ⟨h0, hl, hg⟩ := sErr_zero he
  have hs : sStr n N len L = wholeL n (sCont len L N) (sMarks len L N) := by unfold sStr; rw [if_pos he]
  have hat : ∀ i, i < N → slotAt L i = slotAt (dsList n len (wholeL n (sCont len L N) (sMarks len L N)) N) i := fun i hi => by
    rw [slotAt_ds hi, dsSlot_enc h1 hroom hg i hi]
  have hg2 := sGood_congr hat hg
  have he2 := sErr_good (len := len) h0 (show (dsList n len (wholeL n (sCont len L N) (sMarks len L N)) N).length ≤ N by rw [length_dsList]; exact Nat.le_refl _) hg2
  have hc := length_sCont hg
  have hm := length_sMarks len L N
  have hroom' := hroom
  rw [Nat.mul_add] at hroom'
  have hNl : 1 * 1 ≤ N * len := Nat.mul_le_mul (by omega) h1
  rw [hs]
  refine ⟨?_, he2, ?_, length_wholeL _ _ _ (by omega), whole_used (by omega) (by omega) (by omega)⟩
  · apply List.ext_getElem
    · rw [length_dsList]; simp; omega
    · intro i hi1 hi2
      rw [length_dsList] at hi1
      have h := hat i hi1
      unfold slotAt at h
      have e1 : (dsList n len (wholeL n (sCont len L N) (sMarks len L N)) N).getD i (false, []) = (dsList n len (wholeL n (sCont len L N) (sMarks len L N)) N)[i]'(by rw [length_dsList]; exact hi1) := by
        simp [List.getD, length_dsList, hi1]
      rw [← e1, ← h]
      by_cases hiL : i < L.length
      · simp [List.getD, hiL, List.getElem_append_left hiL]
      · simp [List.getD, List.getElem?_eq_none (Nat.le_of_not_lt hiL), List.getElem_append_right (Nat.le_of_not_lt hiL)]
  · unfold sStr
    rw [if_pos he2, ← sCont_congr hat, ← sMarks_congr hat]
end Dsd
