/- Plain words of chapter 17: what an interval of slots is. -/
import Derived.Test.YtmnpappbacndlaaGreatDoorPA
set_option linter.unusedSimpArgs false
set_option linter.unusedVariables false
namespace Dsd

def slotAt (L : List (Bool × List UInt8)) (i : Nat) : Bool × List UInt8 := L.getD i (false, [])
def slotGood (len : Nat) (x : Bool × List UInt8) : Bool := if x.1 then x.2.length == len else x.2.isEmpty
def slotBytes (len : Nat) (x : Bool × List UInt8) : List UInt8 := if x.1 then x.2 else List.replicate len 0
def slotMark (len : Nat) (x : Bool × List UInt8) : List UInt8 := fieldL (if x.1 then 0 else 4) len
def sCont (len : Nat) (L : List (Bool × List UInt8)) : Nat → List UInt8
  | 0 => []
  | k + 1 => sCont len L k ++ slotBytes len (slotAt L k)
def sMarks (len : Nat) (L : List (Bool × List UInt8)) : Nat → List UInt8
  | 0 => []
  | k + 1 => slotMark len (slotAt L k) ++ sMarks len L k
def sGood (len : Nat) (L : List (Bool × List UInt8)) (k : Nat) : Prop := ∀ i, i < k → slotGood len (slotAt L i) = true
theorem sGood_zero (len : Nat) (L : List (Bool × List UInt8)) : sGood len L 0 := fun i hi => by omega
theorem sGood_succ {len : Nat} {L : List (Bool × List UInt8)} {k : Nat} (h : sGood len L k) (h2 : slotGood len (slotAt L k) = true) : sGood len L (k + 1) := fun i hi => by
  by_cases hk : i = k
  · subst hk; exact h2
  · exact h i (by omega)
theorem length_slotBytes {len : Nat} {x : Bool × List UInt8} (h : slotGood len x = true) : (slotBytes len x).length = len := by
  obtain ⟨u, r⟩ := x
  unfold slotGood slotBytes at *
  cases u <;> simp_all
theorem length_sCont {len : Nat} {L : List (Bool × List UInt8)} : ∀ {k : Nat}, sGood len L k → (sCont len L k).length = k * len
  | 0, _ => by simp [sCont]
  | k + 1, h => by
    rw [sCont, List.length_append, length_sCont (fun i hi => h i (by omega)), length_slotBytes (h k (by omega)), Nat.add_mul]; omega
theorem length_sMarks (len : Nat) (L : List (Bool × List UInt8)) : ∀ k : Nat, (sMarks len L k).length = 3 * k
  | 0 => rfl
  | k + 1 => by rw [sMarks, List.length_append, length_sMarks len L k]; simp [slotMark, length_fieldL]; omega
open Classical in
/-- The error of EncodeSlots, where N slots fit, of this length. -/
noncomputable def sErr (N : Nat) (len : Nat) (L : List (Bool × List UInt8)) : Int := if N = 0 then 1 else if N < L.length then 8 else if sGood len L N then 0 else 2
noncomputable def sStr (size N len : Nat) (L : List (Bool × List UInt8)) : List UInt8 := if sErr N len L = 0 then wholeL size (sCont len L N) (sMarks len L N) else []
theorem sErr_bad {N len : Nat} {L : List (Bool × List UInt8)} {k : Nat} (hN : N ≠ 0) (hL : L.length ≤ N) (hk : k < N) (hb : slotGood len (slotAt L k) = false) : sErr N len L = 2 := by
  unfold sErr
  rw [if_neg hN, if_neg (by omega), if_neg (fun h => by rw [h k hk] at hb; cases hb)]
theorem sErr_good {N len : Nat} {L : List (Bool × List UInt8)} (hN : N ≠ 0) (hL : L.length ≤ N) (h : sGood len L N) : sErr N len L = 0 := by
  unfold sErr
  rw [if_neg hN, if_neg (by omega), if_pos h]
end Dsd
/- Plain words of chapter 17: the slots that an interval is read as. -/
namespace Dsd

/-- The slot at a place. -/
def dsSlot (n len : Nat) (d : List UInt8) (i : Nat) : Bool × List UInt8 := if byt d (n - 7 - 3 * i) = 0 then (true, (d.drop (i * len)).take len) else (false, [])
/-- The first k slots. -/
def dsList (n len : Nat) (d : List UInt8) (k : Nat) : List (Bool × List UInt8) := (List.range k).map (dsSlot n len d)
theorem dsList_succ (n len : Nat) (d : List UInt8) (k : Nat) : dsList n len d (k + 1) = dsList n len d k ++ [dsSlot n len d k] := by simp [dsList, List.range_succ]
theorem length_dsList (n len : Nat) (d : List UInt8) (k : Nat) : (dsList n len d k).length = k := by simp [dsList]
/-- The cells of slots. -/
def slotCells (L : List (Bool × List UInt8)) : List Go.Value := L.flatMap fun x => [.bool x.1, .string ⟨x.2.toArray⟩]
theorem slotCells_snoc (L : List (Bool × List UInt8)) (x : Bool × List UInt8) : slotCells (L ++ [x]) = slotCells L ++ [.bool x.1, .string ⟨x.2.toArray⟩] := by simp [slotCells]
theorem length_slotCells (L : List (Bool × List UInt8)) : (slotCells L).length = 2 * L.length := by
  induction L with
  | nil => rfl
  | cons x L ih => simp [slotCells] at ih ⊢; omega
theorem slotCells_at (L : List (Bool × List UInt8)) (i : Nat) (h : i < L.length) : (slotCells L)[i * 2]? = some (.bool (L.getD i (false, [])).1) ∧ (slotCells L)[i * 2 + 1]? = some (.string ⟨(L.getD i (false, [])).2.toArray⟩) := by
  induction L generalizing i with
  | nil => simp at h
  | cons x L ih =>
    have e : slotCells (x :: L) = .bool x.1 :: .string ⟨x.2.toArray⟩ :: slotCells L := by simp [slotCells]
    rw [e]
    cases i with
    | zero => simp [List.getD]
    | succ i =>
      obtain ⟨a, b⟩ := ih i (by simpa using h)
      have e2 : (i + 1) * 2 = i * 2 + 2 := by omega
      rw [e2]
      simp only [List.getElem?_cons_succ, List.getD_cons_succ]
      exact ⟨a, b⟩
end Dsd
/- Plain laws of chapter 17's slots: what is encoded is decoded, followed by unused ones. -/
namespace Dsd

theorem sCont_congr {len : Nat} {L M : List (Bool × List UInt8)} : ∀ {k : Nat}, (∀ i, i < k → slotAt L i = slotAt M i) → sCont len L k = sCont len M k
  | 0, _ => rfl
  | k + 1, h => by rw [sCont, sCont, sCont_congr (fun i hi => h i (by omega)), h k (by omega)]
theorem sMarks_congr {len : Nat} {L M : List (Bool × List UInt8)} : ∀ {k : Nat}, (∀ i, i < k → slotAt L i = slotAt M i) → sMarks len L k = sMarks len M k
  | 0, _ => rfl
  | k + 1, h => by rw [sMarks, sMarks, sMarks_congr (fun i hi => h i (by omega)), h k (by omega)]
theorem sGood_congr {len : Nat} {L M : List (Bool × List UInt8)} {k : Nat} (h : ∀ i, i < k → slotAt L i = slotAt M i) (g : sGood len L k) : sGood len M k := fun i hi => by rw [← h i hi]; exact g i hi
theorem sErr_zero {N len : Nat} {L : List (Bool × List UInt8)} (h : sErr N len L = 0) : N ≠ 0 ∧ L.length ≤ N ∧ sGood len L N := by
  unfold sErr at h
  split at h
  · simp at h
  · split at h
    · simp at h
    · split at h
      · rename_i h1 h2 h3
        exact ⟨h1, by omega, h3⟩
      · simp at h

/-- The contents of a slot. -/
theorem sCont_at {len : Nat} {L : List (Bool × List UInt8)} : ∀ {k : Nat} (i : Nat), sGood len L k → i < k → ((sCont len L k).drop (i * len)).take len = slotBytes len (slotAt L i)
  | 0, i, _, h => by omega
  | k + 1, i, hg, h => by
    have hg' : sGood len L k := fun j hj => hg j (by omega)
    have hl := length_sCont hg'
    rw [sCont]
    by_cases hk : i = k
    · subst hk
      rw [← hl, List.drop_left, List.take_of_length_le (by rw [length_slotBytes (hg i (by omega))]; exact Nat.le_refl _)]
    · have hik : i < k := by omega
      have h2 : (i + 1) * len ≤ k * len := Nat.mul_le_mul_right _ hik
      rw [Nat.add_mul] at h2
      rw [List.drop_append_of_le_length (by omega), List.take_append_of_le_length (by rw [List.length_drop]; omega)]
      exact sCont_at i hg' hik
/-- The mark of a slot. -/
theorem sMarks_at (len : Nat) (L : List (Bool × List UInt8)) : ∀ (k i : Nat), i < k → byt (sMarks len L k) (3 * (k - 1 - i)) = if (slotAt L i).1 then 0 else 4
  | 0, i, h => by omega
  | k + 1, i, h => by
    rw [sMarks]
    by_cases hk : i = k
    · subst hk
      have e : 3 * (i + 1 - 1 - i) = 0 := by omega
      rw [e]
      unfold byt slotMark fieldL
      cases (slotAt L i).1 <;> rfl
    · have ih := sMarks_at len L k i (by omega)
      have e : 3 * (k + 1 - 1 - i) = (slotMark len (slotAt L k)).length + 3 * (k - 1 - i) := by
        have : (slotMark len (slotAt L k)).length = 3 := by unfold slotMark; exact length_fieldL _ _
        omega
      rw [e]
      rw [← ih]
      unfold byt
      simp [List.getD, List.getElem?_append_right]

theorem byt_append_left {a b : List UInt8} {i : Nat} (h : i < a.length) : byt (a ++ b) i = byt a i := by
  unfold byt; simp [List.getD, List.getElem?_append_left h]
theorem byt_append_right {a b : List UInt8} (i : Nat) : byt (a ++ b) (a.length + i) = byt b i := by
  unfold byt; simp [List.getD, List.getElem?_append_right]

theorem whole_mark {n : Nat} {c m : List UInt8} {i : Nat} (h : 4 + c.length + m.length ≤ n) (hi : i < m.length) : byt (wholeL n c m) (n - 4 - m.length + i) = byt m i := by
  unfold wholeL
  have e : n - 4 - m.length + i = (c ++ List.replicate (n - 4 - c.length - m.length) 0).length + i := by simp; omega
  simp only
  rw [e, List.append_assoc, byt_append_right, byt_append_left hi]
theorem whole_content {n : Nat} {c m : List UInt8} {a len : Nat} (h : a + len ≤ c.length) : ((wholeL n c m).drop a).take len = (c.drop a).take len := by
  unfold wholeL
  simp only [List.append_assoc]
  rw [List.drop_append_of_le_length (by omega), List.take_append_of_le_length (by rw [List.length_drop]; omega)]
theorem whole_used {n : Nat} {c m : List UInt8} (h : 4 + c.length + m.length ≤ n) (h1 : 1 ≤ c.length) (h2 : c.length ≤ 512) : (wholeL n c m == List.replicate (wholeL n c m).length 0) = false := by
  apply beq_false_of_ne
  intro he
  have hl := length_wholeL n c m h
  have z : ∀ i, byt (wholeL n c m) i = 0 := fun i => by
    rw [he]; unfold byt
    by_cases hi : i < (wholeL n c m).length
    · simp [List.getD, hi]
    · simp [List.getD, hi]
  have t : ∀ i, byt (wholeL n c m) (n - 4 + i) = byt (tailL c.length (n - 4 - c.length - m.length)) i := fun i => by
    unfold wholeL
    have e : n - 4 + i = (c ++ List.replicate (n - 4 - c.length - m.length) 0 ++ m).length + i := by simp; omega
    simp only
    rw [e, byt_append_right]
  have a := t 0
  have b := t 1
  rw [z] at a b
  unfold byt tailL at a b
  simp at a b
  omega

/-- What is decoded of slots that were encoded. -/
theorem dsSlot_enc {n N len : Nat} {L : List (Bool × List UInt8)} (h1 : 1 ≤ len) (hroom : N * (len + 3) + 4 ≤ n) (hg : sGood len L N) (i : Nat) (hi : i < N) :
    dsSlot n len (wholeL n (sCont len L N) (sMarks len L N)) i = slotAt L i := by
  have hc := length_sCont hg
  have hm := length_sMarks len L N
  rw [Nat.mul_add] at hroom
  have hb : byt (wholeL n (sCont len L N) (sMarks len L N)) (n - 7 - 3 * i) = if (slotAt L i).1 then 0 else 4 := by
    rw [← sMarks_at len L N i hi, ← whole_mark (n := n) (c := sCont len L N) (m := sMarks len L N) (by omega) (by omega)]
    congr 1; omega
  have hil : (i + 1) * len ≤ N * len := Nat.mul_le_mul_right _ hi
  rw [Nat.add_mul] at hil
  unfold dsSlot
  rw [hb, whole_content (by omega), sCont_at i hg hi]
  have hgi := hg i hi
  generalize slotAt L i = x at *
  obtain ⟨u, s⟩ := x
  cases u
  · simp [slotGood] at hgi ⊢; exact hgi
  · simp [slotBytes]
theorem slotAt_ds {n N len : Nat} {d : List UInt8} {i : Nat} (hi : i < N) : slotAt (dsList n len d N) i = dsSlot n len d i := by
  unfold slotAt dsList
  simp [List.getD, hi]
theorem ds_enc {n N len : Nat} {L : List (Bool × List UInt8)} (h1 : 1 ≤ len) (hroom : N * (len + 3) + 4 ≤ n) (hn : n ≤ 512) (he : sErr N len L = 0) :
    dsList n len (sStr n N len L) N = L ++ List.replicate (N - L.length) (false, []) ∧ sErr N len (dsList n len (sStr n N len L) N) = 0 ∧ sStr n N len (dsList n len (sStr n N len L) N) = sStr n N len L ∧ (sStr n N len L).length = n ∧
      (sStr n N len L == List.replicate (sStr n N len L).length 0) = false := by
  obtain ⟨h0, hl, hg⟩ := sErr_zero he
  have hs : sStr n N len L = wholeL n (sCont len L N) (sMarks len L N) := by unfold sStr; rw [if_pos he]
  have hat : ∀ i, i < N → slotAt L i = slotAt (dsList n len (wholeL n (sCont len L N) (sMarks len L N)) N) i := fun i hi => by
    rw [slotAt_ds hi, dsSlot_enc h1 hroom hg i hi]
  have hg2 := sGood_congr hat hg
  have he2 := sErr_good (len := len) h0 (show (dsList n len (wholeL n (sCont len L N) (sMarks len L N)) N).length ≤ N by rw [length_dsList]; exact Nat.le_refl _) hg2
  have hc := length_sCont hg
  have hm := length_sMarks len L N
  have hroom' := hroom
  rw [Nat.mul_add] at hroom'
  have hNl : 1 * 1 ≤ N * len := Nat.mul_le_mul (by omega) h1
  rw [hs]
  refine ⟨?_, he2, ?_, length_wholeL _ _ _ (by omega), whole_used (by omega) (by omega) (by omega)⟩
  · apply List.ext_getElem
    · rw [length_dsList]; simp; omega
    · intro i hi1 hi2
      rw [length_dsList] at hi1
      have h := hat i hi1
      unfold slotAt at h
      have e1 : (dsList n len (wholeL n (sCont len L N) (sMarks len L N)) N).getD i (false, []) = (dsList n len (wholeL n (sCont len L N) (sMarks len L N)) N)[i]'(by rw [length_dsList]; exact hi1) := by
        simp [List.getD, length_dsList, hi1]
      rw [← e1, ← h]
      by_cases hiL : i < L.length
      · simp [List.getD, hiL, List.getElem_append_left hiL]
      · simp [List.getD, List.getElem?_eq_none (Nat.le_of_not_lt hiL), List.getElem_append_right (Nat.le_of_not_lt hiL)]
  · unfold sStr
    rw [if_pos he2, ← sCont_congr hat, ← sMarks_congr hat]
end Dsd
/- Plain words of chapter 17: what EncodeSlots and DecodeSlots answer. -/
namespace Dsd
/-- A slot: whether it is used, and its record. -/
abbrev Slt := Bool × List UInt8
/-- How many slots. -/
def slotsN (size length : Int) : Int := if isSizeB size = false ∨ length < 1 ∨ 200 < length ∨ size - 7 < length then 0 else (size - 4) / (length + 3)
/-- What EncodeSlots answers. -/
noncomputable def esStr (size length : Int) (L : List Slt) : List UInt8 := sStr size.toNat (slotsN size length).toNat length.toNat L
noncomputable def esErr (size length : Int) (L : List Slt) : Int := sErr (slotsN size length).toNat length.toNat L
open Classical in
/-- The error of DecodeSlots. -/
noncomputable def dsErr (size length : Int) (d : List UInt8) : Int :=
  if slotsN size length = 0 then 1 else if (d.length : Int) ≠ size then 11 else if (d == List.replicate d.length 0) = true then 9 else
    if esErr size length (dsList size.toNat length.toNat d (slotsN size length).toNat) = 0 ∧ esStr size length (dsList size.toNat length.toNat d (slotsN size length).toNat) = d then 0 else 11
/-- The slots that DecodeSlots hands back. -/
noncomputable def dsOut (size length : Int) (d : List UInt8) : List Slt := if dsErr size length d = 0 then dsList size.toNat length.toNat d (slotsN size length).toNat else []
end Dsd
/- Plain words of chapter 19: slots of a page, one of them changed. -/
namespace Dsd
theorem sCont_same {len : Nat} {L M : List (Bool × List UInt8)} (h : ∀ i, slotAt L i = slotAt M i) : ∀ k, sCont len L k = sCont len M k
  | 0 => rfl
  | k + 1 => by rw [sCont, sCont, sCont_same h k, h k]
theorem sMarks_same {len : Nat} {L M : List (Bool × List UInt8)} (h : ∀ i, slotAt L i = slotAt M i) : ∀ k, sMarks len L k = sMarks len M k
  | 0 => rfl
  | k + 1 => by rw [sMarks, sMarks, sMarks_same h k, h k]
theorem sGood_same {len : Nat} {L M : List (Bool × List UInt8)} (h : ∀ i, slotAt L i = slotAt M i) (k : Nat) : sGood len L k ↔ sGood len M k := by
  unfold sGood
  constructor
  · intro g i hi; rw [← h]; exact g i hi
  · intro g i hi; rw [h]; exact g i hi
/-- Lists of slots that differ in unused ones behind them are encoded alike. -/
theorem sErr_same {N len : Nat} {L M : List (Bool × List UInt8)} (h : ∀ i, slotAt L i = slotAt M i) (hL : L.length ≤ N) (hM : M.length ≤ N) : sErr N len L = sErr N len M := by
  unfold sErr
  rw [if_neg (show ¬ N < L.length by omega), if_neg (show ¬ N < M.length by omega)]
  by_cases hN : N = 0
  · rw [if_pos hN, if_pos hN]
  · rw [if_neg hN, if_neg hN]
    by_cases hg : sGood len L N
    · rw [if_pos hg, if_pos ((sGood_same h N).1 hg)]
    · rw [if_neg hg, if_neg (fun g => hg ((sGood_same h N).2 g))]
theorem sStr_same {size N len : Nat} {L M : List (Bool × List UInt8)} (h : ∀ i, slotAt L i = slotAt M i) (hL : L.length ≤ N) (hM : M.length ≤ N) : sStr size N len L = sStr size N len M := by
  unfold sStr
  rw [sErr_same h hL hM, sCont_same h, sMarks_same h]
/-- Slots with another content of one of them; unused ones are filled in ahead of it. -/
def setS (L : List (Bool × List UInt8)) (i : Nat) (x : Bool × List UInt8) : List (Bool × List UInt8) := (L ++ List.replicate (i + 1 - L.length) (false, [])).set i x
theorem slotAt_pad (L : List (Bool × List UInt8)) (k i : Nat) : slotAt (L ++ List.replicate k (false, [])) i = slotAt L i := by
  unfold slotAt
  rw [List.getD, List.getD, List.getElem?_append]
  split
  · rfl
  · rename_i hi
    rw [List.getElem?_replicate, List.getElem?_eq_none (by omega)]
    split <;> rfl
theorem setS_len (L : List (Bool × List UInt8)) (i : Nat) (x : Bool × List UInt8) : (setS L i x).length = max L.length (i + 1) := by
  unfold setS; simp; omega
theorem slotAt_setS (L : List (Bool × List UInt8)) (i : Nat) (x : Bool × List UInt8) (j : Nat) : slotAt (setS L i x) j = if j = i then x else slotAt L j := by
  have hp := slotAt_pad L (i + 1 - L.length) j
  unfold setS
  unfold slotAt at *
  rw [List.getD, List.getElem?_set]
  by_cases h : i = j
  · subst h
    rw [if_pos rfl, if_pos rfl, if_pos (by simp; omega)]
    rfl
  · rw [if_neg h, if_neg (fun e => h e.symm), ← hp]
    rfl
/-- A page that is filled with unused slots, and one that holds no more than the slot (program and reference): encoded alike. -/
theorem setS_fresh {size N len i : Nat} (x : Bool × List UInt8) (hi : i < N) : sStr size N len ((List.replicate N (false, [])).set i x) = sStr size N len (setS [] i x) := by
  refine sStr_same (fun j => ?_) (by simp) (by rw [setS_len]; simp; omega)
  rw [slotAt_setS]
  unfold slotAt
  rw [List.getD, List.getElem?_set]
  by_cases h : i = j
  · subst h; simp [hi]
  · rw [if_neg h, if_neg (fun e => h e.symm), List.getElem?_replicate]
    split <;> simp
end Dsd
