/- Plain words of chapter 17: what an interval is, on lists of bytes. No program in sight. -/
import Derived.Test.YtadeohkcaaoflaaDoorBase
namespace Dsd

/-- The bytes of a field. -/
def fieldL (c n : Nat) : List UInt8 := [UInt8.ofNat c, UInt8.ofNat n, UInt8.ofNat (n / 256)]
theorem ofNat_mod (n : Nat) : UInt8.ofNat (n % 256) = UInt8.ofNat n := UInt8.toNat_inj.1 (by simp)
theorem fieldL_mod (c n : Nat) : fieldL c n = [UInt8.ofNat c, UInt8.ofNat (n % 256), UInt8.ofNat (n / 256 % 256)] := by simp only [fieldL, ofNat_mod]
@[go_sem] theorem length_fieldL (c n : Nat) : (fieldL c n).length = 3 := rfl
/-- The longest runs of successive records of one length: how many, and the length. -/
def runsL : List (List UInt8) → List (Nat × Nat)
  | [] => []
  | x :: xs => match runsL xs with
    | [] => [(1, x.length)]
    | (n, len) :: r => if len = x.length then (n + 1, len) :: r else (1, x.length) :: (n, len) :: r
def runField (r : Nat × Nat) : List UInt8 := if 1 < r.1 then fieldL 8 r.1 ++ fieldL 64 r.2 else fieldL 0 r.2
/-- The fields of records, the last one first. -/
def fieldsL (L : List (List UInt8)) : List UInt8 := (runsL L).reverse.flatMap runField
/-- How many records from the head on have the head's length. -/
def headRun : List (List UInt8) → Nat
  | [] => 1
  | x :: xs => 1 + (xs.takeWhile fun y => y.length == x.length).length
def sumLen (L : List (List UInt8)) : Nat := (L.map List.length).sum
def sizeL (L : List (List UInt8)) : Nat := 4 + (fieldsL L).length + sumLen L
def tailL (c f : Nat) : List UInt8 := [UInt8.ofNat c, UInt8.ofNat (c / 256), UInt8.ofNat f, UInt8.ofNat (f / 256)]
def wholeL (size : Nat) (content fields : List UInt8) : List UInt8 :=
  let free := size - 4 - content.length - fields.length
  content ++ List.replicate free 0 ++ fields ++ tailL content.length free

theorem headRun_eq (L : List (List UInt8)) (m k : Nat) (h1 : 1 ≤ k) (h2 : m + k ≤ L.length) (h3 : ∀ j, j < k → (L.getD (m + j) []).length = (L.getD m []).length)
    (h4 : m + k < L.length → (L.getD (m + k) []).length ≠ (L.getD m []).length) : headRun (L.drop m) = k := by
  have hm : m < L.length := by omega
  rw [List.drop_eq_getElem_cons hm]
  show 1 + (List.takeWhile _ _).length = k
  have hx : L[m] = L.getD m [] := by simp [List.getD, hm]
  rw [hx]
  generalize (L.getD m []).length = z at *
  suffices H : ∀ (k m : Nat), m + k ≤ L.length → (∀ j, j < k → (L.getD (m + j) []).length = z) → (m + k < L.length → (L.getD (m + k) []).length ≠ z) →
      ((L.drop m).takeWhile fun y => y.length == z).length = k by
    have := H (k - 1) (m + 1) (by omega) (fun j hj => by have := h3 (1 + j) (by omega); rwa [← Nat.add_assoc] at this) (by
      rw [show m + 1 + (k - 1) = m + k by omega]; exact h4)
    omega
  intro k
  induction k with
  | zero =>
    intro m _ _ h4
    by_cases hm : m < L.length
    · rw [List.drop_eq_getElem_cons hm, List.takeWhile_cons]
      have := h4 (by omega)
      simp [List.getD, hm] at this
      simp [this]
    · simp [List.drop_eq_nil_of_le (Nat.le_of_not_lt hm)]
  | succ k ih =>
    intro m h2 h3 h4
    have hm : m < L.length := by omega
    rw [List.drop_eq_getElem_cons hm, List.takeWhile_cons]
    have h0 := h3 0 (by omega)
    simp [List.getD, hm] at h0
    simp only [h0, beq_self_eq_true, if_true, List.length_cons]
    rw [ih (m + 1) (by omega) (fun j hj => by have := h3 (j + 1) (by omega); rwa [show m + (j + 1) = m + 1 + j by omega] at this) (by
      rw [show m + 1 + k = m + (k + 1) by omega]; exact h4)]
theorem headRun_pos (L : List (List UInt8)) : 1 ≤ headRun L := by cases L <;> simp [headRun]
theorem headRun_le (x : List UInt8) (L : List (List UInt8)) : headRun (x :: L) ≤ (x :: L).length := by
  have := (List.takeWhile_sublist (fun y : List UInt8 => y.length == x.length) (l := L)).length_le
  simp only [headRun, List.length_cons]; omega
/-- The first run, and those behind it. -/
theorem runsL_cons (x : List UInt8) (L : List (List UInt8)) : runsL (x :: L) = (headRun (x :: L), x.length) :: runsL ((x :: L).drop (headRun (x :: L))) := by
  induction L generalizing x with
  | nil => simp [runsL, headRun]
  | cons y L ih =>
    rw [runsL, ih y]
    simp only
    by_cases h : y.length = x.length
    · rw [if_pos h]
      have e : headRun (x :: y :: L) = headRun (y :: L) + 1 := by simp [headRun, h]; omega
      rw [e]; simp [h]
    · rw [if_neg h]
      have e : headRun (x :: y :: L) = 1 := by simp [headRun, h]
      rw [e, List.drop_one, List.tail_cons, ih y]
theorem fieldsL_nil : fieldsL [] = [] := rfl
theorem fieldsL_cons (x : List UInt8) (L : List (List UInt8)) : fieldsL (x :: L) = fieldsL ((x :: L).drop (headRun (x :: L))) ++ runField (headRun (x :: L), x.length) := by
  unfold fieldsL
  rw [runsL_cons x L]
  simp
theorem fieldsL_drop (L : List (List UInt8)) (i : Nat) (hi : i < L.length) : fieldsL (L.drop i) = fieldsL (L.drop (i + headRun (L.drop i))) ++ runField (headRun (L.drop i), (L.getD i []).length) := by
  have e : L.drop i = L[i] :: L.drop (i + 1) := List.drop_eq_getElem_cons hi
  have h := fieldsL_cons L[i] (L.drop (i + 1))
  rw [← e] at h
  rw [h, List.drop_drop]
  simp [List.getD, hi]
theorem length_runField (r : Nat × Nat) : (runField r).length = if 1 < r.1 then 6 else 3 := by unfold runField; split <;> simp [length_fieldL]
theorem length_fieldsL (L : List (List UInt8)) : (fieldsL L).length ≤ 6 * L.length := by
  suffices H : ∀ n (L : List (List UInt8)), L.length ≤ n → (fieldsL L).length ≤ 6 * L.length from H _ L (Nat.le_refl _)
  intro n
  induction n with
  | zero => intro L h; have : L = [] := List.eq_nil_of_length_eq_zero (by omega); subst this; simp [fieldsL_nil]
  | succ n ih =>
    intro L h
    cases L with
    | nil => simp [fieldsL_nil]
    | cons x L =>
      rw [fieldsL_cons, List.length_append, length_runField]
      have h1 := headRun_pos (x :: L)
      have h2 := headRun_le x L
      have h3 := ih ((x :: L).drop (headRun (x :: L))) (by rw [List.length_drop]; omega)
      rw [List.length_drop] at h3
      split <;> omega

def isSizeB (n : Int) : Bool := n == 128 || n == 256 || n == 512
def okLen (s : List UInt8) : Bool := decide (1 ≤ s.length ∧ s.length ≤ 200)
def allowedB (L : List (List UInt8)) : Bool := L.all okLen
theorem isSize_spec {n : Int} (h : isSizeB n = true) : n = 128 ∨ n = 256 ∨ n = 512 := by simp [isSizeB] at h; omega
theorem isSize_nat {n : Int} (h : isSizeB n = true) : ∃ k : Nat, n = k ∧ (k = 128 ∨ k = 256 ∨ k = 512) := by
  rcases isSize_spec h with rfl | rfl | rfl
  · exact ⟨128, rfl, by simp⟩
  · exact ⟨256, rfl, by simp⟩
  · exact ⟨512, rfl, by simp⟩
/-- The error of Encode, and its text. -/
def encErr (size : Int) (L : List (List UInt8)) : Int := if isSizeB size = false then 1 else if allowedB L = false then 2 else if size < sizeL L then 8 else 0
def encStr (size : Int) (L : List (List UInt8)) : List UInt8 := if encErr size L = 0 then wholeL size.toNat L.flatten (fieldsL L) else []

/-- The lengths that the fields of an interval describe, read from the place x down (the reference's way). -/
def lensF (d : List UInt8) (size en : Nat) : Nat → Int → List Int → List Int
  | 0, _, out => out
  | f + 1, x, out =>
    if (en : Int) ≤ x ∧ 0 ≤ x then
      if byt d x.toNat = 0 then lensF d size en f (x - 3) (out ++ [((two d (x + 1).toNat : Nat) : Int)])
      else if byt d x.toNat = 64 ∧ (en : Int) ≤ x - 3 ∧ byt d (x - 3).toNat = 8 then
        lensF d size en f (x - 3 - 3) (out ++ List.replicate (min (two d (x - 2).toNat) size) ((two d (x + 1).toNat : Nat) : Int))
      else [-1]
    else out
def endOf (d : List UInt8) (size : Nat) : Nat := two d (size - 4) + two d (size - 2)
def lensL (size : Nat) (d : List UInt8) : List Int := lensF d size (endOf d size) size (size - 7) []

section
variable {d : List UInt8} {size en f : Nat} {x : Int} {out : List Int}
theorem lensF_end (h : ¬ ((en : Int) ≤ x ∧ 0 ≤ x)) : lensF d size en f x out = out := by
  cases f with
  | zero => rfl
  | succ f => rw [lensF, if_neg h]
theorem lensF_zero (h1 : (en : Int) ≤ x) (h2 : 0 ≤ x) (h : byt d x.toNat = 0) : lensF d size en (f + 1) x out = lensF d size en f (x - 3) (out ++ [((two d (x + 1).toNat : Nat) : Int)]) := by
  rw [lensF, if_pos ⟨h1, h2⟩, if_pos h]
theorem lensF_many (h1 : (en : Int) ≤ x) (h2 : 0 ≤ x) (h : byt d x.toNat = 64) (h3 : (en : Int) ≤ x - 3) (h4 : byt d (x - 3).toNat = 8) :
    lensF d size en (f + 1) x out = lensF d size en f (x - 3 - 3) (out ++ List.replicate (min (two d (x - 2).toNat) size) ((two d (x + 1).toNat : Nat) : Int)) := by
  rw [lensF, if_pos ⟨h1, h2⟩, if_neg (by omega), if_pos ⟨h, h3, h4⟩]
theorem lensF_bad (h1 : (en : Int) ≤ x) (h2 : 0 ≤ x) (h : byt d x.toNat ≠ 0) (h3 : ¬ (byt d x.toNat = 64 ∧ (en : Int) ≤ x - 3 ∧ byt d (x - 3).toNat = 8)) : lensF d size en (f + 1) x out = [-1] := by
  rw [lensF, if_pos ⟨h1, h2⟩, if_neg h, if_neg h3]
end

theorem length_lensF (d : List UInt8) (size en : Nat) (hs : 1 ≤ size) : ∀ (f : Nat) (x : Int) (out : List Int), (lensF d size en f x out).length ≤ max 1 (out.length + size * f)
  | 0, x, out => by simp [lensF]; omega
  | f + 1, x, out => by
    have hm : size * (f + 1) = size * f + size := Nat.mul_succ _ _
    rw [lensF]
    split
    · split
      · have := length_lensF d size en hs f (x - 3) (out ++ [((two d (x + 1).toNat : Nat) : Int)])
        simp at this ⊢; omega
      · split
        · have := length_lensF d size en hs f (x - 3 - 3) (out ++ List.replicate (min (two d (x - 2).toNat) size) ((two d (x + 1).toNat : Nat) : Int))
          simp at this ⊢; omega
        · simp; omega
    · omega
theorem length_lensL (d : List UInt8) (size : Nat) (hs : 1 ≤ size) (h : size ≤ 512) : (lensL size d).length ≤ 262144 := by
  have := length_lensF d size (endOf d size) hs size (size - 7) []
  have h2 : size * size ≤ 512 * 512 := Nat.mul_le_mul h h
  unfold lensL
  simp at this; omega

/-- L is what the text d encodes. -/
def Enc (size : Int) (L : List (List UInt8)) (d : List UInt8) : Prop := encErr size L = 0 ∧ encStr size L = d
def decErr (size : Int) (d : List UInt8) : Int := if isSizeB size = false then 1 else if (d.length : Int) ≠ size then 11 else if (d == List.replicate d.length 0) = true then 9 else 11
end Dsd
