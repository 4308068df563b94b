/- Plain words of chapters 16 and 18: descriptions, headers, pages, and what the functions of an entry-sequenced cluster answer. No program in sight. -/
import Derived.Test.YtmnpappbacndlaaGreatDoorPA
set_option linter.unusedSimpArgs false
set_option linter.unusedVariables false
namespace Dsd

/-- A description of a data set. -/
structure DS where
  id : Int
  org : Int
  format : Int
  length : Int
  block : Int
  keyAt : Int
  keyLength : Int
  interval : Int
  area : Int
  freeInterval : Int
  freeArea : Int
  base : Int
  altAt : Int
  altLength : Int
  unique : Bool
  cls : Int
  volume : List UInt8
  owner : List UInt8
  created : Int
  expires : Int
  archived : Bool
/-- A header. -/
structure Hd where
  applied : Int
  count : Int
  fin : Int
  root : Int
  height : Int
  splits : Int
  areas : Int
deriving DecidableEq
def Hd.zero : Hd := ⟨0, 0, 0, 0, 0, 0, 0⟩

/-- The part of a description's validity that a keyed cluster adds, or another one. -/
def validK (d : DS) : Bool :=
  if d.org = 3 then
    decide (d.length ≤ d.interval / 2 - 8) && decide (0 ≤ d.keyAt) && decide (1 ≤ d.keyLength) && decide (d.keyLength ≤ d.interval / 16) && decide (d.keyAt + d.keyLength ≤ d.length) &&
      decide (2 ≤ d.area) && decide (d.area ≤ 8) && decide (0 ≤ d.freeInterval) && decide (d.freeInterval ≤ 90) && decide (0 ≤ d.freeArea) && decide (d.freeArea ≤ d.area - 1)
  else decide (d.keyAt = 0) && decide (d.keyLength = 0) && decide (d.area = 0) && decide (d.freeInterval = 0) && decide (d.freeArea = 0)
/-- Is the description that of a cluster? -/
def validB (d : DS) : Bool :=
  decide (1 ≤ d.org) && decide (d.org ≤ 3) && isSizeB d.interval && decide (1 ≤ d.length) && decide (d.length ≤ 200) && decide (d.length ≤ d.interval - 7) && decide (d.format = 0) && decide (d.block = 0) && validK d
def plainB (h : Hd) : Bool := decide (0 ≤ h.count) && decide (h.count ≤ 16777216) && decide (0 ≤ h.fin) && decide (h.fin ≤ 16777216)
def doorOf (h : Hd) (d : DS) (org : Int) : Int := if (validB d && plainB h) = false then 1 else if d.org ≠ org then 7 else 0

theorem valid_spec {d : DS} (h : validB d = true) : 1 ≤ d.org ∧ d.org ≤ 3 ∧ isSizeB d.interval = true ∧ 1 ≤ d.length ∧ d.length ≤ 200 ∧ d.length ≤ d.interval - 7 := by
  simp [validB] at h
  obtain ⟨⟨⟨⟨⟨⟨⟨⟨h1, h2⟩, h3⟩, h4⟩, h5⟩, h6⟩, _⟩, _⟩, _⟩ := h
  exact ⟨h1, h2, h3, h4, h5, h6⟩
theorem door_zero {h : Hd} {d : DS} {org : Int} (k : doorOf h d org = 0) : validB d = true ∧ plainB h = true ∧ d.org = org := by
  unfold doorOf at k
  cases h1 : validB d <;> cases h2 : plainB h <;> simp [h1, h2] at k
  exact ⟨rfl, rfl, k⟩
theorem plain_spec {h : Hd} (k : plainB h = true) : 0 ≤ h.count ∧ h.count ≤ 16777216 ∧ 0 ≤ h.fin ∧ h.fin ≤ 16777216 := by
  simp [plainB] at k; omega

/-- A page of a memory, and the error. -/
def pageOf (m : List (List UInt8)) (n : Int) : List UInt8 × Int := if 0 ≤ n ∧ n < m.length then (m.getD n.toNat [], 0) else ([], 2)
open Classical in
/-- The records of an interval, where there are some. -/
noncomputable def decOf (size : Int) (s : List UInt8) : Option (List (List UInt8)) := if h : ∃ L, Enc size L s then some h.choose else none
theorem decOf_some {size : Int} {L : List (List UInt8)} {s : List UInt8} (h : Enc size L s) : decOf size s = some L := by
  have hx : ∃ L, Enc size L s := ⟨L, h⟩
  unfold decOf
  rw [dif_pos hx]
  obtain ⟨n, rfl, hn⟩ := isSize_nat (encErr_zero h.1).1
  rw [enc_inj (by omega) h hx.choose_spec]
theorem decOf_none {size : Int} {s : List UInt8} (h : ∀ L, ¬ Enc size L s) : decOf size s = none := by
  unfold decOf
  rw [dif_neg (fun ⟨L, k⟩ => h L k)]
theorem decOf_enc {size : Int} {L : List (List UInt8)} {s : List UInt8} (h : decOf size s = some L) : Enc size L s := by
  unfold decOf at h
  split at h
  · rename_i hx
    rw [← Option.some.inj h]
    exact hx.choose_spec
  · cases h
/-- The records of a page, and the error. -/
noncomputable def loadOf (m : List (List UInt8)) (size page : Int) : List (List UInt8) × Int :=
  if (pageOf m page).2 ≠ 0 then ([], (pageOf m page).2) else match decOf size (pageOf m page).1 with
    | some [] => ([], 11)
    | some L => (L, 0)
    | none => ([], 11)
theorem loadOf_page {m : List (List UInt8)} {size page : Int} (h : (pageOf m page).2 ≠ 0) : loadOf m size page = ([], (pageOf m page).2) := by unfold loadOf; rw [if_pos h]
theorem loadOf_none {m : List (List UInt8)} {size page : Int} (h : (pageOf m page).2 = 0) (hn : ∀ L, ¬ Enc size L (pageOf m page).1) : loadOf m size page = ([], 11) := by
  unfold loadOf; rw [if_neg (by simp [h]), decOf_none hn]
theorem loadOf_nil {m : List (List UInt8)} {size page : Int} (h : (pageOf m page).2 = 0) (hn : Enc size [] (pageOf m page).1) : loadOf m size page = ([], 11) := by
  unfold loadOf; rw [if_neg (by simp [h]), decOf_some hn]
theorem loadOf_some {m : List (List UInt8)} {size page : Int} {L : List (List UInt8)} (h : (pageOf m page).2 = 0) (hn : Enc size L (pageOf m page).1) (h0 : L ≠ []) : loadOf m size page = (L, 0) := by
  unfold loadOf; rw [if_neg (by simp [h]), decOf_some hn]
  cases L with
  | nil => exact absurd rfl h0
  | cons x L => rfl
theorem loadOf_ok {m : List (List UInt8)} {size page : Int} (h : (loadOf m size page).2 = 0) : (pageOf m page).2 = 0 ∧ Enc size (loadOf m size page).1 (pageOf m page).1 ∧ (loadOf m size page).1 ≠ [] := by
  by_cases h1 : (pageOf m page).2 = 0
  · cases h2 : decOf size (pageOf m page).1 with
    | none => unfold loadOf at h; rw [if_neg (by simp [h1]), h2] at h; simp at h
    | some L =>
      have he := decOf_enc h2
      by_cases h0 : L = []
      · subst h0; rw [loadOf_nil h1 he] at h; simp at h
      · rw [loadOf_some h1 he h0]; exact ⟨h1, he, h0⟩
  · rw [loadOf_page h1] at h
    exact absurd h h1
theorem loadOf_bad {m : List (List UInt8)} {size page : Int} (h : (loadOf m size page).2 ≠ 0) : (loadOf m size page).1 = [] := by
  by_cases h1 : (pageOf m page).2 = 0
  · by_cases h2 : ∃ L, Enc size L (pageOf m page).1
    · obtain ⟨L, he⟩ := h2
      by_cases h0 : L = []
      · subst h0; rw [loadOf_nil h1 he]
      · rw [loadOf_some h1 he h0] at h; simp at h
    · rw [loadOf_none h1 (fun L hL => h2 ⟨L, hL⟩)]
  · rw [loadOf_page h1]

/-! ### The end of a cluster -/
/-- One record more: the records of the last page, the last page, and the record's address. -/
def addOf (size : Int) (last : List (List UInt8)) (fin : Int) (r : List UInt8) : List (List UInt8) × Int :=
  if fin = 0 ∨ fitsB size (last ++ [r]) = false then ([r], fin + 1) else (last ++ [r], fin)
def addrOf (size : Int) (last : List (List UInt8)) (fin : Int) : Int := fin * size + (sumLen last : Int)
def addAt (size : Int) (last : List (List UInt8)) (fin : Int) (r : List UInt8) : Int :=
  if fin = 0 ∨ fitsB size (last ++ [r]) = false then (fin + 1) * size else fin * size + (sumLen last : Int)
/-- The records of the last page, and the error. -/
noncomputable def endOfC (m : List (List UInt8)) (size fin : Int) : List (List UInt8) × Int := if fin = 0 then ([], 0) else loadOf m size fin

/-- What Append answers: the header, the page that is written, the address, and the error. -/
structure AppRes where
  h : Hd
  w : List (Int × List UInt8)
  at' : Int
  e : Int
def AppRes.err (e : Int) : AppRes := ⟨Hd.zero, [], 0, e⟩
noncomputable def appendOf (m : List (List UInt8)) (h : Hd) (d : DS) (r : List UInt8) : AppRes :=
  if doorOf h d 1 ≠ 0 then .err (doorOf h d 1) else if r.length < 1 ∨ d.length < r.length then .err 2 else
    if (endOfC m d.interval h.fin).2 ≠ 0 then .err (endOfC m d.interval h.fin).2 else
      let a := addOf d.interval (endOfC m d.interval h.fin).1 h.fin r
      ⟨{ h with count := h.count + 1, fin := a.2 }, [(a.2, encStr d.interval a.1)], addAt d.interval (endOfC m d.interval h.fin).1 h.fin r, 0⟩
end Dsd
/- Plain laws of chapter 18: a cluster that was built by appends, as chunks of records. -/
namespace Dsd

abbrev Recs := List (List UInt8)
/-- One record more, in the chunks of a cluster (the last chunk first). -/
def putC (size : Int) : List Recs → List UInt8 → List Recs
  | [], r => [[r]]
  | L :: C, r => if fitsB size (L ++ [r]) = true then (L ++ [r]) :: C else [r] :: L :: C
/-- The chunks are good: none is empty, and each one fits. -/
def GoodC (size : Int) (C : List Recs) : Prop := ∀ L ∈ C, L ≠ [] ∧ fitsB size L = true
theorem fits_enc {size : Int} {L : Recs} (h : fitsB size L = true) : Enc size L (encStr size L) := by
  have h2 := h
  simp [fitsB] at h2
  obtain ⟨⟨h1, h3⟩, h4⟩ := h2
  refine ⟨?_, rfl⟩
  unfold encErr
  rw [h1, h3]
  simp; omega
theorem enc_fits {size : Int} {L : Recs} {d : List UInt8} (h : Enc size L d) : fitsB size L = true := by
  obtain ⟨h1, h2, h3⟩ := encErr_zero h.1
  simp [fitsB, h1, h2, h3]
/-- A record of an allowed length fits by itself. -/
theorem fits_one {size : Int} {r : List UInt8} (hs : isSizeB size = true) (h1 : 1 ≤ r.length) (h2 : r.length ≤ 200) (h3 : (r.length : Int) ≤ size - 7) : fitsB size [r] = true := by
  have hz : sizeL [r] = 7 + r.length := by
    unfold sizeL
    have : (fieldsL [r]).length = 3 := rfl
    rw [this]; simp [sumLen]
  have ha : allowedB [r] = true := by simp [allowedB, okLen]; omega
  simp [fitsB, hs, ha, hz]; omega
theorem good_put {size : Int} {C : List Recs} {r : List UInt8} (h : GoodC size C) (h1 : fitsB size [r] = true) : GoodC size (putC size C r) := by
  cases C with
  | nil => intro L hL; simp [putC] at hL; subst hL; exact ⟨by simp, h1⟩
  | cons L C =>
    rw [putC]
    by_cases hf : fitsB size (L ++ [r]) = true
    · rw [if_pos hf]
      intro M hM
      rw [List.mem_cons] at hM
      rcases hM with rfl | hM
      · exact ⟨by simp, hf⟩
      · exact h M (by simp [hM])
    · rw [if_neg hf]
      intro M hM
      rw [List.mem_cons] at hM
      rcases hM with rfl | hM
      · exact ⟨by simp, h1⟩
      · exact h M hM
/-- The pages of a cluster. -/
def memOf (size : Int) (C : List Recs) : List (List UInt8) := [] :: (C.reverse.map (encStr size))
theorem length_memOf (size : Int) (C : List Recs) : (memOf size C).length = C.length + 1 := by simp [memOf]
/-- The header behind some appends. -/
def hdOf (C : List Recs) : Hd := { Hd.zero with count := (C.map List.length).sum, fin := C.length }
theorem mem_at {size : Int} {C : List Recs} {p : Nat} (h1 : 1 ≤ p) (h2 : p ≤ C.length) : (memOf size C).getD p [] = encStr size (C.reverse.getD (p - 1) []) := by
  obtain ⟨p, rfl⟩ : ∃ k, p = k + 1 := ⟨p - 1, by omega⟩
  have hp : p < C.reverse.length := by simp; omega
  simp only [memOf, List.getD_cons_succ, Nat.add_sub_cancel]
  simp only [List.getD, List.getElem?_map, List.getElem?_eq_getElem hp, Option.map_some, Option.getD_some]
theorem page_at {size : Int} {C : List Recs} {p : Nat} (h1 : 1 ≤ p) (h2 : p ≤ C.length) : pageOf (memOf size C) p = (encStr size (C.reverse.getD (p - 1) []), 0) := by
  unfold pageOf
  rw [if_pos (by rw [length_memOf]; omega), Int.toNat_natCast, mem_at h1 h2]
theorem good_at {size : Int} {C : List Recs} (h : GoodC size C) {p : Nat} (h1 : 1 ≤ p) (h2 : p ≤ C.length) : C.reverse.getD (p - 1) [] ≠ [] ∧ fitsB size (C.reverse.getD (p - 1) []) = true := by
  have hp : p - 1 < C.reverse.length := by simp; omega
  have e : C.reverse.getD (p - 1) [] = C.reverse[p - 1] := by simp only [List.getD, List.getElem?_eq_getElem hp, Option.getD_some]
  rw [e]
  exact h _ (List.mem_reverse.1 (List.getElem_mem hp))
theorem load_at {size : Int} {C : List Recs} (h : GoodC size C) {p : Nat} (h1 : 1 ≤ p) (h2 : p ≤ C.length) : loadOf (memOf size C) size p = (C.reverse.getD (p - 1) [], 0) := by
  have hp := page_at (size := size) h1 h2
  obtain ⟨g1, g2⟩ := good_at h h1 h2
  exact loadOf_some (by rw [hp]) (by rw [hp]; exact fits_enc g2) g1
theorem end_at {size : Int} {C : List Recs} (h : GoodC size C) : endOfC (memOf size C) size C.length = (C.headD [], 0) := by
  unfold endOfC
  cases C with
  | nil => simp
  | cons L C =>
    rw [if_neg (by simp; omega), load_at h (by simp) (Nat.le_refl _)]
    have : (L :: C).reverse.getD ((L :: C).length - 1) [] = L := by
      simp only [List.reverse_cons, List.length_cons, Nat.add_sub_cancel]
      simp [List.getD]
    rw [this]; rfl
/-- What an append does to the last page. -/
theorem addOf_yes {size fin : Int} {last : Recs} {r : List UInt8} (h : fin = 0 ∨ fitsB size (last ++ [r]) = false) : addOf size last fin r = ([r], fin + 1) ∧ addAt size last fin r = (fin + 1) * size := by
  unfold addOf addAt
  rw [if_pos h, if_pos h]
  exact ⟨rfl, rfl⟩
theorem addOf_no {size fin : Int} {last : Recs} {r : List UInt8} (h0 : fin ≠ 0) (h : fitsB size (last ++ [r]) = true) : addOf size last fin r = (last ++ [r], fin) ∧ addAt size last fin r = fin * size + (sumLen last : Int) := by
  have hc : ¬ (fin = 0 ∨ fitsB size (last ++ [r]) = false) := by rw [h]; simp [h0]
  unfold addOf addAt
  rw [if_neg hc, if_neg hc]
  exact ⟨rfl, rfl⟩
theorem add_put {size : Int} {C : List Recs} {r : List UInt8} : (addOf size (C.headD []) C.length r).1 = (putC size C r).headD [] ∧ (addOf size (C.headD []) C.length r).2 = (putC size C r).length ∧
    addAt size (C.headD []) C.length r = (putC size C r).length * size + (sumLen (((putC size C r).headD []).dropLast) : Int) := by
  cases C with
  | nil =>
    obtain ⟨h1, h2⟩ := addOf_yes (size := size) (fin := (([] : List Recs).length : Int)) (last := ([] : List Recs).headD []) (r := r) (.inl rfl)
    rw [h1, h2]
    simp [putC, sumLen]
  | cons L C =>
    by_cases hf : fitsB size (L ++ [r]) = true
    · obtain ⟨h1, h2⟩ := addOf_no (size := size) (fin := ((L :: C).length : Int)) (last := (L :: C).headD []) (r := r) (by simp; omega) hf
      rw [h1, h2, putC, if_pos hf]
      simp
    · obtain ⟨h1, h2⟩ := addOf_yes (size := size) (fin := ((L :: C).length : Int)) (last := (L :: C).headD []) (r := r) (Or.inr (by simpa using hf))
      rw [h1, h2, putC, if_neg hf]
      simp [sumLen]
theorem mem_put {size : Int} {C : List Recs} {r : List UInt8} : memOf size (putC size C r) = if (putC size C r).length = C.length then (memOf size C).set C.length (encStr size ((putC size C r).headD [])) else memOf size C ++ [encStr size ((putC size C r).headD [])] := by
  cases C with
  | nil => simp [putC, memOf]
  | cons L C =>
    rw [putC]
    by_cases hf : fitsB size (L ++ [r]) = true
    · rw [if_pos hf]
      simp only [List.length_cons, if_true, List.headD_cons, memOf, List.reverse_cons, List.map_append, List.map_cons, List.map_nil]
      rw [List.set_cons_succ, List.set_append_right _ _ (by simp)]
      simp
    · rw [if_neg hf, if_neg (by simp)]
      simp [memOf]
theorem count_put {size : Int} {C : List Recs} {r : List UInt8} : ((putC size C r).map List.length).sum = (C.map List.length).sum + 1 := by
  cases C with
  | nil => simp [putC]
  | cons L C =>
    rw [putC]
    by_cases hf : fitsB size (L ++ [r]) = true
    · rw [if_pos hf]; simp; omega
    · rw [if_neg hf]; simp; omega
end Dsd
/- Plain words of chapter 18: the record at an address. -/
namespace Dsd

/-- The index of the record that begins at a place. -/
def idxFrom : Recs → Nat → Nat → Nat → Option Nat
  | [], _, _, _ => none
  | x :: L, i, a, off => if a = off then some i else idxFrom L (i + 1) (a + x.length) off
def idxOf (L : Recs) (off : Nat) : Option Nat := idxFrom L 0 0 off
theorem idx_drop (L : Recs) (k off : Nat) (h : k < L.length) : idxFrom (L.drop k) k (sumLen (L.take k)) off = if sumLen (L.take k) = off then some k else idxFrom (L.drop (k + 1)) (k + 1) (sumLen (L.take (k + 1))) off := by
  rw [List.drop_eq_getElem_cons h, idxFrom, List.take_succ_eq_append_getElem h, sumLen_append]
  simp [sumLen]
theorem idx_lt : ∀ (L : Recs) (i a off k : Nat), idxFrom L i a off = some k → i ≤ k ∧ k < i + L.length
  | [], _, _, _, _, h => by cases h
  | x :: L, i, a, off, k, h => by
    rw [idxFrom] at h
    split at h
    · obtain rfl := Option.some.inj h
      simp
    · have := idx_lt L (i + 1) (a + x.length) off k h
      simp; omega
/-- The records of the page of an address, the index of the record there, and the error. -/
noncomputable def findOf (m : List (List UInt8)) (size fin a : Int) : Recs × Nat × Int :=
  if a < size ∨ fin < a / size then ([], 0, 6) else if (loadOf m size (a / size)).2 ≠ 0 then ([], 0, (loadOf m size (a / size)).2) else
    match idxOf (loadOf m size (a / size)).1 (a % size).toNat with
    | some i => ((loadOf m size (a / size)).1, i, 0)
    | none => ([], 0, 6)
theorem findOf_out {m : List (List UInt8)} {size fin a : Int} (h : a < size ∨ fin < a / size) : findOf m size fin a = ([], 0, 6) := by unfold findOf; rw [if_pos h]
theorem findOf_bad {m : List (List UInt8)} {size fin a : Int} (h : ¬ (a < size ∨ fin < a / size)) (h2 : (loadOf m size (a / size)).2 ≠ 0) : findOf m size fin a = ([], 0, (loadOf m size (a / size)).2) := by unfold findOf; rw [if_neg h, if_pos h2]
theorem findOf_some {m : List (List UInt8)} {size fin a : Int} {i : Nat} (h : ¬ (a < size ∨ fin < a / size)) (h2 : (loadOf m size (a / size)).2 = 0) (h3 : idxOf (loadOf m size (a / size)).1 (a % size).toNat = some i) : findOf m size fin a = ((loadOf m size (a / size)).1, i, 0) := by
  unfold findOf; rw [if_neg h, if_neg (by simp [h2]), h3]
theorem findOf_none {m : List (List UInt8)} {size fin a : Int} (h : ¬ (a < size ∨ fin < a / size)) (h2 : (loadOf m size (a / size)).2 = 0) (h3 : idxOf (loadOf m size (a / size)).1 (a % size).toNat = none) : findOf m size fin a = ([], 0, 6) := by
  unfold findOf; rw [if_neg h, if_neg (by simp [h2]), h3]
end Dsd
/- Plain words of chapter 18: pages after some writes. -/
namespace Dsd

/-- Pages, as many as a write asks for. -/
def growP (m : List (List UInt8)) (p : Int) : List (List UInt8) := if p < 10000 then m ++ List.replicate (p + 1 - m.length).toNat [] else m
/-- Pages after one write. -/
def putP (m : List (List UInt8)) (x : Int × List UInt8) : List (List UInt8) := if 0 ≤ x.1 ∧ x.1 < (growP m x.1).length then (growP m x.1).set x.1.toNat x.2 else growP m x.1
/-- Pages after some writes. -/
def putsP (m : List (List UInt8)) (l : List (Int × List UInt8)) : List (List UInt8) := l.foldl putP m
theorem growP_ge (m : List (List UInt8)) (p : Int) : m.length ≤ (growP m p).length ∧ (growP m p).length ≤ m.length + 10000 := by
  unfold growP
  split
  · simp; omega
  · omega
theorem putP_len (m : List (List UInt8)) (x : Int × List UInt8) : m.length ≤ (putP m x).length ∧ (putP m x).length ≤ m.length + 10000 := by
  have := growP_ge m x.1
  unfold putP
  split
  · simp; exact this
  · exact this
theorem putsP_take (m : List (List UInt8)) (l : List (Int × List UInt8)) (k : Nat) (h : k < l.length) : putsP m (l.take (k + 1)) = putP (putsP m (l.take k)) (l.getD k (0, [])) := by
  unfold putsP
  rw [List.take_succ_eq_append_getElem h, List.foldl_append]
  simp [List.getD, h]
theorem putsP_len (m : List (List UInt8)) : ∀ (l : List (Int × List UInt8)), m.length ≤ (putsP m l).length ∧ (putsP m l).length ≤ m.length + l.length * 10000
  | [] => by simp [putsP]
  | x :: l => by
    have h1 := putP_len m x
    have h2 := putsP_len (putP m x) l
    have e : putsP m (x :: l) = putsP (putP m x) l := rfl
    rw [e, List.length_cons]; omega
theorem growP_mem (m : List (List UInt8)) (p : Int) (P : List UInt8 → Prop) (h : ∀ s ∈ m, P s) (h0 : P []) : ∀ s ∈ growP m p, P s := by
  unfold growP
  split
  · intro s hs
    rw [List.mem_append] at hs
    rcases hs with hs | hs
    · exact h s hs
    · rw [(List.mem_replicate.1 hs).2]; exact h0
  · exact h
theorem putP_mem (m : List (List UInt8)) (x : Int × List UInt8) (P : List UInt8 → Prop) (h : ∀ s ∈ m, P s) (h0 : P []) (hx : P x.2) : ∀ s ∈ putP m x, P s := by
  have hg := growP_mem m x.1 P h h0
  unfold putP
  split
  · intro s hs
    rcases List.mem_or_eq_of_mem_set hs with h1 | rfl
    · exact hg s h1
    · exact hx
  · exact hg
end Dsd
/- Plain words of chapter 18: the addresses that records of some lengths get. -/
namespace Dsd

/-- A record of zeros, of this length. -/
def zsL (n : Int) : List UInt8 := List.replicate n.toNat 0
/-- The last page and its number behind records of these lengths. -/
def stAt (size : Int) (L : Recs) (f : Int) (ns : List Int) : Recs × Int := ns.foldl (fun s n => addOf size s.1 s.2 (zsL n)) (L, f)
/-- Their addresses. -/
def plFrom (size : Int) : Recs → Int → List Int → List Int
  | _, _, [] => []
  | L, f, n :: ns => addAt size L f (zsL n) :: plFrom size (addOf size L f (zsL n)).1 (addOf size L f (zsL n)).2 ns
theorem plFrom_snoc (size : Int) : ∀ (ns : List Int) (L : Recs) (f n : Int), plFrom size L f (ns ++ [n]) = plFrom size L f ns ++ [addAt size (stAt size L f ns).1 (stAt size L f ns).2 (zsL n)]
  | [], L, f, n => rfl
  | m :: ns, L, f, n => by
    have ih := plFrom_snoc size ns (addOf size L f (zsL m)).1 (addOf size L f (zsL m)).2 n
    simp only [List.cons_append, plFrom, ih]
    rfl
theorem stAt_snoc (size : Int) (ns : List Int) (L : Recs) (f n : Int) : stAt size L f (ns ++ [n]) = addOf size (stAt size L f ns).1 (stAt size L f ns).2 (zsL n) := by
  unfold stAt
  rw [List.foldl_append]; rfl
theorem plFrom_len (size : Int) : ∀ (ns : List Int) (L : Recs) (f : Int), (plFrom size L f ns).length = ns.length
  | [], _, _ => rfl
  | m :: ns, L, f => by simp only [plFrom, List.length_cons, plFrom_len size ns]
theorem fits_len {size : Int} {L : Recs} (h : fitsB size L = true) : L.length ≤ 600 ∧ sumLen L ≤ 512 := by
  obtain ⟨h1, h2, h3⟩ := encErr_zero (fits_enc h).1
  have h4 := allowed_count h2
  have h5 : sumLen L ≤ sizeL L := by unfold sizeL; omega
  have h6 : size ≤ 512 := by rcases isSize_spec h1 with h | h | h <;> omega
  omega
theorem addOf_inv (size : Int) (L : Recs) (f : Int) (r : List UInt8) (hr : r.length ≤ 200) : (addOf size L f r).1.length ≤ 600 ∧ sumLen (addOf size L f r).1 ≤ 512 ∧ (f ≤ (addOf size L f r).2 ∧ (addOf size L f r).2 ≤ f + 1) := by
  by_cases h : f = 0 ∨ fitsB size (L ++ [r]) = false
  · rw [(addOf_yes h).1]
    exact ⟨by simp, by simp [sumLen]; omega, by simp only; omega⟩
  · have hf : fitsB size (L ++ [r]) = true := by simp at h; exact h.2
    rw [(addOf_no (fun e => h (.inl e)) hf).1]
    exact ⟨(fits_len hf).1, (fits_len hf).2, by simp only; omega⟩
theorem stAt_inv (size : Int) (L : Recs) (f : Int) (hL : L.length ≤ 600) (hS : sumLen L ≤ 512) : ∀ (ns : List Int), (∀ n ∈ ns, n ≤ 200) → (stAt size L f ns).1.length ≤ 600 ∧ sumLen (stAt size L f ns).1 ≤ 512 ∧ (f ≤ (stAt size L f ns).2 ∧ (stAt size L f ns).2 ≤ f + ns.length) := by
  intro ns
  induction ns generalizing L f with
  | nil => intro _; exact ⟨hL, hS, by simp [stAt]⟩
  | cons n ns ih =>
    intro h
    have h1 := addOf_inv size L f (zsL n) (by have := h n (by simp); simp [zsL]; omega)
    have h2 := ih (addOf size L f (zsL n)).1 (addOf size L f (zsL n)).2 h1.1 h1.2.1 (fun m hm => h m (by simp [hm]))
    have e : stAt size L f (n :: ns) = stAt size (addOf size L f (zsL n)).1 (addOf size L f (zsL n)).2 ns := rfl
    rw [e, List.length_cons]
    exact ⟨h2.1, h2.2.1, by omega⟩
end Dsd
