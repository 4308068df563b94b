/- Plain words of chapter 19: what Load, Put, Erase, Get answer. -/
import Derived.Test.YtjgdhlpnpihkdaaDoorP17f
import Derived.Test.YtjgdhlpnpihkdaaDoorPB
set_option linter.unusedSimpArgs false
set_option linter.unusedVariables false
namespace Dsd
/-- The slots of a page, and the error. -/
noncomputable def loadS (m : List (List UInt8)) (d : DS) (page : Int) : List Slt × Int :=
  if (pageOf m page).2 ≠ 0 then ([], (pageOf m page).2) else if dsErr d.interval d.length (pageOf m page).1 ≠ 0 then ([], 11) else (dsOut d.interval d.length (pageOf m page).1, 0)
/-- How many slots a page has. -/
def slN (d : DS) : Int := slotsN d.interval d.length
def pageS (d : DS) (slot : Int) : Int := 1 + (slot - 1) / slN d
def idxS (d : DS) (slot : Int) : Nat := ((slot - 1) % slN d).toNat
/-- A page with some slots. -/
noncomputable def wrS (d : DS) (page : Int) (L : List Slt) : Int × List UInt8 := (page, esStr d.interval d.length L)
/-- What a change of a relative cluster answers. -/
structure RelRes where
  h : Hd
  w : List (Int × List UInt8)
  e : Int
def RelRes.no (e : Int) : RelRes := ⟨Hd.zero, [], e⟩
/-- Pages of unused slots, behind the page a. -/
noncomputable def freshS (d : DS) (a : Int) (k : Nat) : List (Int × List UInt8) := (List.range k).map fun (i : Nat) => wrS d (a + 1 + (i : Int)) []
theorem freshS_succ (d : DS) (a : Int) (k : Nat) : freshS d a (k + 1) = freshS d a k ++ [wrS d (a + 1 + k) []] := by simp [freshS, List.range_succ]
theorem freshS_len (d : DS) (a : Int) (k : Nat) : (freshS d a k).length = k := by simp [freshS]
noncomputable def putR (m : List (List UInt8)) (h : Hd) (d : DS) (slot : Int) (r : List UInt8) : RelRes :=
  if doorOf h d 2 ≠ 0 then .no (doorOf h d 2) else if slot < 1 ∨ 65536 < slot ∨ (r.length : Int) ≠ d.length then .no 2 else
    if h.fin + 8 < pageS d slot then .no 8 else
      if pageS d slot ≤ h.fin then
        if (loadS m d (pageS d slot)).2 ≠ 0 then .no (loadS m d (pageS d slot)).2 else
          ⟨{ h with count := if (slotAt (loadS m d (pageS d slot)).1 (idxS d slot)).1 then h.count else h.count + 1 }, [wrS d (pageS d slot) (setS (loadS m d (pageS d slot)).1 (idxS d slot) (true, r))], 0⟩
      else ⟨{ h with count := h.count + 1, fin := pageS d slot }, freshS d h.fin (pageS d slot - 1 - h.fin).toNat ++ [wrS d (pageS d slot) (setS [] (idxS d slot) (true, r))], 0⟩
/-- The slots of the page of a used slot, and the error. -/
noncomputable def findR (m : List (List UInt8)) (h : Hd) (d : DS) (slot : Int) : List Slt × Int :=
  if slot < 1 ∨ 65536 < slot then ([], 2) else if h.fin < pageS d slot then ([], 6) else
    if (loadS m d (pageS d slot)).2 ≠ 0 then ([], (loadS m d (pageS d slot)).2) else
      if (slotAt (loadS m d (pageS d slot)).1 (idxS d slot)).1 = false then ([], 6) else ((loadS m d (pageS d slot)).1, 0)
noncomputable def eraseR (m : List (List UInt8)) (h : Hd) (d : DS) (slot : Int) : RelRes :=
  if doorOf h d 2 ≠ 0 then .no (doorOf h d 2) else
    if (findR m h d slot).2 ≠ 0 then .no (findR m h d slot).2 else ⟨{ h with count := h.count - 1 }, [wrS d (pageS d slot) (setS (findR m h d slot).1 (idxS d slot) (false, []))], 0⟩
noncomputable def getR (m : List (List UInt8)) (h : Hd) (d : DS) (slot : Int) : List UInt8 × Int :=
  if doorOf h d 2 ≠ 0 then ([], doorOf h d 2) else
    if (findR m h d slot).2 ≠ 0 then ([], (findR m h d slot).2) else ((slotAt (findR m h d slot).1 (idxS d slot)).2, 0)
theorem loadS_page {m : List (List UInt8)} {d : DS} {page : Int} (h : (pageOf m page).2 ≠ 0) : loadS m d page = ([], (pageOf m page).2) := by unfold loadS; rw [if_pos h]
theorem loadS_bad {m : List (List UInt8)} {d : DS} {page : Int} (h : (pageOf m page).2 = 0) (h2 : dsErr d.interval d.length (pageOf m page).1 ≠ 0) : loadS m d page = ([], 11) := by unfold loadS; rw [if_neg (by simp [h]), if_pos h2]
theorem loadS_ok {m : List (List UInt8)} {d : DS} {page : Int} (h : (pageOf m page).2 = 0) (h2 : dsErr d.interval d.length (pageOf m page).1 = 0) : loadS m d page = (dsOut d.interval d.length (pageOf m page).1, 0) := by unfold loadS; rw [if_neg (by simp [h]), if_neg (by simp [h2])]
theorem dsOut_len {size length : Int} {s : List UInt8} (h : dsErr size length s = 0) : (dsOut size length s).length = (slotsN size length).toNat := by unfold dsOut; rw [if_pos h, length_dsList]
/-- What is read of a page. -/
theorem loadS_len {m : List (List UInt8)} {d : DS} {page : Int} (h : (loadS m d page).2 = 0) : (loadS m d page).1.length = (slN d).toNat := by
  by_cases h1 : (pageOf m page).2 = 0
  · by_cases h2 : dsErr d.interval d.length (pageOf m page).1 = 0
    · rw [loadS_ok h1 h2]; exact dsOut_len h2
    · rw [loadS_bad h1 h2] at h; simp at h
  · rw [loadS_page h1] at h; exact absurd h h1
theorem loadS_no {m : List (List UInt8)} {d : DS} {page : Int} (h : (loadS m d page).2 ≠ 0) : (loadS m d page).1 = [] := by
  by_cases h1 : (pageOf m page).2 = 0
  · by_cases h2 : dsErr d.interval d.length (pageOf m page).1 = 0
    · rw [loadS_ok h1 h2] at h; exact absurd rfl h
    · rw [loadS_bad h1 h2]
  · rw [loadS_page h1]
/-- A description of a cluster has slots. -/
theorem slN_pos {d : DS} (h : validB d = true) : 1 ≤ slN d ∧ slN d ≤ 127 := by
  obtain ⟨_, _, h3, h4, h5, h6⟩ := valid_spec h
  unfold slN slotsN
  obtain ⟨n, hn, hn4⟩ := isSize_nat h3
  rw [hn] at h3 h6 ⊢
  rw [if_neg (by simp [h3]; omega)]
  constructor
  · exact (Int.le_ediv_iff_mul_le (by omega)).2 (by omega)
  · have e : (d.length + 3) * (((n : Int) - 4) / (d.length + 3)) ≤ (n : Int) - 4 := Int.mul_ediv_self_le (by omega)
    have h7 := Int.mul_le_mul_of_nonneg_right (show (4 : Int) ≤ d.length + 3 by omega) (Int.ediv_nonneg (show (0 : Int) ≤ (n : Int) - 4 by omega) (show (0 : Int) ≤ d.length + 3 by omega))
    omega
theorem slot_place {d : DS} (h : validB d = true) {slot : Int} (h1 : 1 ≤ slot) : 1 ≤ pageS d slot ∧ pageS d slot ≤ slot ∧ (idxS d slot : Int) = (slot - 1) % slN d ∧ (idxS d slot : Int) < slN d := by
  obtain ⟨n1, n2⟩ := slN_pos h
  have a1 := Int.emod_nonneg (slot - 1) (show slN d ≠ 0 by omega)
  have a2 := Int.emod_lt_of_pos (slot - 1) (show 0 < slN d by omega)
  have a3 : 0 ≤ (slot - 1) / slN d := Int.ediv_nonneg (by omega) (by omega)
  have a4 : (slot - 1) / slN d ≤ slot - 1 := Int.ediv_le_self _ (by omega)
  unfold pageS idxS
  omega
end Dsd
/- Plain laws of chapter 19: the slots of a relative cluster that was made by changes. -/
namespace Dsd
/-- The number of slots of a page, as a Nat. -/
def nS (d : DS) : Nat := (slN d).toNat
theorem nS_pos {d : DS} (h : validB d = true) : 1 ≤ nS d ∧ nS d ≤ 127 ∧ (nS d : Int) = slN d := by
  have := slN_pos h
  unfold nS; omega
theorem nS_room {d : DS} (h : validB d = true) : ∃ n len : Nat, d.interval = n ∧ d.length = len ∧ (n = 128 ∨ n = 256 ∨ n = 512) ∧ 1 ≤ len ∧ len ≤ 200 ∧ slotsN n len = (nS d : Int) ∧ nS d * (len + 3) + 4 ≤ n := by
  obtain ⟨_, _, h3, h4, h5, h6⟩ := valid_spec h
  obtain ⟨n, hn, hn4⟩ := isSize_nat h3
  obtain ⟨len, hl⟩ := Int.eq_ofNat_of_zero_le (show 0 ≤ d.length by omega)
  have hp := nS_pos h
  refine ⟨n, len, hn, hl, hn4, by omega, by omega, by rw [hp.2.2]; unfold slN; rw [hn, hl], ?_⟩
  have hs : slN d = ((n : Int) - 4) / (len + 3) := by
    unfold slN slotsN
    rw [hn, hl]
    rw [hn] at h3
    rw [if_neg (by simp [h3]; omega)]
  have h7 := Int.ediv_mul_le ((n : Int) - 4) (show ((len : Int) + 3) ≠ 0 by omega)
  rw [← hs, ← hp.2.2] at h7
  have h8 : ((nS d * (len + 3) : Nat) : Int) = (nS d : Int) * ((len : Int) + 3) := by push_cast; rfl
  omega
/-- The slots of the page p (from 0 on). -/
def pgS (N : Nat) (F : List Slt) (p : Nat) : List Slt := (F.drop (p * N)).take N
/-- How many are used. -/
def usedN (F : List Slt) : Nat := (F.filter (·.1)).length
/-- A relative cluster of k pages, whose slots are F. -/
structure RMade (d : DS) (F : List Slt) (k : Nat) (h : Hd) (m : List (List UInt8)) : Prop where
  len : F.length = k * nS d
  good : ∀ x ∈ F, slotGood d.length.toNat x = true
  hd : h = { Hd.zero with count := usedN F, fin := k }
  mlen : m.length = k + 1
  page : ∀ p, p < k → m.getD (p + 1) [] = esStr d.interval d.length (pgS (nS d) F p)
theorem rmade_nil (d : DS) : RMade d [] 0 Hd.zero [[]] := ⟨by simp, by simp, rfl, rfl, fun p h => by omega⟩
theorem pgS_len {N k p : Nat} {F : List Slt} (hF : F.length = k * N) (hp : p < k) : (pgS N F p).length = N := by
  have h1 : (p + 1) * N ≤ k * N := Nat.mul_le_mul_right _ hp
  rw [Nat.add_mul] at h1
  unfold pgS
  rw [List.length_take, List.length_drop]; omega
theorem pgS_at {N p i : Nat} {F : List Slt} (hi : i < N) : slotAt (pgS N F p) i = slotAt F (p * N + i) := by
  unfold slotAt pgS
  simp [List.getD, List.getElem?_take, hi]
theorem good_at' {len : Nat} {F : List Slt} (h : ∀ x ∈ F, slotGood len x = true) (i : Nat) : slotGood len (slotAt F i) = true := by
  unfold slotAt
  by_cases hi : i < F.length
  · simp [List.getD, hi]; exact h _ (List.getElem_mem hi)
  · simp [List.getD, List.getElem?_eq_none (Nat.le_of_not_lt hi), slotGood]
/-- What is read of a page that is made of good slots. -/
theorem load_enc {d : DS} (hv : validB d = true) {m : List (List UInt8)} {pg : Int} {L : List Slt} (hp : pageOf m pg = (esStr d.interval d.length L, 0)) (hL : L.length = nS d) (hg : ∀ i, slotGood d.length.toNat (slotAt L i) = true) : loadS m d pg = (L, 0) := by
  obtain ⟨n, len, e1, e2, hn, h1, h2, hN, hroom⟩ := nS_room hv
  have hp1 := (nS_pos hv).1
  have he : sErr (nS d) len L = 0 := sErr_good (by omega) (by omega) (fun i _ => by have := hg i; rw [e2] at this; simpa using this)
  obtain ⟨a1, a2, a3, a4, a5⟩ := ds_enc (n := n) h1 hroom (by omega) he
  have hs : esStr d.interval d.length L = sStr n (nS d) len L := by unfold esStr; rw [e1, e2, hN]; simp
  have hL2 : dsList n len (sStr n (nS d) len L) (nS d) = L := by rw [a1, hL, Nat.sub_self]; simp
  have hE : dsErr d.interval d.length (esStr d.interval d.length L) = 0 := by
    rw [hs]
    unfold dsErr esErr esStr
    rw [e1, e2, hN, if_neg (by omega), if_neg (by rw [a4]; simp), if_neg (by rw [a5]; simp), if_pos]
    simp only [Int.toNat_natCast]
    exact ⟨a2, a3⟩
  rw [loadS_ok (by rw [hp]) (by rw [hp]; exact hE), hp]
  unfold dsOut
  rw [if_pos hE, hs, e1, e2, hN]
  simp only [Int.toNat_natCast]
  rw [hL2]
theorem RMade.load {d : DS} {F : List Slt} {k : Nat} {h : Hd} {m : List (List UInt8)} (r : RMade d F k h m) (hv : validB d = true) {p : Nat} (hp : p < k) : loadS m d ((p : Int) + 1) = (pgS (nS d) F p, 0) := by
  have hpl := pgS_len r.len hp
  refine load_enc hv ?_ hpl (fun i => ?_)
  · unfold pageOf
    have := r.mlen
    rw [if_pos (by omega), show ((p : Int) + 1).toNat = p + 1 by omega, r.page p hp]
  · refine good_at' (fun x hx => r.good x ?_) i
    exact List.mem_of_mem_drop (List.mem_of_mem_take hx)
end Dsd
/- Plain laws of chapter 19: what Put, Erase and Get do to a cluster that was made by changes. -/
namespace Dsd
theorem esStr_same {d : DS} {L M : List Slt} (h : ∀ i, slotAt L i = slotAt M i) (hL : L.length ≤ nS d) (hM : M.length ≤ nS d) : esStr d.interval d.length L = esStr d.interval d.length M := sStr_same h hL hM
theorem slotAt_out {F : List Slt} {i : Nat} (h : F.length ≤ i) : slotAt F i = (false, []) := by
  unfold slotAt; simp [List.getD, List.getElem?_eq_none h]
theorem pgS_slot (N : Nat) (F : List Slt) (p i : Nat) : slotAt (pgS N F p) i = if i < N then slotAt F (p * N + i) else (false, []) := by
  by_cases h : i < N
  · rw [if_pos h, pgS_at h]
  · rw [if_neg h, slotAt_out]
    unfold pgS
    simp; omega
theorem pgS_le (N : Nat) (F : List Slt) (p : Nat) : (pgS N F p).length ≤ N := by unfold pgS; simp; omega
/-- A cluster's slots, grown to k pages. -/
def padF (N : Nat) (F : List Slt) (k : Nat) : List Slt := F ++ List.replicate (k * N - F.length) (false, [])
theorem padF_len {N k k' : Nat} {F : List Slt} (h : F.length = k * N) (hk : k ≤ k') : (padF N F k').length = k' * N := by
  have := Nat.mul_le_mul_right N hk
  unfold padF; simp; omega
theorem padF_slot (N : Nat) (F : List Slt) (k i : Nat) : slotAt (padF N F k) i = slotAt F i := slotAt_pad F _ i
/-- One slot changed. -/
def chS (N : Nat) (F : List Slt) (k s : Nat) (x : Slt) : List Slt := (padF N F k).set s x
theorem chS_slot {N k s : Nat} {F : List Slt} {x : Slt} (h : s < (padF N F k).length) (i : Nat) : slotAt (chS N F k s x) i = if i = s then x else slotAt F i := by
  unfold chS slotAt
  rw [List.getD, List.getElem?_set]
  by_cases e : s = i
  · subst e; simp [h]
  · rw [if_neg e, if_neg (fun e' => e e'.symm)]
    exact padF_slot N F k i
theorem usedN_cons (x : Slt) (F : List Slt) : usedN (x :: F) = (if x.1 then 1 else 0) + usedN F := by
  unfold usedN; rw [List.filter_cons]; cases x.1 <;> simp; omega
theorem usedN_append (F G : List Slt) : usedN (F ++ G) = usedN F + usedN G := by simp [usedN]
theorem usedN_rep (n : Nat) : usedN (List.replicate n ((false, []) : Slt)) = 0 := by
  unfold usedN
  rw [List.length_eq_zero_iff, List.filter_eq_nil_iff]
  intro a ha
  rw [(List.mem_replicate.1 ha).2]; simp
theorem usedN_set : ∀ (F : List Slt) (s : Nat) (x : Slt), s < F.length → usedN (F.set s x) + (if (slotAt F s).1 then 1 else 0) = usedN F + (if x.1 then 1 else 0)
  | [], s, x, h => by simp at h
  | y :: F, 0, x, _ => by simp only [List.set_cons_zero, usedN_cons, slotAt, List.getD_cons_zero]; omega
  | y :: F, s + 1, x, h => by
    have ih := usedN_set F s x (by simpa using h)
    have e : slotAt (y :: F) (s + 1) = slotAt F s := rfl
    rw [e, List.set_cons_succ, usedN_cons, usedN_cons]
    omega
theorem usedN_ch {N k s : Nat} {F : List Slt} {x : Slt} (h : s < (padF N F k).length) : usedN (chS N F k s x) + (if (slotAt F s).1 then 1 else 0) = usedN F + (if x.1 then 1 else 0) := by
  have := usedN_set (padF N F k) s x h
  rw [padF_slot] at this
  unfold chS
  rw [this]
  unfold padF
  rw [usedN_append, usedN_rep]; omega
theorem usedN_pos {F : List Slt} {s : Nat} (h : (slotAt F s).1 = true) : 1 ≤ usedN F := by
  have hs : s < F.length := by
    by_cases x : s < F.length
    · exact x
    · rw [slotAt_out (by omega)] at h; simp at h
  have := usedN_set F s (false, []) hs
  rw [h] at this
  simp only [if_true, Bool.false_eq_true, if_false] at this
  omega
theorem ch_good {len N k s : Nat} {F : List Slt} {x : Slt} (h : ∀ y ∈ F, slotGood len y = true) (hx : slotGood len x = true) : ∀ y ∈ chS N F k s x, slotGood len y = true := by
  intro y hy
  unfold chS padF at hy
  rcases List.mem_or_eq_of_mem_set hy with h1 | rfl
  · rw [List.mem_append] at h1
    rcases h1 with h1 | h1
    · exact h y h1
    · rw [(List.mem_replicate.1 h1).2]; rfl
  · exact hx
/-- Page and index of the slot s + 1. -/
theorem page_nat {d : DS} (hv : validB d = true) (s : Nat) : pageS d ((s : Int) + 1) = ((s / nS d + 1 : Nat) : Int) ∧ idxS d ((s : Int) + 1) = s % nS d ∧ s % nS d < nS d ∧ s / nS d * nS d + s % nS d = s := by
  obtain ⟨n1, n2, n3⟩ := nS_pos hv
  refine ⟨?_, ?_, Nat.mod_lt _ (by omega), Nat.div_add_mod' s (nS d)⟩
  · unfold pageS
    rw [← n3, show (s : Int) + 1 - 1 = (s : Int) by omega]
    push_cast
    omega
  · unfold idxS
    rw [← n3, show (s : Int) + 1 - 1 = (s : Int) by omega]
    rw [← Int.natCast_emod]; exact Int.toNat_natCast _
/-- The page of a slot that is changed. -/
theorem page_ch {N k s p : Nat} {F : List Slt} {x : Slt} (hN : 0 < N) (h : s < (padF N F k).length) (i : Nat) : slotAt (pgS N (chS N F k s x) p) i = if i < N then (if p = s / N ∧ i = s % N then x else slotAt F (p * N + i)) else (false, []) := by
  rw [pgS_slot]
  by_cases hi : i < N
  · rw [if_pos hi, if_pos hi, chS_slot h]
    have hs := Nat.div_add_mod' s N
    have hm := Nat.mod_lt s hN
    by_cases e : p * N + i = s
    · have e1 : p = s / N := by rw [← e, Nat.add_comm, Nat.add_mul_div_right _ _ hN, Nat.div_eq_of_lt hi]; omega
      have e2 : i = s % N := by rw [← e, Nat.add_comm, Nat.add_mul_mod_self_right, Nat.mod_eq_of_lt hi]
      rw [if_pos e, if_pos ⟨e1, e2⟩]
    · rw [if_neg e, if_neg (fun ⟨e1, e2⟩ => e (by rw [e1, e2]; exact hs))]
  · rw [if_neg hi, if_neg hi]
theorem page_ch' {N k s p P0 i0 : Nat} {F : List Slt} {x : Slt} (hN : 0 < N) (q3 : i0 < N) (q4 : P0 * N + i0 = s) (h : s < (padF N F k).length) (i : Nat) : slotAt (pgS N (chS N F k s x) p) i = if i < N then (if p = P0 ∧ i = i0 then x else slotAt F (p * N + i)) else (false, []) := by
  have e1 : s / N = P0 := by rw [← q4, Nat.add_comm, Nat.add_mul_div_right _ _ hN, Nat.div_eq_of_lt q3]; omega
  have e2 : s % N = i0 := by rw [← q4, Nat.add_comm, Nat.add_mul_mod_self_right, Nat.mod_eq_of_lt q3]
  rw [page_ch hN h, e1, e2]
/-- A header that counts so is a door's. -/
theorem RMade.door {d : DS} {F : List Slt} {k : Nat} {h : Hd} {m : List (List UInt8)} (r : RMade d F k h m) (hv : validB d = true) (ho : d.org = 2) (hk : k ≤ 16777216) (hu : usedN F ≤ 16777216) : doorOf h d 2 = 0 := by
  have hp : plainB h = true := by rw [r.hd]; simp [plainB]; omega
  unfold doorOf
  rw [hv, hp, ho]; simp
theorem RMade.fin {d : DS} {F : List Slt} {k : Nat} {h : Hd} {m : List (List UInt8)} (r : RMade d F k h m) : h.fin = k ∧ h.count = usedN F := by rw [r.hd]; exact ⟨rfl, rfl⟩
/-- The record in a slot is found, or it is not. -/
theorem RMade.find {d : DS} {F : List Slt} {k : Nat} {h : Hd} {m : List (List UInt8)} (r : RMade d F k h m) (hv : validB d = true) {s : Nat} (hs : s < 65536) :
    findR m h d ((s : Int) + 1) = if (slotAt F s).1 then (pgS (nS d) F (s / nS d), 0) else ([], 6) := by
  obtain ⟨q1, q2, q3, q4⟩ := page_nat hv s
  obtain ⟨f1, f2⟩ := r.fin
  have hN := (nS_pos hv).1
  unfold findR
  rw [if_neg (by omega), q1, q2, f1]
  by_cases hp : s / nS d < k
  · rw [if_neg (by omega)]
    have hl := r.load hv hp
    rw [show (((s / nS d + 1 : Nat)) : Int) = ((s / nS d : Nat) : Int) + 1 by push_cast; rfl, hl]
    rw [if_neg (by simp), pgS_at q3, q4]
    cases (slotAt F s).1 <;> simp
  · rw [if_pos (by omega), slotAt_out]
    · simp
    · rw [r.len]
      have := Nat.mul_le_mul_right (nS d) (show k ≤ s / nS d by omega)
      omega
theorem RMade.get {d : DS} {F : List Slt} {k : Nat} {h : Hd} {m : List (List UInt8)} (r : RMade d F k h m) (hv : validB d = true) (hd : doorOf h d 2 = 0) {s : Nat} (hs : s < 65536) :
    getR m h d ((s : Int) + 1) = if (slotAt F s).1 then ((slotAt F s).2, 0) else ([], 6) := by
  obtain ⟨q1, q2, q3, q4⟩ := page_nat hv s
  unfold getR
  rw [if_neg (by simp [hd]), r.find hv hs, q2]
  cases hu : (slotAt F s).1
  · simp
  · simp only [if_true]
    rw [if_neg (by simp), pgS_at q3, q4]
/-- One page is written. -/
theorem putP_old {m : List (List UInt8)} {P : Nat} {s : List UInt8} (h : P < m.length) : putP m ((P : Int), s) = m.set P s := by
  have hg : growP m (P : Int) = m := by
    unfold growP
    split
    · rw [show ((P : Int) + 1 - (m.length : Int)).toNat = 0 by omega]; simp
    · rfl
  unfold putP
  simp only
  rw [hg, if_pos (by omega), Int.toNat_natCast]
theorem putP_new {m : List (List UInt8)} {s : List UInt8} (h : m.length < 10000) : putP m ((m.length : Int), s) = m ++ [s] := by
  have hg : growP m (m.length : Int) = m ++ [[]] := by
    unfold growP
    rw [if_pos (by omega), show ((m.length : Int) + 1 - (m.length : Int)).toNat = 1 by omega]; rfl
  unfold putP
  simp only
  rw [hg, if_pos (by simp; omega), Int.toNat_natCast]
  simp
theorem puts_fresh (d : DS) (m : List (List UInt8)) (a : Int) (ha : a + 1 = m.length) : ∀ (j : Nat), m.length + j ≤ 10000 → putsP m (freshS d a j) = m ++ List.replicate j (esStr d.interval d.length [])
  | 0, _ => by simp [freshS, putsP]
  | j + 1, h => by
    have ih := puts_fresh d m a ha j (by omega)
    rw [freshS_succ]
    unfold putsP at ih ⊢
    rw [List.foldl_append, ih]
    simp only [List.foldl_cons, List.foldl_nil]
    unfold wrS
    have hl : ((m ++ List.replicate j (esStr d.interval d.length [])).length : Int) = a + 1 + (j : Int) := by simp; omega
    rw [← hl, putP_new (by simp; omega), List.replicate_succ', List.append_assoc]
theorem putsP_snoc (m : List (List UInt8)) (l : List (Int × List UInt8)) (x : Int × List UInt8) : putsP m (l ++ [x]) = putP (putsP m l) x := by unfold putsP; rw [List.foldl_append]; rfl
theorem puts_new (d : DS) (m : List (List UInt8)) (k j : Nat) (L : List Slt) (hm : m.length = k + 1) (h : m.length + j ≤ 9990) :
    putsP m (freshS d k j ++ [wrS d ((k : Int) + (j : Int) + 1) L]) = m ++ List.replicate j (esStr d.interval d.length []) ++ [esStr d.interval d.length L] := by
  rw [putsP_snoc, puts_fresh d m k (by omega) j (by omega)]
  unfold wrS
  have hl : ((m ++ List.replicate j (esStr d.interval d.length [])).length : Int) = (k : Int) + (j : Int) + 1 := by simp; omega
  rw [← hl]
  exact putP_new (by simp; omega)
/-- What Put makes of a cluster that was made by changes. -/
theorem RMade.put_old {d : DS} {F : List Slt} {k : Nat} {h : Hd} {m : List (List UInt8)} (r : RMade d F k h m) (hv : validB d = true) (hd : doorOf h d 2 = 0) {s P0 i0 : Nat} (q1 : pageS d ((s : Int) + 1) = ((P0 + 1 : Nat) : Int)) (q2 : idxS d ((s : Int) + 1) = i0) (q3 : i0 < nS d) (q4 : P0 * nS d + i0 = s) (hs : s < 65536) {rec : List UInt8} (hr : (rec.length : Int) = d.length) (hp : P0 + 1 ≤ k + 8) (hk : k + 9 ≤ 9000) (hle : P0 + 1 ≤ k) :
    (putR m h d ((s : Int) + 1) rec).e = 0 ∧ (putR m h d ((s : Int) + 1) rec).w.length ≤ 9 ∧ RMade d (chS (nS d) F (max k (P0 + 1)) s (true, rec)) (max k (P0 + 1)) (putR m h d ((s : Int) + 1) rec).h (putsP m (putR m h d ((s : Int) + 1) rec).w) ∧ s < (padF (nS d) F (max k (P0 + 1))).length := by
  obtain ⟨f1, f2⟩ := r.fin
  obtain ⟨n1, n2, n3⟩ := nS_pos hv
  have hlen := (valid_spec hv).2.2.2.1
  have hlp := padF_len r.len (Nat.le_max_left k (P0 + 1))
  have hsl : s < (padF (nS d) F (max k (P0 + 1))).length := by
    rw [hlp]
    have := Nat.mul_le_mul_right (nS d) (Nat.le_max_right k (P0 + 1))
    rw [Nat.add_mul] at this
    omega
  have hx : slotGood d.length.toNat (true, rec) = true := by simp [slotGood]; omega
  have hcl : (chS (nS d) F (max k (P0 + 1)) s (true, rec)).length = max k (P0 + 1) * nS d := by unfold chS; rw [List.length_set, hlp]
  have huse := usedN_ch (x := (true, rec)) hsl
  simp only [if_true] at huse
  have hmx : max k (P0 + 1) = k := by omega
  rw [hmx] at hsl hcl huse hlp ⊢
  have hl := r.load hv (show P0 < k by omega)
  have hpl := pgS_len r.len (show P0 < k by omega)
  have e1 : (((P0 + 1 : Nat)) : Int) = ((P0 : Nat) : Int) + 1 := by push_cast; rfl
  have hsetS : setS (pgS (nS d) F (P0)) (i0) (true, rec) = (pgS (nS d) F (P0)).set (i0) (true, rec) := by unfold setS; rw [show i0 + 1 - (pgS (nS d) F (P0)).length = 0 by omega]; simp
  have hR : putR m h d ((s : Int) + 1) rec = ⟨{ h with count := if (slotAt F s).1 then h.count else h.count + 1 }, [wrS d ((P0 + 1 : Nat) : Int) ((pgS (nS d) F (P0)).set (i0) (true, rec))], 0⟩ := by
    unfold putR
    rw [if_neg (by simp [hd]), if_neg (by omega), q1, q2, f1, if_neg (by omega), if_pos (by omega), e1, hl, if_neg (by simp), pgS_at q3, q4, hsetS]
  have hw : (putR m h d ((s : Int) + 1) rec).w = [wrS d ((P0 + 1 : Nat) : Int) ((pgS (nS d) F (P0)).set (i0) (true, rec))] := by rw [hR]
  have hh : (putR m h d ((s : Int) + 1) rec).h = { h with count := if (slotAt F s).1 then h.count else h.count + 1 } := by rw [hR]
  have hputs : putsP m [wrS d ((P0 + 1 : Nat) : Int) ((pgS (nS d) F (P0)).set (i0) (true, rec))] = m.set (P0 + 1) (esStr d.interval d.length ((pgS (nS d) F (P0)).set (i0) (true, rec))) := by
    unfold putsP wrS
    rw [List.foldl_cons, List.foldl_nil]
    exact putP_old (by rw [r.mlen]; omega)
  rw [hw, hh, hputs]
  clear hw hh hputs
  refine ⟨by rw [hR], by simp, ⟨hcl, ch_good r.good hx, ?_, ?_, fun p hpk => ?_⟩, hsl⟩
  · rw [r.hd]
    simp only [Hd.zero, Hd.mk.injEq, true_and, and_true]
    cases hu : (slotAt F s).1 <;> simp [hu] at huse ⊢ <;> omega
  · rw [List.length_set]; exact r.mlen
  · rw [List.getD, List.getElem?_set]
    by_cases e : P0 + 1 = p + 1
    · rw [if_pos e, if_pos (by rw [r.mlen]; omega)]
      have e' : P0 = p := by omega
      subst e'
      refine esStr_same (fun i => ?_) (by rw [List.length_set]; omega) (pgS_le _ _ _)
      rw [page_ch' (by omega) q3 q4 hsl]
      have hset := slotAt_setS (pgS (nS d) F (P0)) (i0) (true, rec) i
      rw [hsetS] at hset
      rw [hset, pgS_slot]
      by_cases hi : i < nS d
      · rw [if_pos hi, if_pos hi]
        by_cases hie : i = i0
        · rw [if_pos hie, if_pos ⟨rfl, hie⟩]
        · rw [if_neg hie, if_neg (fun x => hie x.2)]
      · rw [if_neg hi, if_neg hi, if_neg (by omega)]
    · rw [if_neg e]
      have := r.page p hpk
      rw [List.getD] at this
      rw [this]
      refine esStr_same (fun i => ?_) (pgS_le _ _ _) (pgS_le _ _ _)
      rw [page_ch' (by omega) q3 q4 hsl, pgS_slot]
      by_cases hi : i < nS d
      · rw [if_pos hi, if_pos hi, if_neg (fun x => e (by rw [x.1]))]
      · rw [if_neg hi, if_neg hi]
/-- What Put makes of a cluster that was made by changes. -/
theorem RMade.put_new {d : DS} {F : List Slt} {k : Nat} {h : Hd} {m : List (List UInt8)} (r : RMade d F k h m) (hv : validB d = true) (hd : doorOf h d 2 = 0) {s P0 i0 : Nat} (q1 : pageS d ((s : Int) + 1) = ((P0 + 1 : Nat) : Int)) (q2 : idxS d ((s : Int) + 1) = i0) (q3 : i0 < nS d) (q4 : P0 * nS d + i0 = s) (hs : s < 65536) {rec : List UInt8} (hr : (rec.length : Int) = d.length) (hp : P0 + 1 ≤ k + 8) (hk : k + 9 ≤ 9000) (hle : ¬ P0 + 1 ≤ k) :
    (putR m h d ((s : Int) + 1) rec).e = 0 ∧ (putR m h d ((s : Int) + 1) rec).w.length ≤ 9 ∧ RMade d (chS (nS d) F (max k (P0 + 1)) s (true, rec)) (max k (P0 + 1)) (putR m h d ((s : Int) + 1) rec).h (putsP m (putR m h d ((s : Int) + 1) rec).w) ∧ s < (padF (nS d) F (max k (P0 + 1))).length := by
  obtain ⟨f1, f2⟩ := r.fin
  obtain ⟨n1, n2, n3⟩ := nS_pos hv
  have hlen := (valid_spec hv).2.2.2.1
  have hlp := padF_len r.len (Nat.le_max_left k (P0 + 1))
  have hsl : s < (padF (nS d) F (max k (P0 + 1))).length := by
    rw [hlp]
    have := Nat.mul_le_mul_right (nS d) (Nat.le_max_right k (P0 + 1))
    rw [Nat.add_mul] at this
    omega
  have hx : slotGood d.length.toNat (true, rec) = true := by simp [slotGood]; omega
  have hcl : (chS (nS d) F (max k (P0 + 1)) s (true, rec)).length = max k (P0 + 1) * nS d := by unfold chS; rw [List.length_set, hlp]
  have huse := usedN_ch (x := (true, rec)) hsl
  simp only [if_true] at huse
  have hmx : max k (P0 + 1) = P0 + 1 := by omega
  rw [hmx] at hsl hcl huse hlp ⊢
  have hFs : slotAt F s = (false, []) := slotAt_out (by
    rw [r.len]
    have := Nat.mul_le_mul_right (nS d) (show k ≤ P0 by omega)
    omega)
  obtain ⟨j, hj⟩ : ∃ j, P0 = k + j := ⟨P0 - k, by omega⟩
  have hR : putR m h d ((s : Int) + 1) rec = ⟨{ h with count := h.count + 1, fin := ((P0 + 1 : Nat) : Int) }, freshS d k j ++ [wrS d ((P0 + 1 : Nat) : Int) (setS [] (i0) (true, rec))], 0⟩ := by
    unfold putR
    rw [if_neg (by simp [hd]), if_neg (by omega), q1, q2, f1, if_neg (by omega), if_neg (by omega)]
    rw [show (((P0 + 1 : Nat) : Int) - 1 - (k : Int)).toNat = j by omega]
  have hw : (putR m h d ((s : Int) + 1) rec).w = freshS d k j ++ [wrS d ((P0 + 1 : Nat) : Int) (setS [] (i0) (true, rec))] := by rw [hR]
  have hh : (putR m h d ((s : Int) + 1) rec).h = { h with count := h.count + 1, fin := ((P0 + 1 : Nat) : Int) } := by rw [hR]
  have hputs := puts_new d m k j (setS [] i0 (true, rec)) (by have := r.mlen; omega) (by rw [r.mlen]; omega)
  rw [show (k : Int) + (j : Int) + 1 = ((P0 + 1 : Nat) : Int) by omega] at hputs
  rw [hw, hh, hputs]
  clear hw hh hputs
  refine ⟨by rw [hR], by simp [freshS_len]; omega, ⟨hcl, ch_good r.good hx, ?_, ?_, fun p hpk => ?_⟩, hsl⟩
  · rw [r.hd]
    rw [hFs] at huse
    simp only [Hd.zero, Hd.mk.injEq, true_and, and_true]
    simp at huse
    omega
  · simp [r.mlen]; omega
  · by_cases h1 : p < k
    · have := r.page p h1
      rw [List.append_assoc, List.getD, List.getElem?_append_left (by rw [r.mlen]; omega)]
      rw [List.getD] at this
      rw [this]
      refine esStr_same (fun i => ?_) (pgS_le _ _ _) (pgS_le _ _ _)
      rw [page_ch' (by omega) q3 q4 hsl, pgS_slot]
      by_cases hi : i < nS d
      · rw [if_pos hi, if_pos hi, if_neg (fun x => by omega)]
      · rw [if_neg hi, if_neg hi]
    · have hout : ∀ i, slotAt F (p * nS d + i) = (false, []) := fun i => slotAt_out (by
        rw [r.len]
        have := Nat.mul_le_mul_right (nS d) (show k ≤ p by omega)
        omega)
      by_cases h2 : p < k + j
      · have e : (m ++ List.replicate j (esStr d.interval d.length []) ++ [esStr d.interval d.length (setS [] (i0) (true, rec))]).getD (p + 1) [] = esStr d.interval d.length [] := by
          rw [List.getD, List.getElem?_append_left (by simp [r.mlen]; omega), List.getElem?_append_right (by rw [r.mlen]; omega), List.getElem?_replicate, if_pos (by rw [r.mlen]; omega)]; rfl
        rw [e]
        refine esStr_same (fun i => ?_) (by simp) (pgS_le _ _ _)
        rw [page_ch' (by omega) q3 q4 hsl, hout]
        rw [if_neg (show ¬ (p = P0 ∧ i = i0) from fun x => by omega)]
        rw [slotAt_out (by simp)]
        split <;> rfl
      · have hpe : p = P0 := by omega
        have e : (m ++ List.replicate j (esStr d.interval d.length []) ++ [esStr d.interval d.length (setS [] (i0) (true, rec))]).getD (p + 1) [] = esStr d.interval d.length (setS [] (i0) (true, rec)) := by
          rw [List.getD, List.getElem?_append_right (by simp [r.mlen]; omega)]
          rw [show p + 1 - (m ++ List.replicate j (esStr d.interval d.length [])).length = 0 by simp [r.mlen]; omega]; rfl
        rw [e]
        refine esStr_same (fun i => ?_) (by rw [setS_len]; simp; omega) (pgS_le _ _ _)
        rw [page_ch' (by omega) q3 q4 hsl, hout, slotAt_setS]
        by_cases hi : i < nS d
        · rw [if_pos hi]
          by_cases hie : i = i0
          · rw [if_pos hie, if_pos ⟨hpe, hie⟩]
          · rw [if_neg hie, if_neg (fun x => hie x.2), slotAt_out (by simp)]
        · rw [if_neg hi, if_neg (by omega), slotAt_out (by simp)]
/-- What Put makes of a cluster that was made by changes. -/
theorem RMade.put {d : DS} {F : List Slt} {k : Nat} {h : Hd} {m : List (List UInt8)} (r : RMade d F k h m) (hv : validB d = true) (hd : doorOf h d 2 = 0) {s : Nat} (hs : s < 65536) {rec : List UInt8} (hr : (rec.length : Int) = d.length) (hp : s / nS d + 1 ≤ k + 8) (hk : k + 9 ≤ 9000) :
    (putR m h d ((s : Int) + 1) rec).e = 0 ∧ (putR m h d ((s : Int) + 1) rec).w.length ≤ 9 ∧ RMade d (chS (nS d) F (max k (s / nS d + 1)) s (true, rec)) (max k (s / nS d + 1)) (putR m h d ((s : Int) + 1) rec).h (putsP m (putR m h d ((s : Int) + 1) rec).w) ∧ s < (padF (nS d) F (max k (s / nS d + 1))).length := by
  obtain ⟨q1, q2, q3, q4⟩ := page_nat hv s
  by_cases hle : s / nS d + 1 ≤ k
  · exact r.put_old hv hd q1 q2 q3 q4 hs hr hp hk hle
  · exact r.put_new hv hd q1 q2 q3 q4 hs hr hp hk hle
end Dsd
/- Plain laws of chapter 19: Erase on a cluster that was made by changes; the chapter's example; the reach of an empty cluster. -/
namespace Dsd
theorem padF_self {N k : Nat} {F : List Slt} (h : F.length = k * N) : padF N F k = F := by unfold padF; rw [h, Nat.sub_self]; simp
theorem RMade.erase_old {d : DS} {F : List Slt} {k : Nat} {h : Hd} {m : List (List UInt8)} (r : RMade d F k h m) (hv : validB d = true) (hd : doorOf h d 2 = 0) {s P0 i0 : Nat} (q1 : pageS d ((s : Int) + 1) = ((P0 + 1 : Nat) : Int)) (q2 : idxS d ((s : Int) + 1) = i0) (q3 : i0 < nS d) (q4 : P0 * nS d + i0 = s) (q5 : P0 = s / nS d) (hs : s < 65536) (hu : (slotAt F s).1 = true) :
    (eraseR m h d ((s : Int) + 1)).e = 0 ∧ (eraseR m h d ((s : Int) + 1)).w.length ≤ 9 ∧ RMade d (chS (nS d) F k s (false, [])) k (eraseR m h d ((s : Int) + 1)).h (putsP m (eraseR m h d ((s : Int) + 1)).w) ∧ s < (padF (nS d) F k).length := by
  obtain ⟨f1, f2⟩ := r.fin
  obtain ⟨n1, n2, n3⟩ := nS_pos hv
  have hsF : s < F.length := by
    by_cases x : s < F.length
    · exact x
    · rw [slotAt_out (by omega)] at hu; simp at hu
  have hle : P0 + 1 ≤ k := by
    have h1 := r.len
    by_cases x : P0 + 1 ≤ k
    · exact x
    · have := Nat.mul_le_mul_right (nS d) (show k ≤ P0 by omega)
      omega
  have hlp := padF_len r.len (Nat.le_refl k)
  have hsl : s < (padF (nS d) F k).length := by rw [padF_self r.len]; exact hsF
  have hcl : (chS (nS d) F k s (false, [])).length = k * nS d := by unfold chS; rw [List.length_set, hlp]
  have huse := usedN_ch (x := (false, [])) hsl
  rw [hu] at huse
  simp only [if_true, Bool.false_eq_true, if_false] at huse
  have hpl := pgS_len r.len (show P0 < k by omega)
  have hf := r.find hv hs
  rw [hu, if_pos rfl, ← q5] at hf
  have hsetS : setS (pgS (nS d) F P0) i0 (false, []) = (pgS (nS d) F P0).set i0 (false, []) := by unfold setS; rw [show i0 + 1 - (pgS (nS d) F P0).length = 0 by omega]; simp
  have hR : eraseR m h d ((s : Int) + 1) = ⟨{ h with count := h.count - 1 }, [wrS d ((P0 + 1 : Nat) : Int) ((pgS (nS d) F P0).set i0 (false, []))], 0⟩ := by
    unfold eraseR
    rw [if_neg (by simp [hd]), hf, if_neg (by simp), q1, q2, hsetS]
  have hw : (eraseR m h d ((s : Int) + 1)).w = [wrS d ((P0 + 1 : Nat) : Int) ((pgS (nS d) F P0).set i0 (false, []))] := by rw [hR]
  have hh : (eraseR m h d ((s : Int) + 1)).h = { h with count := h.count - 1 } := by rw [hR]
  have hputs : putsP m [wrS d ((P0 + 1 : Nat) : Int) ((pgS (nS d) F P0).set i0 (false, []))] = m.set (P0 + 1) (esStr d.interval d.length ((pgS (nS d) F P0).set i0 (false, []))) := by
    unfold putsP wrS
    rw [List.foldl_cons, List.foldl_nil]
    exact putP_old (by rw [r.mlen]; omega)
  rw [hw, hh, hputs]
  clear hw hh hputs
  refine ⟨by rw [hR], by simp, ⟨hcl, ch_good r.good rfl, ?_, ?_, fun p hpk => ?_⟩, hsl⟩
  · rw [r.hd]
    simp only [Hd.zero, Hd.mk.injEq, true_and, and_true]
    omega
  · rw [List.length_set]; exact r.mlen
  · rw [List.getD, List.getElem?_set]
    by_cases e : P0 + 1 = p + 1
    · rw [if_pos e, if_pos (by rw [r.mlen]; omega)]
      have e' : P0 = p := by omega
      subst e'
      refine esStr_same (fun i => ?_) (by rw [List.length_set]; omega) (pgS_le _ _ _)
      rw [page_ch' (by omega) q3 q4 hsl]
      have hset := slotAt_setS (pgS (nS d) F P0) i0 (false, []) i
      rw [hsetS] at hset
      rw [hset, pgS_slot]
      by_cases hi : i < nS d
      · rw [if_pos hi, if_pos hi]
        by_cases hie : i = i0
        · rw [if_pos hie, if_pos ⟨rfl, hie⟩]
        · rw [if_neg hie, if_neg (fun x => hie x.2)]
      · rw [if_neg hi, if_neg hi, if_neg (by omega)]
    · rw [if_neg e]
      have := r.page p hpk
      rw [List.getD] at this
      rw [this]
      refine esStr_same (fun i => ?_) (pgS_le _ _ _) (pgS_le _ _ _)
      rw [page_ch' (by omega) q3 q4 hsl, pgS_slot]
      by_cases hi : i < nS d
      · rw [if_pos hi, if_pos hi, if_neg (fun x => e (by rw [x.1]))]
      · rw [if_neg hi, if_neg hi]
theorem RMade.erase {d : DS} {F : List Slt} {k : Nat} {h : Hd} {m : List (List UInt8)} (r : RMade d F k h m) (hv : validB d = true) (hd : doorOf h d 2 = 0) {s : Nat} (hs : s < 65536) (hu : (slotAt F s).1 = true) :
    (eraseR m h d ((s : Int) + 1)).e = 0 ∧ (eraseR m h d ((s : Int) + 1)).w.length ≤ 9 ∧ RMade d (chS (nS d) F k s (false, [])) k (eraseR m h d ((s : Int) + 1)).h (putsP m (eraseR m h d ((s : Int) + 1)).w) ∧ s < (padF (nS d) F k).length := by
  obtain ⟨q1, q2, q3, q4⟩ := page_nat hv s
  exact r.erase_old hv hd q1 q2 q3 q4 rfl hs hu
/-- Where Erase refuses. -/
theorem RMade.erase_no {d : DS} {F : List Slt} {k : Nat} {h : Hd} {m : List (List UInt8)} (r : RMade d F k h m) (hv : validB d = true) (hd : doorOf h d 2 = 0) {slot : Int} (hn : slot < 1 ∨ 65536 < slot ∨ (slotAt F (slot - 1).toNat).1 = false) :
    ∃ c, c ≠ 0 ∧ eraseR m h d slot = .no c := by
  by_cases h1 : slot < 1 ∨ 65536 < slot
  · refine ⟨2, by decide, ?_⟩
    have : (findR m h d slot).2 = 2 := by unfold findR; rw [if_pos h1]
    unfold eraseR; rw [if_neg (by simp [hd]), if_pos (by rw [this]; decide), this]
  · refine ⟨6, by decide, ?_⟩
    obtain ⟨s, hs⟩ := Int.eq_ofNat_of_zero_le (show 0 ≤ slot - 1 by omega)
    have e : slot = (s : Int) + 1 := by omega
    have hu : (slotAt F s).1 = false := by
      rcases hn with x | x | x
      · omega
      · omega
      · rwa [hs, Int.toNat_natCast] at x
    have hf := r.find hv (show s < 65536 by omega)
    rw [← e, hu] at hf
    have : (findR m h d slot).2 = 6 := by rw [hf]; rfl
    unfold eraseR; rw [if_neg (by simp [hd]), if_pos (by rw [this]; decide), this]
/-- Where Put refuses. -/
theorem RMade.put_no {d : DS} {F : List Slt} {k : Nat} {h : Hd} {m : List (List UInt8)} (r : RMade d F k h m) (hd : doorOf h d 2 = 0) {slot : Int} {rec : List UInt8} (hn : slot < 1 ∨ 65536 < slot ∨ (rec.length : Int) ≠ d.length ∨ (k : Int) + 8 < pageS d slot) :
    ∃ c, c ≠ 0 ∧ putR m h d slot rec = .no c := by
  obtain ⟨f1, f2⟩ := r.fin
  unfold putR
  rw [if_neg (by simp [hd])]
  by_cases h1 : slot < 1 ∨ 65536 < slot ∨ (rec.length : Int) ≠ d.length
  · exact ⟨2, by decide, by rw [if_pos h1]⟩
  · refine ⟨8, by decide, ?_⟩
    rw [if_neg h1, if_pos]
    rw [f1]
    rcases hn with x | x | x | x
    · exact absurd (.inl x) h1
    · exact absurd (.inr (.inl x)) h1
    · exact absurd (.inr (.inr x)) h1
    · exact x

/-! ### The chapter's example -/
def exD9 : DS := ⟨0, 2, 0, 40, 0, 0, 0, 128, 0, 0, 0, 0, 0, 0, false, 0, [], [], 0, 0, false⟩
def exH9 : Hd := ⟨0, 1, 3, 0, 0, 0, 0⟩
def zs40 : List UInt8 := List.replicate 40 0
theorem exN9 : nS exD9 = 2 := by decide
theorem exV9 : validB exD9 = true := by decide
theorem exDo9 : doorOf Hd.zero exD9 2 = 0 := by decide
theorem exDo9' : doorOf exH9 exD9 2 = 0 := by decide
theorem zs40_len : zs40.length = 40 := by unfold zs40; simp
noncomputable def exW9 : List (Int × List UInt8) := freshS exD9 0 2 ++ [wrS exD9 3 (setS [] 0 (true, zs40))]
theorem exPut9 : putR [[]] Hd.zero exD9 5 zs40 = ⟨exH9, exW9, 0⟩ := by
  have hp : pageS exD9 5 = 3 := by decide
  have hi : idxS exD9 5 = 0 := by decide
  unfold putR
  rw [if_neg (by rw [exDo9]; decide), if_neg (by rw [zs40_len]; decide), hp, hi, if_neg (by decide), if_neg (by decide)]
  rfl
theorem exW9_at : exW9.length = 3 ∧ (exW9.getD 0 (0, [])).1 = 1 ∧ (exW9.getD 2 (0, [])).1 = 3 := by
  unfold exW9
  refine ⟨by simp [freshS_len], ?_, ?_⟩
  · simp [freshS, wrS, List.range_succ]
  · simp [freshS, wrS, List.range_succ]
theorem exGet9 : getR (putsP [[]] exW9) exH9 exD9 5 = (zs40, 0) := by
  have h := (rmade_nil exD9).put exV9 exDo9 (s := 4) (rec := zs40) (by omega) (by rw [zs40_len]; rfl) (by rw [exN9]; omega) (by omega)
  rw [show ((4 : Nat) : Int) + 1 = 5 from rfl, exPut9, exN9] at h
  obtain ⟨_, _, h3, h4⟩ := h
  have hg := h3.get exV9 exDo9' (s := 4) (by omega)
  rw [chS_slot h4, if_pos rfl, if_pos rfl] at hg
  exact hg

/-! ### The reach of an empty cluster -/
theorem reach_no {d : DS} (hd : doorOf Hd.zero d 2 = 0) (hv : validB d = true) (slot : Int) (h1 : 1 ≤ slot) (h2 : slot ≤ 65536) (h3 : 8 * slN d < slot) (rec : List UInt8) (hr : (rec.length : Int) = d.length) : putR [[]] Hd.zero d slot rec = .no 8 := by
  obtain ⟨n1, n2⟩ := slN_pos hv
  unfold putR
  rw [if_neg (by simp [hd]), if_neg (by omega), if_pos]
  show (0 : Int) + 8 < pageS d slot
  unfold pageS
  have := (Int.le_ediv_iff_mul_le (a := 8) (b := slot - 1) (show 0 < slN d by omega)).2 (by omega)
  omega
theorem reach_yes {d : DS} (hd : doorOf Hd.zero d 2 = 0) (hv : validB d = true) (slot : Int) (h1 : 1 ≤ slot) (h2 : slot ≤ 65536) (h3 : slot ≤ 8 * slN d) (rec : List UInt8) (hr : (rec.length : Int) = d.length) :
    ∃ (P : Nat) (W : List (Int × List UInt8)), 1 ≤ P ∧ P ≤ 8 ∧ (P : Int) = (slot + slN d - 1) / slN d ∧ W.length = P ∧ (∀ i, i < P → (W.getD i (0, [])).1 = (i : Int) + 1) ∧ putR [[]] Hd.zero d slot rec = ⟨⟨0, 1, P, 0, 0, 0, 0⟩, W, 0⟩ := by
  obtain ⟨n1, n2⟩ := slN_pos hv
  have hq : (slot - 1) / slN d ≤ 7 := by
    have := (Int.ediv_lt_iff_lt_mul (a := slot - 1) (b := 8) (show 0 < slN d by omega)).2 (by omega)
    omega
  have hq0 : 0 ≤ (slot - 1) / slN d := Int.ediv_nonneg (by omega) (by omega)
  obtain ⟨P, hP⟩ := Int.eq_ofNat_of_zero_le (show 0 ≤ pageS d slot by unfold pageS; omega)
  have hP1 : (P : Int) = 1 + (slot - 1) / slN d := by rw [← hP]; rfl
  refine ⟨P, freshS d 0 (P - 1) ++ [wrS d (P : Int) (setS [] (idxS d slot) (true, rec))], by omega, by omega, ?_, by simp [freshS_len]; omega, fun i hi => ?_, ?_⟩
  · rw [hP1, show slot + slN d - 1 = (slot - 1) + slN d * 1 by omega, Int.add_mul_ediv_left _ _ (by omega)]; omega
  · by_cases h : i < P - 1
    · rw [List.getD, List.getElem?_append_left (by rw [freshS_len]; exact h)]
      unfold freshS wrS
      simp [h]; omega
    · rw [List.getD, List.getElem?_append_right (by rw [freshS_len]; omega), freshS_len, show i - (P - 1) = 0 by omega]
      simp [wrS]; omega
  · unfold putR
    rw [if_neg (by simp [hd]), if_neg (by omega), hP, if_neg (by show ¬ (0 : Int) + 8 < P; omega), if_neg (by show ¬ (P : Int) ≤ 0; omega)]
    rw [show ((P : Int) - 1 - Hd.zero.fin).toNat = P - 1 by show ((P : Int) - 1 - 0).toNat = P - 1; omega]
    rfl
end Dsd
