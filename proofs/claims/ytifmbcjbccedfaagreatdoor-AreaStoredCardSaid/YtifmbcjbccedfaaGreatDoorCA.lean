/- A part of the proof. -/
import Derived.Test.YtifmbcjbccedfaaGreatDoorBH

set_option linter.unusedSimpArgs false
set_option linter.unusedVariables false
namespace Dsd
open Go
abbrev Wr := Int × List UInt8
def wrC (L : List Wr) : List Value := L.flatMap fun x => [.int .i64 x.1, .string ⟨x.2.toArray⟩]
theorem wrC_cons (x : Wr) (L : List Wr) : wrC (x :: L) = .int .i64 x.1 :: .string ⟨x.2.toArray⟩ :: wrC L := rfl
theorem wrC_len (L : List Wr) : (wrC L).length = L.length * 2 := by
 induction L with
 | nil => rfl
 | cons x L ih => rw [wrC_cons]; simp [ih]; omega
theorem wrC_app (A B : List Wr) : wrC (A ++ B) = wrC A ++ wrC B := by simp [wrC]
theorem wrC_snoc (L : List Wr) (x : Wr) : wrC (L ++ [x]) = wrC L ++ [.int .i64 x.1, .string ⟨x.2.toArray⟩] := by rw [wrC_app]; rfl
def wrAt (L : List Wr) (i : Nat) : Wr := L.getD i (0, [])
theorem wrAt_cons (x : Wr) (L : List Wr) (i : Nat) : wrAt (x :: L) (i + 1) = wrAt L i := by simp [wrAt]
theorem wrC_at : ∀ (L : List Wr) (i : Nat), i < L.length → (wrC L)[i * 2]? = some (.int .i64 (wrAt L i).1) ∧ (wrC L)[i * 2 + 1]? = some (.string ⟨(wrAt L i).2.toArray⟩)
 | [], i, h => by simp at h
 | x :: L, 0, _ => by simp [wrC_cons, wrAt]
 | x :: L, i + 1, h => by
   have ih := wrC_at L i (by simpa using h)
   rw [wrC_cons, wrAt_cons, show (i + 1) * 2 = i * 2 + 1 + 1 by omega, show i * 2 + 1 + 1 + 1 = (i * 2 + 1) + 1 + 1 by omega]
   simpa using ih
theorem wrC_take : ∀ (L : List Wr) (k : Nat), wrC (L.take k) = (wrC L).take (k * 2)
 | [], k => by simp [wrC]
 | x :: L, 0 => by simp [wrC]
 | x :: L, k + 1 => by rw [List.take_succ_cons, wrC_cons, wrC_cons, wrC_take L k, show (k + 1) * 2 = k * 2 + 1 + 1 by omega, List.take_succ_cons, List.take_succ_cons]
theorem wrC_set : ∀ (L : List Wr) (i : Nat) (y : Wr), i < L.length → wrC (L.set i y) = ((wrC L).set (i * 2) (.int .i64 y.1)).set (i * 2 + 1) (.string ⟨y.2.toArray⟩)
 | [], i, y, h => by simp at h
 | x :: L, 0, y, _ => by simp [wrC_cons]
 | x :: L, i + 1, y, h => by
   have ih := wrC_set L i y (by simpa using h)
   rw [List.set_cons_succ, wrC_cons, wrC_cons, ih, show (i + 1) * 2 = i * 2 + 1 + 1 by omega, show i * 2 + 1 + 1 + 1 = (i * 2 + 1) + 1 + 1 by omega]
   simp only [List.set_cons_succ]
theorem wrAt_set (L : List Wr) (i j : Nat) (y : Wr) (h : i < L.length) : wrAt (L.set i y) j = if i = j then y else wrAt L j := by
 unfold wrAt
 by_cases e : i = j
 · subst e; simp [List.getD, h]
 · simp [List.getD, List.getElem?_set_ne e, e]
def swapW (L : List Wr) (j : Nat) : List Wr := (L.set j (wrAt L (j - 1))).set (j - 1) (wrAt L j)
theorem swapW_at (L : List Wr) (j p : Nat) (h0 : 0 < j) (h : j < L.length) : wrAt (swapW L j) p = if p = j then wrAt L (j - 1) else if p = j - 1 then wrAt L j else wrAt L p := by
 unfold swapW
 rw [wrAt_set _ _ _ _ (by simp; omega), wrAt_set _ _ _ _ h]
 by_cases e1 : p = j
 · subst e1
   rw [if_neg (by omega), if_pos rfl, if_pos rfl]
 · rw [if_neg e1]
   by_cases e2 : p = j - 1
   · rw [if_pos e2.symm, if_pos e2]
   · rw [if_neg (fun e => e2 e.symm), if_neg e2, if_neg (fun e => e1 e.symm)]
theorem swapW_perm (L : List Wr) (j : Nat) (h0 : 0 < j) (h : j < L.length) : (swapW L j).Perm L := by
 obtain ⟨k, rfl⟩ : ∃ k, j = k + 1 := ⟨j - 1, by omega⟩
 have hd : L = L.take k ++ L[k] :: L[k + 1] :: L.drop (k + 2) := by
   rw [← List.drop_eq_getElem_cons h, ← List.drop_eq_getElem_cons (by omega), List.take_append_drop]
 have e1 : wrAt L (k + 1 - 1) = L[k] := by simp [wrAt, List.getD, show k < L.length by omega]
 have e2 : wrAt L (k + 1) = L[k + 1] := by simp [wrAt, List.getD, h]
 unfold swapW
 rw [e1, e2]
 generalize L[k] = x at *
 generalize L[k + 1] = y at *
 have hl : (L.take k).length = k := by rw [List.length_take]; omega
 generalize L.take k = A at *
 generalize L.drop (k + 2) = B at *
 subst hd hl
 rw [List.set_append_right _ _ (by omega), List.set_append_right _ _ (by omega)]
 simp only [Nat.add_sub_cancel_left, Nat.add_sub_cancel, Nat.sub_self, List.set_cons_succ, List.set_cons_zero]
 exact List.Perm.append_left _ (List.Perm.swap _ _ _)
def ordTo (L : List Wr) (i : Nat) : Prop := ∀ p q, p < q → q < i → (wrAt L p).1 ≤ (wrAt L q).1
def holed (L : List Wr) (i j : Nat) : Prop := ∀ p q, p < q → q ≤ i → q ≠ j → (wrAt L p).1 ≤ (wrAt L q).1
theorem holed_start {L : List Wr} {i : Nat} (h : ordTo L i) : holed L i i := fun p q h1 h2 h3 => h p q h1 (by omega)
theorem holed_step {L : List Wr} {i j : Nat} (h : holed L i j) (h0 : 0 < j) (hj : j ≤ i) (hi : i < L.length) (hk : (wrAt L j).1 < (wrAt L (j - 1)).1) : holed (swapW L j) i (j - 1) := by
 intro p q h1 h2 h3
 rw [swapW_at L j p h0 (by omega), swapW_at L j q h0 (by omega)]
 by_cases q1 : q = j
 · rw [if_pos q1]
   by_cases p1 : p = j
   · omega
   rw [if_neg p1]
   by_cases p2 : p = j - 1
   · rw [if_pos p2]; omega
   · rw [if_neg p2]; exact h p (j - 1) (by omega) (by omega) (by omega)
 · rw [if_neg q1, if_neg h3]
   by_cases p1 : p = j
   · rw [if_pos p1]; exact h (j - 1) q (by omega) h2 q1
   rw [if_neg p1]
   by_cases p2 : p = j - 1
   · rw [if_pos p2]; exact h j q (by omega) h2 q1
   · rw [if_neg p2]; exact h p q h1 h2 q1
theorem holed_end {L : List Wr} {i j : Nat} (h : holed L i j) (hj : j ≤ i) (hk : j = 0 ∨ (wrAt L (j - 1)).1 ≤ (wrAt L j).1) : ordTo L (i + 1) := by
 intro p q h1 h2
 by_cases q1 : q = j
 · rcases hk with hk | hk
   · omega
   subst q1
   by_cases p1 : p = q - 1
   · subst p1; exact hk
   · exact Int.le_trans (h p (q - 1) (by omega) (by omega) (by omega)) hk
 · exact h p q h1 (by omega) q1
theorem wrAt_get {L : List Wr} {i : Nat} (h : i < L.length) : wrAt L i = L[i] := by simp [wrAt, List.getD, h]
theorem ordTo_pairwise {L : List Wr} (h : ordTo L L.length) : L.Pairwise (fun x y => x.1 ≤ y.1) := by
 rw [List.pairwise_iff_getElem]
 intro i j hi hj hij
 have := h i j hij hj
 rwa [wrAt_get hi, wrAt_get hj] at this
theorem sorted_eq : ∀ {A B : List Wr}, A.Pairwise (fun x y => x.1 < y.1) → B.Pairwise (fun x y => x.1 < y.1) → (∀ x, x ∈ A ↔ x ∈ B) → A = B
 | [], [], _, _, _ => rfl
 | [], y :: B, _, _, h => by have := (h y).2 (by simp); simp at this
 | x :: A, [], _, _, h => by have := (h x).1 (by simp); simp at this
 | x :: A, y :: B, hA, hB, h => by
   rw [List.pairwise_cons] at hA hB
   have hxy : x = y := by
     have h1 := (h x).1 (by simp)
     have h2 := (h y).2 (by simp)
     rw [List.mem_cons] at h1 h2
     rcases h1 with h1 | h1
     · exact h1
     rcases h2 with h2 | h2
     · exact h2.symm
     have k1 := hB.1 x h1
     have k2 := hA.1 y h2
     omega
   subst hxy
   rw [sorted_eq hA.2 hB.2 fun z => ?_]
   have hz := h z
   rw [List.mem_cons, List.mem_cons] at hz
   constructor
   · intro hm
     rcases hz.1 (.inr hm) with e | e
     · subst e; have := hA.1 z hm; omega
     · exact e
   · intro hm
     rcases hz.2 (.inr hm) with e | e
     · subst e; have := hB.1 z hm; omega
     · exact e
def encN (size : Int) (n : Nd) : List UInt8 := formL n ++ List.replicate (size.toNat - (formL n).length) 0
def ivPages (d : DS) (E : List Ent) (V : List Recs) : List Wr := (E.zip V).map fun x => (x.1.2, encStr d.interval x.2)
def pagesL (d : DS) (a : Ar) : List Wr := (a.base, encN d.interval a.nd) :: ivPages d a.nd.ents a.ivs
def refRow (d : DS) (E : List Ent) (V : List Recs) (page : Int) : List Wr := (ivPages d E V).filter fun x => x.1 == page
def refTo (d : DS) (a : Ar) (k : Nat) : List Wr := (List.range k).flatMap fun t : Nat => refRow d a.nd.ents a.ivs (a.base + 1 + (t : Int))
def refL (d : DS) (a : Ar) : List Wr := (a.base, encN d.interval a.nd) :: refTo d a d.area.toNat
theorem refTo_succ (d : DS) (a : Ar) (k : Nat) : refTo d a (k + 1) = refTo d a k ++ refRow d a.nd.ents a.ivs (a.base + 1 + (k : Int)) := by
 unfold refTo
 rw [List.range_succ, List.flatMap_append]
 simp
theorem ivPages_len {d : DS} {E : List Ent} {V : List Recs} (h : V.length = E.length) : (ivPages d E V).length = E.length := by simp [ivPages, h]
theorem ivPages_keys {d : DS} : ∀ {E : List Ent} {V : List Recs}, V.length = E.length → (ivPages d E V).map (·.1) = E.map (·.2)
 | [], _, _ => rfl
 | x :: E, [], h => by simp at h
 | x :: E, L :: V, h => by
   have ih := ivPages_keys (d := d) (E := E) (V := V) (by simpa using h)
   simp only [ivPages, List.zip_cons_cons, List.map_cons] at ih ⊢
   rw [ih]
theorem ref_row_sub (d : DS) (E : List Ent) (V : List Recs) (page : Int) : (refRow d E V page).Sublist (ivPages d E V) := List.filter_sublist
theorem nodup_filter_key : ∀ {L : List Wr} {p : Int}, (L.map (·.1)).Nodup → (L.filter fun x => x.1 == p).Pairwise (fun x y => x.1 < y.1)
 | [], p, _ => by simp
 | x :: L, p, h => by
   rw [List.map_cons, List.nodup_cons] at h
   rw [List.filter_cons]
   by_cases e : x.1 = p
   · rw [if_pos (by simp [e])]
     have : L.filter (fun y => y.1 == p) = [] := by
       rw [List.filter_eq_nil_iff]
       intro y hy hp
       exact h.1 (List.mem_map.2 ⟨y, hy, by rw [e]; simpa using hp⟩)
     rw [this]
     simp
   · rw [if_neg (by simp [e])]
     exact nodup_filter_key h.2
theorem refTo_sorted {d : DS} {a : Ar} (hn : ((ivPages d a.nd.ents a.ivs).map (·.1)).Nodup) : ∀ k, (refTo d a k).Pairwise (fun x y => x.1 < y.1) ∧ ∀ x ∈ refTo d a k, a.base < x.1 ∧ x.1 ≤ a.base + (k : Int)
 | 0 => by simp [refTo]
 | k + 1 => by
   obtain ⟨h1, h2⟩ := refTo_sorted hn k
   have hr : ∀ x ∈ refRow d a.nd.ents a.ivs (a.base + 1 + (k : Int)), x.1 = a.base + 1 + (k : Int) := fun x hx => by
     have := (List.mem_filter.1 hx).2
     simpa using this
   rw [refTo_succ]
   refine ⟨List.pairwise_append.2 ⟨h1, nodup_filter_key hn, fun x hx y hy => ?_⟩, fun x hx => ?_⟩
   · have := h2 x hx
     have := hr y hy
     omega
   · rcases List.mem_append.1 hx with hx | hx
     · have := h2 x hx; push_cast; omega
     · have := hr x hx; push_cast; omega
theorem refTo_mem {d : DS} {a : Ar} (x : Wr) : ∀ k, x ∈ refTo d a k ↔ x ∈ ivPages d a.nd.ents a.ivs ∧ a.base < x.1 ∧ x.1 ≤ a.base + (k : Int)
 | 0 => by simp [refTo]; try (intro _ _; omega)
 | k + 1 => by
   rw [refTo_succ, List.mem_append, refTo_mem x k]
   unfold refRow
   rw [List.mem_filter]
   simp only [beq_iff_eq]
   constructor
   · rintro (⟨h1, h2, h3⟩ | ⟨h1, h2⟩)
     · exact ⟨h1, h2, by push_cast; omega⟩
     · exact ⟨h1, by omega, by push_cast; omega⟩
   · rintro ⟨h1, h2, h3⟩
     push_cast at h3
     by_cases e : x.1 = a.base + 1 + (k : Int)
     · exact .inr ⟨h1, e⟩
     · exact .inl ⟨h1, h2, by omega⟩
theorem area_nodup {d : DS} {a : Ar} (h : ASpec d a) : ((ivPages d a.nd.ents a.ivs).map (·.1)).Nodup ∧ ∀ x ∈ ivPages d a.nd.ents a.ivs, a.base < x.1 ∧ x.1 ≤ a.base + d.area := by
 have hp := pagesB_iff.1 h.pages
 have hk := ivPages_keys (d := d) h.len
 refine ⟨by rw [hk]; exact hp.2, fun x hx => ?_⟩
 have : x.1 ∈ a.nd.ents.map (·.2) := by rw [← hk]; exact List.mem_map_of_mem hx
 obtain ⟨y, hy, e⟩ := List.mem_map.1 this
 have := hp.1 y hy
 rw [← e]
 exact this.2
theorem sorted_ref {d : DS} {a : Ar} (h : ASpec d a) {L : List Wr} (hp : L.Perm (pagesL d a)) (ho : ordTo L L.length) : L = refL d a := by
 obtain ⟨hn, hb⟩ := area_nodup h
 obtain ⟨s1, s2⟩ := refTo_sorted hn d.area.toNat
 have hm : ∀ x, x ∈ refTo d a d.area.toNat ↔ x ∈ ivPages d a.nd.ents a.ivs := fun x => by
   rw [refTo_mem]
   constructor
   · exact fun h => h.1
   · intro hx
     have := hb x hx
     exact ⟨hx, by omega, by omega⟩
 have hpn : ((pagesL d a).map (·.1)).Nodup := by
   unfold pagesL
   rw [List.map_cons, List.nodup_cons]
   refine ⟨fun hx => ?_, hn⟩
   obtain ⟨y, hy, e⟩ := List.mem_map.1 hx
   have := hb y hy
   simp only at e
   omega
 have hln : (L.map (·.1)).Nodup := (hp.map (·.1)).nodup_iff.2 hpn
 refine sorted_eq ?_ ?_ fun x => ?_
 · have h1 := ordTo_pairwise ho
   have h2 : L.Pairwise (fun x y => x.1 ≠ y.1) := by
     have : (L.map (·.1)).Pairwise (· ≠ ·) := hln
     rwa [List.pairwise_map] at this
   exact (h1.and h2).imp fun ⟨h, k⟩ => by omega
 · unfold refL
   rw [List.pairwise_cons]
   exact ⟨fun x hx => (s2 x hx).1, s1⟩
 · rw [hp.mem_iff]
   unfold pagesL refL
   rw [List.mem_cons, List.mem_cons, hm]
def pagesD (d : DS) (a : Ar) : List Wr := if areaB d a = true then refL d a else []
def pagesE (d : DS) (a : Ar) : Int := if areaB d a = true then 0 else 1
def writesL (X Y : List Wr) : List Wr := Y.filter fun x => !X.contains x
def writesD (d : DS) (a b : Ar) : List Wr := if areaB d a = true ∧ areaB d b = true then writesL (refL d a) (refL d b) else []
def writesE (d : DS) (a b : Ar) : Int := if areaB d a = true ∧ areaB d b = true then 0 else 1
end Dsd
